/- Joined texts. -/
import Derived.Test.YtolgdibgnndoaaaGreatZ07
import Derived.Test.YtolgdibgnndoaaaGreatZ14
import Derived.Test.YtolgdibgnndoaaaGreatZ12
set_option linter.all false
section
set_option maxRecDepth 100000
namespace Go.Proofs.YtolgdibgnndoaaaGreat
open Go Go.Sx Go.RowKit Go.Proofs
def eqL {α : Type} (p : α → α → Bool) : List α → List α → Bool
 | [], [] => true
 | x :: xs, y :: ys => p x y && eqL p xs ys
 | _, _ => false
theorem a3X {α : Type} (p : α → α → Bool) : ∀ {a b : List α}, a.length ≠ b.length → eqL p a b = false
 | [], [], h => by simp at h
 | x :: xs, y :: ys, h => by
  have := a3X p (a := xs) (b := ys) (by simpa using h)
  simp [eqL, this]
 | [], _ :: _, _ => rfl
 | _ :: _, [], _ => rfl
@[go_sem] def iE (a b : Int) : Bool := decide (a = b)
@[go_sem] def b0m (a b : TField) : Bool := decide (a.fName = b.fName) && decide (a.fKind = b.fKind)
@[go_sem] def b1B (a b : TAttr) : Bool := decide (a.fName = b.fName) && (decide (a.fValue.fKind = b.fValue.fKind) && (decide (a.fValue.fInt = b.fValue.fInt) && decide (a.fValue.fStr = b.fValue.fStr)))
@[go_sem] def b1C (a b : TNode) : Bool := decide (a.fOp = b.fOp) && (decide (a.fLeft = b.fLeft) && (decide (a.fRight = b.fRight) && (decide (a.fName = b.fName) && (decide (a.fValue.fKind = b.fValue.fKind) && (decide (a.fValue.fInt = b.fValue.fInt) && decide (a.fValue.fStr = b.fValue.fStr))))))
def b1D (a b : TFile) : Bool := decide (a.fID = b.fID) && (decide (a.fOwner = b.fOwner) && ((a.fShared == b.fShared) && (decide (a.fLink = b.fLink) && eqL b1B a.fAttrs b.fAttrs)))
def b0n (a b : TDir) : Bool := decide (a.fName = b.fName) && eqL b1C a.fQuery b.fQuery
def a2Q (a b : TResult) : Bool := decide (a.fName = b.fName) && eqL iE a.fIDs b.fIDs
def a5v (a b : TStore) : Bool := eqL b0m a.fSchema b.fSchema && (eqL b1D a.fFiles b.fFiles && decide (a.fNextID = b.fNextID))
def b1P (a b : TSnapshot) : Bool := a5v a.fStore b.fStore && eqL b0n a.fDirs b.fDirs
def b2X (a b : TCatalog) : Bool := a5v a.fStore b.fStore && (eqL b0n a.fDirs b.fDirs && eqL a2Q a.fResults b.fResults)
theorem oC (a b : List Int) (ha : a.length ≤ 4300000) : FnC Tryz.prog 87 [.o (.d (.sl (a.map iQ))), .o (.d (.sl (b.map iQ)))] (ob (eqL iE a b)) := by
 have hal : a.length ≤ 4300000 := by omega
 refine ent Tryz.func87 rfl Tryz.call87 rfl (fun C => ?_); simp only [go_sem, st0, Tryz.ntmps87]
 refine aD ?_
 refine cnd rfl (fun h0 => ?_) (fun h0 => ?_)
 ·have e : eqL iE a b = false := a3X _ (by simp only [Bool.not_eq_true', decide_eq_false_iff_not] at h0; omega)
  refine aD ?_
  exact aA ⟨⟨_, rfl, by simp only [go_sem, e]⟩, trivial⟩
 have h0 : a.length = b.length := by simpa [Int.ofNat_inj] using h0
 refine aD ?_
 refine bC (α := Nat) (fun k => [(5, oi k)]) (fun _ => []) (fun k => k ≤ a.length ∧ eqL iE a b = eqL iE (a.drop k) (b.drop k)) (fun k => a.length - k) 0 (fun _ => ?_) ?_ ?_ (fun k hk => ?_)
 ·simp only [go_sem]
 ·simp only [go_sem]; simp
 ·simp
 ·obtain ⟨hk, hq⟩ := hk
  simp only [go_sem]
  refine aD ?_
  refine cnd rfl (fun h => ?_) (fun h => ?_)
  ·simp only [decide_eq_true_eq, Int.ofNat_lt] at h
   have hb : k < b.length := by omega
   rw [List.drop_eq_getElem_cons h, List.drop_eq_getElem_cons hb, eqL] at hq
   have q0 := @h; have q1 := @hb; refine gQ ?_
   refine cnd (b := !(iE a[k] b[k])) (by rfl) (fun h2 => ?_) (fun h2 => ?_)
   ·simp only [Bool.not_eq_true'] at h2
    rw [h2, Bool.false_and] at hq
    refine aD ?_
    exact aA ⟨⟨_, rfl, by simp only [go_sem, hq]⟩, trivial⟩
   ·simp only [Bool.not_eq_false'] at h2
    rw [h2, Bool.true_and] at hq
    refine aD ?_
    refine aF (k + 1) ?_ ?_ ?_
    ·simp only [go_sem]; simp
    ·exact ⟨h, hq⟩
    ·omega
  ·simp only [decide_eq_false_iff_not] at h
   have e : k = a.length := by omega
   subst e
   rw [List.drop_length, List.drop_of_length_le (by omega), eqL] at hq
   refine aD ?_
   exact aA ⟨⟨_, rfl, by simp only [go_sem, hq]⟩, trivial⟩
theorem vP (a b : List Int) (ha : a.length ≤ 4300000) : FnC Tryz.prog 152 [.o (.d (.sl (a.map iQ))), .o (.d (.sl (b.map iQ)))] (ob (eqL iE a b)) := by
 have hal : a.length ≤ 4300000 := by omega
 refine ent Tryz.func152 rfl Tryz.call152 rfl (fun C => ?_); simp only [go_sem, st0, Tryz.ntmps152]
 refine aD ?_
 refine cnd rfl (fun h0 => ?_) (fun h0 => ?_)
 ·have e : eqL iE a b = false := a3X _ (by simp only [Bool.not_eq_true', decide_eq_false_iff_not] at h0; omega)
  refine aD ?_
  exact aA ⟨⟨_, rfl, by simp only [go_sem, e]⟩, trivial⟩
 have h0 : a.length = b.length := by simpa [Int.ofNat_inj] using h0
 refine aD ?_
 refine bC (α := Nat) (fun k => [(13, oi k)]) (fun _ => []) (fun k => k ≤ a.length ∧ eqL iE a b = eqL iE (a.drop k) (b.drop k)) (fun k => a.length - k) 0 (fun _ => ?_) ?_ ?_ (fun k hk => ?_)
 ·simp only [go_sem]
 ·simp only [go_sem]; simp
 ·simp
 ·obtain ⟨hk, hq⟩ := hk
  simp only [go_sem]
  refine aD ?_
  refine cnd rfl (fun h => ?_) (fun h => ?_)
  ·simp only [decide_eq_true_eq, Int.ofNat_lt] at h
   have hb : k < b.length := by omega
   rw [List.drop_eq_getElem_cons h, List.drop_eq_getElem_cons hb, eqL] at hq
   have q0 := @h; have q1 := @hb; refine gQ ?_
   refine cnd (b := !(iE a[k] b[k])) (by rfl) (fun h2 => ?_) (fun h2 => ?_)
   ·simp only [Bool.not_eq_true'] at h2
    rw [h2, Bool.false_and] at hq
    refine aD ?_
    exact aA ⟨⟨_, rfl, by simp only [go_sem, hq]⟩, trivial⟩
   ·simp only [Bool.not_eq_false'] at h2
    rw [h2, Bool.true_and] at hq
    refine aD ?_
    refine aF (k + 1) ?_ ?_ ?_
    ·simp only [go_sem]; simp
    ·exact ⟨h, hq⟩
    ·omega
  ·simp only [decide_eq_false_iff_not] at h
   have e : k = a.length := by omega
   subst e
   rw [List.drop_length, List.drop_of_length_le (by omega), eqL] at hq
   refine aD ?_
   exact aA ⟨⟨_, rfl, by simp only [go_sem, hq]⟩, trivial⟩
end Go.Proofs.YtolgdibgnndoaaaGreat
end
section
set_option maxRecDepth 100000
set_option maxHeartbeats 4000000
namespace Go.Proofs.YtolgdibgnndoaaaGreat
open Go Go.Sx Go.RowKit Go.Proofs
def oM (d : List TDir) (L : List Nat) : Nat := (yH L + 1).toNat
noncomputable def evX (s : TStore) (d : List TDir) (r : List TResult) (ns : List ByteArray) : List TResult × Nat := if nR d && bL s then allE s.fFiles d (resL d) ns (s.fFiles.length + aW r) r (oM d (resL d)) else ([], 0)
noncomputable def evB (s : TStore) (d : List TDir) : Bool := nR d && bL s
theorem tH {d : List TDir} (h : nR d = true) : dL d = true ∧ Least d.length (EE d) (resL d) := by
 unfold nR at h
 split at h
 ·rename_i hv
  refine ⟨hv, ?_⟩
  unfold a0f at h
  split at h
  ·rename_i hx
   have hex : ∃ L, Least d.length (EE d) L := by
    have hends := a2N (tL d) (fU d) (fun x => Iff.rfl) (d.length * d.length + 2) (by omega)
    simp only at hends
    split at hends
    ·exact ⟨_, hends⟩
    ·exact (hends hx).elim
   obtain ⟨L, hL⟩ := hex
   have e : resL d = L := by unfold resL; rw [if_pos hv]; exact a3Q hL
   rw [e]; exact hL
  ·cases h
 ·cases h
theorem zY {d : List TDir} (h : dL d = true) (i : Nat) (hi : i < d.length) : d[i].fName.size ≤ 6 := by
 unfold dL at h
 simp only [Bool.and_eq_true, List.all_eq_true, List.mem_range] at h
 have := h.1 i hi
 unfold jE at this
 rw [List.getElem?_eq_getElem hi] at this
 simp only [Bool.and_eq_true] at this
 have := a8k this.1
 omega
theorem jX {s : TStore} (h : bL s = true) : s.fFiles.length ≤ 12 := by
 unfold bL at h
 simp only [Bool.and_eq_true, decide_eq_true_eq] at h
 omega
theorem wJ {α : Type} (w : α → Nat) (c : Nat) : ∀ l : List α, (∀ i, (h : i < l.length) → w l[i] ≤ c) → dN w l ≤ l.length * c
 | [], _ => by simp [dN]
 | x :: l, h => by
  have h0 := h 0 (by simp)
  have h1 := wJ w c l fun i hi => h (i + 1) (by simpa using hi)
  simp only [List.getElem_cons_zero] at h0
  simp only [dN, List.length_cons, Nat.succ_mul]
  omega
theorem Ev.get {fs : List TFile} {d : List TDir} {L : List Nat} {ns : List ByteArray} {c k : Nat} {R : List TResult} (h : Ev fs d L ns c k R) (i : Nat) (hi : i < d.length) : (R[i]'(by rw [h.len]; exact hi)).fName = d[i].fName ∧ (R[i]'(by rw [h.len]; exact hi)).fIDs = dU R i := by
 have hlen := h.len
 have hR : i < R.length := by omega
 refine ⟨?_, ?_⟩
 ·have := congrArg (fun l : List ByteArray => l[i]?) h.nm
  simp only [List.getElem?_map] at this
  rw [List.getElem?_eq_getElem hR, List.getElem?_eq_getElem hi] at this
  simpa using this
 ·simp [dU, List.getD_eq_getElem?_getD, hR]
theorem Ev.w {fs : List TFile} {d : List TDir} {L : List Nat} {ns : List ByteArray} {c k : Nat} {R : List TResult} (h : Ev fs d L ns c k R) (hv : dL d = true) (hc : c ≤ 4300012) : aW R ≤ 67108864 := by
 have hlen := h.len
 have h5 := iZ hv
 have hb := wJ iO 4300018 R fun i hi => by
  obtain ⟨e1, e2⟩ := h.get i (by omega)
  have h1 := zY hv i (by omega)
  have h2 := h.bd i
  unfold iO
  rw [e1, e2]
  omega
 unfold aW
 have : R.length * 4300018 ≤ 5 * 4300018 := Nat.mul_le_mul_right _ (by omega)
 omega
theorem a9U (R : List TResult) (i : Nat) (nm : ByteArray) (l : List Int) : (R.map aN).set i [sv nm, .sl (l.map iQ)] = (R.set i ⟨nm, l⟩).map aN := by rw [List.map_set]; rfl
theorem uJ (a b : List Int) : eqL iE a b = decide (a = b) := by
 induction a generalizing b with
 | nil => cases b <;> simp [eqL]
 | cons x a ih =>
  cases b with
  | nil => simp [eqL]
  | cons y b =>
   simp only [eqL, ih, iE]
   by_cases h1 : x = y <;> by_cases h2 : a = b <;> simp [h1, h2]
theorem tJ (ns : List ByteArray) (r : List TResult) (d : List TDir) (k : Nat) (h : k < d.length) : fI ns r (d.take (k + 1)) = fI ns r (d.take k) ++ [⟨d[k].fName, if jN ns d[k].fName then [] else bS d[k].fName r⟩] := by
 unfold fI; rw [List.take_succ_eq_append_getElem h, List.map_append]; rfl
theorem wK (ns : List ByteArray) (r : List TResult) (d : List TDir) (k : Nat) : (fI ns r (d.take k)).length ≤ k := by unfold fI; simp; omega
theorem b1t (d : List TDir) (k : Nat) (h : k < d.length) : jN (dirNs d) d[k].fName = true := by
 rw [tN]
 exact List.mem_map.2 ⟨d[k], List.getElem_mem h, rfl⟩
def chB (fs : List TFile) (d : List TDir) (L : List Nat) (ns : List ByteArray) (k i : Nat) (R : List TResult) : Bool := decide (gW R < gW (passT fs d L ns k i R))
theorem b1u (l : List Nat) (m : Int) : m ≤ tK l m := by
 induction l generalizing m with
 | nil => simp [tK]
 | cons x l ih =>
  simp only [tK]
  split
  ·have := ih (x : Int); omega
  ·exact ih m
theorem b1v (l : List Nat) (m c : Int) (hm : m ≤ c) (h : ∀ x ∈ l, (x : Int) ≤ c) : tK l m ≤ c := by
 induction l generalizing m with
 | nil => exact hm
 | cons x l ih =>
  simp only [tK]
  refine ih _ ?_ fun y hy => h y (List.mem_cons_of_mem _ hy)
  split
  ·exact h x (by simp)
  ·exact hm
theorem a6q {d : List TDir} {L : List Nat} (h : Least d.length (EE d) L) : yH L ≤ (d.length : Int) := by
 obtain ⟨G, hG, hs⟩ := zJ (tL d) h.clo
 refine b1v L (-1) _ (by omega) fun x hx => ?_
 obtain ⟨i, hi, rfl⟩ := List.mem_iff_getElem.1 hx
 have h1 := h.le G hG i
 have h2 := hs i (by rw [← h.clo.len]; exact hi)
 rw [oN L i hi]
 omega
theorem a2F (fs : List TFile) (d : List TDir) (L : List Nat) (ns : List ByteArray) (k : Nat) : ∀ (F : Nat) (x : List TResult × Nat), (vN fs d L ns k F x).2 ≤ x.2 + F
 | 0, x => by simp [vN]
 | F + 1, x => by
  unfold vN
  split
  ·have := a2F fs d L ns k F (passT fs d L ns k d.length x.1, x.2 + 1)
   simp only at this
   omega
  ·simp only; omega
theorem yG (fs : List TFile) (d : List TDir) (L : List Nat) (ns : List ByteArray) (c : Nat) (r : List TResult) : ∀ k, (allE fs d L ns c r k).2 ≤ k * (d.length * c + 1)
 | 0 => by simp [allE]
 | k + 1 => by
  have h1 := yG fs d L ns c r k
  have h2 := a2F fs d L ns k (d.length * c + 1) (allE fs d L ns c r k)
  simp only [allE, Nat.succ_mul]
  omega
theorem pR (d : List TDir) (L : List Nat) (k : Nat) : (k : Int) ≤ yH L ↔ k < oM d L := by
 have : -1 ≤ yH L := b1u L (-1)
 unfold oM
 omega
theorem a1s {fs : List TFile} {d : List TDir} {L : List Nat} {ns : List ByteArray} {k i : Nat} {R : List TResult} (h : passT fs d L ns k (i + 1) R = passT fs d L ns k i R) : chB fs d L ns k (i + 1) R = chB fs d L ns k i R := by unfold chB; rw [h]
theorem a8n (s : TStore) (d : List TDir) (r : List TResult) (ns : List ByteArray) (hs : dV s ≤ 4300000) (hd : gL d ≤ 4300000) (hr : aW r ≤ 4300000) (hns : ns.length ≤ 4300000) : FnC Tryz.prog 83 [gZ s, .o (.d (.sl (d.map cO))), .o (.d (.sl (r.map aN))), .o (.d (.sl (ns.map eT)))] (.t [(false, [.w 115 2 ((evX s d r ns).1.map aN)]), (false, [.d (iv ((evX s d r ns).2 : Nat))]), (false, [.d (bv (evB s d))])]) := by
 have hd0 : d.length + dN iU d ≤ 4300000 := hd
 have hs0 : bG s.fSchema + (s.fFiles.length + dN eF s.fFiles) ≤ 4300000 := hs
 refine ent Tryz.func83 rfl Tryz.call83 rfl (fun C => ?_); simp only [go_sem, st0, Tryz.ntmps83]
 cases hb : nR d
 ·have e1 : evX s d r ns = ([], 0) := by simp [evX, hb]
  have e2 : evB s d = false := by simp [evB, hb]
  have q0 := @hb; refine lK (iL d hd) ?_
  exact aA ⟨⟨_, rfl, by simp only [go_sem, e1, e2, List.map_nil]; simp⟩, by simp [dQ]⟩
 cases hst : bL s
 ·have e1 : evX s d r ns = ([], 0) := by simp [evX, hst]
  have e2 : evB s d = false := by simp [evB, hst]
  have q0 := @hb; have q1 := @hst; refine a0p (iL d hd) (yD s hs) ?_
  exact aA ⟨⟨_, rfl, by simp only [go_sem, e1, e2, List.map_nil]; simp⟩, by simp [dQ]⟩
 obtain ⟨hv, hleast⟩ := tH hb
 have hclo := hleast.clo
 have hvq := fun i (hi : i < d.length) => jY hv i hi
 have h5 := iZ hv
 have h12 := jX hst
 have hLl := hclo.len
 obtain ⟨CC, hCC⟩ : ∃ c, s.fFiles.length + aW r = c := ⟨_, rfl⟩
 have hC2 : CC ≤ 4300012 := by omega
 have e1 : evX s d r ns = allE s.fFiles d (resL d) ns CC r (oM d (resL d)) := by simp [evX, hb, hst, hCC]
 have e2 : evB s d = true := by simp [evB, hb, hst]
 have q0 := @hb; have q1 := @hst; refine a0p (iL d hd) (yD s hs) ?_
 refine bC (α := Nat) (fun k => [(13, .o (.s 2)), (35, .o .u), (38, oi k)]) (fun k => [(2, .row 115 2 ((fI ns r (d.take k)).map aN) true)]) (fun k => k ≤ d.length) (fun k => d.length - k) 0 (fun _ => ?_) ?_ ?_ (fun k hk => ?_)
 ·simp only [go_sem]
 ·simp only [go_sem]; simp [fI]
 ·simp
 ·simp only [go_sem]
  refine aD ?_
  refine cnd rfl (fun h => ?_) (fun h => ?_)
  ·simp only [decide_eq_true_eq, Int.ofNat_lt] at h
   have hsl := wK ns r d k
   have hl1 : (fI ns r (d.take k)).length + 1 ≤ 140737488355328 := by omega
   have hl2 : ((fI ns r (d.take k)).length + 1) * 40 ≤ 140737488355328 := by omega
   have hsu := tJ ns r d k h
   cases hn : jN ns d[k].fName
   ·rw [hn] at hsu
    have q0 := @h; have q1 := @hn; have q2 := @hl1; have q3 := @hl2; refine a4F (fH ns d[k].fName hns) (vM r d[k].fName (by omega)) ?_
    refine aF (k + 1) ?_ ?_ ?_
    ·simp only [go_sem, hsu, List.map_append]; simp [aN]
    ·omega
    ·omega
   ·rw [hn] at hsu
    have q0 := @h; have q1 := @hn; have q2 := @hl1; have q3 := @hl2; refine a1c (fH ns d[k].fName hns) ?_
    refine aF (k + 1) ?_ ?_ ?_
    ·simp only [go_sem, hsu, List.map_append]; simp [aN]
    ·omega
    ·omega
  ·simp only [decide_eq_false_iff_not] at h
   have e : k = d.length := by omega
   subst e
   rw [List.take_length]
   generalize hL : resL d = L at *
   refine aD ?_
   refine bC (α := Nat) (fun k => [(17, oi ((allE s.fFiles d L ns CC r k).2 : Nat)), (18, oi k)]) (fun k => [(2, .row 115 2 ((allE s.fFiles d L ns CC r k).1.map aN) true)]) (fun k => k ≤ oM d L) (fun k => oM d L - k) 0 (fun _ => ?_) ?_ ?_ (fun k hk => ?_)
   ·simp only [go_sem]
   ·simp only [go_sem]; simp [allE]
   ·simp
   ·simp only [go_sem]
    have q0 := @hL; refine lK (a6r d hd (by rw [hL]; omega)) ?_
    refine cnd rfl (fun hlev => ?_) (fun hlev => ?_)
    ·simp only [decide_eq_true_eq] at hlev
     have hkK := (pR d L k).1 hlev
     have hev := uP (fs := s.fFiles) (ns := ns) (r := r) hvq hclo k
     rw [hCC] at hev
     have htop := a6q hleast
     have hcnt := yG s.fFiles d L ns CC r k
     have hnm : d.length * CC ≤ 5 * 4300012 := Nat.mul_le_mul h5 hC2
     have hcnt2 : k * (d.length * CC + 1) ≤ 5 * 21500061 := Nat.mul_le_mul (by omega) (by omega)
     have hround : Round s.fFiles d L ns CC k (allE s.fFiles d L ns CC r (k + 1)) ((allE s.fFiles d L ns CC r k).1, (allE s.fFiles d L ns CC r k).2, true) := Round.start hev
     generalize hT : allE s.fFiles d L ns CC r (k + 1) = T at *
     generalize allE s.fFiles d L ns CC r k = X at *
     refine aD ?_
     refine bC (α := List TResult × Nat × Bool) (fun x => [(17, oi (x.2.1 : Nat)), (19, ob x.2.2)]) (fun x => [(2, .row 115 2 (x.1.map aN) true)]) (fun x => Round s.fFiles d L ns CC k T (x.1, x.2.1, x.2.2) ∧ x.2.1 ≤ X.2 + gW x.1 + (if x.2.2 then 0 else 1)) (fun x => if x.2.2 then d.length * CC + 1 - gW x.1 else 0) (X.1, X.2, true) (fun _ => ?_) ?_ ?_ (fun x hx => ?_)
     ·simp only [go_sem]
     ·simp only [go_sem]; simp
     ·exact ⟨hround, by simp⟩
     ·obtain ⟨R, c, b⟩ := x
      obtain ⟨hx, hcb⟩ := hx
      simp only at hcb
      simp only [go_sem]
      refine aD ?_
      refine cnd rfl (fun hbt => ?_) (fun hbt => ?_)
      ·subst hbt
       have hRe : Ev s.fFiles d L ns CC k R := hx.ev
       have hRt := hRe.tot
       simp only [if_true, Nat.add_zero] at hcb
       have hcI : c ≤ 1000000000 := by omega
       have hpass := hx.pass hvq hclo
       refine aD ?_
       refine bC (α := Nat) (fun i => [(19, ob (chB s.fFiles d L ns k i R)), (71, oi i)]) (fun i => [(2, .row 115 2 ((passT s.fFiles d L ns k i R).map aN) true)]) (fun i => i ≤ d.length) (fun i => d.length - i) 0 (fun _ => ?_) ?_ ?_ (fun i hi => ?_)
       ·simp only [go_sem]
       ·simp only [go_sem]; simp [chB, passT]
       ·simp
       ·simp only [go_sem]
        refine aD ?_
        refine cnd rfl (fun h => ?_) (fun h => ?_)
        ·simp only [decide_eq_true_eq, Int.ofNat_lt] at h
         have hEv := jO hvq hclo i R (by omega) hRe
         have hcs := jB hvq hclo i R (by omega) hRe
         have hsu := nM s.fFiles d L ns k i R h
         have hchk : passT s.fFiles d L ns k (i + 1) R = passT s.fFiles d L ns k i R → chB s.fFiles d L ns k (i + 1) R = chB s.fFiles d L ns k i R := a1s
         have hchn : gW R < gW (passT s.fFiles d L ns k (i + 1) R) → chB s.fFiles d L ns k (i + 1) R = true := fun hx => by unfold chB; exact decide_eq_true hx
         have hw := hEv.w hv hC2
         obtain ⟨g1, g2⟩ := hEv.get i h
         have hPl := hEv.len
         have hbd := hEv.bd i
         have hwd := dI iU d h
         have hwq : dR d[i].fQuery ≤ iU d[i] := by unfold iU; omega
         have hgrow := fun hin hik hne => hEv.grow h hin hik hne
         have hsame := fun he => uO hEv h he
         generalize passT s.fFiles d L ns k i R = P at *
         generalize hP2 : passT s.fFiles d L ns k (i + 1) R = P2 at *
         have hiP : i < P.length := by omega
         have hiL : i < L.length := by omega
         have hg := oN L i hiL
         have hsl := yM s.fFiles d[i].fQuery P
         by_cases hik : lv L i = k
         ·have hkI : ((lv L i : Nat) : Int) = ((k : Nat) : Int) := by omega
          cases hn : jN ns d[i].fName
          ·rw [if_neg (fun h => by rw [hn] at h; cases h.2)] at hsu
           have q0 := @h; have q1 := @hiP; have q2 := @hiL; have q3 := @hg; have q4 := @hkI; have q5 := @hn; have q6 := @decide_true; have q7 := @decide_false; refine a0t (fH ns d[i].fName hns) ?_
           refine aF (i + 1) ?_ ?_ ?_
           ·simp only [go_sem, hP2, hchk hsu, hsu]; simp
           ·omega
           ·omega
          ·rw [if_pos ⟨hik, hn⟩] at hsu
           by_cases he : jP s.fFiles d[i].fQuery P = dU P i
           ·have hE : eqL iE (jP s.fFiles d[i].fQuery P) (dU P i) = true := by rw [uJ]; exact decide_eq_true he
            have hPP : P2 = P := by rw [hsu, hsame he]
            have qH := aI @h (aI @hiP (aI @hiL (aI @hg (aI @hkI (aI @g1 (aI @g2 (aI @hE (aI @hn (aI @decide_true @decide_false))))))))); repeat' (with_reducible first | refine nY ?_ | (refine mX ?_; try simp only [go_sem, qH]) | refine kD ?_ | refine rD ?_ | refine cP (fH ns d[i].fName hns) ?_ | refine vR (yI s d[i].fQuery P hs (by omega) hw) ?_ | refine vD (yI s d[i].fQuery P hs (by omega) hw) ?_ | refine vL (vP (jP s.fFiles d[i].fQuery P) (dU P i) (by omega)) ?_ | refine aO ?_ | fail)
            refine aF (i + 1) ?_ ?_ ?_
            ·simp only [go_sem, hP2, hchk hPP, hPP]; simp
            ·omega
            ·omega
           ·have hE : eqL iE (jP s.fFiles d[i].fQuery P) (dU P i) = false := by rw [uJ]; exact decide_eq_false he
            have hlt := hgrow hn hik he
            have hch2 : chB s.fFiles d L ns k (i + 1) R = true := hchn (by
             rw [hsu]
             rcases hcs with e | e
             ·rw [← e]; exact hlt
             ·omega)
            have qH := aI @h (aI @hiP (aI @hiL (aI @hg (aI @hkI (aI @g1 (aI @g2 (aI @hE (aI @hn (aI @decide_true @decide_false))))))))); repeat' (with_reducible first | refine nY ?_ | (refine mX ?_; try simp only [go_sem, qH]) | refine kD ?_ | refine rD ?_ | refine cP (fH ns d[i].fName hns) ?_ | refine vR (yI s d[i].fQuery P hs (by omega) hw) ?_ | refine vD (yI s d[i].fQuery P hs (by omega) hw) ?_ | refine vL (vP (jP s.fFiles d[i].fQuery P) (dU P i) (by omega)) ?_ | refine aO ?_ | fail)
            refine aF (i + 1) ?_ ?_ ?_
            ·simp only [go_sem, hP2, hch2, hsu, tQ, ← a9U]; simp
            ·omega
            ·omega
         ·rw [if_neg (fun h => hik h.1)] at hsu
          have hkI : ¬ ((lv L i : Nat) : Int) = ((k : Nat) : Int) := by omega
          have q0 := @h; have q1 := @hiP; have q2 := @hiL; have q3 := @hg; have q4 := @hkI; have q5 := @decide_true; have q6 := @decide_false; refine a3B ?_
          refine aF (i + 1) ?_ ?_ ?_
          ·simp only [go_sem, hP2, hchk hsu, hsu]; simp
          ·omega
          ·omega
        ·simp only [decide_eq_false_iff_not] at h
         have e : i = d.length := by omega
         subst e
         have hPe := jO hvq hclo d.length R (Nat.le_refl _) hRe
         have hPt := hPe.tot
         refine aD ?_
         refine aF (passT s.fFiles d L ns k d.length R, c + 1, chB s.fFiles d L ns k d.length R) ?_ ?_ ?_
         ·simp only [go_sem]; simp
         ·refine ⟨hpass, ?_⟩
          simp only
          have hpc := jB hvq hclo d.length R (Nat.le_refl _) hRe
          cases hcb2 : chB s.fFiles d L ns k d.length R with
          | false =>
           have h9 : gW R ≤ gW (passT s.fFiles d L ns k d.length R) := by
            rcases hpc with e | e
            ·rw [e]; exact Nat.le_refl _
            ·omega
           simp only [Bool.false_eq_true, if_false]; omega
          | true =>
           have := of_decide_eq_true hcb2
           simp only [if_true]; omega
         ·simp only [if_true]
          cases hcb3 : chB s.fFiles d L ns k d.length R with
          | false => simp only [Bool.false_eq_true, if_false]; omega
          | true =>
           have := of_decide_eq_true hcb3
           simp only [if_true]; omega
      ·subst hbt
       have hTe := hx.fin rfl
       simp only at hTe
       refine aD ?_
       refine aF (k + 1) ?_ ?_ ?_
       ·simp only [go_sem, hT, hTe]; simp
       ·omega
       ·omega
    ·simp only [decide_eq_false_iff_not] at hlev
     have hkK : ¬ k < oM d L := fun h => hlev ((pR d L k).2 h)
     have e : k = oM d L := by omega
     subst e
     refine aD ?_
     exact aA ⟨⟨_, rfl, by simp only [go_sem, e1, e2]; try simp⟩, by simp [dQ]⟩
theorem a7C (l : List TFile) : ∀ r ∈ l.map eP, r.length = 5 := by intro r hr; obtain ⟨x, _, rfl⟩ := List.mem_map.1 hr; rfl
@[go_sem] def a1G (x : TStore) : SV := .g [.d (.sl (x.fSchema.map cZ)), .m 27 5 (x.fFiles.map eP), .d (iv x.fNextID)]
theorem a1H (s : TStore) (id : Int) (hs : dV s ≤ 4300000) (hd : zX s id = true) : FnC Tryz.prog 146 [gZ s, oi id] (.t [(true, (a1G (delS s id)).cells), (false, [.d (bv true)])]) := by
 have h2 : s.fFiles.length ≤ 4300000 := by unfold dV lU at hs; omega
 have hk := a5e s id h2
 have hcp : FnC Tryz.prog 74 [gZ s] (gZ s) := (tF s hs).pu (by simp only [go_sem, and_self])
 have hv : bL s = true := by unfold zX at hd; rw [Bool.and_eq_true] at hd; exact hd.1
 rcases ixF_cases id s.fFiles with ei | ⟨p, ei, hp, _⟩
 ·unfold zX at hd
  rw [ei] at hd
  simp at hd
 ·refine ent Tryz.func146 rfl Tryz.call146 rfl (fun C => ?_); simp only [go_sem, st0, Tryz.ntmps146]
  have hy : ¬ (p : Int) < 0 := by omega
  rw [ei] at hk
  have hpn : ((p : Int) + 1).toNat = p + 1 := by omega
  have hT : List.take s.fFiles.length (List.map eP s.fFiles) = List.map eP s.fFiles := List.take_of_length_le (by simp)
  have hTk : List.take p (List.map eP s.fFiles) = (s.fFiles.take p).map eP := List.map_take.symm
  have hDp : List.drop (p + 1) (List.map eP s.fFiles) = (s.fFiles.drop (p + 1)).map eP := List.map_drop.symm
  have qH := aI @hv (aI @hy (aI @hp (aI @hpn (aI @hT (aI @hTk (aI @hDp (aI @xO (aI @xP (aI @a3z (aI @decide_false (aI @Int.toNat_natCast @b2q))))))))))); repeat' (with_reducible first | refine nY ?_ | (refine mX ?_; try simp only [go_sem, qH]) | refine kD ?_ | (apply rE [0,5,11,13] [] [1,2,3,4,6,7,8,9,10] [1,2,3,4,6,7,8,9,10] ((.c 0 [] [1,2,3,4,6,7,8,9,10] (.c 5 [] [6,7,8,9,10] (.c 11 [12] [12] (.c 13 [] [] .n .n) .n) .n) .n)) (by simp only [go_sem]; rfl) (by simp only [go_sem]; rfl) (by simp only [go_sem]; rfl) (by decide +kernel); (focus simp only [go_sem]; done)) | exact bF | refine aQ (uX ?_) ?_ | refine aR (aX ?_) ?_ | refine aT (aX ?_) ?_ | exact bR | exact oH | (refine uA ?_; simp only [go_sem, qH]; (repeat' first | omega | exact a7C _ | refine And.intro ?_ ?_); done) | refine rD ?_ | refine And.intro (a7C _) ?_ | refine cP hcp ?_ | refine cP hk ?_ | refine cP (dO s hs) ?_ | refine aO ?_ | fail)
  exact aA ⟨⟨_, rfl, by simp only [go_sem, delS, hd, ei, Int.toNat_natCast, if_true, rR, List.map_append]; try simp⟩, by simp [dQ]⟩
theorem zV : FnC Tryz.prog 144 [] (.o (.w 187 2 (usual.map cZ))) := by
 refine ent Tryz.func144 rfl Tryz.call144 rfl (fun C => ?_); simp only [go_sem, st0, Tryz.ntmps144]
 refine aD ?_
 exact aA ⟨⟨_, rfl, by simp only [go_sem, usual, List.map_cons, List.map_nil]⟩, trivial⟩
theorem a4M (s : List TField) (hs : s.length ≤ 1048576) : FnC Tryz.prog 143 [.o (.d (.sl (s.map cZ)))] (a6l ⟨s, [], 1⟩) := by
 have hl1 : s.length ≤ 140737488355328 := by omega
 have hl2 : s.length * 24 ≤ 140737488355328 := by omega
 refine ent Tryz.func143 rfl Tryz.call143 rfl (fun C => ?_); simp only [go_sem, st0, Tryz.ntmps143]
 have q0 := @hl1; have q1 := @hl2; refine gQ ?_
 exact aA ⟨⟨_, rfl, by simp only [go_sem, List.map_nil]⟩, trivial⟩
structure storeD (k : Nat) (s : TStore) : Prop where
 sch : s.fSchema = usual
 ok : bL s = true
 nx : s.fNextID ≤ 1 + k
 ln : s.fFiles.length ≤ k
 fl : ∀ f ∈ s.fFiles, ∃ id, fileD id f
theorem a9t : okSchema usual = true := by decide +kernel
theorem a9u {id : Int} {f : TFile} (h : fileD id f) (k : Int) (hk : 1 ≤ k ∧ k ≤ 60) : eB usual { f with fID := k } = true := by
 obtain ⟨a, b, n, t, e, h1, h2, h3, h4⟩ := h.at_
 have h0 := b2w h1 h2 h3 h4
 unfold eB
 simp only [e, h0, a9t, Bool.true_and, Bool.and_true, inB, Bool.and_eq_true, decide_eq_true_eq]
 exact ⟨hk, h.ow, h.lk⟩
theorem a6g : storeD 0 ⟨usual, [], 1⟩ := ⟨rfl, by decide +kernel, by simp, by simp, fun f hf => by simp at hf⟩
theorem a1g {k : Nat} {s : TStore} {id : Int} {f : TFile} (h : storeD k s) (hf : fileD id f) (hk : k ≤ 40) (hl : s.fFiles.length < 12) : lM s f = true ∧ storeD (k + 1) (creS s f) ∧ (creS s f).fFiles.length = s.fFiles.length + 1 := by
 have hb := iW.1 h.ok
 have h1 := h.nx
 have hok : lM s f = true := a2E.2 ⟨h.ok, hl, by rw [h.sch]; exact a9u hf s.fNextID (by omega)⟩
 have hs := b2U hok
 refine ⟨hok, ⟨?_, hs, ?_, ?_, ?_⟩, ?_⟩
 ·unfold creS; rw [if_pos hok]; exact h.sch
 ·unfold creS; rw [if_pos hok]; simp only; omega
 ·unfold creS; rw [if_pos hok]; have := h.ln; simp; omega
 ·unfold creS; rw [if_pos hok]
  intro x hx
  rcases List.mem_append.1 hx with hx | hx
  ·exact h.fl x hx
  ·simp only [List.mem_singleton] at hx
   subst hx
   exact ⟨s.fNextID, rfl, hf.ow, hf.lk, hf.at_⟩
 ·unfold creS; rw [if_pos hok]; simp
theorem xQ {α : Type} (w : α → Nat) (c : Nat) : ∀ (l : List α), (∀ x ∈ l, w x ≤ c) → dN w l ≤ l.length * c
 | [], _ => by simp [dN]
 | x :: l, h => by
  have h1 := h x List.mem_cons_self
  have h2 := xQ w c l fun y hy => h y (List.mem_cons_of_mem _ hy)
  simp only [dN, List.length_cons, Nat.add_mul]
  omega
theorem sP {k : Nat} {s : TStore} (h : storeD k s) : dV s ≤ 600 := by
 have hl := jX h.ok
 have h1 := xQ eF 40 s.fFiles fun f hf => by obtain ⟨id, hd⟩ := h.fl f hf; exact (xR hd).1
 have h2 : bG usual = 8 := by decide +kernel
 unfold dV lU
 rw [h.sch, h2]
 omega
theorem a3E : FnC Tryz.prog 143 [.o (.d (.sl (usual.map cZ)))] (a1G ⟨usual, [], 1⟩) :=
 (a4M usual (by decide)).re [0] rfl rfl (by simp only [go_sem, and_self]) (by simp only [go_sem]; try simp) trivial
theorem sQ (s : TStore) (f : TFile) (hs : dV s ≤ 4300000) (hf : eF f ≤ 4300000) : FnC Tryz.prog 145 [gZ s, pM f] (.t [(true, (a1G (creS s f)).cells), (false, [.d (iv (a8m s f))]), (false, [.d (bv (lM s f))])]) :=
 (a1U s f hs hf).re [0] rfl rfl (by simp only [go_sem, and_self]) (by simp only [go_sem]; try simp) rfl
theorem b1c {k : Nat} {s : TStore} (h : storeD k s) (h1 : 1 < s.fFiles.length) : zX s s.fFiles[1].fID = true := by
 unfold zX
 rw [h.ok, Bool.true_and, decide_eq_true_eq]
 rcases idxP_spec (fun f : TFile => decide (f.fID = s.fFiles[1].fID)) s.fFiles 0 with ⟨_, e⟩ | ⟨k0, e, _⟩
 ·have := e s.fFiles[1] (List.getElem_mem h1)
  simp at this
 ·unfold ixF; rw [e]; omega
theorem a6h {k : Nat} {s : TStore} (id : Int) (h : storeD k s) : storeD k (delS s id) := by
 unfold delS
 split
 ·rename_i hd
  have h1 := b2V hd
  unfold delS at h1
  rw [if_pos hd] at h1
  refine ⟨h.sch, h1, h.nx, ?_, fun f hf => ?_⟩
  ·have h2 := h.ln
   simp only [rR, List.length_append, List.length_take, List.length_drop]
   omega
  ·simp only [rR, List.mem_append] at hf
   rcases hf with hf | hf
   ·exact h.fl f (List.mem_of_mem_take hf)
   ·exact h.fl f (List.mem_of_mem_drop hf)
 ·exact h
theorem a2u {k m : Nat} {s : TStore} (h : storeD k s) (hk : k ≤ m) : storeD m s := ⟨h.sch, h.ok, by have := h.nx; omega, by have := h.ln; omega, h.fl⟩
theorem jT {l : List Int} (hl : iI l) : Drw l 81 [] (fun s : TStore => storeD 7 s) (fun s => a1G s) := by
 have hu := a3E
 have h0 : FnC Tryz.prog 144 [] (.o (.d (.sl (usual.map cZ)))) := zV.pu (by simp only [go_sem, and_self])
 intro i h hi hh; refine nQ Tryz.func81 rfl Tryz.call81 rfl (fun C b => ?_); simp only [go_sem, Tryz.ntmps81]
 refine b4Y h0 hu ?_
 refine bC (α := Nat × TStore × Nat × Int) (fun x => [(4, oi x.1), (6, .o .u)]) (fun x => [(0, .pin b 158 [.sl (l.map oK), iv x.2.2.1, iv x.2.2.2]), (3, .box 39 [.d (.sl (x.2.1.fSchema.map cZ)), .s 2, .d (iv x.2.1.fNextID)]), (2, .row 27 5 (x.2.1.fFiles.map eP) false)]) (fun x => (x.1 ≤ 7 ∧ storeD x.1 x.2.1) ∧ (x.2.2.1 ≤ l.length ∧ inR .i64 x.2.2.2)) (fun x => 8 - x.1) (0, ⟨usual, [], 1⟩, i, h) (fun _ => ?_) ?_ ?_ (fun x hx => ?_)
 ·simp only [go_sem]
 ·simp only [go_sem]; simp
 ·exact ⟨⟨Nat.zero_le _, a6g⟩, hi, hh⟩
 ·clear hi hh
  obtain ⟨k, s, i, h⟩ := x
  obtain ⟨⟨k7, hs⟩, hi, hh⟩ := hx
  simp only at k7 hs hi hh
  have hlen := hs.ln
  have hw := sP hs
  simp only [go_sem]
  refine aD ?_
  first | (refine aP (aG hl 7 (by decide) (by decide) i h hi hh) ⟨rfl, rfl⟩ ?_ rfl ?_; (focus first | rfl | (simp only [go_sem]; done))) | (refine hZ (aG hl 7 (by decide) (by decide) i h hi hh) ⟨rfl, rfl⟩ ?_ rfl ?_; (focus first | rfl | (simp only [go_sem]; done)))
  clear hi hh; rintro ⟨x, i, h⟩ ⟨hx, hi, hh⟩; simp only at hx hi hh; simp only [go_sem]
  refine aD ?_
  refine cnd rfl (fun hlt => ?_) (fun hlt => ?_)
  ·simp only [decide_eq_true_eq] at hlt
   have qH := trivial; repeat' (with_reducible first | refine nY ?_ | (refine mX ?_; try simp only [go_sem]) | refine kD ?_ | (apply rF [2,3,8] [] [0,1] [0,1] ((.c 2 [] [0] (.c 3 [4,5,6,7] [4,5,6,7] (.c 8 [] [6,7] .n .n) .n) .n)) (by simp only [go_sem]; rfl) (by simp only [go_sem]; rfl) (by simp only [go_sem]; rfl) (by decide +kernel); (focus simp only [go_sem]; done)) | exact bF | refine aQ (uX ?_) ?_ | refine aR (aX ?_) ?_ | refine aT (aX ?_) ?_ | exact bR | exact oH | (refine uA ?_; simp only [go_sem]; (repeat' first | omega | refine And.intro ?_ ?_); done) | refine rD ?_ | refine aO ?_ | fail)
   first | (refine aP (kW hl 1 i h hi hh) ⟨rfl, rfl⟩ ?_ rfl ?_; (focus first | rfl | (simp only [go_sem]; done))) | (refine hZ (kW hl 1 i h hi hh) ⟨rfl, rfl⟩ ?_ rfl ?_; (focus first | rfl | (simp only [go_sem]; done)))
   clear hi hh; rintro ⟨f, i, h⟩ ⟨hf, hi, hh⟩; simp only at hf hi hh; simp only [go_sem]
   have hfw := (xR hf).1
   obtain ⟨hc1, hc2, hc3⟩ := a1g hs hf (by omega) (by omega)
   have hcr := sQ s f (by omega) (by omega)
   rw [hc1] at hcr
   generalize creS s f = s2 at *
   have qH := trivial; repeat' (with_reducible first | refine nY ?_ | (refine mX ?_; try simp only [go_sem]) | refine kD ?_ | exact bF | refine aQ (uX ?_) ?_ | refine aR (aX ?_) ?_ | refine aT (aX ?_) ?_ | (refine uA ?_; simp only [go_sem]; (repeat' first | omega | refine And.intro ?_ ?_); done) | refine rD ?_ | refine cP hcr ?_ | refine aO ?_ | fail)
   refine a3a [(2, 5)] (k + 1, s2, i, h) (by simp only [go_sem]; rfl) ?_ ?_ ?_
   ·simp only [go_sem]; simp
   ·exact ⟨⟨by simp only; omega, hc2⟩, hi, hh⟩
   ·simp only; omega
  ·clear hlt
   have hs7 := a2u hs k7
   by_cases g2 : 2 < s.fFiles.length
   ·have g2i : ((2 : Int) < (s.fFiles.length : Int)) = True := by simp; omega
    have q0 := @g2i; have q1 := @decide_true; refine gQ ?_
    first | (refine aP (dD hl 3 (by decide) (by decide) i h hi hh) ⟨rfl, rfl⟩ ?_ rfl ?_; (focus first | rfl | (simp only [go_sem]; done))) | (refine hZ (dD hl 3 (by decide) (by decide) i h hi hh) ⟨rfl, rfl⟩ ?_ rfl ?_; (focus first | rfl | (simp only [go_sem]; done)))
    clear hi hh; rintro ⟨c1, i, h⟩ ⟨q1, hi, hh⟩; simp only at q1 hi hh; simp only [go_sem]
    cases c1
    ·refine aD ?_
     exact aH (s, i, h) ⟨⟨_, rfl, by simp only [go_sem]⟩, trivial⟩ ⟨hs7, ⟨hi, hh⟩⟩ (by simp only [go_sem])
    ·have g1 : 1 < s.fFiles.length := by omega
     have hdl := a1H s s.fFiles[1].fID (by omega) (b1c hs g1)
     have hsd := a6h s.fFiles[1].fID hs7
     generalize delS s s.fFiles[1].fID = s2 at *
     have qH := @g1; repeat' (with_reducible first | refine nY ?_ | (refine mX ?_; try simp only [go_sem, qH]) | refine kD ?_ | (apply rE [6,10] [] [0,1,2,3,4,5] [0,1,2,3,4,5] ((.c 6 [7,8,9] [7,8,9] (.c 10 [] [9] .n .n) .n)) (by simp only [go_sem]; rfl) (by simp only [go_sem]; rfl) (by simp only [go_sem]; rfl) (by decide +kernel); (focus simp only [go_sem]; done)) | exact bF | refine aQ (uX ?_) ?_ | refine aR (aX ?_) ?_ | refine aT (aX ?_) ?_ | exact bR | exact oH | exact uB | refine rD ?_ | refine cP hdl ?_ | refine aO ?_ | fail)
     exact aH (s2, i, h) ⟨⟨_, rfl, by simp only [go_sem]⟩, trivial⟩ ⟨hsd, ⟨hi, hh⟩⟩ (by simp only [go_sem])
   ·have g2i : ((2 : Int) < (s.fFiles.length : Int)) = False := by simp; omega
    have q0 := @g2i; have q1 := @decide_false; refine gQ ?_
    exact aH (s, i, h) ⟨⟨_, rfl, by simp only [go_sem]⟩, trivial⟩ ⟨hs7, ⟨hi, hh⟩⟩ (by simp only [go_sem])
@[go_sem] def vi5 : List Int := [-1, 0, 999, 1000, 9223372036854775807]
@[go_sem] def vs5 : List ByteArray := [⟨#[]⟩, ⟨#[65]⟩, ⟨#[97, 98, 99, 100, 101, 102, 103]⟩, ⟨#[97, 98, 99, 100, 101, 102]⟩, ⟨#[97, 32, 98]⟩]
theorem uQ {l : List Int} (hl : iI l) : Drw l 141 [] (fun v : TValue => valD v) (fun v => nE v) := by
 intro i h hi hh; refine nQ Tryz.func141 rfl Tryz.call141 rfl (fun C b => ?_); simp only [go_sem, Tryz.ntmps141]
 refine aD ?_
 first | (refine aP (zW hl i h hi hh) ⟨rfl, rfl⟩ ?_ rfl ?_; (focus first | rfl | (simp only [go_sem]; done))) | (refine hZ (zW hl i h hi hh) ⟨rfl, rfl⟩ ?_ rfl ?_; (focus first | rfl | (simp only [go_sem]; done)))
 clear hi hh; rintro ⟨v, i, h⟩ ⟨hv, hi, hh⟩; simp only at hv hi hh; simp only [go_sem]
 refine aD ?_
 first | (refine aP (aG hl 10 (by decide) (by decide) i h hi hh) ⟨rfl, rfl⟩ ?_ rfl ?_; (focus first | rfl | (simp only [go_sem]; done))) | (refine hZ (aG hl 10 (by decide) (by decide) i h hi hh) ⟨rfl, rfl⟩ ?_ rfl ?_; (focus first | rfl | (simp only [go_sem]; done)))
 clear hi hh; rintro ⟨k, i, h⟩ ⟨hk, hi, hh⟩; simp only at hk hi hh; simp only [go_sem]
 have h3 : k = 0 ∨ k = 1 ∨ k = 2 ∨ (¬ k = 0 ∧ ¬ k = 1 ∧ ¬ k = 2) := by omega
 rcases h3 with rfl | rfl | rfl | ⟨k0, k1, k2⟩
 ·refine aD ?_
  first | (refine aP (aG hl 5 (by decide) (by decide) i h hi hh) ⟨rfl, rfl⟩ ?_ rfl ?_; (focus first | rfl | (simp only [go_sem]; done))) | (refine hZ (aG hl 5 (by decide) (by decide) i h hi hh) ⟨rfl, rfl⟩ ?_ rfl ?_; (focus first | rfl | (simp only [go_sem]; done)))
  clear hi hh; rintro ⟨x, i, h⟩ ⟨hx, hi, hh⟩; simp only at hx hi hh; simp only [go_sem]
  refine aD ?_
  exact aH (⟨x - 1, v.fInt, v.fStr⟩, i, h) ⟨⟨_, rfl, by simp only [go_sem]⟩, trivial⟩ ⟨(show valD ⟨x - 1, v.fInt, v.fStr⟩ from ⟨hv.w, by simp only [inR]; omega, hv.n⟩), ⟨hi, hh⟩⟩ (by simp only [go_sem])
 ·refine aD ?_
  first | (refine aP (fC hl vi5 (by decide) (by decide) i h hi hh) ⟨rfl, rfl⟩ ?_ rfl ?_; (focus first | rfl | (simp only [go_sem]; done))) | (refine hZ (fC hl vi5 (by decide) (by decide) i h hi hh) ⟨rfl, rfl⟩ ?_ rfl ?_; (focus first | rfl | (simp only [go_sem]; done)))
  clear hi hh; rintro ⟨x, i, h⟩ ⟨hx, hi, hh⟩; simp only at hx hi hh; simp only [go_sem]
  have hx2 := (by decide : ∀ n ∈ vi5, -1 ≤ n ∧ n ≤ 9223372036854775807) x hx
  refine aD ?_
  exact aH (⟨v.fKind, x, v.fStr⟩, i, h) ⟨⟨_, rfl, by simp only [go_sem]⟩, trivial⟩ ⟨(show valD ⟨v.fKind, x, v.fStr⟩ from ⟨hv.w, hv.k, by simp only [inR]; omega⟩), ⟨hi, hh⟩⟩ (by simp only [go_sem])
 ·refine aD ?_
  first | (refine aP (bW hl vs5 (by decide) (by decide) i h hi hh) ⟨rfl, rfl⟩ ?_ rfl ?_; (focus first | rfl | (simp only [go_sem]; done))) | (refine hZ (bW hl vs5 (by decide) (by decide) i h hi hh) ⟨rfl, rfl⟩ ?_ rfl ?_; (focus first | rfl | (simp only [go_sem]; done)))
  clear hi hh; rintro ⟨x, i, h⟩ ⟨hx, hi, hh⟩; simp only at hx hi hh; simp only [go_sem]
  have hx2 := (by decide +kernel : ∀ n ∈ vs5, n.size ≤ 7) x hx
  refine aD ?_
  exact aH (⟨v.fKind, v.fInt, x⟩, i, h) ⟨⟨_, rfl, by simp only [go_sem]⟩, trivial⟩ ⟨(show valD ⟨v.fKind, v.fInt, x⟩ from ⟨hx2, hv.k, hv.n⟩), ⟨hi, hh⟩⟩ (by simp only [go_sem])
 ·have q0 := @k0; have q1 := @k1; have q2 := @k2; have q3 := @decide_false; refine kF ?_
  exact aH (v, i, h) ⟨⟨_, rfl, by simp only [go_sem]⟩, trivial⟩ ⟨hv, ⟨hi, hh⟩⟩ (by simp only [go_sem])
structure fileA (f : TFile) : Prop where
 w : eF f ≤ 80
 wf : a6k f
theorem b0o {id : Int} {f : TFile} (h : fileD id f) (hi : inR .i64 id) : fileA f := by
 obtain ⟨h1, h2, _⟩ := xR h
 have h3 := h.ow
 have h4 := h.lk
 exact ⟨by omega, by rw [h.id]; exact hi, by simp only [inR]; omega, trivial, by simp only [inR]; omega, h2⟩
@[go_sem] def fi4 : List Int := [0, 60, 61, -1]
@[go_sem] def fo3 : List Int := [-1, 2, 3]
@[go_sem] def fl4 : List Int := [-1, 60, 61, 9223372036854775807]
theorem b2Y {f : TFile} (h : uG f.fAttrs) (hl : f.fAttrs.length ≤ 100) {s : ByteArray} {v : TValue} (hs : w1 s) (hv : valD v) : uG (f.fAttrs ++ [⟨s, v⟩]) := by
 unfold w1 at hs
 have := hv.w
 refine ⟨by simp; omega, fun y hy => ?_⟩
 rcases List.mem_append.1 hy with hy | hy
 ·exact h.2 y hy
 ·simp only [List.mem_singleton] at hy
  subst hy
  exact ⟨by simp only; omega, hv.k, hv.n, by simp only; omega⟩
theorem b2Z {f : TFile} {s : ByteArray} {v : TValue} (hs : w1 s) (hv : valD v) (hw : eF f ≤ 40) : eF { f with fAttrs := f.fAttrs ++ [⟨s, v⟩] } ≤ 80 := by
 unfold w1 at hs
 have := hv.w
 unfold eF gT at hw ⊢
 rw [sW]
 simp only [List.length_append, List.length_cons, List.length_nil, dN, jU, nG]
 omega
theorem a2R {l : List Int} (hl : iI l) : Drw l 72 [] (fun f : TFile => fileA f) (fun f => a7c f) := by
 intro i h hi hh; refine nQ Tryz.func72 rfl Tryz.call72 rfl (fun C b => ?_); simp only [go_sem, Tryz.ntmps72]
 refine aD ?_
 first | (refine aP (aG hl 7 (by decide) (by decide) i h hi hh) ⟨rfl, rfl⟩ ?_ rfl ?_; (focus first | rfl | (simp only [go_sem]; done))) | (refine hZ (aG hl 7 (by decide) (by decide) i h hi hh) ⟨rfl, rfl⟩ ?_ rfl ?_; (focus first | rfl | (simp only [go_sem]; done)))
 clear hi hh; rintro ⟨fid, i, h⟩ ⟨hfid, hi, hh⟩; simp only at hfid hi hh; simp only [go_sem]
 refine aD ?_
 first | (refine aP (kW hl ((1 : Int) + fid) i h hi hh) ⟨rfl, rfl⟩ ?_ rfl ?_; (focus first | rfl | (simp only [go_sem]; done))) | (refine hZ (kW hl ((1 : Int) + fid) i h hi hh) ⟨rfl, rfl⟩ ?_ rfl ?_; (focus first | rfl | (simp only [go_sem]; done)))
 clear hi hh; rintro ⟨f, i, h⟩ ⟨hf, hi, hh⟩; simp only at hf hi hh; simp only [go_sem]
 have hfA := b0o hf (by simp only [inR]; omega)
 obtain ⟨hw, hwf, _⟩ := xR hf
 have hlen : f.fAttrs.length ≤ 40 := by unfold eF gT at hw; omega
 have how := hf.ow
 have hlk := hf.lk
 clear hf
 refine aD ?_
 first | (refine aP (aG hl 14 (by decide) (by decide) i h hi hh) ⟨rfl, rfl⟩ ?_ rfl ?_; (focus first | rfl | (simp only [go_sem]; done))) | (refine hZ (aG hl 14 (by decide) (by decide) i h hi hh) ⟨rfl, rfl⟩ ?_ rfl ?_; (focus first | rfl | (simp only [go_sem]; done)))
 clear hi hh; rintro ⟨k, i, h⟩ ⟨hk, hi, hh⟩; simp only at hk hi hh; simp only [go_sem]
 have h5 : k = 0 ∨ k = 1 ∨ k = 2 ∨ k = 3 ∨ k = 4 ∨ (¬ k = 0 ∧ ¬ k = 1 ∧ ¬ k = 2 ∧ ¬ k = 3 ∧ ¬ k = 4) := by omega
 have q1 := hfA.wf.1
 have q2 := hfA.wf.2.1
 have q4 := hfA.wf.2.2.2.1
 rcases h5 with rfl | rfl | rfl | rfl | rfl | ⟨k0, k1, k2, k3, k4⟩
 ·refine aD ?_
  first | (refine aP (fC hl fi4 (by decide) (by decide) i h hi hh) ⟨rfl, rfl⟩ ?_ rfl ?_; (focus first | rfl | (simp only [go_sem]; done))) | (refine hZ (fC hl fi4 (by decide) (by decide) i h hi hh) ⟨rfl, rfl⟩ ?_ rfl ?_; (focus first | rfl | (simp only [go_sem]; done)))
  clear hi hh; rintro ⟨x, i, h⟩ ⟨hx, hi, hh⟩; simp only at hx hi hh; simp only [go_sem]
  have hx2 := (by decide : ∀ n ∈ fi4, -1 ≤ n ∧ n ≤ 61) x hx
  refine aD ?_
  exact aH (⟨x, f.fOwner, f.fShared, f.fLink, f.fAttrs⟩, i, h) ⟨⟨_, rfl, by simp only [go_sem]⟩, trivial⟩ ⟨(show fileA ⟨x, f.fOwner, f.fShared, f.fLink, f.fAttrs⟩ from ⟨hfA.w, by simp only [inR]; omega, q2, trivial, q4, hwf⟩), ⟨hi, hh⟩⟩ (by simp only [go_sem])
 ·refine aD ?_
  first | (refine aP (fC hl fo3 (by decide) (by decide) i h hi hh) ⟨rfl, rfl⟩ ?_ rfl ?_; (focus first | rfl | (simp only [go_sem]; done))) | (refine hZ (fC hl fo3 (by decide) (by decide) i h hi hh) ⟨rfl, rfl⟩ ?_ rfl ?_; (focus first | rfl | (simp only [go_sem]; done)))
  clear hi hh; rintro ⟨x, i, h⟩ ⟨hx, hi, hh⟩; simp only at hx hi hh; simp only [go_sem]
  have hx2 := (by decide : ∀ n ∈ fo3, -1 ≤ n ∧ n ≤ 3) x hx
  refine aD ?_
  exact aH (⟨f.fID, x, f.fShared, f.fLink, f.fAttrs⟩, i, h) ⟨⟨_, rfl, by simp only [go_sem]⟩, trivial⟩ ⟨(show fileA ⟨f.fID, x, f.fShared, f.fLink, f.fAttrs⟩ from ⟨hfA.w, q1, by simp only [inR]; omega, trivial, q4, hwf⟩), ⟨hi, hh⟩⟩ (by simp only [go_sem])
 ·refine aD ?_
  first | (refine aP (fC hl fl4 (by decide) (by decide) i h hi hh) ⟨rfl, rfl⟩ ?_ rfl ?_; (focus first | rfl | (simp only [go_sem]; done))) | (refine hZ (fC hl fl4 (by decide) (by decide) i h hi hh) ⟨rfl, rfl⟩ ?_ rfl ?_; (focus first | rfl | (simp only [go_sem]; done)))
  clear hi hh; rintro ⟨x, i, h⟩ ⟨hx, hi, hh⟩; simp only at hx hi hh; simp only [go_sem]
  have hx2 := (by decide : ∀ n ∈ fl4, -1 ≤ n ∧ n ≤ 9223372036854775807) x hx
  refine aD ?_
  exact aH (⟨f.fID, f.fOwner, f.fShared, x, f.fAttrs⟩, i, h) ⟨⟨_, rfl, by simp only [go_sem]⟩, trivial⟩ ⟨(show fileA ⟨f.fID, f.fOwner, f.fShared, x, f.fAttrs⟩ from ⟨hfA.w, q1, q2, trivial, by simp only [inR]; omega, hwf⟩), ⟨hi, hh⟩⟩ (by simp only [go_sem])
 ·have hl1 : f.fAttrs.length + 1 ≤ 140737488355328 := by omega
  have hl2 : (f.fAttrs.length + 1) * 48 ≤ 140737488355328 := by omega
  have qH := aI @hl1 @hl2; repeat' (with_reducible first | refine nY ?_ | (refine mX ?_; try simp only [go_sem, qH]) | refine kD ?_ | (apply rF [3,5,7,8,10] [] [0,1,2,4] [0,1,2,4] ((.c 3 [] [0,1,4] (.c 5 [6] [0,1,6] (.c 7 [] [0,1] (.c 8 [9] [9] (.c 10 [] [] .n .n) .n) .n) .n) .n)) (by simp only [go_sem]; rfl) (by simp only [go_sem]; rfl) (by simp only [go_sem]; rfl) (by decide +kernel); (focus simp only [go_sem]; done)) | exact bF | refine aQ (uX ?_) ?_ | refine aR (aX ?_) ?_ | refine aT (aX ?_) ?_ | exact bR | exact oH | exact uB | refine rD ?_ | refine aO ?_ | fail)
  first | (refine aP (qW hl i h hi hh) ⟨rfl, rfl⟩ ?_ rfl ?_; (focus first | rfl | (simp only [go_sem]; done))) | (refine hZ (qW hl i h hi hh) ⟨rfl, rfl⟩ ?_ rfl ?_; (focus first | rfl | (simp only [go_sem]; done)))
  clear hi hh; rintro ⟨nm, i, h⟩ ⟨hnm, hi, hh⟩; simp only at hnm hi hh; simp only [go_sem]
  have qH := aI @hl1 @hl2; repeat' (with_reducible first | refine nY ?_ | (refine mX ?_; try simp only [go_sem, qH]) | refine kD ?_ | exact bF | refine aQ (uX ?_) ?_ | refine aR (aX ?_) ?_ | refine aT (aX ?_) ?_ | exact uB | refine rD ?_ | refine aO ?_ | fail)
  first | (refine aP (uQ hl i h hi hh) ⟨rfl, rfl⟩ ?_ rfl ?_; (focus first | rfl | (simp only [go_sem]; done))) | (refine hZ (uQ hl i h hi hh) ⟨rfl, rfl⟩ ?_ rfl ?_; (focus first | rfl | (simp only [go_sem]; done)))
  clear hi hh; rintro ⟨v, i, h⟩ ⟨hv, hi, hh⟩; simp only at hv hi hh; simp only [go_sem]
  have qH := aI @hl1 @hl2; repeat' (with_reducible first | refine nY ?_ | (refine mX ?_; try simp only [go_sem, qH]) | refine kD ?_ | exact bF | refine aQ (uX ?_) ?_ | refine aR (aX ?_) ?_ | refine aT (aX ?_) ?_ | exact uB | refine rD ?_ | refine aO ?_ | fail)
  exact aH ({ f with fAttrs := f.fAttrs ++ [⟨nm, v⟩] }, i, h) ⟨⟨_, rfl, by simp only [go_sem, List.map_append]⟩, trivial⟩ ⟨⟨b2Z hnm hv hw, q1, q2, trivial, q4, b2Y hwf (by omega) hnm hv⟩, ⟨hi, hh⟩⟩ (by simp only [go_sem])
 ·have hc := bZ f ⟨#[97]⟩ ⟨2, 0, ⟨#[114, 101, 100]⟩⟩ (by omega)
  have hws := b2P ⟨#[97]⟩ ⟨2, 0, ⟨#[114, 101, 100]⟩⟩ f.fAttrs
  have e8 : jU ⟨⟨#[97]⟩, ⟨2, 0, ⟨#[114, 101, 100]⟩⟩⟩ = 4 := by decide +kernel
  have hwf2 : uG (rW ⟨#[97]⟩ ⟨2, 0, ⟨#[114, 101, 100]⟩⟩ f.fAttrs) := by
   have hsl := a9M ⟨#[97]⟩ ⟨2, 0, ⟨#[114, 101, 100]⟩⟩ f.fAttrs
   refine ⟨by omega, fun y hy => ?_⟩
   unfold rW iP at hy
   rw [if_neg (by decide)] at hy
   have hdel : ∀ z ∈ mF ⟨#[97]⟩ f.fAttrs, a6j z := fun z hz => hwf.2 z ((List.mem_filter.1 hz).1)
   rcases List.mem_append.1 hy with hy | hy
   ·exact hdel y (List.mem_of_mem_take hy)
   ·rcases List.mem_cons.1 hy with rfl | hy
    ·exact ⟨by decide, in2, in0, by decide⟩
    ·exact hdel y (List.mem_of_mem_drop hy)
  have qH := trivial; repeat' (with_reducible first | refine nY ?_ | (refine mX ?_; try simp only [go_sem]) | refine kD ?_ | (apply rF [1,2,3] [] [0] [0] ((.c 1 [] [0] (.c 2 [] [] (.c 3 [] [] .n .n) .n) .n)) (by simp only [go_sem]; rfl) (by simp only [go_sem]; rfl) (by simp only [go_sem]; rfl) (by decide +kernel); (focus simp only [go_sem]; done)) | exact bF | refine aQ (uX ?_) ?_ | refine aR (aX ?_) ?_ | refine aT (aX ?_) ?_ | exact bR | exact oH | (refine uA ?_; simp only [go_sem]; (repeat' first | omega | refine And.intro ?_ ?_); done) | refine rD ?_ | refine cP (pJ ⟨#[114, 101, 100]⟩) ?_ | refine hR hc ?_ | refine vR hc ?_ | refine vD hc ?_ | refine aO ?_ | fail)
  exact aH (qZ f ⟨#[97]⟩ ⟨2, 0, ⟨#[114, 101, 100]⟩⟩, i, h) ⟨⟨_, rfl, by simp only [go_sem]⟩, trivial⟩ ⟨(show fileA (qZ f ⟨#[97]⟩ ⟨2, 0, ⟨#[114, 101, 100]⟩⟩) from ⟨by have h40 : gT f.fAttrs ≤ 40 := hw; unfold eF qZ; simp only; omega, q1, q2, trivial, q4, hwf2⟩), ⟨hi, hh⟩⟩ (by simp only [go_sem])
 ·have q0 := @k0; have q1 := @k1; have q2 := @k2; have q3 := @k3; have q4 := @k4; have q5 := @decide_false; refine a9q ?_
  exact aH (f, i, h) ⟨⟨_, rfl, by simp only [go_sem]⟩, trivial⟩ ⟨hfA, ⟨hi, hh⟩⟩ (by simp only [go_sem])
structure idsD (k : Nat) (x : List Int) : Prop where
 up : x.Pairwise (· < ·)
 lo : ∀ y ∈ x, 1 ≤ y ∧ y < k
 len : x.length < k
structure schA (s : List TField) : Prop where
 hi : s.length ≤ 8
 nm : ∀ f ∈ s, f.fName.size ≤ 40
theorem a6f : schA usual := ⟨by decide, by decide +kernel⟩
theorem a4K {s : List TField} (h : schA s) (k : Nat) {f : TField} (hf : f.fName.size ≤ 40) : schA (s.set k f) := ⟨by simpa using h.hi, fun x hx => by
 rcases List.mem_or_eq_of_mem_set hx with hx | rfl
 ·exact h.nm x hx
 ·exact hf⟩
theorem a4L {s t : List TField} (h : schA s) (ht : ∀ f ∈ t, f.fName.size ≤ 40) (hl : s.length + t.length ≤ 8) : schA (s ++ t) := ⟨by simpa using hl, fun x hx => by
 rcases List.mem_append.1 hx with hx | hx
 ·exact h.nm x hx
 ·exact ht x hx⟩
theorem b2u {s : List TField} (h : schA s) : bG s ≤ 400 := by
 have h1 := xQ qY 40 s fun f hf => by have := h.nm f hf; unfold qY; omega
 have h2 := h.hi
 unfold bG
 omega
@[go_sem] def nm3 : List ByteArray := [⟨#[117]⟩, ⟨#[122]⟩, ⟨#[97]⟩]
theorem a2s {l : List Int} (hl : iI l) : Drw l 195 [] (fun s : List TField => schA s) (fun s => .o (.d (.sl (s.map cZ)))) := by
 have hu4 : usual.length = 4 := rfl
 have hus := a6f
 have huk := zV
 generalize usual = U at *
 have hl1 : U.length + 1 ≤ 140737488355328 := by omega
 have hl2 : (U.length + 1) * 24 ≤ 140737488355328 := by omega
 have hl3 : U.length + 2 ≤ 140737488355328 := by omega
 have hl4 : (U.length + 2) * 24 ≤ 140737488355328 := by omega
 intro i h hi hh; refine nQ Tryz.func195 rfl Tryz.call195 rfl (fun C b => ?_); simp only [go_sem, Tryz.ntmps195]
 have qH := trivial; repeat' (with_reducible first | refine nY ?_ | (refine mX ?_; try simp only [go_sem]) | refine kD ?_ | refine rD ?_ | refine vR huk ?_ | refine vD huk ?_ | refine aO ?_ | fail)
 first | (refine aP (aG hl 8 (by decide) (by decide) i h hi hh) ⟨rfl, rfl⟩ ?_ rfl ?_; (focus first | rfl | (simp only [go_sem]; done))) | (refine hZ (aG hl 8 (by decide) (by decide) i h hi hh) ⟨rfl, rfl⟩ ?_ rfl ?_; (focus first | rfl | (simp only [go_sem]; done)))
 clear hi hh; rintro ⟨c, i, h⟩ ⟨hc, hi, hh⟩; simp only at hc hi hh; simp only [go_sem]
 have h6 : c = 0 ∨ c = 1 ∨ c = 2 ∨ c = 3 ∨ c = 4 ∨ (¬ c = 0 ∧ ¬ c = 1 ∧ ¬ c = 2 ∧ ¬ c = 3 ∧ ¬ c = 4) := by omega
 rcases h6 with rfl | rfl | rfl | rfl | rfl | ⟨k0, k1, k2, k3, k4⟩
 ·refine aD ?_
  first | (refine aP (aG hl 4 (by decide) (by decide) i h hi hh) ⟨rfl, rfl⟩ ?_ rfl ?_; (focus first | rfl | (simp only [go_sem]; done))) | (refine hZ (aG hl 4 (by decide) (by decide) i h hi hh) ⟨rfl, rfl⟩ ?_ rfl ?_; (focus first | rfl | (simp only [go_sem]; done)))
  clear hi hh; rintro ⟨x, i, h⟩ ⟨hx, hi, hh⟩; simp only at hx hi hh; simp only [go_sem]
  obtain ⟨k, rfl⟩ := Int.eq_ofNat_of_zero_le hx.1
  have hk : k ≤ U.length := by omega
  have q0 := @hk; refine iH ?_
  exact aH (U.take k, i, h) ⟨⟨_, rfl, by simp only [go_sem, List.map_take]⟩, trivial⟩ ⟨(show schA _ from ⟨by simp; omega, fun f hf => hus.nm f (List.mem_of_mem_take hf)⟩), ⟨hi, hh⟩⟩ (by simp only [go_sem])
 ·refine aD ?_
  first | (refine aP (aG hl 4 (by decide) (by decide) i h hi hh) ⟨rfl, rfl⟩ ?_ rfl ?_; (focus first | rfl | (simp only [go_sem]; done))) | (refine hZ (aG hl 4 (by decide) (by decide) i h hi hh) ⟨rfl, rfl⟩ ?_ rfl ?_; (focus first | rfl | (simp only [go_sem]; done)))
  clear hi hh; rintro ⟨x, i, h⟩ ⟨hx, hi, hh⟩; simp only at hx hi hh; simp only [go_sem]
  obtain ⟨k, rfl⟩ := Int.eq_ofNat_of_zero_le hx.1
  have hk : k < U.length := by omega
  refine aD ?_
  first | (refine aP (aG hl 5 (by decide) (by decide) i h hi hh) ⟨rfl, rfl⟩ ?_ rfl ?_; (focus first | rfl | (simp only [go_sem]; done))) | (refine hZ (aG hl 5 (by decide) (by decide) i h hi hh) ⟨rfl, rfl⟩ ?_ rfl ?_; (focus first | rfl | (simp only [go_sem]; done)))
  clear hi hh; rintro ⟨y, i, h⟩ ⟨hy, hi, hh⟩; simp only at hy hi hh; simp only [go_sem]
  have q0 := @hk; refine iH ?_
  refine eG (Sees.frz 1 rfl) ?_
  simp only [go_sem]
  exact aH (U.set k ⟨U[k].fName, y - 1⟩, i, h) ⟨⟨_, rfl, by simp only [go_sem, List.map_set, List.map_append, List.map_cons, List.map_nil]; try rfl⟩, trivial⟩ ⟨(show schA _ from a4K hus k (hus.nm U[k] (List.getElem_mem hk))), ⟨hi, hh⟩⟩ (by simp only [go_sem])
 ·refine aD ?_
  first | (refine aP (aG hl 4 (by decide) (by decide) i h hi hh) ⟨rfl, rfl⟩ ?_ rfl ?_; (focus first | rfl | (simp only [go_sem]; done))) | (refine hZ (aG hl 4 (by decide) (by decide) i h hi hh) ⟨rfl, rfl⟩ ?_ rfl ?_; (focus first | rfl | (simp only [go_sem]; done)))
  clear hi hh; rintro ⟨x, i, h⟩ ⟨hx, hi, hh⟩; simp only at hx hi hh; simp only [go_sem]
  obtain ⟨k, rfl⟩ := Int.eq_ofNat_of_zero_le hx.1
  have hk : k < U.length := by omega
  refine aD ?_
  first | (refine aP (qW hl i h hi hh) ⟨rfl, rfl⟩ ?_ rfl ?_; (focus first | rfl | (simp only [go_sem]; done))) | (refine hZ (qW hl i h hi hh) ⟨rfl, rfl⟩ ?_ rfl ?_; (focus first | rfl | (simp only [go_sem]; done)))
  clear hi hh; rintro ⟨y, i, h⟩ ⟨hy, hi, hh⟩; simp only at hy hi hh; simp only [go_sem]
  have hy2 : y.size ≤ 40 := by unfold w1 at hy; omega
  have q0 := @hk; refine iH ?_
  refine eG (Sees.frz 1 rfl) ?_
  simp only [go_sem]
  exact aH (U.set k ⟨y, U[k].fKind⟩, i, h) ⟨⟨_, rfl, by simp only [go_sem, List.map_set, List.map_append, List.map_cons, List.map_nil]; try rfl⟩, trivial⟩ ⟨(show schA _ from a4K hus k hy2), ⟨hi, hh⟩⟩ (by simp only [go_sem])
 ·refine aD ?_
  first | (refine aP (bW hl nm3 (by decide) (by decide) i h hi hh) ⟨rfl, rfl⟩ ?_ rfl ?_; (focus first | rfl | (simp only [go_sem]; done))) | (refine hZ (bW hl nm3 (by decide) (by decide) i h hi hh) ⟨rfl, rfl⟩ ?_ rfl ?_; (focus first | rfl | (simp only [go_sem]; done)))
  clear hi hh; rintro ⟨y, i, h⟩ ⟨hy, hi, hh⟩; simp only at hy hi hh; simp only [go_sem]
  have hy2 := (by decide +kernel : ∀ n ∈ nm3, n.size ≤ 40) y hy
  have q0 := @hl1; have q1 := @hl2; refine gQ ?_
  refine eG (Sees.frz 1 rfl) ?_
  simp only [go_sem]
  exact aH (U ++ [⟨y, 1⟩], i, h) ⟨⟨_, rfl, by simp only [go_sem, List.map_set, List.map_append, List.map_cons, List.map_nil]; try rfl⟩, trivial⟩ ⟨(show schA _ from a4L hus (by simpa using hy2) (by simp; omega)), ⟨hi, hh⟩⟩ (by simp only [go_sem])
 ·have q0 := @hl3; have q1 := @hl4; refine gQ ?_
  refine eG (Sees.frz 1 rfl) ?_
  simp only [go_sem]
  exact aH (U ++ [⟨⟨#[117]⟩, 1⟩, ⟨⟨#[118]⟩, 2⟩], i, h) ⟨⟨_, rfl, by simp only [go_sem, List.map_set, List.map_append, List.map_cons, List.map_nil]; try rfl⟩, trivial⟩ ⟨(show schA _ from a4L hus (by decide +kernel) (by simp; omega)), ⟨hi, hh⟩⟩ (by simp only [go_sem])
 ·have q0 := @k0; have q1 := @k1; have q2 := @k2; have q3 := @k3; have q4 := @k4; have q5 := @decide_false; refine a9q ?_
  refine eG (Sees.frz 1 rfl) ?_
  simp only [go_sem]
  exact aH (U, i, h) ⟨⟨_, rfl, by simp only [go_sem, List.map_set, List.map_append, List.map_cons, List.map_nil]; try rfl⟩, trivial⟩ ⟨(show schA _ from hus), ⟨hi, hh⟩⟩ (by simp only [go_sem])
structure storeA (s : TStore) : Prop where
 w : dV s ≤ 2000
 nx : 0 ≤ s.fNextID ∧ s.fNextID ≤ 62
theorem yZ {k : Nat} {s : TStore} (h : storeD k s) : storeA s := by
 have h1 := sP h
 have h2 := (iW.1 h.ok).2.2.2
 exact ⟨by omega, by omega, by omega⟩
@[go_sem] def nx4 : List Int := [0, 60, 61, 62]
theorem b1b (s : List TFile) (f : TFile) : lU (s ++ [f]) = lU s + eF f + 1 := by
 unfold lU
 rw [sW]
 simp only [List.length_append, List.length_cons, List.length_nil, dN]
 omega
theorem a2t {l : List Int} (hl : iI l) : Drw l 135 [] (fun s : TStore => storeA s) (fun s => a1G s) := by
 intro i h hi hh; refine nQ Tryz.func135 rfl Tryz.call135 rfl (fun C b => ?_); simp only [go_sem, Tryz.ntmps135]
 refine aD ?_
 first | (refine aP (jT hl i h hi hh) ⟨rfl, rfl⟩ ?_ rfl ?_; (focus first | rfl | (simp only [go_sem]; done))) | (refine hZ (jT hl i h hi hh) ⟨rfl, rfl⟩ ?_ rfl ?_; (focus first | rfl | (simp only [go_sem]; done)))
 clear hi hh; rintro ⟨s, i, h⟩ ⟨hs, hi, hh⟩; simp only at hs hi hh; simp only [go_sem]
 have hsA := yZ hs
 have hw := sP hs
 have hn := hs.ln
 refine aD ?_
 first | (refine aP (aG hl 14 (by decide) (by decide) i h hi hh) ⟨rfl, rfl⟩ ?_ rfl ?_; (focus first | rfl | (simp only [go_sem]; done))) | (refine hZ (aG hl 14 (by decide) (by decide) i h hi hh) ⟨rfl, rfl⟩ ?_ rfl ?_; (focus first | rfl | (simp only [go_sem]; done)))
 clear hi hh; rintro ⟨c, i, h⟩ ⟨hc, hi, hh⟩; simp only at hc hi hh; simp only [go_sem]
 have h5 : c = 0 ∨ c = 1 ∨ c = 2 ∨ c = 3 ∨ (¬ c = 0 ∧ ¬ c = 1 ∧ ¬ c = 2 ∧ ¬ c = 3) := by omega
 rcases h5 with rfl | rfl | rfl | rfl | ⟨k0, k1, k2, k3⟩
 ·refine aD ?_
  first | (refine aP (fC hl nx4 (by decide) (by decide) i h hi hh) ⟨rfl, rfl⟩ ?_ rfl ?_; (focus first | rfl | (simp only [go_sem]; done))) | (refine hZ (fC hl nx4 (by decide) (by decide) i h hi hh) ⟨rfl, rfl⟩ ?_ rfl ?_; (focus first | rfl | (simp only [go_sem]; done)))
  clear hi hh; rintro ⟨x, i, h⟩ ⟨hx, hi, hh⟩; simp only at hx hi hh; simp only [go_sem]
  have hx2 := (by decide : ∀ n ∈ nx4, 0 ≤ n ∧ n ≤ 62) x hx
  refine aD ?_
  exact aH (⟨s.fSchema, s.fFiles, x⟩, i, h) ⟨⟨_, rfl, by simp only [go_sem]⟩, trivial⟩ ⟨(show storeA ⟨s.fSchema, s.fFiles, x⟩ from ⟨hsA.w, hx2⟩), ⟨hi, hh⟩⟩ (by simp only [go_sem])
 ·have qH := trivial; repeat' (with_reducible first | refine nY ?_ | (refine mX ?_; try simp only [go_sem]) | refine kD ?_ | (apply rF [3,4,5,7] [] [0,1,2] [0,1,2] ((.c 3 [] [0,1] (.c 4 [] [0,1] (.c 5 [6] [6] (.c 7 [] [] .n .n) .n) .n) .n)) (by simp only [go_sem]; rfl) (by simp only [go_sem]; rfl) (by simp only [go_sem]; rfl) (by decide +kernel); (focus simp only [go_sem]; done)) | exact bF | refine aQ (uX ?_) ?_ | refine aR (aX ?_) ?_ | refine aT (aX ?_) ?_ | exact bR | exact oH | (refine uA ?_; simp only [go_sem]; (repeat' first | omega | refine And.intro ?_ ?_); done) | refine rD ?_ | refine aO ?_ | fail)
  first | (refine aP (a2R hl i h hi hh) ⟨rfl, rfl⟩ ?_ rfl ?_; (focus first | rfl | (simp only [go_sem]; done))) | (refine hZ (a2R hl i h hi hh) ⟨rfl, rfl⟩ ?_ rfl ?_; (focus first | rfl | (simp only [go_sem]; done)))
  clear hi hh; rintro ⟨f, i, h⟩ ⟨hf, hi, hh⟩; simp only at hf hi hh; simp only [go_sem]
  have hfw := hf.w
  have hl1 : s.fFiles.length + 1 ≤ 140737488355328 := by omega
  have hl2 : (s.fFiles.length + 1) * 56 ≤ 140737488355328 := by omega
  have qH := aI @hl1 @hl2; repeat' (with_reducible first | refine nY ?_ | (refine mX ?_; try simp only [go_sem, qH]) | refine kD ?_ | exact bF | refine aQ (uX ?_) ?_ | refine aR (aX ?_) ?_ | refine aT (aX ?_) ?_ | exact uB | refine rD ?_ | refine aO ?_ | fail)
  exact aH (⟨s.fSchema, s.fFiles ++ [f], s.fNextID⟩, i, h) ⟨⟨_, rfl, by simp only [go_sem, List.map_append, List.map_cons, List.map_nil]; try rfl⟩, trivial⟩ ⟨(show storeA ⟨s.fSchema, s.fFiles ++ [f], s.fNextID⟩ from ⟨by unfold dV at hw ⊢; simp only; rw [b1b]; omega, hsA.nx⟩), ⟨hi, hh⟩⟩ (by simp only [go_sem])
 ·refine aD ?_
  first | (refine aP (a2s hl i h hi hh) ⟨rfl, rfl⟩ ?_ rfl ?_; (focus first | rfl | (simp only [go_sem]; done))) | (refine hZ (a2s hl i h hi hh) ⟨rfl, rfl⟩ ?_ rfl ?_; (focus first | rfl | (simp only [go_sem]; done)))
  clear hi hh; rintro ⟨t, i, h⟩ ⟨ht, hi, hh⟩; simp only at ht hi hh; simp only [go_sem]
  have htw := b2u ht
  refine aD ?_
  exact aH (⟨t, s.fFiles, s.fNextID⟩, i, h) ⟨⟨_, rfl, by simp only [go_sem]⟩, trivial⟩ ⟨(show storeA ⟨t, s.fFiles, s.fNextID⟩ from ⟨by unfold dV at hw ⊢; simp only; omega, hsA.nx⟩), ⟨hi, hh⟩⟩ (by simp only [go_sem])
 ·refine aD ?_
  refine bC (α := TStore × Nat × Int) (fun x => [(5, .o .u)]) (fun x => [(0, .pin b 158 [.sl (l.map oK), iv x.2.1, iv x.2.2]), (3, .box 39 [.d (.sl (x.1.fSchema.map cZ)), .s 2, .d (iv x.1.fNextID)]), (2, .row 27 5 (x.1.fFiles.map eP) false)]) (fun x => storeD (8 + x.1.fFiles.length) x.1 ∧ (x.2.1 ≤ l.length ∧ inR .i64 x.2.2)) (fun x => 13 - x.1.fFiles.length) (s, i, h) (fun _ => ?_) ?_ ?_ (fun x hx => ?_)
  ·simp only [go_sem]
  ·simp only [go_sem]; simp
  ·exact ⟨a2u hs (by omega), hi, hh⟩
  ·clear hi hh hsA hw hn hs
   obtain ⟨s, i, h⟩ := x
   obtain ⟨hs, hi, hh⟩ := hx
   simp only at hs hi hh
   have hw := sP hs
   have hsA := yZ hs
   simp only [go_sem]
   refine aD ?_
   refine cnd rfl (fun hlt => ?_) (fun hlt => ?_)
   ·simp only [decide_eq_true_eq] at hlt
    have hlt2 : s.fFiles.length < 12 := by omega
    have qH := trivial; repeat' (with_reducible first | refine nY ?_ | (refine mX ?_; try simp only [go_sem]) | refine kD ?_ | (apply rF [2,3,8] [] [0,1] [0,1] ((.c 2 [] [0] (.c 3 [4,5,6,7] [4,5,6,7] (.c 8 [] [6,7] .n .n) .n) .n)) (by simp only [go_sem]; rfl) (by simp only [go_sem]; rfl) (by simp only [go_sem]; rfl) (by decide +kernel); (focus simp only [go_sem]; done)) | exact bF | refine aQ (uX ?_) ?_ | refine aR (aX ?_) ?_ | refine aT (aX ?_) ?_ | exact bR | exact oH | (refine uA ?_; simp only [go_sem]; (repeat' first | omega | refine And.intro ?_ ?_); done) | refine rD ?_ | refine aO ?_ | fail)
    first | (refine aP (kW hl 1 i h hi hh) ⟨rfl, rfl⟩ ?_ rfl ?_; (focus first | rfl | (simp only [go_sem]; done))) | (refine hZ (kW hl 1 i h hi hh) ⟨rfl, rfl⟩ ?_ rfl ?_; (focus first | rfl | (simp only [go_sem]; done)))
    clear hi hh; rintro ⟨f, i, h⟩ ⟨hf, hi, hh⟩; simp only at hf hi hh; simp only [go_sem]
    have hfw := (xR hf).1
    obtain ⟨hc1, hc2, hc3⟩ := a1g hs hf (by omega) hlt2
    have hcr := sQ s f (by omega) (by omega)
    rw [hc1] at hcr
    generalize creS s f = s2 at *
    have qH := trivial; repeat' (with_reducible first | refine nY ?_ | (refine mX ?_; try simp only [go_sem]) | refine kD ?_ | exact bF | refine aQ (uX ?_) ?_ | refine aR (aX ?_) ?_ | refine aT (aX ?_) ?_ | (refine uA ?_; simp only [go_sem]; (repeat' first | omega | refine And.intro ?_ ?_); done) | refine rD ?_ | refine cP hcr ?_ | refine aO ?_ | fail)
    refine a3a [(2, 5)] (s2, i, h) (by simp only [go_sem]; rfl) ?_ ?_ ?_
    ·simp only [go_sem]; simp
    ·exact ⟨by simp only; rw [hc3]; exact hc2, hi, hh⟩
    ·simp only; omega
   ·refine aD ?_
    exact aH (s, i, h) ⟨⟨_, rfl, by simp only [go_sem]⟩, trivial⟩ ⟨hsA, ⟨hi, hh⟩⟩ (by simp only [go_sem])
 ·have q0 := @k0; have q1 := @k1; have q2 := @k2; have q3 := @k3; have q4 := @decide_false; refine sN ?_
  exact aH (s, i, h) ⟨⟨_, rfl, by simp only [go_sem]⟩, trivial⟩ ⟨hsA, ⟨hi, hh⟩⟩ (by simp only [go_sem])
end Go.Proofs.YtolgdibgnndoaaaGreat
end
