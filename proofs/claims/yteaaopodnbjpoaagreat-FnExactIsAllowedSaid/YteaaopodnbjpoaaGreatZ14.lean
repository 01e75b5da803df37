/- Joined texts. -/
import Derived.Test.YteaaopodnbjpoaaGreatZ07
import Derived.Test.YteaaopodnbjpoaaGreatZ13
import Derived.Test.YteaaopodnbjpoaaGreatZ09
import Derived.Test.YteaaopodnbjpoaaGreatZ10
set_option linter.all false
section
set_option maxRecDepth 100000
namespace Go.Proofs.YteaaopodnbjpoaaGreat
open Go Go.Sx Go.RowKit Go.Proofs
def eqL {α : Type} (p : α → α → Bool) : List α → List α → Bool
 | [], [] => true
 | x :: xs, y :: ys => p x y && eqL p xs ys
 | _, _ => false
theorem a0y {α : Type} (p : α → α → Bool) : ∀ {a b : List α}, a.length ≠ b.length → eqL p a b = false
 | [], [], h => by simp at h
 | x :: xs, y :: ys, h => by
  have := a0y p (a := xs) (b := ys) (by simpa using h)
  simp [eqL, this]
 | [], _ :: _, _ => rfl
 | _ :: _, [], _ => rfl
@[go_sem] def iT (a b : Int) : Bool := decide (a = b)
@[go_sem] def b3C (a b : TField) : Bool := decide (a.fName = b.fName) && decide (a.fKind = b.fKind)
@[go_sem] def b5d (a b : TAttr) : Bool := decide (a.fName = b.fName) && (decide (a.fValue.fKind = b.fValue.fKind) && (decide (a.fValue.fInt = b.fValue.fInt) && decide (a.fValue.fStr = b.fValue.fStr)))
@[go_sem] def b5e (a b : TNode) : Bool := decide (a.fOp = b.fOp) && (decide (a.fLeft = b.fLeft) && (decide (a.fRight = b.fRight) && (decide (a.fName = b.fName) && (decide (a.fValue.fKind = b.fValue.fKind) && (decide (a.fValue.fInt = b.fValue.fInt) && decide (a.fValue.fStr = b.fValue.fStr))))))
def b5f (a b : TFile) : Bool := decide (a.fID = b.fID) && (decide (a.fOwner = b.fOwner) && ((a.fShared == b.fShared) && (decide (a.fLink = b.fLink) && eqL b5d a.fAttrs b.fAttrs)))
def b3D (a b : TDir) : Bool := decide (a.fName = b.fName) && eqL b5e a.fQuery b.fQuery
def dP (a b : TResult) : Bool := decide (a.fName = b.fName) && eqL iT a.fIDs b.fIDs
def a7U (a b : TStore) : Bool := eqL b3C a.fSchema b.fSchema && (eqL b5f a.fFiles b.fFiles && decide (a.fNextID = b.fNextID))
def b5y (a b : TSnapshot) : Bool := a7U a.fStore b.fStore && eqL b3D a.fDirs b.fDirs
def b6w (a b : TCatalog) : Bool := a7U a.fStore b.fStore && (eqL b3D a.fDirs b.fDirs && eqL dP a.fResults b.fResults)
theorem nC (a b : List Int) (ha : a.length ≤ 4300000) : FnC Tryz.prog 152 [.o (.d (.sl (a.map fD))), .o (.d (.sl (b.map fD)))] (ob (eqL iT a b)) := by
 have hal : a.length ≤ 4300000 := by omega
 refine ent Tryz.func152 rfl Tryz.call152 rfl (fun C => ?_); simp only [go_sem, st0, Tryz.ntmps152]
 refine aG ?_
 refine cnd rfl (fun h0 => ?_) (fun h0 => ?_)
 ·have e : eqL iT a b = false := a0y _ (by simp only [Bool.not_eq_true', decide_eq_false_iff_not] at h0; omega)
  refine aG ?_
  exact aA ⟨⟨_, rfl, by simp only [go_sem, e]⟩, trivial⟩
 have h0 : a.length = b.length := by simpa [Int.ofNat_inj] using h0
 refine aG ?_
 refine aQ (α := Nat) (fun k => [(5, oi k)]) (fun _ => []) (fun k => k ≤ a.length ∧ eqL iT a b = eqL iT (a.drop k) (b.drop k)) (fun k => a.length - k) 0 (fun _ => ?_) ?_ ?_ (fun k hk => ?_)
 ·simp only [go_sem]
 ·simp only [go_sem]; simp
 ·simp
 ·obtain ⟨hk, hq⟩ := hk
  simp only [go_sem]
  refine aG ?_
  refine cnd rfl (fun h => ?_) (fun h => ?_)
  ·simp only [decide_eq_true_eq, Int.ofNat_lt] at h
   have hb : k < b.length := by omega
   rw [List.drop_eq_getElem_cons h, List.drop_eq_getElem_cons hb, eqL] at hq
   have q0 := @h; have q1 := @hb; refine lK ?_
   refine cnd (b := !(iT a[k] b[k])) (by rfl) (fun h2 => ?_) (fun h2 => ?_)
   ·simp only [Bool.not_eq_true'] at h2
    rw [h2, Bool.false_and] at hq
    refine aG ?_
    exact aA ⟨⟨_, rfl, by simp only [go_sem, hq]⟩, trivial⟩
   ·simp only [Bool.not_eq_false'] at h2
    rw [h2, Bool.true_and] at hq
    refine aG ?_
    refine aF (k + 1) ?_ ?_ ?_
    ·simp only [go_sem]; simp
    ·exact ⟨h, hq⟩
    ·omega
  ·simp only [decide_eq_false_iff_not] at h
   have e : k = a.length := by omega
   subst e
   rw [List.drop_length, List.drop_of_length_le (by omega), eqL] at hq
   refine aG ?_
   exact aA ⟨⟨_, rfl, by simp only [go_sem, hq]⟩, trivial⟩
theorem qM (a b : List Int) (ha : a.length ≤ 4300000) : FnC Tryz.prog 170 [.o (.d (.sl (a.map fD))), .o (.d (.sl (b.map fD)))] (ob (eqL iT a b)) := by
 have hal : a.length ≤ 4300000 := by omega
 refine ent Tryz.func170 rfl Tryz.call170 rfl (fun C => ?_); simp only [go_sem, st0, Tryz.ntmps170]
 refine aG ?_
 refine cnd rfl (fun h0 => ?_) (fun h0 => ?_)
 ·have e : eqL iT a b = false := a0y _ (by simp only [Bool.not_eq_true', decide_eq_false_iff_not] at h0; omega)
  refine aG ?_
  exact aA ⟨⟨_, rfl, by simp only [go_sem, e]⟩, trivial⟩
 have h0 : a.length = b.length := by simpa [Int.ofNat_inj] using h0
 refine aG ?_
 refine aQ (α := Nat) (fun k => [(13, oi k)]) (fun _ => []) (fun k => k ≤ a.length ∧ eqL iT a b = eqL iT (a.drop k) (b.drop k)) (fun k => a.length - k) 0 (fun _ => ?_) ?_ ?_ (fun k hk => ?_)
 ·simp only [go_sem]
 ·simp only [go_sem]; simp
 ·simp
 ·obtain ⟨hk, hq⟩ := hk
  simp only [go_sem]
  refine aG ?_
  refine cnd rfl (fun h => ?_) (fun h => ?_)
  ·simp only [decide_eq_true_eq, Int.ofNat_lt] at h
   have hb : k < b.length := by omega
   rw [List.drop_eq_getElem_cons h, List.drop_eq_getElem_cons hb, eqL] at hq
   have q0 := @h; have q1 := @hb; refine lK ?_
   refine cnd (b := !(iT a[k] b[k])) (by rfl) (fun h2 => ?_) (fun h2 => ?_)
   ·simp only [Bool.not_eq_true'] at h2
    rw [h2, Bool.false_and] at hq
    refine aG ?_
    exact aA ⟨⟨_, rfl, by simp only [go_sem, hq]⟩, trivial⟩
   ·simp only [Bool.not_eq_false'] at h2
    rw [h2, Bool.true_and] at hq
    refine aG ?_
    refine aF (k + 1) ?_ ?_ ?_
    ·simp only [go_sem]; simp
    ·exact ⟨h, hq⟩
    ·omega
  ·simp only [decide_eq_false_iff_not] at h
   have e : k = a.length := by omega
   subst e
   rw [List.drop_length, List.drop_of_length_le (by omega), eqL] at hq
   refine aG ?_
   exact aA ⟨⟨_, rfl, by simp only [go_sem, hq]⟩, trivial⟩
theorem xO (a b : List TResult) (ha : aJ a ≤ 4300000) : FnC Tryz.prog 81 [.o (.d (.sl (a.map aK))), .o (.d (.sl (b.map aK)))] (ob (eqL dP a b)) := by
 have hal : a.length ≤ 4300000 := by unfold aJ at ha; omega
 refine ent Tryz.func81 rfl Tryz.call81 rfl (fun C => ?_); simp only [go_sem, st0, Tryz.ntmps81]
 refine aG ?_
 refine cnd rfl (fun h0 => ?_) (fun h0 => ?_)
 ·have e : eqL dP a b = false := a0y _ (by simp only [Bool.not_eq_true', decide_eq_false_iff_not] at h0; omega)
  refine aG ?_
  exact aA ⟨⟨_, rfl, by simp only [go_sem, e]⟩, trivial⟩
 have h0 : a.length = b.length := by simpa [Int.ofNat_inj] using h0
 refine aG ?_
 refine aQ (α := Nat) (fun k => [(5, oi k)]) (fun _ => []) (fun k => k ≤ a.length ∧ eqL dP a b = eqL dP (a.drop k) (b.drop k)) (fun k => a.length - k) 0 (fun _ => ?_) ?_ ?_ (fun k hk => ?_)
 ·simp only [go_sem]
 ·simp only [go_sem]; simp
 ·simp
 ·obtain ⟨hk, hq⟩ := hk
  simp only [go_sem]
  refine aG ?_
  refine cnd rfl (fun h => ?_) (fun h => ?_)
  ·simp only [decide_eq_true_eq, Int.ofNat_lt] at h
   have hb : k < b.length := by omega
   rw [List.drop_eq_getElem_cons h, List.drop_eq_getElem_cons hb, eqL] at hq
   have hw := bB wResult a h
   have hv : a[k].fIDs.length ≤ wResult a[k] := by unfold wResult; omega
   have hx : a[k].fIDs.length ≤ 4300000 := by unfold aJ at ha; omega
   by_cases h1 : a[k].fName = b[k].fName
   case neg =>
    have h2 : dP a[k] b[k] = false := by simp [dP, h1]
    rw [h2, Bool.false_and] at hq
    have q0 := @h; have q1 := @hb; have q2 := @h1; have q3 := @decide_false; refine lX ?_
    exact aA ⟨⟨_, rfl, by simp only [go_sem, hq]⟩, trivial⟩
   have h3 : dP a[k] b[k] = eqL iT a[k].fIDs b[k].fIDs := by simp [dP, h1]
   have q0 := @h; have q1 := @hb; have q2 := @h1; have q3 := @decide_false; refine a0O (nC a[k].fIDs b[k].fIDs hx) ?_
   refine cnd (b := !(dP a[k] b[k])) (by rw [h3]; try rfl) (fun h2 => ?_) (fun h2 => ?_)
   ·simp only [Bool.not_eq_true'] at h2
    rw [h2, Bool.false_and] at hq
    refine aG ?_
    exact aA ⟨⟨_, rfl, by simp only [go_sem, hq]⟩, trivial⟩
   ·simp only [Bool.not_eq_false'] at h2
    rw [h2, Bool.true_and] at hq
    refine aG ?_
    refine aF (k + 1) ?_ ?_ ?_
    ·simp only [go_sem]; simp
    ·exact ⟨h, hq⟩
    ·omega
  ·simp only [decide_eq_false_iff_not] at h
   have e : k = a.length := by omega
   subst e
   rw [List.drop_length, List.drop_of_length_le (by omega), eqL] at hq
   refine aG ?_
   exact aA ⟨⟨_, rfl, by simp only [go_sem, hq]⟩, trivial⟩
theorem wN (x y : TResult) (h : wResult x ≤ 4300000) : FnC Tryz.prog 169 [wZ x, wZ y] (ob (dP x y)) := by
 have hx : x.fIDs.length ≤ 4300000 := by unfold wResult at h; omega
 refine ent Tryz.func169 rfl Tryz.call169 rfl (fun C => ?_); simp only [go_sem, st0, Tryz.ntmps169]
 by_cases h1 : x.fName = y.fName
 case neg =>
  have q0 := @h1; have q1 := @decide_false; refine lK ?_
  exact aA ⟨⟨_, rfl, by simp only [go_sem, dP, h1, decide_false, Bool.false_and]⟩, trivial⟩
 have q0 := @h1; have q1 := @decide_false; refine mR (qM x.fIDs y.fIDs hx) ?_
 exact aA ⟨⟨_, rfl, by simp only [go_sem, dP, h1, Bool.true_and]⟩, trivial⟩
theorem a1d (a b : List TResult) (ha : aJ a ≤ 4300000) : FnC Tryz.prog 168 [.o (.d (.sl (a.map aK))), .o (.d (.sl (b.map aK))), .o (.f 169 [])] (ob (eqL dP a b)) := by
 have hal : a.length ≤ 4300000 := by unfold aJ at ha; omega
 refine ent Tryz.func168 rfl Tryz.call168 rfl (fun C => ?_); simp only [go_sem, st0, Tryz.ntmps168]
 refine aG ?_
 refine cnd rfl (fun h0 => ?_) (fun h0 => ?_)
 ·have e : eqL dP a b = false := a0y _ (by simp only [Bool.not_eq_true', decide_eq_false_iff_not] at h0; omega)
  refine aG ?_
  exact aA ⟨⟨_, rfl, by simp only [go_sem, e]⟩, trivial⟩
 have h0 : a.length = b.length := by simpa [Int.ofNat_inj] using h0
 refine aG ?_
 refine aQ (α := Nat) (fun k => [(17, oi k)]) (fun _ => []) (fun k => k ≤ a.length ∧ eqL dP a b = eqL dP (a.drop k) (b.drop k)) (fun k => a.length - k) 0 (fun _ => ?_) ?_ ?_ (fun k hk => ?_)
 ·simp only [go_sem]
 ·simp only [go_sem]; simp
 ·simp
 ·obtain ⟨hk, hq⟩ := hk
  simp only [go_sem]
  refine aG ?_
  refine cnd rfl (fun h => ?_) (fun h => ?_)
  ·simp only [decide_eq_true_eq, Int.ofNat_lt] at h
   have hb : k < b.length := by omega
   rw [List.drop_eq_getElem_cons h, List.drop_eq_getElem_cons hb, eqL] at hq
   have q0 := @h; have q1 := @hb; refine mR (wN a[k] b[k] (by have := bB wResult a h; unfold aJ at ha; omega)) ?_
   refine cnd (b := !(dP a[k] b[k])) (by rfl) (fun h2 => ?_) (fun h2 => ?_)
   ·simp only [Bool.not_eq_true'] at h2
    rw [h2, Bool.false_and] at hq
    refine aG ?_
    exact aA ⟨⟨_, rfl, by simp only [go_sem, hq]⟩, trivial⟩
   ·simp only [Bool.not_eq_false'] at h2
    rw [h2, Bool.true_and] at hq
    refine aG ?_
    refine aF (k + 1) ?_ ?_ ?_
    ·simp only [go_sem]; simp
    ·exact ⟨h, hq⟩
    ·omega
  ·simp only [decide_eq_false_iff_not] at h
   have e : k = a.length := by omega
   subst e
   rw [List.drop_length, List.drop_of_length_le (by omega), eqL] at hq
   refine aG ?_
   exact aA ⟨⟨_, rfl, by simp only [go_sem, hq]⟩, trivial⟩
theorem xP (a b : List TResult) (ha : aJ a ≤ 4300000) : FnC Tryz.prog 98 [.o (.d (.sl (a.map aK))), .o (.d (.sl (b.map aK)))] (ob (eqL dP a b)) := by
 refine ent Tryz.func98 rfl Tryz.call98 rfl (fun C => ?_); simp only [go_sem, st0, Tryz.ntmps98]
 refine fQ (a1d a b ha) ?_
 exact aA ⟨⟨_, rfl, by simp only [go_sem]⟩, trivial⟩
end Go.Proofs.YteaaopodnbjpoaaGreat
end
section
set_option maxRecDepth 100000
set_option maxHeartbeats 4000000
namespace Go.Proofs.YteaaopodnbjpoaaGreat
open Go Go.Sx Go.RowKit Go.Proofs
def qI (d : List TDir) (L : List Nat) : Nat := (a0q L + 1).toNat
noncomputable def evX (s : TStore) (d : List TDir) (r : List TResult) (ns : List ByteArray) : List TResult × Nat := if kR d && bP s then allE s.fFiles d (resL d) ns (s.fFiles.length + aJ r) r (qI d (resL d)) else ([], 0)
noncomputable def evB (s : TStore) (d : List TDir) : Bool := kR d && bP s
theorem rW {d : List TDir} (h : kR d = true) : bF d = true ∧ Least d.length (EE d) (resL d) := by
 unfold kR at h
 split at h
 ·rename_i hv
  refine ⟨hv, ?_⟩
  unfold a1G at h
  split at h
  ·rename_i hx
   have hex : ∃ L, Least d.length (EE d) L := by
    have hends := a5b (sD d) (gQ d) (fun x => Iff.rfl) (d.length * d.length + 2) (by omega)
    simp only at hends
    split at hends
    ·exact ⟨_, hends⟩
    ·exact (hends hx).elim
   obtain ⟨L, hL⟩ := hex
   have e : resL d = L := by unfold resL; rw [if_pos hv]; exact a6m hL
   rw [e]; exact hL
  ·cases h
 ·cases h
theorem a1z {d : List TDir} (h : bF d = true) (i : Nat) (hi : i < d.length) : d[i].fName.size ≤ 6 := by
 unfold bF at h
 simp only [Bool.and_eq_true, List.all_eq_true, List.mem_range] at h
 have := h.1 i hi
 unfold jB at this
 rw [List.getElem?_eq_getElem hi] at this
 simp only [Bool.and_eq_true] at this
 have := b1A this.1
 omega
theorem mW {s : TStore} (h : bP s = true) : s.fFiles.length ≤ 12 := by
 unfold bP at h
 simp only [Bool.and_eq_true, decide_eq_true_eq] at h
 omega
theorem yQ {α : Type} (w : α → Nat) (c : Nat) : ∀ l : List α, (∀ i, (h : i < l.length) → w l[i] ≤ c) → wsum w l ≤ l.length * c
 | [], _ => by simp [wsum]
 | x :: l, h => by
  have h0 := h 0 (by simp)
  have h1 := yQ w c l fun i hi => h (i + 1) (by simpa using hi)
  simp only [List.getElem_cons_zero] at h0
  simp only [wsum, List.length_cons, Nat.succ_mul]
  omega
theorem Ev.get {fs : List TFile} {d : List TDir} {L : List Nat} {ns : List ByteArray} {c k : Nat} {R : List TResult} (h : Ev fs d L ns c k R) (i : Nat) (hi : i < d.length) : (R[i]'(by rw [h.len]; exact hi)).fName = d[i].fName ∧ (R[i]'(by rw [h.len]; exact hi)).fIDs = eP R i := by
 have hlen := h.len
 have hR : i < R.length := by omega
 refine ⟨?_, ?_⟩
 ·have := congrArg (fun l : List ByteArray => l[i]?) h.nm
  simp only [List.getElem?_map] at this
  rw [List.getElem?_eq_getElem hR, List.getElem?_eq_getElem hi] at this
  simpa using this
 ·simp [eP, List.getD_eq_getElem?_getD, hR]
theorem Ev.w {fs : List TFile} {d : List TDir} {L : List Nat} {ns : List ByteArray} {c k : Nat} {R : List TResult} (h : Ev fs d L ns c k R) (hv : bF d = true) (hc : c ≤ 4300012) : aJ R ≤ 67108864 := by
 have hlen := h.len
 have h5 := jO hv
 have hb := yQ wResult 4300018 R fun i hi => by
  obtain ⟨e1, e2⟩ := h.get i (by omega)
  have h1 := a1z hv i (by omega)
  have h2 := h.bd i
  unfold wResult
  rw [e1, e2]
  omega
 unfold aJ
 have : R.length * 4300018 ≤ 5 * 4300018 := Nat.mul_le_mul_right _ (by omega)
 omega
theorem b3o (R : List TResult) (i : Nat) (nm : ByteArray) (l : List Int) : (R.map aK).set i [sv nm, .sl (l.map fD)] = (R.set i ⟨nm, l⟩).map aK := by rw [List.map_set]; rfl
theorem xB (a b : List Int) : eqL iT a b = decide (a = b) := by
 induction a generalizing b with
 | nil => cases b <;> simp [eqL]
 | cons x a ih =>
  cases b with
  | nil => simp [eqL]
  | cons y b =>
   simp only [eqL, ih, iT]
   by_cases h1 : x = y <;> by_cases h2 : a = b <;> simp [h1, h2]
theorem wI (ns : List ByteArray) (r : List TResult) (d : List TDir) (k : Nat) (h : k < d.length) : fZ ns r (d.take (k + 1)) = fZ ns r (d.take k) ++ [⟨d[k].fName, if hasS ns d[k].fName then [] else aS d[k].fName r⟩] := by
 unfold fZ; rw [List.take_succ_eq_append_getElem h, List.map_append]; rfl
theorem yR (ns : List ByteArray) (r : List TResult) (d : List TDir) (k : Nat) : (fZ ns r (d.take k)).length ≤ k := by unfold fZ; simp; omega
theorem b4V (d : List TDir) (k : Nat) (h : k < d.length) : hasS (dirNs d) d[k].fName = true := by
 rw [jS]
 exact List.mem_map.2 ⟨d[k], List.getElem_mem h, rfl⟩
def chB (fs : List TFile) (d : List TDir) (L : List Nat) (ns : List ByteArray) (k i : Nat) (R : List TResult) : Bool := decide (iU R < iU (passT fs d L ns k i R))
theorem b4W (l : List Nat) (m : Int) : m ≤ wJ l m := by
 induction l generalizing m with
 | nil => simp [wJ]
 | cons x l ih =>
  simp only [wJ]
  split
  ·have := ih (x : Int); omega
  ·exact ih m
theorem b4X (l : List Nat) (m c : Int) (hm : m ≤ c) (h : ∀ x ∈ l, (x : Int) ≤ c) : wJ l m ≤ c := by
 induction l generalizing m with
 | nil => exact hm
 | cons x l ih =>
  simp only [wJ]
  refine ih _ ?_ fun y hy => h y (List.mem_cons_of_mem _ hy)
  split
  ·exact h x (by simp)
  ·exact hm
theorem a9j {d : List TDir} {L : List Nat} (h : Least d.length (EE d) L) : a0q L ≤ (d.length : Int) := by
 obtain ⟨G, hG, hs⟩ := a1a (sD d) h.clo
 refine b4X L (-1) _ (by omega) fun x hx => ?_
 obtain ⟨i, hi, rfl⟩ := List.mem_iff_getElem.1 hx
 have h1 := h.le G hG i
 have h2 := hs i (by rw [← h.clo.len]; exact hi)
 rw [qJ L i hi]
 omega
theorem a4U (fs : List TFile) (d : List TDir) (L : List Nat) (ns : List ByteArray) (k : Nat) : ∀ (F : Nat) (x : List TResult × Nat), (xV fs d L ns k F x).2 ≤ x.2 + F
 | 0, x => by simp [xV]
 | F + 1, x => by
  unfold xV
  split
  ·have := a4U fs d L ns k F (passT fs d L ns k d.length x.1, x.2 + 1)
   simp only at this
   omega
  ·simp only; omega
theorem a0p (fs : List TFile) (d : List TDir) (L : List Nat) (ns : List ByteArray) (c : Nat) (r : List TResult) : ∀ k, (allE fs d L ns c r k).2 ≤ k * (d.length * c + 1)
 | 0 => by simp [allE]
 | k + 1 => by
  have h1 := a0p fs d L ns c r k
  have h2 := a4U fs d L ns k (d.length * c + 1) (allE fs d L ns c r k)
  simp only [allE, Nat.succ_mul]
  omega
theorem rX (d : List TDir) (L : List Nat) (k : Nat) : (k : Int) ≤ a0q L ↔ k < qI d L := by
 have : -1 ≤ a0q L := b4W L (-1)
 unfold qI
 omega
theorem a3o {fs : List TFile} {d : List TDir} {L : List Nat} {ns : List ByteArray} {k i : Nat} {R : List TResult} (h : passT fs d L ns k (i + 1) R = passT fs d L ns k i R) : chB fs d L ns k (i + 1) R = chB fs d L ns k i R := by unfold chB; rw [h]
theorem a4V (s : TStore) (d : List TDir) (r : List TResult) (ns : List ByteArray) (hs : aM s ≤ 4300000) (hd : aU d ≤ 4300000) (hr : aJ r ≤ 4300000) (hns : ns.length ≤ 4300000) : FnC Tryz.prog 166 [dH s, .o (.d (.sl (d.map aL))), .o (.d (.sl (r.map aK))), .o (.d (.sl (ns.map bU)))] (.t [(false, [.w 141 2 ((evX s d r ns).1.map aK)]), (false, [.d (iv ((evX s d r ns).2 : Nat))]), (false, [.d (bv (evB s d))])]) := by
 have hd0 : d.length + wsum wDir d ≤ 4300000 := hd
 have hs0 : aT s.fSchema + (s.fFiles.length + wsum wFile s.fFiles) ≤ 4300000 := hs
 refine ent Tryz.func166 rfl Tryz.call166 rfl (fun C => ?_); simp only [go_sem, st0, Tryz.ntmps166]
 cases hb : kR d
 ·have e1 : evX s d r ns = ([], 0) := by simp [evX, hb]
  have e2 : evB s d = false := by simp [evB, hb]
  have q0 := @hb; refine fC (iE d hd) ?_
  exact aA ⟨⟨_, rfl, by simp only [go_sem, e1, e2, List.map_nil]; simp⟩, by simp [aH]⟩
 cases hst : bP s
 ·have e1 : evX s d r ns = ([], 0) := by simp [evX, hst]
  have e2 : evB s d = false := by simp [evB, hst]
  have q0 := @hb; have q1 := @hst; refine yK (iE d hd) (dX s hs) ?_
  exact aA ⟨⟨_, rfl, by simp only [go_sem, e1, e2, List.map_nil]; simp⟩, by simp [aH]⟩
 obtain ⟨hv, hleast⟩ := rW hb
 have hclo := hleast.clo
 have hvq := fun i (hi : i < d.length) => kX hv i hi
 have h5 := jO hv
 have h12 := mW hst
 have hLl := hclo.len
 obtain ⟨CC, hCC⟩ : ∃ c, s.fFiles.length + aJ r = c := ⟨_, rfl⟩
 have hC2 : CC ≤ 4300012 := by omega
 have e1 : evX s d r ns = allE s.fFiles d (resL d) ns CC r (qI d (resL d)) := by simp [evX, hb, hst, hCC]
 have e2 : evB s d = true := by simp [evB, hb, hst]
 have q0 := @hb; have q1 := @hst; refine yK (iE d hd) (dX s hs) ?_
 refine aQ (α := Nat) (fun k => [(13, .o (.s 2)), (35, .o .u), (38, oi k)]) (fun k => [(2, .row 141 2 ((fZ ns r (d.take k)).map aK) true)]) (fun k => k ≤ d.length) (fun k => d.length - k) 0 (fun _ => ?_) ?_ ?_ (fun k hk => ?_)
 ·simp only [go_sem]
 ·simp only [go_sem]; simp [fZ]
 ·simp
 ·simp only [go_sem]
  refine aG ?_
  refine cnd rfl (fun h => ?_) (fun h => ?_)
  ·simp only [decide_eq_true_eq, Int.ofNat_lt] at h
   have hsl := yR ns r d k
   have hl1 : (fZ ns r (d.take k)).length + 1 ≤ 140737488355328 := by omega
   have hl2 : ((fZ ns r (d.take k)).length + 1) * 40 ≤ 140737488355328 := by omega
   have hsu := wI ns r d k h
   cases hn : hasS ns d[k].fName
   ·rw [hn] at hsu
    have q0 := @h; have q1 := @hn; have q2 := @hl1; have q3 := @hl2; refine yL (eO ns d[k].fName hns) (mK r d[k].fName (by omega)) ?_
    refine aF (k + 1) ?_ ?_ ?_
    ·simp only [go_sem, hsu, List.map_append]; simp [aK]
    ·omega
    ·omega
   ·rw [hn] at hsu
    have q0 := @h; have q1 := @hn; have q2 := @hl1; have q3 := @hl2; refine a0O (eO ns d[k].fName hns) ?_
    refine aF (k + 1) ?_ ?_ ?_
    ·simp only [go_sem, hsu, List.map_append]; simp [aK]
    ·omega
    ·omega
  ·simp only [decide_eq_false_iff_not] at h
   have e : k = d.length := by omega
   subst e
   rw [List.take_length]
   generalize hL : resL d = L at *
   refine aG ?_
   refine aQ (α := Nat) (fun k => [(17, oi ((allE s.fFiles d L ns CC r k).2 : Nat)), (18, oi k)]) (fun k => [(2, .row 141 2 ((allE s.fFiles d L ns CC r k).1.map aK) true)]) (fun k => k ≤ qI d L) (fun k => qI d L - k) 0 (fun _ => ?_) ?_ ?_ (fun k hk => ?_)
   ·simp only [go_sem]
   ·simp only [go_sem]; simp [allE]
   ·simp
   ·simp only [go_sem]
    have q0 := @hL; refine fC (a9k d hd (by rw [hL]; omega)) ?_
    refine cnd rfl (fun hlev => ?_) (fun hlev => ?_)
    ·simp only [decide_eq_true_eq] at hlev
     have hkK := (rX d L k).1 hlev
     have hev := xG (fs := s.fFiles) (ns := ns) (r := r) hvq hclo k
     rw [hCC] at hev
     have htop := a9j hleast
     have hcnt := a0p s.fFiles d L ns CC r k
     have hnm : d.length * CC ≤ 5 * 4300012 := Nat.mul_le_mul h5 hC2
     have hcnt2 : k * (d.length * CC + 1) ≤ 5 * 21500061 := Nat.mul_le_mul (by omega) (by omega)
     have hround : Round s.fFiles d L ns CC k (allE s.fFiles d L ns CC r (k + 1)) ((allE s.fFiles d L ns CC r k).1, (allE s.fFiles d L ns CC r k).2, true) := Round.start hev
     generalize hT : allE s.fFiles d L ns CC r (k + 1) = T at *
     generalize allE s.fFiles d L ns CC r k = X at *
     refine aG ?_
     refine aQ (α := List TResult × Nat × Bool) (fun x => [(17, oi (x.2.1 : Nat)), (19, ob x.2.2)]) (fun x => [(2, .row 141 2 (x.1.map aK) true)]) (fun x => Round s.fFiles d L ns CC k T (x.1, x.2.1, x.2.2) ∧ x.2.1 ≤ X.2 + iU x.1 + (if x.2.2 then 0 else 1)) (fun x => if x.2.2 then d.length * CC + 1 - iU x.1 else 0) (X.1, X.2, true) (fun _ => ?_) ?_ ?_ (fun x hx => ?_)
     ·simp only [go_sem]
     ·simp only [go_sem]; simp
     ·exact ⟨hround, by simp⟩
     ·obtain ⟨R, c, b⟩ := x
      obtain ⟨hx, hcb⟩ := hx
      simp only at hcb
      simp only [go_sem]
      refine aG ?_
      refine cnd rfl (fun hbt => ?_) (fun hbt => ?_)
      ·subst hbt
       have hRe : Ev s.fFiles d L ns CC k R := hx.ev
       have hRt := hRe.tot
       simp only [if_true, Nat.add_zero] at hcb
       have hcI : c ≤ 1000000000 := by omega
       have hpass := hx.pass hvq hclo
       refine aG ?_
       refine aQ (α := Nat) (fun i => [(19, ob (chB s.fFiles d L ns k i R)), (71, oi i)]) (fun i => [(2, .row 141 2 ((passT s.fFiles d L ns k i R).map aK) true)]) (fun i => i ≤ d.length) (fun i => d.length - i) 0 (fun _ => ?_) ?_ ?_ (fun i hi => ?_)
       ·simp only [go_sem]
       ·simp only [go_sem]; simp [chB, passT]
       ·simp
       ·simp only [go_sem]
        refine aG ?_
        refine cnd rfl (fun h => ?_) (fun h => ?_)
        ·simp only [decide_eq_true_eq, Int.ofNat_lt] at h
         have hEv := kK hvq hclo i R (by omega) hRe
         have hcs := jT hvq hclo i R (by omega) hRe
         have hsu := oV s.fFiles d L ns k i R h
         have hchk : passT s.fFiles d L ns k (i + 1) R = passT s.fFiles d L ns k i R → chB s.fFiles d L ns k (i + 1) R = chB s.fFiles d L ns k i R := a3o
         have hchn : iU R < iU (passT s.fFiles d L ns k (i + 1) R) → chB s.fFiles d L ns k (i + 1) R = true := fun hx => by unfold chB; exact decide_eq_true hx
         have hw := hEv.w hv hC2
         obtain ⟨g1, g2⟩ := hEv.get i h
         have hPl := hEv.len
         have hbd := hEv.bd i
         have hwd := bB wDir d h
         have hwq : bS d[i].fQuery ≤ wDir d[i] := by unfold wDir; omega
         have hgrow := fun hin hik hne => hEv.grow h hin hik hne
         have hsame := fun he => xF hEv h he
         generalize passT s.fFiles d L ns k i R = P at *
         generalize hP2 : passT s.fFiles d L ns k (i + 1) R = P2 at *
         have hiP : i < P.length := by omega
         have hiL : i < L.length := by omega
         have hg := qJ L i hiL
         have hsl := a0w s.fFiles d[i].fQuery P
         by_cases hik : lv L i = k
         ·have hkI : ((lv L i : Nat) : Int) = ((k : Nat) : Int) := by omega
          cases hn : hasS ns d[i].fName
          ·rw [if_neg (fun h => by rw [hn] at h; cases h.2)] at hsu
           have q0 := @h; have q1 := @hiP; have q2 := @hiL; have q3 := @hg; have q4 := @hkI; have q5 := @hn; have q6 := @decide_true; have q7 := @decide_false; refine a1S (eO ns d[i].fName hns) ?_
           refine aF (i + 1) ?_ ?_ ?_
           ·simp only [go_sem, hP2, hchk hsu, hsu]; simp
           ·omega
           ·omega
          ·rw [if_pos ⟨hik, hn⟩] at hsu
           by_cases he : kL s.fFiles d[i].fQuery P = eP P i
           ·have hE : eqL iT (kL s.fFiles d[i].fQuery P) (eP P i) = true := by rw [xB]; exact decide_eq_true he
            have hPP : P2 = P := by rw [hsu, hsame he]
            have qH := aI @h (aI @hiP (aI @hiL (aI @hg (aI @hkI (aI @g1 (aI @g2 (aI @hE (aI @hn (aI @decide_true @decide_false))))))))); repeat' (with_reducible first | refine nY ?_ | (refine mX ?_; try simp only [go_sem, qH]) | refine kD ?_ | refine rD ?_ | refine cP (eO ns d[i].fName hns) ?_ | refine vR (a0r s d[i].fQuery P hs (by omega) hw) ?_ | refine vD (a0r s d[i].fQuery P hs (by omega) hw) ?_ | refine vL (qM (kL s.fFiles d[i].fQuery P) (eP P i) (by omega)) ?_ | refine aO ?_ | fail)
            refine aF (i + 1) ?_ ?_ ?_
            ·simp only [go_sem, hP2, hchk hPP, hPP]; simp
            ·omega
            ·omega
           ·have hE : eqL iT (kL s.fFiles d[i].fQuery P) (eP P i) = false := by rw [xB]; exact decide_eq_false he
            have hlt := hgrow hn hik he
            have hch2 : chB s.fFiles d L ns k (i + 1) R = true := hchn (by
             rw [hsu]
             rcases hcs with e | e
             ·rw [← e]; exact hlt
             ·omega)
            have qH := aI @h (aI @hiP (aI @hiL (aI @hg (aI @hkI (aI @g1 (aI @g2 (aI @hE (aI @hn (aI @decide_true @decide_false))))))))); repeat' (with_reducible first | refine nY ?_ | (refine mX ?_; try simp only [go_sem, qH]) | refine kD ?_ | refine rD ?_ | refine cP (eO ns d[i].fName hns) ?_ | refine vR (a0r s d[i].fQuery P hs (by omega) hw) ?_ | refine vD (a0r s d[i].fQuery P hs (by omega) hw) ?_ | refine vL (qM (kL s.fFiles d[i].fQuery P) (eP P i) (by omega)) ?_ | refine aO ?_ | fail)
            refine aF (i + 1) ?_ ?_ ?_
            ·simp only [go_sem, hP2, hch2, hsu, wM, ← b3o]; simp
            ·omega
            ·omega
         ·rw [if_neg (fun h => hik h.1)] at hsu
          have hkI : ¬ ((lv L i : Nat) : Int) = ((k : Nat) : Int) := by omega
          have q0 := @h; have q1 := @hiP; have q2 := @hiL; have q3 := @hg; have q4 := @hkI; have q5 := @decide_true; have q6 := @decide_false; refine a5M ?_
          refine aF (i + 1) ?_ ?_ ?_
          ·simp only [go_sem, hP2, hchk hsu, hsu]; simp
          ·omega
          ·omega
        ·simp only [decide_eq_false_iff_not] at h
         have e : i = d.length := by omega
         subst e
         have hPe := kK hvq hclo d.length R (Nat.le_refl _) hRe
         have hPt := hPe.tot
         refine aG ?_
         refine aF (passT s.fFiles d L ns k d.length R, c + 1, chB s.fFiles d L ns k d.length R) ?_ ?_ ?_
         ·simp only [go_sem]; simp
         ·refine ⟨hpass, ?_⟩
          simp only
          have hpc := jT hvq hclo d.length R (Nat.le_refl _) hRe
          cases hcb2 : chB s.fFiles d L ns k d.length R with
          | false =>
           have h9 : iU R ≤ iU (passT s.fFiles d L ns k d.length R) := by
            rcases hpc with e | e
            ·rw [e]; exact Nat.le_refl _
            ·omega
           simp only [Bool.false_eq_true, if_false]; omega
          | true =>
           have := of_decide_eq_true hcb2
           simp only [if_true]; omega
         ·simp only [if_true]
          cases hcb3 : chB s.fFiles d L ns k d.length R with
          | false => simp only [Bool.false_eq_true, if_false]; omega
          | true =>
           have := of_decide_eq_true hcb3
           simp only [if_true]; omega
      ·subst hbt
       have hTe := hx.fin rfl
       simp only at hTe
       refine aG ?_
       refine aF (k + 1) ?_ ?_ ?_
       ·simp only [go_sem, hT, hTe]; simp
       ·omega
       ·omega
    ·simp only [decide_eq_false_iff_not] at hlev
     have hkK : ¬ k < qI d L := fun h => hlev ((rX d L k).2 h)
     have e : k = qI d L := by omega
     subst e
     refine aG ?_
     exact aA ⟨⟨_, rfl, by simp only [go_sem, e1, e2]; try simp⟩, by simp [aH]⟩
end Go.Proofs.YteaaopodnbjpoaaGreat
end
section
set_option maxRecDepth 100000
set_option maxHeartbeats 4000000
namespace Go.Proofs.YteaaopodnbjpoaaGreat
open Go Go.Sx Go.RowKit Go.Proofs
theorem a7D (s : TStore) (d : List TDir) (r : List TResult) (ns : List ByteArray) (hs : aM s ≤ 4300000) (hd : aU d ≤ 4300000) (hr : aJ r ≤ 4300000) (hns : ns.length ≤ 4300000) : FnC Tryz.prog 218 [dH s, .o (.d (.sl (d.map aL))), .o (.d (.sl (r.map aK))), .o (.d (.sl (ns.map bU)))] (.t [(false, [.d (.sl ((evX s d r ns).1.map aK))]), (false, [.d (bv (evB s d))])]) := by
 have hd0 : d.length + wsum wDir d ≤ 4300000 := hd
 have hs0 : aT s.fSchema + (s.fFiles.length + wsum wFile s.fFiles) ≤ 4300000 := hs
 refine ent Tryz.func218 rfl Tryz.call218 rfl (fun C => ?_); simp only [go_sem, st0, Tryz.ntmps218]
 cases hb : kR d
 ·have e1 : evX s d r ns = ([], 0) := by simp [evX, hb]
  have e2 : evB s d = false := by simp [evB, hb]
  have q0 := @hb; refine fC (gF d hd) ?_
  refine aC (Sees.frz 1 rfl) ?_
  simp only [go_sem]
  exact aA ⟨⟨_, rfl, by simp only [go_sem, e1, e2, List.map_nil]; try simp⟩, by simp [aH]⟩
 cases hst : bP s
 ·have e1 : evX s d r ns = ([], 0) := by simp [evX, hst]
  have e2 : evB s d = false := by simp [evB, hst]
  have q0 := @hb; have q1 := @hst; refine yK (gF d hd) (bG s hs) ?_
  refine aC (Sees.frz 1 rfl) ?_
  simp only [go_sem]
  exact aA ⟨⟨_, rfl, by simp only [go_sem, e1, e2, List.map_nil]; try simp⟩, by simp [aH]⟩
 obtain ⟨hv, hleast⟩ := rW hb
 have hclo := hleast.clo
 have hvq := fun i (hi : i < d.length) => kX hv i hi
 have h5 := jO hv
 have h12 := mW hst
 have hLl := hclo.len
 obtain ⟨CC, hCC⟩ : ∃ c, s.fFiles.length + aJ r = c := ⟨_, rfl⟩
 have hC2 : CC ≤ 4300012 := by omega
 have e1 : evX s d r ns = allE s.fFiles d (resL d) ns CC r (qI d (resL d)) := by simp [evX, hb, hst, hCC]
 have e2 : evB s d = true := by simp [evB, hb, hst]
 have q0 := @hb; have q1 := @hst; refine yK (gF d hd) (bG s hs) ?_
 refine a8Q 1 rfl ?_
 simp only [go_sem]
 refine aQ (α := Nat) (fun k => [(12, .o (.s 1)), (32, .o .u), (13, oi k)]) (fun k => [(1, .row 141 2 ((fZ ns r (d.take k)).map aK) false)]) (fun k => k ≤ d.length) (fun k => d.length - k) 0 (fun _ => ?_) ?_ ?_ (fun k hk => ?_)
 ·simp only [go_sem]
 ·simp only [go_sem]; simp [fZ]
 ·simp
 ·simp only [go_sem]
  refine aG ?_
  refine cnd rfl (fun h => ?_) (fun h => ?_)
  ·simp only [decide_eq_true_eq, Int.ofNat_lt] at h
   have hsl := yR ns r d k
   have hl1 : (fZ ns r (d.take k)).length + 1 ≤ 140737488355328 := by omega
   have hl2 : ((fZ ns r (d.take k)).length + 1) * 40 ≤ 140737488355328 := by omega
   have hsu := wI ns r d k h
   cases hn : hasS ns d[k].fName
   ·rw [hn] at hsu
    have qH := aI @h (aI @hn (aI @hl1 @hl2)); repeat' (with_reducible first | refine nY ?_ | (refine mX ?_; try simp only [go_sem, qH]) | refine kD ?_ | (apply rE [11,13,14] [] [0,1,2,3,4,5,6,7,8,9,10] [0,1,2,3,4,5,6,7,8,9,10] ((.c 11 [12] [0,1,2,3,4,12] (.c 13 [] [0,1,2,3,4,12] (.c 14 [] [] .n .n) .n) (.c 13 [] [0,1,2,3,4,5,6,7,8,9,10] (.c 11 [12] [0,1,2,3,4,12] (.c 14 [] [] .n .n) .n) .n))) (by simp only [go_sem]; rfl) (by simp only [go_sem]; rfl) (by simp only [go_sem]; rfl) (by decide +kernel); (focus simp only [go_sem]; done)) | exact dW | refine cO (uX ?_) ?_ | refine cZ (aX ?_) ?_ | refine dA (aX ?_) ?_ | exact cK | exact oH | exact uB | refine rD ?_ | refine cP (gU ns d[k].fName hns) ?_ | refine cP (jM r d[k].fName (by omega)) ?_ | refine aO ?_ | fail)
    refine aF (k + 1) ?_ ?_ ?_
    ·simp only [go_sem, hsu, List.map_append]; simp [aK]
    ·omega
    ·omega
   ·rw [hn] at hsu
    have qH := aI @h (aI @hn (aI @hl1 @hl2)); repeat' (with_reducible first | refine nY ?_ | (refine mX ?_; try simp only [go_sem, qH]) | refine kD ?_ | (apply rE [11,13,14] [] [0,1,2,3,4,5,6,7,8,9,10] [0,1,2,3,4,5,6,7,8,9,10] ((.c 11 [12] [0,1,2,3,4,12] (.c 13 [] [0,1,2,3,4,12] (.c 14 [] [] .n .n) .n) (.c 13 [] [0,1,2,3,4,5,6,7,8,9,10] (.c 11 [12] [0,1,2,3,4,12] (.c 14 [] [] .n .n) .n) .n))) (by simp only [go_sem]; rfl) (by simp only [go_sem]; rfl) (by simp only [go_sem]; rfl) (by decide +kernel); (focus simp only [go_sem]; done)) | exact dW | refine cO (uX ?_) ?_ | refine cZ (aX ?_) ?_ | refine dA (aX ?_) ?_ | exact cK | exact oH | exact uB | refine rD ?_ | refine cP (gU ns d[k].fName hns) ?_ | refine cP (jM r d[k].fName (by omega)) ?_ | refine aO ?_ | fail)
    refine aF (k + 1) ?_ ?_ ?_
    ·simp only [go_sem, hsu, List.map_append]; simp [aK]
    ·omega
    ·omega
  ·simp only [decide_eq_false_iff_not] at h
   have e : k = d.length := by omega
   subst e
   rw [List.take_length]
   generalize hL : resL d = L at *
   refine aG ?_
   refine aQ (α := Nat) (fun k => [(15, oi k)]) (fun k => [(1, .row 141 2 ((allE s.fFiles d L ns CC r k).1.map aK) false)]) (fun k => k ≤ qI d L) (fun k => qI d L - k) 0 (fun _ => ?_) ?_ ?_ (fun k hk => ?_)
   ·simp only [go_sem]
   ·simp only [go_sem]; simp [allE]
   ·simp
   ·simp only [go_sem]
    have q0 := @hL; refine fC (a3p d hd (by rw [hL]; omega)) ?_
    refine cnd rfl (fun hlev => ?_) (fun hlev => ?_)
    ·simp only [decide_eq_true_eq] at hlev
     have hkK := (rX d L k).1 hlev
     have hev := xG (fs := s.fFiles) (ns := ns) (r := r) hvq hclo k
     rw [hCC] at hev
     have htop := a9j hleast
     have hcnt := a0p s.fFiles d L ns CC r k
     have hnm : d.length * CC ≤ 5 * 4300012 := Nat.mul_le_mul h5 hC2
     have hcnt2 : k * (d.length * CC + 1) ≤ 5 * 21500061 := Nat.mul_le_mul (by omega) (by omega)
     have hround : Round s.fFiles d L ns CC k (allE s.fFiles d L ns CC r (k + 1)) ((allE s.fFiles d L ns CC r k).1, (allE s.fFiles d L ns CC r k).2, true) := Round.start hev
     generalize hT : allE s.fFiles d L ns CC r (k + 1) = T at *
     generalize allE s.fFiles d L ns CC r k = X at *
     refine aG ?_
     refine aQ (α := List TResult × Nat × Bool) (fun x => [(16, ob x.2.2)]) (fun x => [(1, .row 141 2 (x.1.map aK) false)]) (fun x => Round s.fFiles d L ns CC k T (x.1, x.2.1, x.2.2) ∧ x.2.1 ≤ X.2 + iU x.1 + (if x.2.2 then 0 else 1)) (fun x => if x.2.2 then d.length * CC + 1 - iU x.1 else 0) (X.1, X.2, true) (fun _ => ?_) ?_ ?_ (fun x hx => ?_)
     ·simp only [go_sem]
     ·simp only [go_sem]; simp
     ·exact ⟨hround, by simp⟩
     ·obtain ⟨R, c, b⟩ := x
      obtain ⟨hx, hcb⟩ := hx
      simp only at hcb
      simp only [go_sem]
      refine aG ?_
      refine cnd rfl (fun hbt => ?_) (fun hbt => ?_)
      ·subst hbt
       have hRe : Ev s.fFiles d L ns CC k R := hx.ev
       have hRt := hRe.tot
       simp only [if_true, Nat.add_zero] at hcb
       have hcI : c ≤ 1000000000 := by omega
       have hpass := hx.pass hvq hclo
       refine aG ?_
       refine aQ (α := Nat) (fun i => [(16, ob (chB s.fFiles d L ns k i R)), (17, oi i)]) (fun i => [(1, .row 141 2 ((passT s.fFiles d L ns k i R).map aK) false)]) (fun i => i ≤ d.length) (fun i => d.length - i) 0 (fun _ => ?_) ?_ ?_ (fun i hi => ?_)
       ·simp only [go_sem]
       ·simp only [go_sem]; simp [chB, passT]
       ·simp
       ·simp only [go_sem]
        refine aG ?_
        refine cnd rfl (fun h => ?_) (fun h => ?_)
        ·simp only [decide_eq_true_eq, Int.ofNat_lt] at h
         have hEv := kK hvq hclo i R (by omega) hRe
         have hcs := jT hvq hclo i R (by omega) hRe
         have hsu := oV s.fFiles d L ns k i R h
         have hchk : passT s.fFiles d L ns k (i + 1) R = passT s.fFiles d L ns k i R → chB s.fFiles d L ns k (i + 1) R = chB s.fFiles d L ns k i R := a3o
         have hchn : iU R < iU (passT s.fFiles d L ns k (i + 1) R) → chB s.fFiles d L ns k (i + 1) R = true := fun hx => by unfold chB; exact decide_eq_true hx
         have hw := hEv.w hv hC2
         obtain ⟨g1, g2⟩ := hEv.get i h
         have hPl := hEv.len
         have hbd := hEv.bd i
         have hwd := bB wDir d h
         have hwq : bS d[i].fQuery ≤ wDir d[i] := by unfold wDir; omega
         have hgrow := fun hin hik hne => hEv.grow h hin hik hne
         have hsame := fun he => xF hEv h he
         generalize passT s.fFiles d L ns k i R = P at *
         generalize hP2 : passT s.fFiles d L ns k (i + 1) R = P2 at *
         have hiP : i < P.length := by omega
         have hiL : i < L.length := by omega
         have hg := qJ L i hiL
         have hsl := a0w s.fFiles d[i].fQuery P
         by_cases hik : lv L i = k
         ·have hkI : ((lv L i : Nat) : Int) = ((k : Nat) : Int) := by omega
          cases hn : hasS ns d[i].fName
          ·rw [if_neg (fun h => by rw [hn] at h; cases h.2)] at hsu
           have q0 := @h; have q1 := @hiP; have q2 := @hiL; have q3 := @hg; have q4 := @hkI; have q5 := @hn; have q6 := @decide_true; have q7 := @decide_false; refine a1S (gU ns d[i].fName hns) ?_
           refine aF (i + 1) ?_ ?_ ?_
           ·simp only [go_sem, hP2, hchk hsu, hsu]; simp
           ·omega
           ·omega
          ·rw [if_pos ⟨hik, hn⟩] at hsu
           by_cases he : kL s.fFiles d[i].fQuery P = eP P i
           ·have hE : eqL iT (kL s.fFiles d[i].fQuery P) (eP P i) = true := by rw [xB]; exact decide_eq_true he
            have hPP : P2 = P := by rw [hsu, hsame he]
            have qH := aI @h (aI @hiP (aI @hiL (aI @hg (aI @hkI (aI @g1 (aI @g2 (aI @hE (aI @hn (aI @decide_true @decide_false))))))))); repeat' (with_reducible first | refine nY ?_ | (refine mX ?_; try simp only [go_sem, qH]) | refine kD ?_ | refine rT [7] [98] ?_ | refine dJ (aX ?_) (uX ?_) | refine eQ (aX ?_) ?_ | (refine uA ?_; simp only [go_sem, qH]; (repeat' first | omega | refine And.intro ?_ ?_ | refine cP (gU ns d[i].fName hns) ?_ | (refine mX ?_; simp only [go_sem, qH] <;> fail)); done) | refine rD ?_ | refine cP (gU ns d[i].fName hns) ?_ | refine vR (mY s d[i].fQuery P hs (by omega) hw) ?_ | refine vG (mY s d[i].fQuery P hs (by omega) hw) ?_ | refine vL (nC (kL s.fFiles d[i].fQuery P) (eP P i) (by omega)) ?_ | refine aO ?_ | fail)
            refine aF (i + 1) ?_ ?_ ?_
            ·simp only [go_sem, hP2, hchk hPP, hPP]; simp
            ·omega
            ·omega
           ·have hE : eqL iT (kL s.fFiles d[i].fQuery P) (eP P i) = false := by rw [xB]; exact decide_eq_false he
            have hlt := hgrow hn hik he
            have hch2 : chB s.fFiles d L ns k (i + 1) R = true := hchn (by
             rw [hsu]
             rcases hcs with e | e
             ·rw [← e]; exact hlt
             ·omega)
            have qH := aI @h (aI @hiP (aI @hiL (aI @hg (aI @hkI (aI @g1 (aI @g2 (aI @hE (aI @hn (aI @decide_true @decide_false))))))))); repeat' (with_reducible first | refine nY ?_ | (refine mX ?_; try simp only [go_sem, qH]) | refine kD ?_ | refine rT [7] [98] ?_ | refine dJ (aX ?_) (uX ?_) | refine eQ (aX ?_) ?_ | (refine uA ?_; simp only [go_sem, qH]; (repeat' first | omega | refine And.intro ?_ ?_ | refine cP (gU ns d[i].fName hns) ?_ | (refine mX ?_; simp only [go_sem, qH] <;> fail)); done) | refine rD ?_ | refine cP (gU ns d[i].fName hns) ?_ | refine vR (mY s d[i].fQuery P hs (by omega) hw) ?_ | refine vG (mY s d[i].fQuery P hs (by omega) hw) ?_ | refine vL (nC (kL s.fFiles d[i].fQuery P) (eP P i) (by omega)) ?_ | refine aO ?_ | fail)
            refine aF (i + 1) ?_ ?_ ?_
            ·simp only [go_sem, hP2, hch2, hsu, wM, ← b3o]; simp
            ·omega
            ·omega
         ·rw [if_neg (fun h => hik h.1)] at hsu
          have hkI : ¬ ((lv L i : Nat) : Int) = ((k : Nat) : Int) := by omega
          have q0 := @h; have q1 := @hiP; have q2 := @hiL; have q3 := @hg; have q4 := @hkI; have q5 := @decide_true; have q6 := @decide_false; refine a5M ?_
          refine aF (i + 1) ?_ ?_ ?_
          ·simp only [go_sem, hP2, hchk hsu, hsu]; simp
          ·omega
          ·omega
        ·simp only [decide_eq_false_iff_not] at h
         have e : i = d.length := by omega
         subst e
         have hPe := kK hvq hclo d.length R (Nat.le_refl _) hRe
         have hPt := hPe.tot
         refine aG ?_
         refine aF (passT s.fFiles d L ns k d.length R, c + 1, chB s.fFiles d L ns k d.length R) ?_ ?_ ?_
         ·simp only [go_sem]; simp
         ·refine ⟨hpass, ?_⟩
          simp only
          have hpc := jT hvq hclo d.length R (Nat.le_refl _) hRe
          cases hcb2 : chB s.fFiles d L ns k d.length R with
          | false =>
           have h9 : iU R ≤ iU (passT s.fFiles d L ns k d.length R) := by
            rcases hpc with e | e
            ·rw [e]; exact Nat.le_refl _
            ·omega
           simp only [Bool.false_eq_true, if_false]; omega
          | true =>
           have := of_decide_eq_true hcb2
           simp only [if_true]; omega
         ·simp only [if_true]
          cases hcb3 : chB s.fFiles d L ns k d.length R with
          | false => simp only [Bool.false_eq_true, if_false]; omega
          | true =>
           have := of_decide_eq_true hcb3
           simp only [if_true]; omega
      ·subst hbt
       have hTe := hx.fin rfl
       simp only at hTe
       refine aG ?_
       refine aF (k + 1) ?_ ?_ ?_
       ·simp only [go_sem, hT, hTe]; simp
       ·omega
       ·omega
    ·simp only [decide_eq_false_iff_not] at hlev
     have hkK : ¬ k < qI d L := fun h => hlev ((rX d L k).2 h)
     have e : k = qI d L := by omega
     subst e
     refine aG ?_
     refine aC (Sees.frz 1 rfl) ?_
     simp only [go_sem]
     exact aA ⟨⟨_, rfl, by simp only [go_sem, e1, e2]; try simp⟩, by simp [aH]⟩
end Go.Proofs.YteaaopodnbjpoaaGreat
end
section
set_option maxRecDepth 100000
set_option maxHeartbeats 4000000
namespace Go.Proofs.YteaaopodnbjpoaaGreat
open Go Go.Sx Go.RowKit Go.Proofs
theorem b1K (s : TStore) (d : List TDir) (hs : aM s ≤ 4300000) (hd : aU d ≤ 4300000) : FnC Tryz.prog 151 [dH s, .o (.d (.sl (d.map aL)))] (.t [(false, [.w 141 2 ((evX s d [] (dirNs d)).1.map aK)]), (false, [.d (iv ((evX s d [] (dirNs d)).2 : Nat))]), (false, [.d (bv (evB s d))])]) := by
 have hd0 : d.length + wsum wDir d ≤ 4300000 := hd
 have hs0 : aT s.fSchema + (s.fFiles.length + wsum wFile s.fFiles) ≤ 4300000 := hs
 refine ent Tryz.func151 rfl Tryz.call151 rfl (fun C => ?_); simp only [go_sem, st0, Tryz.ntmps151]
 have hr : aJ [] ≤ 4300000 := by simp [aJ, wsum]
 generalize hrr : ([] : List TResult) = r at *
 have hns : (dirNs d).length ≤ 4300000 := by rw [kV]; omega
 have hhas : ∀ i, (hi : i < d.length) → hasS (dirNs d) d[i].fName = true := b4V d
 generalize dirNs d = ns at *
 cases hb : kR d
 ·have e1 : evX s d r ns = ([], 0) := by simp [evX, hb]
  have e2 : evB s d = false := by simp [evB, hb]
  have q0 := @hb; refine fC (gF d hd) ?_
  exact aA ⟨⟨_, rfl, by simp only [go_sem, e1, e2, List.map_nil]; simp⟩, by simp [aH]⟩
 cases hst : bP s
 ·have e1 : evX s d r ns = ([], 0) := by simp [evX, hst]
  have e2 : evB s d = false := by simp [evB, hst]
  have q0 := @hb; have q1 := @hst; refine yK (gF d hd) (bG s hs) ?_
  exact aA ⟨⟨_, rfl, by simp only [go_sem, e1, e2, List.map_nil]; simp⟩, by simp [aH]⟩
 obtain ⟨hv, hleast⟩ := rW hb
 have hclo := hleast.clo
 have hvq := fun i (hi : i < d.length) => kX hv i hi
 have h5 := jO hv
 have h12 := mW hst
 have hLl := hclo.len
 obtain ⟨CC, hCC⟩ : ∃ c, s.fFiles.length + aJ r = c := ⟨_, rfl⟩
 have hC2 : CC ≤ 4300012 := by omega
 have e1 : evX s d r ns = allE s.fFiles d (resL d) ns CC r (qI d (resL d)) := by simp [evX, hb, hst, hCC]
 have e2 : evB s d = true := by simp [evB, hb, hst]
 have q0 := @hb; have q1 := @hst; refine yK (gF d hd) (bG s hs) ?_
 refine aQ (α := Nat) (fun k => [(9, .o (.s 1)), (29, .o .u), (10, oi k)]) (fun k => [(1, .row 141 2 ((fZ ns r (d.take k)).map aK) true)]) (fun k => k ≤ d.length) (fun k => d.length - k) 0 (fun _ => ?_) ?_ ?_ (fun k hk => ?_)
 ·simp only [go_sem]
 ·simp only [go_sem]; simp [fZ]
 ·simp
 ·simp only [go_sem]
  refine aG ?_
  refine cnd rfl (fun h => ?_) (fun h => ?_)
  ·simp only [decide_eq_true_eq, Int.ofNat_lt] at h
   have hsl := yR ns r d k
   have hl1 : (fZ ns r (d.take k)).length + 1 ≤ 140737488355328 := by omega
   have hl2 : ((fZ ns r (d.take k)).length + 1) * 40 ≤ 140737488355328 := by omega
   have hsu := wI ns r d k h
   rw [hhas k h] at hsu
   have q0 := @h; have q1 := @hl1; have q2 := @hl2; refine lL ?_
   refine aF (k + 1) ?_ ?_ ?_
   ·simp only [go_sem, hsu, List.map_append]; simp [aK]
   ·omega
   ·omega
  ·simp only [decide_eq_false_iff_not] at h
   have e : k = d.length := by omega
   subst e
   rw [List.take_length]
   generalize hL : resL d = L at *
   refine aG ?_
   refine aQ (α := Nat) (fun k => [(11, oi ((allE s.fFiles d L ns CC r k).2 : Nat)), (12, oi k)]) (fun k => [(1, .row 141 2 ((allE s.fFiles d L ns CC r k).1.map aK) true)]) (fun k => k ≤ qI d L) (fun k => qI d L - k) 0 (fun _ => ?_) ?_ ?_ (fun k hk => ?_)
   ·simp only [go_sem]
   ·simp only [go_sem]; simp [allE]
   ·simp
   ·simp only [go_sem]
    have q0 := @hL; refine fC (a3p d hd (by rw [hL]; omega)) ?_
    refine cnd rfl (fun hlev => ?_) (fun hlev => ?_)
    ·simp only [decide_eq_true_eq] at hlev
     have hkK := (rX d L k).1 hlev
     have hev := xG (fs := s.fFiles) (ns := ns) (r := r) hvq hclo k
     rw [hCC] at hev
     have htop := a9j hleast
     have hcnt := a0p s.fFiles d L ns CC r k
     have hnm : d.length * CC ≤ 5 * 4300012 := Nat.mul_le_mul h5 hC2
     have hcnt2 : k * (d.length * CC + 1) ≤ 5 * 21500061 := Nat.mul_le_mul (by omega) (by omega)
     have hround : Round s.fFiles d L ns CC k (allE s.fFiles d L ns CC r (k + 1)) ((allE s.fFiles d L ns CC r k).1, (allE s.fFiles d L ns CC r k).2, true) := Round.start hev
     generalize hT : allE s.fFiles d L ns CC r (k + 1) = T at *
     generalize allE s.fFiles d L ns CC r k = X at *
     refine aG ?_
     refine aQ (α := List TResult × Nat × Bool) (fun x => [(11, oi (x.2.1 : Nat)), (13, ob x.2.2)]) (fun x => [(1, .row 141 2 (x.1.map aK) true)]) (fun x => Round s.fFiles d L ns CC k T (x.1, x.2.1, x.2.2) ∧ x.2.1 ≤ X.2 + iU x.1 + (if x.2.2 then 0 else 1)) (fun x => if x.2.2 then d.length * CC + 1 - iU x.1 else 0) (X.1, X.2, true) (fun _ => ?_) ?_ ?_ (fun x hx => ?_)
     ·simp only [go_sem]
     ·simp only [go_sem]; simp
     ·exact ⟨hround, by simp⟩
     ·obtain ⟨R, c, b⟩ := x
      obtain ⟨hx, hcb⟩ := hx
      simp only at hcb
      simp only [go_sem]
      refine aG ?_
      refine cnd rfl (fun hbt => ?_) (fun hbt => ?_)
      ·subst hbt
       have hRe : Ev s.fFiles d L ns CC k R := hx.ev
       have hRt := hRe.tot
       simp only [if_true, Nat.add_zero] at hcb
       have hcI : c ≤ 1000000000 := by omega
       have hpass := hx.pass hvq hclo
       refine aG ?_
       refine aQ (α := Nat) (fun i => [(13, ob (chB s.fFiles d L ns k i R)), (14, oi i)]) (fun i => [(1, .row 141 2 ((passT s.fFiles d L ns k i R).map aK) true)]) (fun i => i ≤ d.length) (fun i => d.length - i) 0 (fun _ => ?_) ?_ ?_ (fun i hi => ?_)
       ·simp only [go_sem]
       ·simp only [go_sem]; simp [chB, passT]
       ·simp
       ·simp only [go_sem]
        refine aG ?_
        refine cnd rfl (fun h => ?_) (fun h => ?_)
        ·simp only [decide_eq_true_eq, Int.ofNat_lt] at h
         have hEv := kK hvq hclo i R (by omega) hRe
         have hcs := jT hvq hclo i R (by omega) hRe
         have hsu := oV s.fFiles d L ns k i R h
         have hchk : passT s.fFiles d L ns k (i + 1) R = passT s.fFiles d L ns k i R → chB s.fFiles d L ns k (i + 1) R = chB s.fFiles d L ns k i R := a3o
         have hchn : iU R < iU (passT s.fFiles d L ns k (i + 1) R) → chB s.fFiles d L ns k (i + 1) R = true := fun hx => by unfold chB; exact decide_eq_true hx
         have hw := hEv.w hv hC2
         obtain ⟨g1, g2⟩ := hEv.get i h
         have hPl := hEv.len
         have hbd := hEv.bd i
         have hwd := bB wDir d h
         have hwq : bS d[i].fQuery ≤ wDir d[i] := by unfold wDir; omega
         have hgrow := fun hin hik hne => hEv.grow h hin hik hne
         have hsame := fun he => xF hEv h he
         generalize passT s.fFiles d L ns k i R = P at *
         generalize hP2 : passT s.fFiles d L ns k (i + 1) R = P2 at *
         have hiP : i < P.length := by omega
         have hiL : i < L.length := by omega
         have hg := qJ L i hiL
         have hsl := a0w s.fFiles d[i].fQuery P
         by_cases hik : lv L i = k
         ·have hkI : ((lv L i : Nat) : Int) = ((k : Nat) : Int) := by omega
          have hn := hhas i h
          ·rw [if_pos ⟨hik, hn⟩] at hsu
           by_cases he : kL s.fFiles d[i].fQuery P = eP P i
           ·have hE : eqL iT (kL s.fFiles d[i].fQuery P) (eP P i) = true := by rw [xB]; exact decide_eq_true he
            have hPP : P2 = P := by rw [hsu, hsame he]
            have qH := aI @h (aI @hiP (aI @hiL (aI @hg (aI @hkI (aI @g1 (aI @g2 (aI @hE (aI @hn (aI @decide_true @decide_false))))))))); repeat' (with_reducible first | refine nY ?_ | (refine mX ?_; try simp only [go_sem, qH]) | refine kD ?_ | refine rT [7] [74] ?_ | refine dJ (aX ?_) (uX ?_) | refine eQ (aX ?_) ?_ | (refine uA ?_; simp only [go_sem, qH]; (repeat' first | omega | refine And.intro ?_ ?_ | refine cP (eO ns d[i].fName hns) ?_ | (refine mX ?_; simp only [go_sem, qH] <;> fail)); done) | refine rD ?_ | refine cP (eO ns d[i].fName hns) ?_ | refine vR (mY s d[i].fQuery P hs (by omega) hw) ?_ | refine vG (mY s d[i].fQuery P hs (by omega) hw) ?_ | refine vL (nC (kL s.fFiles d[i].fQuery P) (eP P i) (by omega)) ?_ | refine aO ?_ | fail)
            refine aF (i + 1) ?_ ?_ ?_
            ·simp only [go_sem, hP2, hchk hPP, hPP]; simp
            ·omega
            ·omega
           ·have hE : eqL iT (kL s.fFiles d[i].fQuery P) (eP P i) = false := by rw [xB]; exact decide_eq_false he
            have hlt := hgrow hn hik he
            have hch2 : chB s.fFiles d L ns k (i + 1) R = true := hchn (by
             rw [hsu]
             rcases hcs with e | e
             ·rw [← e]; exact hlt
             ·omega)
            have qH := aI @h (aI @hiP (aI @hiL (aI @hg (aI @hkI (aI @g1 (aI @g2 (aI @hE (aI @hn (aI @decide_true @decide_false))))))))); repeat' (with_reducible first | refine nY ?_ | (refine mX ?_; try simp only [go_sem, qH]) | refine kD ?_ | refine rT [7] [74] ?_ | refine dJ (aX ?_) (uX ?_) | refine eQ (aX ?_) ?_ | (refine uA ?_; simp only [go_sem, qH]; (repeat' first | omega | refine And.intro ?_ ?_ | refine cP (eO ns d[i].fName hns) ?_ | (refine mX ?_; simp only [go_sem, qH] <;> fail)); done) | refine rD ?_ | refine cP (eO ns d[i].fName hns) ?_ | refine vR (mY s d[i].fQuery P hs (by omega) hw) ?_ | refine vG (mY s d[i].fQuery P hs (by omega) hw) ?_ | refine vL (nC (kL s.fFiles d[i].fQuery P) (eP P i) (by omega)) ?_ | refine aO ?_ | fail)
            refine aF (i + 1) ?_ ?_ ?_
            ·simp only [go_sem, hP2, hch2, hsu, wM, ← b3o]; simp
            ·omega
            ·omega
         ·rw [if_neg (fun h => hik h.1)] at hsu
          have hkI : ¬ ((lv L i : Nat) : Int) = ((k : Nat) : Int) := by omega
          have q0 := @h; have q1 := @hiP; have q2 := @hiL; have q3 := @hg; have q4 := @hkI; have q5 := @decide_true; have q6 := @decide_false; refine a5M ?_
          refine aF (i + 1) ?_ ?_ ?_
          ·simp only [go_sem, hP2, hchk hsu, hsu]; simp
          ·omega
          ·omega
        ·simp only [decide_eq_false_iff_not] at h
         have e : i = d.length := by omega
         subst e
         have hPe := kK hvq hclo d.length R (Nat.le_refl _) hRe
         have hPt := hPe.tot
         refine aG ?_
         refine aF (passT s.fFiles d L ns k d.length R, c + 1, chB s.fFiles d L ns k d.length R) ?_ ?_ ?_
         ·simp only [go_sem]; simp
         ·refine ⟨hpass, ?_⟩
          simp only
          have hpc := jT hvq hclo d.length R (Nat.le_refl _) hRe
          cases hcb2 : chB s.fFiles d L ns k d.length R with
          | false =>
           have h9 : iU R ≤ iU (passT s.fFiles d L ns k d.length R) := by
            rcases hpc with e | e
            ·rw [e]; exact Nat.le_refl _
            ·omega
           simp only [Bool.false_eq_true, if_false]; omega
          | true =>
           have := of_decide_eq_true hcb2
           simp only [if_true]; omega
         ·simp only [if_true]
          cases hcb3 : chB s.fFiles d L ns k d.length R with
          | false => simp only [Bool.false_eq_true, if_false]; omega
          | true =>
           have := of_decide_eq_true hcb3
           simp only [if_true]; omega
      ·subst hbt
       have hTe := hx.fin rfl
       simp only at hTe
       refine aG ?_
       refine aF (k + 1) ?_ ?_ ?_
       ·simp only [go_sem, hT, hTe]; simp
       ·omega
       ·omega
    ·simp only [decide_eq_false_iff_not] at hlev
     have hkK : ¬ k < qI d L := fun h => hlev ((rX d L k).2 h)
     have e : k = qI d L := by omega
     subst e
     refine aG ?_
     exact aA ⟨⟨_, rfl, by simp only [go_sem, e1, e2]; try simp⟩, by simp [aH]⟩
end Go.Proofs.YteaaopodnbjpoaaGreat
end
section
set_option maxRecDepth 100000
set_option maxHeartbeats 4000000
namespace Go.Proofs.YteaaopodnbjpoaaGreat
open Go Go.Sx Go.RowKit Go.Proofs
theorem a3C (s : TStore) (d : List TDir) (hs : aM s ≤ 4300000) (hd : aU d ≤ 4300000) : FnC Tryz.prog 166 [dH s, .o (.d (.sl (d.map aL))), .o (.d (.sl [])), .o (.d (.sl ((dirNs d).map bU)))] (.t [(false, [.w 141 2 ((evX s d [] (dirNs d)).1.map aK)]), (false, [.d (iv ((evX s d [] (dirNs d)).2 : Nat))]), (false, [.d (bv (evB s d))])]) :=
 a4V s d [] (dirNs d) hs hd (by simp [aJ, wsum]) (by rw [kV]; unfold aU at hd; omega)
theorem a7V (s : TStore) (d : List TDir) (hs : aM s ≤ 4300000) (hd : aU d ≤ 4300000) : FnC Tryz.prog 97 [dH s, .o (.d (.sl (d.map aL)))] (.t [(false, [.w 141 2 ((evX s d [] (dirNs d)).1.map aK)]), (false, [.d (bv (evB s d))])]) := by
 have hl : d.length ≤ 4300000 := by unfold aU at hd; omega
 refine ent Tryz.func97 rfl Tryz.call97 rfl (fun C => ?_); simp only [go_sem, st0, Tryz.ntmps97]
 have qH := trivial; repeat' (with_reducible first | refine nY ?_ | (refine mX ?_; try simp only [go_sem]) | refine kD ?_ | refine rT [3, 4] [13, 14] ?_ | refine dJ (aX ?_) (uX ?_) | refine eQ (aX ?_) ?_ | (refine uA ?_; simp only [go_sem]; (repeat' first | omega | refine And.intro ?_ ?_ | refine cP (a3C s d hs hd) ?_ | refine cP (pQ d hl) ?_ | (refine mX ?_; simp only [go_sem] <;> fail)); done) | refine rD ?_ | refine cP (a3C s d hs hd) ?_ | refine cP (pQ d hl) ?_ | refine aO ?_ | fail)
 exact aA ⟨⟨_, rfl, by simp only [go_sem]⟩, by simp [aH]⟩
theorem a7W (s : TStore) (d : List TDir) (hs : aM s ≤ 4300000) (hd : aU d ≤ 4300000) : FnC Tryz.prog 80 [dH s, .o (.d (.sl (d.map aL)))] (.t [(false, [.w 141 2 ((evX s d [] (dirNs d)).1.map aK)]), (false, [.d (bv (evB s d))])]) := by
 refine ent Tryz.func80 rfl Tryz.call80 rfl (fun C => ?_); simp only [go_sem, st0, Tryz.ntmps80]
 refine fQ (b1K s d hs hd) ?_
 exact aA ⟨⟨_, rfl, by simp only [go_sem]⟩, by simp [aH]⟩
theorem b6x (s : TStore) (d : List TDir) : aJ (evX s d [] (dirNs d)).1 ≤ 95 := by
 unfold evX
 split
 ·rename_i hb
  rw [Bool.and_eq_true] at hb
  obtain ⟨hv, hleast⟩ := rW hb.1
  have h5 := jO hv
  have h12 := mW hb.2
  have hev := xG (fs := s.fFiles) (ns := dirNs d) (r := []) (fun i (hi : i < d.length) => kX hv i hi) hleast.clo (qI d (resL d))
  have h0 : aJ [] = 0 := by simp [aJ, wsum]
  revert hev
  generalize (allE s.fFiles d (resL d) (dirNs d) (s.fFiles.length + aJ []) [] (qI d (resL d))).1 = X
  rw [h0]
  intro hev
  have hlen := hev.len
  have hb2 := yQ wResult 18 X fun i hi => by
   obtain ⟨e1, e2⟩ := hev.get i (by omega)
   have h1 := a1z hv i (by omega)
   have h2 := hev.bd i
   unfold wResult
   rw [e1, e2]
   omega
  unfold aJ
  have := Nat.mul_le_mul_right 18 h5
  rw [hlen] at hb2 ⊢
  omega
 ·simp [aJ, wsum]
theorem b5z (s : TStore) (d : List TDir) : aJ (evX s d [] (dirNs d)).1 ≤ 4300000 := Nat.le_trans (b6x s d) (by decide)
noncomputable def mG (c : TCatalog) : Bool := evB c.fStore c.fDirs && eqL dP (evX c.fStore c.fDirs [] (dirNs c.fDirs)).1 c.fResults
theorem bL (c : TCatalog) (h : wCatalog c ≤ 4300000) : FnC Tryz.prog 47 [bJ c] (ob (mG c)) := by
 unfold wCatalog at h
 refine ent Tryz.func47 rfl Tryz.call47 rfl (fun C => ?_); simp only [go_sem, st0, Tryz.ntmps47]
 cases hb : evB c.fStore c.fDirs
 all_goals
  have q0 := @hb; refine a5K (a7V c.fStore c.fDirs (by omega) (by omega)) (xP (evX c.fStore c.fDirs [] (dirNs c.fDirs)).1 c.fResults (b5z _ _)) ?_
  exact aA ⟨⟨_, rfl, by simp only [go_sem, mG, hb, Bool.true_and, Bool.false_and]⟩, trivial⟩
theorem bE (c : TCatalog) (h : wCatalog c ≤ 4300000) : FnC Tryz.prog 40 [bJ c] (ob (mG c)) := by
 unfold wCatalog at h
 refine ent Tryz.func40 rfl Tryz.call40 rfl (fun C => ?_); simp only [go_sem, st0, Tryz.ntmps40]
 cases hb : evB c.fStore c.fDirs
 all_goals
  have q0 := @hb; refine a5K (a7W c.fStore c.fDirs (by omega) (by omega)) (xO (evX c.fStore c.fDirs [] (dirNs c.fDirs)).1 c.fResults (b5z _ _)) ?_
  exact aA ⟨⟨_, rfl, by simp only [go_sem, mG, hb, Bool.true_and, Bool.false_and]⟩, trivial⟩
end Go.Proofs.YteaaopodnbjpoaaGreat
end
section
set_option maxRecDepth 100000
set_option maxHeartbeats 4000000
namespace Go.Proofs.YteaaopodnbjpoaaGreat
open Go Go.Sx Go.RowKit Go.Proofs
theorem b2R {c : TCatalog} (h : mG c = true) : kR c.fDirs = true := by
 unfold mG evB at h
 simp only [Bool.and_eq_true] at h
 exact h.1.1
theorem b5v {c : TCatalog} (h : mG c = true) : bP c.fStore = true := by
 unfold mG evB at h
 simp only [Bool.and_eq_true] at h
 exact h.1.2
theorem zZ (s : TStore) (d : List TDir) (r : List TResult) (ns : List ByteArray) (hs : aM s ≤ 4300000) (hd : aU d ≤ 4300000) (hr : aJ r ≤ 4300000) (hns : ns.length ≤ 4300000) : FnC Tryz.prog 187 [dH s, .o (.d (.sl (d.map aL))), .o (.d (.sl (r.map aK))), .o (.d (.sl (ns.map bU)))] (.t [(false, [.w 141 2 ((evX s d r ns).1.map aK)]), (false, [.d (bv (evB s d))])]) := by
 refine ent Tryz.func187 rfl Tryz.call187 rfl (fun C => ?_); simp only [go_sem, st0, Tryz.ntmps187]
 refine fQ (a4V s d r ns hs hd hr hns) ?_
 exact aA ⟨⟨_, rfl, by simp only [go_sem]⟩, by simp [aH]⟩
theorem b2S (s : TStore) (d : List TDir) (r : List TResult) (ns : List ByteArray) (hr : aJ r ≤ 4300000) : aJ (evX s d r ns).1 ≤ 67108864 := by
 unfold evX
 split
 ·rename_i hb
  rw [Bool.and_eq_true] at hb
  obtain ⟨hv, hleast⟩ := rW hb.1
  have h12 := mW hb.2
  have hev := xG (fs := s.fFiles) (ns := ns) (r := r) (fun i (hi : i < d.length) => kX hv i hi) hleast.clo (qI d (resL d))
  exact hev.w hv (by omega)
 ·simp [aJ, wsum]
noncomputable def chC (c : TCatalog) (s : TStore) (d : List TDir) (ns : List ByteArray) : TCatalog := if evB s d then ⟨s, d, (evX s d c.fResults ns).1⟩ else c
noncomputable def chD (c : TCatalog) (s : TStore) (d : List TDir) (ns : List ByteArray) : List TDiff := if evB s d then iW c.fResults (evX s d c.fResults ns).1 else []
theorem b0b (c : TCatalog) (s : TStore) (d : List TDir) (ns : List ByteArray) (hc : wCatalog c ≤ 4300000) (hs : aM s ≤ 4300000) (hd : aU d ≤ 4300000) (hns : ns.length ≤ 4300000) : FnC Tryz.prog 110 [bJ c, dH s, .o (.d (.sl (d.map aL))), .o (.d (.sl (ns.map bU)))] (.t [(true, (kH (chC c s d ns)).cells), (false, [.w 100 3 ((chD c s d ns).map fB)]), (false, [.d (bv (evB s d))])]) := by
 have hr : aJ c.fResults ≤ 4300000 := by unfold wCatalog at hc; omega
 refine ent Tryz.func110 rfl Tryz.call110 rfl (fun C => ?_); simp only [go_sem, st0, Tryz.ntmps110]
 cases hb : evB s d
 ·have e1 : chC c s d ns = c := by simp [chC, hb]
  have e2 : chD c s d ns = [] := by simp [chD, hb]
  have q0 := @hb; refine a5K (zZ s d c.fResults ns hs hd hr hns) (eT c hc) ?_
  exact aA ⟨⟨_, rfl, by simp only [go_sem, e1, e2, List.map_nil]; try simp⟩, by simp [aH]⟩
 ·have e1 : chC c s d ns = ⟨s, d, (evX s d c.fResults ns).1⟩ := by simp [chC, hb]
  have e2 : chD c s d ns = iW c.fResults (evX s d c.fResults ns).1 := by simp [chD, hb]
  have hw := b2S s d c.fResults ns hr
  have qH := @hb; repeat' (with_reducible first | refine nY ?_ | (refine mX ?_; try simp only [go_sem, qH]) | refine kD ?_ | (apply rE [1,3,9,10] [] [0,2,4,6,7,8] [0,2,4,6,7,8] ((.c 1 [] [2,4,6,7,8] (.c 3 [5] [4,5,6,7,8] (.c 9 [] [4,5] (.c 10 [11,12] [11,12] .n .n) .n) .n) .n)) (by simp only [go_sem]; rfl) (by simp only [go_sem]; rfl) (by simp only [go_sem]; rfl) (by decide +kernel); (focus simp only [go_sem]; done)) | exact dW | refine cO (uX ?_) ?_ | refine cZ (aX ?_) ?_ | refine dA (aX ?_) ?_ | exact cK | exact oH | exact uB | refine rD ?_ | refine cP (zZ s d c.fResults ns hs hd hr hns) ?_ | refine cP (fF s hs) ?_ | refine cP (kW d hd) ?_ | refine vR (a0b c.fResults (evX s d c.fResults ns).1 hr hw) ?_ | refine vG (a0b c.fResults (evX s d c.fResults ns).1 hr hw) ?_ | refine aO ?_ | fail)
  exact aA ⟨⟨_, rfl, by simp only [go_sem, e1, e2]; try simp⟩, by simp [aH]⟩
theorem a7l (c : TCatalog) (s : TStore) (d : List TDir) (ns : List ByteArray) (hc : wCatalog c ≤ 4300000) (hs : aM s ≤ 4300000) (hd : aU d ≤ 4300000) (hns : ns.length ≤ 4300000) : FnC Tryz.prog 154 [bJ c, dH s, .o (.d (.sl (d.map aL))), .o (.d (.sl (ns.map bU)))] (.t [(true, (bJ ⟨s, d, (evX s d c.fResults ns).1⟩).cells), (false, [.w 100 3 ((iW c.fResults (evX s d c.fResults ns).1).map fB)])]) := by
 have hr : aJ c.fResults ≤ 4300000 := by unfold wCatalog at hc; omega
 have hw := b2S s d c.fResults ns hr
 refine ent Tryz.func154 rfl Tryz.call154 rfl (fun C => ?_); simp only [go_sem, st0, Tryz.ntmps154]
 have qH := trivial; repeat' (with_reducible first | refine nY ?_ | (refine mX ?_; try simp only [go_sem]) | refine kD ?_ | (apply rE [7,8] [] [0,1,2,3,4,5,6] [0,1,2,3,4,5,6] ((.c 7 [] [0,1,2,3] (.c 8 [9] [9] .n .n) .n)) (by simp only [go_sem]; rfl) (by simp only [go_sem]; rfl) (by simp only [go_sem]; rfl) (by decide +kernel); (focus simp only [go_sem]; done)) | exact dW | refine cO (uX ?_) ?_ | refine cZ (aX ?_) ?_ | refine dA (aX ?_) ?_ | exact cK | exact oH | (refine uA ?_; simp only [go_sem]; (repeat' first | omega | refine And.intro ?_ ?_); done) | refine rD ?_ | refine cP (a7D s d c.fResults ns hs hd hr hns) ?_ | refine cP (a5R c.fResults (evX s d c.fResults ns).1 hr hw) ?_ | refine aO ?_ | fail)
 exact aA ⟨⟨_, rfl, by simp only [go_sem]⟩, by simp [aH]⟩
theorem bM (c : TCatalog) (h : wCatalog c ≤ 4300000) : FnC Tryz.prog 39 [bJ c] (bJ c) := (b3n c h).pu (by simp only [go_sem, and_self])
theorem lG (c : TCatalog) (s : TStore) (d : List TDir) (ns : List ByteArray) (hc : wCatalog c ≤ 4300000) (hs : aM s ≤ 4300000) (hd : aU d ≤ 4300000) (hns : ns.length ≤ 4300000) : FnC Tryz.prog 154 [bJ c, dH s, .o (.d (.sl (d.map aL))), .o (.d (.sl (ns.map bU)))] (.t [(true, (bJ ⟨s, d, (evX s d c.fResults ns).1⟩).cells), (false, [.d (.sl ((iW c.fResults (evX s d c.fResults ns).1).map fB))])]) := (a7l c s d ns hc hs hd hns).pu (by simp only [go_sem, and_self])
theorem a0a (l : List TDir) (hl : l.length ≤ 4300000) : FnC Tryz.prog 167 [.o (.d (.sl (l.map aL)))] (.o (.d (.sl ((dirNs l).map bU)))) := (pQ l hl).pu (by simp only [go_sem, and_self])
theorem rM (l : List TDir) (hl : l.length ≤ 4300000) : FnC Tryz.prog 155 [.o (.d (.sl (l.map aL)))] (.o (.d (.sl ((dirNs l).map bU)))) := (uU l hl).pu (by simp only [go_sem, and_self])
noncomputable def goC (b : Bool) (c : TCatalog) (s : TStore) (d : List TDir) (ns : List ByteArray) : TCatalog := if b then ⟨s, d, (evX s d c.fResults ns).1⟩ else c
noncomputable def goD (b : Bool) (c : TCatalog) (s : TStore) (d : List TDir) (ns : List ByteArray) : List TDiff := if b then iW c.fResults (evX s d c.fResults ns).1 else []
theorem iL (c : TCatalog) (s : TStore) (d : List TDir) (ns : List ByteArray) : goC false c s d ns = c := rfl
theorem iM (c : TCatalog) (s : TStore) (d : List TDir) (ns : List ByteArray) : goD false c s d ns = [] := rfl
theorem a2g (c : TCatalog) (s : TStore) (d : List TDir) (ns : List ByteArray) : goC true c s d ns = ⟨s, d, (evX s d c.fResults ns).1⟩ := rfl
theorem a2h (c : TCatalog) (s : TStore) (d : List TDir) (ns : List ByteArray) : goD true c s d ns = iW c.fResults (evX s d c.fResults ns).1 := rfl
theorem a2i (c : TCatalog) (s : TStore) (d : List TDir) (ns : List ByteArray) (hev : evB s d = true) (hc : wCatalog c ≤ 4300000) (hs : aM s ≤ 4300000) (hd : aU d ≤ 4300000) (hns : ns.length ≤ 4300000) : FnC Tryz.prog 110 [bJ c, dH s, .o (.d (.sl (d.map aL))), .o (.d (.sl (ns.map bU)))] (.t [(true, (kH (goC true c s d ns)).cells), (false, [.w 100 3 ((goD true c s d ns).map fB)]), (false, [.d (bv true)])]) := by
 have h := b0b c s d ns hc hs hd hns
 unfold chC chD at h
 rw [hev] at h
 exact h
end Go.Proofs.YteaaopodnbjpoaaGreat
end
