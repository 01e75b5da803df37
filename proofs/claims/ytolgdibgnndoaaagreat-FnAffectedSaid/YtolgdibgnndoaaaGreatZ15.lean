/- Joined texts. -/
import Derived.Test.YtolgdibgnndoaaaGreatZ14
import Derived.Test.YtolgdibgnndoaaaGreatZ07
import Derived.Test.YtolgdibgnndoaaaGreatZ10
import Derived.Test.YtolgdibgnndoaaaGreatZ08
import Derived.Test.YtolgdibgnndoaaaGreatZ13
import Derived.Sort.Walk0
set_option linter.all false
section
set_option maxRecDepth 100000
set_option maxHeartbeats 4000000
namespace Go.Proofs.YtolgdibgnndoaaaGreat
def passT (fs : List TFile) (d : List TDir) (L : List Nat) (ns : List ByteArray) (k : Nat) : Nat → List TResult → List TResult
 | 0, R => R
 | m + 1, R => match d[m]? with
  | none => passT fs d L ns k m R
  | some x => if lv L m = k ∧ hasS ns x.fName = true then rP fs d m (passT fs d L ns k m R) x else passT fs d L ns k m R
def jQ (fs : List TFile) (d : List TDir) (L : List Nat) (ns : List ByteArray) (k : Nat) : Nat → List TResult × Nat → List TResult × Nat
 | 0, x => x
 | F + 1, x => if jC x.1 < jC (passT fs d L ns k d.length x.1) then jQ fs d L ns k F (passT fs d L ns k d.length x.1, x.2 + 1) else (passT fs d L ns k d.length x.1, x.2 + 1)
def iP (ns : List ByteArray) (r : List TResult) (d : List TDir) : List TResult := d.map fun x => ⟨x.fName, if hasS ns x.fName then [] else bO x.fName r⟩
def allE (fs : List TFile) (d : List TDir) (L : List Nat) (ns : List ByteArray) (c : Nat) (r : List TResult) : Nat → List TResult × Nat
 | 0 => (iP ns r d, 0)
 | k + 1 => jQ fs d L ns k (d.length * c + 1) (allE fs d L ns c r k)
theorem a2R {fs : List TFile} {d : List TDir} {L : List Nat} {ns : List ByteArray} {c k : Nat} {R : List TResult} (h : Ev fs d L ns c k R) {i : Nat} (hi : i < d.length) (he : mY fs d[i].fQuery R = eQ R i) : rP fs d i R d[i] = R := by
 have hlen := h.len
 have hnm : (R[i]'(by omega)).fName = d[i].fName := by
  have := congrArg (fun l : List ByteArray => l[i]?) h.nm
  simp only [List.getElem?_map] at this
  rw [List.getElem?_eq_getElem (by omega), List.getElem?_eq_getElem hi] at this
  simpa using this
 have hids : eQ R i = (R[i]'(by omega)).fIDs := by
  have : i < R.length := by omega
  simp [eQ, List.getD_eq_getElem?_getD, this]
 unfold rP
 rw [he, hids, ← hnm]
 exact List.set_getElem_self _
theorem mQ (fs : List TFile) (d : List TDir) (L : List Nat) (ns : List ByteArray) (k m : Nat) (R : List TResult) (h : m < d.length) : passT fs d L ns k (m + 1) R = if lv L m = k ∧ hasS ns d[m].fName = true then rP fs d m (passT fs d L ns k m R) d[m] else passT fs d L ns k m R := by
 rw [passT, List.getElem?_eq_getElem h]
theorem mR {fs : List TFile} {d : List TDir} {L : List Nat} {ns : List ByteArray} {c k : Nat} (hv : ∀ i, (hi : i < d.length) → okQ d[i].fQuery = true) (hc : Clo d.length (EE d) L) : ∀ (m : Nat) (R : List TResult), m ≤ d.length → Ev fs d L ns c k R → Ev fs d L ns c k (passT fs d L ns k m R)
 | 0, R, _, h => h
 | m + 1, R, hm, h => by
  have ih := mR hv hc m R (by omega) h
  rw [mQ fs d L ns k m R (by omega)]
  split
  ·rename_i e; exact ih.step hv hc (by omega) e.2 e.1
  ·exact ih
theorem newR_cases {fs : List TFile} {d : List TDir} {L : List Nat} {ns : List ByteArray} {c k : Nat} {R : List TResult} (h : Ev fs d L ns c k R) {i : Nat} (hi : i < d.length) (hin : hasS ns d[i].fName = true) (hik : lv L i = k) : rP fs d i R d[i] = R ∨ jC R < jC (rP fs d i R d[i]) := by
 by_cases he : mY fs d[i].fQuery R = eQ R i
 ·exact .inl (a2R h hi he)
 ·exact .inr (h.grow hi hin hik he)
theorem passT_cases {fs : List TFile} {d : List TDir} {L : List Nat} {ns : List ByteArray} {c k : Nat} (hv : ∀ i, (hi : i < d.length) → okQ d[i].fQuery = true) (hc : Clo d.length (EE d) L) : ∀ (m : Nat) (R : List TResult), m ≤ d.length → Ev fs d L ns c k R → passT fs d L ns k m R = R ∨ jC R < jC (passT fs d L ns k m R)
 | 0, R, _, _ => .inl rfl
 | m + 1, R, hm, h => by
  have ih := passT_cases hv hc m R (by omega) h
  have he := mR hv hc m R (by omega) h
  rw [mQ fs d L ns k m R (by omega)]
  split
  ·rename_i e
   rcases newR_cases he (by omega) e.2 e.1 with e2 | g
   ·rw [e2]; exact ih
   ·rcases ih with e3 | g3
    ·rw [e3] at g ⊢; exact .inr g
    ·exact .inr (by omega)
  ·exact ih
theorem zC (ns : List ByteArray) (r : List TResult) (d : List TDir) (i : Nat) (hi : i < d.length) : eQ (iP ns r d) i = if hasS ns d[i].fName then [] else bO d[i].fName r := by
 unfold eQ iP
 simp only [List.getD_eq_getElem?_getD, List.getElem?_map, List.getElem?_eq_getElem hi]
 rfl
theorem zD {fs : List TFile} (d : List TDir) (L : List Nat) (ns : List ByteArray) (r : List TResult) : Ev fs d L ns (fs.length + aY r) 0 (iP ns r d) := by
 refine ⟨by simp [iP], fun i hi hn _ => ⟨fun _ => false, by rw [zC ns r d i hi, if_pos hn]; simp [iO], fun f hf => by cases hf⟩, fun i hi hn _ => by rw [zC ns r d i hi, if_pos hn], fun i => ?_, by omega⟩
 by_cases hi : i < d.length
 ·rw [zC ns r d i hi]
  split
  ·simp
  ·have := qR d[i].fName r; omega
 ·have e : eQ (iP ns r d) i = [] := by
   unfold eQ iP
   simp only [List.getD_eq_getElem?_getD, List.getElem?_map]
   rw [List.getElem?_eq_none (by omega)]; rfl
  rw [e]; simp
theorem a5D {fs : List TFile} {d : List TDir} {L : List Nat} {ns : List ByteArray} {c k : Nat} (hv : ∀ i, (hi : i < d.length) → okQ d[i].fQuery = true) (hc : Clo d.length (EE d) L) : ∀ (F : Nat) (x : List TResult × Nat), Ev fs d L ns c k x.1 → Ev fs d L ns c k (jQ fs d L ns k F x).1
 | 0, x, h => h
 | F + 1, x, h => by
  have hp := mR hv hc d.length x.1 (Nat.le_refl _) h
  unfold jQ
  split
  ·exact a5D hv hc F _ hp
  ·exact hp
theorem uF {fs : List TFile} {d : List TDir} {L : List Nat} {ns : List ByteArray} {r : List TResult} (hv : ∀ i, (hi : i < d.length) → okQ d[i].fQuery = true) (hc : Clo d.length (EE d) L) : ∀ k, Ev fs d L ns (fs.length + aY r) k (allE fs d L ns (fs.length + aY r) r k).1
 | 0 => zD d L ns r
 | k + 1 => (a5D hv hc _ _ (uF hv hc k)).next
structure Round (fs : List TFile) (d : List TDir) (L : List Nat) (ns : List ByteArray) (c : Nat) (k : Nat) (T : List TResult × Nat) (x : List TResult × Nat × Bool) : Prop where
 ev : Ev fs d L ns c k x.1
 run : x.2.2 = true → ∃ F, d.length * c + 1 ≤ F + jC x.1 ∧ T = jQ fs d L ns k F (x.1, x.2.1)
 fin : x.2.2 = false → T = (x.1, x.2.1)
theorem Round.start {fs : List TFile} {d : List TDir} {L : List Nat} {ns : List ByteArray} {c k : Nat} {R : List TResult} {n : Nat} (h : Ev fs d L ns c k R) : Round fs d L ns c k (jQ fs d L ns k (d.length * c + 1) (R, n)) (R, n, true) :=
 ⟨h, fun _ => ⟨_, by omega, rfl⟩, fun h => by cases h⟩
theorem Round.pass {fs : List TFile} {d : List TDir} {L : List Nat} {ns : List ByteArray} {c k : Nat} (hv : ∀ i, (hi : i < d.length) → okQ d[i].fQuery = true) (hc : Clo d.length (EE d) L) {T : List TResult × Nat} {R : List TResult} {n : Nat} (h : Round fs d L ns c k T (R, n, true)) : Round fs d L ns c k T (passT fs d L ns k d.length R, n + 1, decide (jC R < jC (passT fs d L ns k d.length R))) := by
 have hp := mR hv hc d.length R (Nat.le_refl _) h.ev
 obtain ⟨F, hF, hT⟩ := h.run rfl
 have ht := h.ev.tot
 simp only at ht
 cases F with
 | zero => simp only at hF; omega
 | succ F =>
  unfold jQ at hT
  simp only at hT hF
  refine ⟨hp, fun hx => ?_, fun hx => ?_⟩
  ·simp only [decide_eq_true_eq] at hx
   rw [if_pos hx] at hT
   exact ⟨F, by simp only; omega, hT⟩
  ·simp only [decide_eq_false_iff_not] at hx
   rw [if_neg hx] at hT
   exact hT
end Go.Proofs.YtolgdibgnndoaaaGreat
end
section
set_option maxRecDepth 100000
set_option maxHeartbeats 4000000
namespace Go.Proofs.YtolgdibgnndoaaaGreat
open Go Go.Sx Go.RowKit Go.Proofs
def a0p : List Nat → Int → Int
 | [], m => m
 | x :: l, m => a0p l (if (x : Int) > m then (x : Int) else m)
def a6T (L : List Nat) : Int := a0p L (-1)
theorem a9h (L : List Nat) (k : Nat) (m : Int) (h : k < L.length) : a0p (L.drop k) m = a0p (L.drop (k + 1)) (if (L[k] : Int) > m then (L[k] : Int) else m) := by
 rw [List.drop_eq_getElem_cons h, a0p]
theorem a0d (q : List TNode) (f : TFile) (R : List TResult) (hq : gM q ≤ 4300000) (hf : aW f ≤ 4300000) (hR : aY R ≤ 67108864) : FnC Tryz.prog 155 [.o (.d (.sl (q.map bC))), dQ f, .o (.d (.sl (R.map bX)))] (ob (pr q R f)) := by
 refine ent Tryz.func155 rfl Tryz.call155 rfl (fun C => ?_); simp only [go_sem, st0, Tryz.ntmps155]
 cases hv : okQ q
 ·have q0 := @hv; refine jB (bR q hq) ?_
  exact aA ⟨⟨_, rfl, by simp only [go_sem, pr, hv, Bool.false_and]⟩, trivial⟩
 ·have hl := tZ hv
  have hx : (q.length : Int) - 1 = ((q.length - 1 : Nat) : Int) := by omega
  have q0 := @hv; have q1 := @hx; refine a6s (bR q hq) (a3X q f R hv hf hR q.length (q.length - 1) (by omega) (by omega)) ?_
  exact aA ⟨⟨_, rfl, by simp only [go_sem, pr, hv, Bool.true_and]⟩, trivial⟩
theorem xW (s : TStore) (q : List TNode) (R : List TResult) (hs : bW s ≤ 4300000) (hq : gM q ≤ 4300000) (hR : aY R ≤ 67108864) : FnC Tryz.prog 86 [gY s, .o (.d (.sl (q.map bC))), .o (.d (.sl (R.map bX)))] (.o (.w 3 1 ((mY s.fFiles q R).map jH))) := by
 unfold bW iE at hs
 refine ent Tryz.func86 rfl Tryz.call86 rfl (fun C => ?_); simp only [go_sem, st0, Tryz.ntmps86]
 refine aB ?_
 refine bB (α := Nat) (fun k => [(7, .o (.s 1)), (9, .o .u), (8, oi k)]) (fun k => [(1, .row 3 1 ((iO ((s.fFiles.take k).filter (pr q R))).map jH) true)]) (fun k => k ≤ s.fFiles.length) (fun k => s.fFiles.length - k) 0 (fun _ => ?_) ?_ ?_ (fun k hk => ?_)
 ·simp only [go_sem]
 ·simp only [go_sem]; simp [iO]
 ·simp
 ·simp only [go_sem]
  refine aB ?_
  refine cnd rfl (fun h => ?_) (fun h => ?_)
  ·simp only [decide_eq_true_eq, Int.ofNat_lt] at h
   have hw := eY aW s.fFiles h
   have ht : s.fFiles.take (k + 1) = s.fFiles.take k ++ [s.fFiles[k]] := List.take_succ_eq_append_getElem h
   have hl : (iO ((s.fFiles.take k).filter (pr q R))).length ≤ k := by
    unfold iO; rw [List.length_map]
    exact Nat.le_trans (List.length_filter_le _ _) (by rw [List.length_take]; omega)
   have hl1 : (iO ((s.fFiles.take k).filter (pr q R))).length + 1 ≤ 140737488355328 := by omega
   have hl2 : ((iO ((s.fFiles.take k).filter (pr q R))).length + 1) * 8 ≤ 140737488355328 := by omega
   cases hm : pr q R s.fFiles[k]
   ·have hf : iO ((s.fFiles.take (k + 1)).filter (pr q R)) = iO ((s.fFiles.take k).filter (pr q R)) := by rw [ht, List.filter_append]; simp [hm]
    have q0 := @h; have q1 := @hm; refine a8B (a0d q s.fFiles[k] R hq (by omega) hR) ?_
    refine aD (k + 1) ?_ ?_ ?_
    ·simp only [go_sem, hf]; simp
    ·omega
    ·omega
   ·have hf : iO ((s.fFiles.take (k + 1)).filter (pr q R)) = iO ((s.fFiles.take k).filter (pr q R)) ++ [s.fFiles[k].fID] := by rw [ht, List.filter_append]; simp [hm, iO]
    have q0 := @h; have q1 := @hm; refine a8B (a0d q s.fFiles[k] R hq (by omega) hR) ?_
    refine aD (k + 1) ?_ ?_ ?_
    ·simp only [go_sem, hf, List.map_append]; simp
    ·omega
    ·omega
  ·simp only [decide_eq_false_iff_not] at h
   have e : k = s.fFiles.length := by omega
   subst e
   refine aB ?_
   exact aA ⟨⟨_, rfl, by simp only [go_sem, mY, List.take_length]⟩, trivial⟩
theorem a6U (d : List TDir) (hd : dK d ≤ 4300000) (hl : (resL d).length ≤ 4300000) : FnC Tryz.prog 85 [.o (.d (.sl (d.map bD)))] (oi (a6T (resL d))) := by
 refine ent Tryz.func85 rfl Tryz.call85 rfl (fun C => ?_); simp only [go_sem, st0, Tryz.ntmps85]
 refine iV (iX d hd) ?_
 generalize resL d = A at *
 refine bB (α := Nat × Int) (fun x => [(5, oi x.2), (6, oi x.1)]) (fun _ => []) (fun x => x.1 ≤ A.length ∧ a6T A = a0p (A.drop x.1) x.2) (fun x => A.length - x.1) (0, -1) (fun _ => ?_) ?_ ?_ (fun x hx => ?_)
 ·simp only [go_sem]
 ·simp only [go_sem]; simp
 ·simp [a6T]
 ·obtain ⟨k, m⟩ := x
  obtain ⟨hk, hq⟩ := hx
  simp only at hk hq
  simp only [go_sem]
  refine aB ?_
  refine cnd rfl (fun h2 => ?_) (fun h2 => ?_)
  ·simp only [decide_eq_true_eq, Int.ofNat_lt] at h2
   rw [a9h A k m h2] at hq
   have q0 := @h2; refine dZ ?_
   by_cases hc : m < (A[k] : Int)
   ·rw [if_pos hc] at hq
    refine cnd (b := decide (m < (A[k] : Int))) rfl (fun _ => ?_) (fun hx => ?_)
    ·have q0 := @h2; refine dZ ?_
     refine aD (k + 1, (A[k] : Int)) ?_ ?_ ?_
     ·simp only [go_sem]; simp
     ·exact ⟨by simp only; omega, hq⟩
     ·simp only; omega
    ·simp [hc] at hx
   ·rw [if_neg hc] at hq
    refine cnd (b := decide (m < (A[k] : Int))) rfl (fun hx => ?_) (fun _ => ?_)
    ·simp [hc] at hx
    ·have q0 := @h2; refine dZ ?_
     refine aD (k + 1, m) ?_ ?_ ?_
     ·simp only [go_sem]; simp
     ·exact ⟨by simp only; omega, hq⟩
     ·simp only; omega
  ·simp only [decide_eq_false_iff_not] at h2
   have e : k = A.length := by omega
   subst e
   rw [List.drop_length, a0p] at hq
   refine aB ?_
   exact aA ⟨⟨_, rfl, by simp only [go_sem, hq]⟩, trivial⟩
end Go.Proofs.YtolgdibgnndoaaaGreat
end
section
set_option maxRecDepth 100000
namespace Go.Proofs.YtolgdibgnndoaaaGreat
open Go Go.Sx Go.RowKit Go.Proofs
def eqL {α : Type} (p : α → α → Bool) : List α → List α → Bool
 | [], [] => true
 | x :: xs, y :: ys => p x y && eqL p xs ys
 | _, _ => false
theorem a3Z {α : Type} (p : α → α → Bool) : ∀ {a b : List α}, a.length ≠ b.length → eqL p a b = false
 | [], [], h => by simp at h
 | x :: xs, y :: ys, h => by
  have := a3Z p (a := xs) (b := ys) (by simpa using h)
  simp [eqL, this]
 | [], _ :: _, _ => rfl
 | _ :: _, [], _ => rfl
@[go_sem] def mU (a b : Int) : Bool := decide (a = b)
@[go_sem] def b1g (a b : TField) : Bool := decide (a.fName = b.fName) && decide (a.fKind = b.fKind)
@[go_sem] def b2I (a b : TAttr) : Bool := decide (a.fName = b.fName) && (decide (a.fValue.fKind = b.fValue.fKind) && (decide (a.fValue.fInt = b.fValue.fInt) && decide (a.fValue.fStr = b.fValue.fStr)))
@[go_sem] def b2J (a b : TNode) : Bool := decide (a.fOp = b.fOp) && (decide (a.fLeft = b.fLeft) && (decide (a.fRight = b.fRight) && (decide (a.fName = b.fName) && (decide (a.fValue.fKind = b.fValue.fKind) && (decide (a.fValue.fInt = b.fValue.fInt) && decide (a.fValue.fStr = b.fValue.fStr))))))
def b2K (a b : TFile) : Bool := decide (a.fID = b.fID) && (decide (a.fOwner = b.fOwner) && ((a.fShared == b.fShared) && (decide (a.fLink = b.fLink) && eqL b2I a.fAttrs b.fAttrs)))
def b1h (a b : TDir) : Bool := decide (a.fName = b.fName) && eqL b2J a.fQuery b.fQuery
def fC (a b : TResult) : Bool := decide (a.fName = b.fName) && eqL mU a.fIDs b.fIDs
def a5G (a b : TStore) : Bool := eqL b1g a.fSchema b.fSchema && (eqL b2K a.fFiles b.fFiles && decide (a.fNextID = b.fNextID))
def b3c (a b : TSnapshot) : Bool := a5G a.fStore b.fStore && eqL b1h a.fDirs b.fDirs
def b4s (a b : TCatalog) : Bool := a5G a.fStore b.fStore && (eqL b1h a.fDirs b.fDirs && eqL fC a.fResults b.fResults)
theorem sZ (a b : List Int) (ha : a.length ≤ 4300000) : FnC Tryz.prog 87 [.o (.d (.sl (a.map jH))), .o (.d (.sl (b.map jH)))] (ob (eqL mU a b)) := by
 have hal : a.length ≤ 4300000 := by omega
 refine ent Tryz.func87 rfl Tryz.call87 rfl (fun C => ?_); simp only [go_sem, st0, Tryz.ntmps87]
 refine aB ?_
 refine cnd rfl (fun h0 => ?_) (fun h0 => ?_)
 ·have e : eqL mU a b = false := a3Z _ (by simp only [Bool.not_eq_true', decide_eq_false_iff_not] at h0; omega)
  refine aB ?_
  exact aA ⟨⟨_, rfl, by simp only [go_sem, e]⟩, trivial⟩
 have h0 : a.length = b.length := by simpa [Int.ofNat_inj] using h0
 refine aB ?_
 refine bB (α := Nat) (fun k => [(5, oi k)]) (fun _ => []) (fun k => k ≤ a.length ∧ eqL mU a b = eqL mU (a.drop k) (b.drop k)) (fun k => a.length - k) 0 (fun _ => ?_) ?_ ?_ (fun k hk => ?_)
 ·simp only [go_sem]
 ·simp only [go_sem]; simp
 ·simp
 ·obtain ⟨hk, hq⟩ := hk
  simp only [go_sem]
  refine aB ?_
  refine cnd rfl (fun h => ?_) (fun h => ?_)
  ·simp only [decide_eq_true_eq, Int.ofNat_lt] at h
   have hb : k < b.length := by omega
   rw [List.drop_eq_getElem_cons h, List.drop_eq_getElem_cons hb, eqL] at hq
   have q0 := @h; have q1 := @hb; refine gT ?_
   refine cnd (b := !(mU a[k] b[k])) (by rfl) (fun h2 => ?_) (fun h2 => ?_)
   ·simp only [Bool.not_eq_true'] at h2
    rw [h2, Bool.false_and] at hq
    refine aB ?_
    exact aA ⟨⟨_, rfl, by simp only [go_sem, hq]⟩, trivial⟩
   ·simp only [Bool.not_eq_false'] at h2
    rw [h2, Bool.true_and] at hq
    refine aB ?_
    refine aD (k + 1) ?_ ?_ ?_
    ·simp only [go_sem]; simp
    ·exact ⟨h, hq⟩
    ·omega
  ·simp only [decide_eq_false_iff_not] at h
   have e : k = a.length := by omega
   subst e
   rw [List.drop_length, List.drop_of_length_le (by omega), eqL] at hq
   refine aB ?_
   exact aA ⟨⟨_, rfl, by simp only [go_sem, hq]⟩, trivial⟩
theorem uN (a b : List TResult) (ha : aY a ≤ 4300000) : FnC Tryz.prog 78 [.o (.d (.sl (a.map bX))), .o (.d (.sl (b.map bX)))] (ob (eqL fC a b)) := by
 have hal : a.length ≤ 4300000 := by unfold aY at ha; omega
 refine ent Tryz.func78 rfl Tryz.call78 rfl (fun C => ?_); simp only [go_sem, st0, Tryz.ntmps78]
 refine aB ?_
 refine cnd rfl (fun h0 => ?_) (fun h0 => ?_)
 ·have e : eqL fC a b = false := a3Z _ (by simp only [Bool.not_eq_true', decide_eq_false_iff_not] at h0; omega)
  refine aB ?_
  exact aA ⟨⟨_, rfl, by simp only [go_sem, e]⟩, trivial⟩
 have h0 : a.length = b.length := by simpa [Int.ofNat_inj] using h0
 refine aB ?_
 refine bB (α := Nat) (fun k => [(5, oi k)]) (fun _ => []) (fun k => k ≤ a.length ∧ eqL fC a b = eqL fC (a.drop k) (b.drop k)) (fun k => a.length - k) 0 (fun _ => ?_) ?_ ?_ (fun k hk => ?_)
 ·simp only [go_sem]
 ·simp only [go_sem]; simp
 ·simp
 ·obtain ⟨hk, hq⟩ := hk
  simp only [go_sem]
  refine aB ?_
  refine cnd rfl (fun h => ?_) (fun h => ?_)
  ·simp only [decide_eq_true_eq, Int.ofNat_lt] at h
   have hb : k < b.length := by omega
   rw [List.drop_eq_getElem_cons h, List.drop_eq_getElem_cons hb, eqL] at hq
   have hw := eY iL a h
   have hv : a[k].fIDs.length ≤ iL a[k] := by unfold iL; omega
   have hx : a[k].fIDs.length ≤ 4300000 := by unfold aY at ha; omega
   by_cases h1 : a[k].fName = b[k].fName
   case neg =>
    have h2 : fC a[k] b[k] = false := by simp [fC, h1]
    rw [h2, Bool.false_and] at hq
    have q0 := @h; have q1 := @hb; have q2 := @h1; have q3 := @decide_false; refine mE ?_
    exact aA ⟨⟨_, rfl, by simp only [go_sem, hq]⟩, trivial⟩
   have h3 : fC a[k] b[k] = eqL mU a[k].fIDs b[k].fIDs := by simp [fC, h1]
   have q0 := @h; have q1 := @hb; have q2 := @h1; have q3 := @decide_false; refine a6t (sZ a[k].fIDs b[k].fIDs hx) ?_
   refine cnd (b := !(fC a[k] b[k])) (by rw [h3]; try rfl) (fun h2 => ?_) (fun h2 => ?_)
   ·simp only [Bool.not_eq_true'] at h2
    rw [h2, Bool.false_and] at hq
    refine aB ?_
    exact aA ⟨⟨_, rfl, by simp only [go_sem, hq]⟩, trivial⟩
   ·simp only [Bool.not_eq_false'] at h2
    rw [h2, Bool.true_and] at hq
    refine aB ?_
    refine aD (k + 1) ?_ ?_ ?_
    ·simp only [go_sem]; simp
    ·exact ⟨h, hq⟩
    ·omega
  ·simp only [decide_eq_false_iff_not] at h
   have e : k = a.length := by omega
   subst e
   rw [List.drop_length, List.drop_of_length_le (by omega), eqL] at hq
   refine aB ?_
   exact aA ⟨⟨_, rfl, by simp only [go_sem, hq]⟩, trivial⟩
end Go.Proofs.YtolgdibgnndoaaaGreat
end
section
set_option maxRecDepth 100000
set_option maxHeartbeats 4000000
namespace Go.Proofs.YtolgdibgnndoaaaGreat
open Go Go.Sx Go.RowKit Go.Proofs
def xV (d : List TDir) (L : List Nat) : Nat := (a6T L + 1).toNat
noncomputable def evX (s : TStore) (d : List TDir) (r : List TResult) (ns : List ByteArray) : List TResult × Nat := if sS d && cK s then allE s.fFiles d (resL d) ns (s.fFiles.length + aY r) r (xV d (resL d)) else ([], 0)
noncomputable def evB (s : TStore) (d : List TDir) : Bool := sS d && cK s
theorem pM {d : List TDir} (h : sS d = true) : fE d = true ∧ Least d.length (EE d) (resL d) := by
 unfold sS at h
 split at h
 ·rename_i hv
  refine ⟨hv, ?_⟩
  unfold a1z at h
  split at h
  ·rename_i hx
   have hex : ∃ L, Least d.length (EE d) L := by
    have hends := a2P (sU d) (fJ d) (fun x => Iff.rfl) (d.length * d.length + 2) (by omega)
    simp only at hends
    split at hends
    ·exact ⟨_, hends⟩
    ·exact (hends hx).elim
   obtain ⟨L, hL⟩ := hex
   have e : resL d = L := by unfold resL; rw [if_pos hv]; exact a7R hL
   rw [e]; exact hL
  ·cases h
 ·cases h
theorem a0b {d : List TDir} (h : fE d = true) (i : Nat) (hi : i < d.length) : d[i].fName.size ≤ 6 := by
 unfold fE at h
 simp only [Bool.and_eq_true, List.all_eq_true, List.mem_range] at h
 have := h.1 i hi
 unfold nK at this
 rw [List.getElem?_eq_getElem hi] at this
 simp only [Bool.and_eq_true] at this
 have := a8S this.1
 omega
theorem a0c {s : TStore} (h : cK s = true) : s.fFiles.length ≤ 12 := by
 unfold cK at h
 simp only [Bool.and_eq_true, decide_eq_true_eq] at h
 omega
theorem vU {α : Type} (w : α → Nat) (c : Nat) : ∀ l : List α, (∀ i, (h : i < l.length) → w l[i] ≤ c) → dD w l ≤ l.length * c
 | [], _ => by simp [dD]
 | x :: l, h => by
  have h0 := h 0 (by simp)
  have h1 := vU w c l fun i hi => h (i + 1) (by simpa using hi)
  simp only [List.getElem_cons_zero] at h0
  simp only [dD, List.length_cons, Nat.succ_mul]
  omega
theorem Ev.get {fs : List TFile} {d : List TDir} {L : List Nat} {ns : List ByteArray} {c k : Nat} {R : List TResult} (h : Ev fs d L ns c k R) (i : Nat) (hi : i < d.length) : (R[i]'(by rw [h.len]; exact hi)).fName = d[i].fName ∧ (R[i]'(by rw [h.len]; exact hi)).fIDs = eQ R i := by
 have hlen := h.len
 have hR : i < R.length := by omega
 refine ⟨?_, ?_⟩
 ·have := congrArg (fun l : List ByteArray => l[i]?) h.nm
  simp only [List.getElem?_map] at this
  rw [List.getElem?_eq_getElem hR, List.getElem?_eq_getElem hi] at this
  simpa using this
 ·simp [eQ, List.getD_eq_getElem?_getD, hR]
theorem Ev.w {fs : List TFile} {d : List TDir} {L : List Nat} {ns : List ByteArray} {c k : Nat} {R : List TResult} (h : Ev fs d L ns c k R) (hv : fE d = true) (hc : c ≤ 4300012) : aY R ≤ 67108864 := by
 have hlen := h.len
 have h5 := mP hv
 have hb := vU iL 4300018 R fun i hi => by
  obtain ⟨e1, e2⟩ := h.get i (by omega)
  have h1 := a0b hv i (by omega)
  have h2 := h.bd i
  unfold iL
  rw [e1, e2]
  omega
 unfold aY
 have : R.length * 4300018 ≤ 5 * 4300018 := Nat.mul_le_mul_right _ (by omega)
 omega
theorem b5y (R : List TResult) (i : Nat) (nm : ByteArray) (l : List Int) : (R.map bX).set i [sv nm, .sl (l.map jH)] = (R.set i ⟨nm, l⟩).map bX := by rw [List.map_set]; rfl
theorem a3W (a b : List Int) : eqL mU a b = decide (a = b) := by
 induction a generalizing b with
 | nil => cases b <;> simp [eqL]
 | cons x a ih =>
  cases b with
  | nil => simp [eqL]
  | cons y b =>
   simp only [eqL, ih, mU]
   by_cases h1 : x = y <;> by_cases h2 : a = b <;> simp [h1, h2]
theorem a5z (ns : List ByteArray) (r : List TResult) (d : List TDir) (k : Nat) (h : k < d.length) : iP ns r (d.take (k + 1)) = iP ns r (d.take k) ++ [⟨d[k].fName, if hasS ns d[k].fName then [] else bO d[k].fName r⟩] := by
 unfold iP; rw [List.take_succ_eq_append_getElem h, List.map_append]; rfl
theorem a6S (ns : List ByteArray) (r : List TResult) (d : List TDir) (k : Nat) : (iP ns r (d.take k)).length ≤ k := by unfold iP; simp; omega
theorem b2D (d : List TDir) (k : Nat) (h : k < d.length) : hasS (dirNs d) d[k].fName = true := by
 rw [gI]
 exact List.mem_map.2 ⟨d[k], List.getElem_mem h, rfl⟩
def chB (fs : List TFile) (d : List TDir) (L : List Nat) (ns : List ByteArray) (k i : Nat) (R : List TResult) : Bool := decide (jC R < jC (passT fs d L ns k i R))
theorem b2E (l : List Nat) (m : Int) : m ≤ a0p l m := by
 induction l generalizing m with
 | nil => simp [a0p]
 | cons x l ih =>
  simp only [a0p]
  split
  ·have := ih (x : Int); omega
  ·exact ih m
theorem b2F (l : List Nat) (m c : Int) (hm : m ≤ c) (h : ∀ x ∈ l, (x : Int) ≤ c) : a0p l m ≤ c := by
 induction l generalizing m with
 | nil => exact hm
 | cons x l ih =>
  simp only [a0p]
  refine ih _ ?_ fun y hy => h y (List.mem_cons_of_mem _ hy)
  split
  ·exact h x (by simp)
  ·exact hm
theorem b4r {d : List TDir} {L : List Nat} (h : Least d.length (EE d) L) : a6T L ≤ (d.length : Int) := by
 obtain ⟨G, hG, hs⟩ := zB (sU d) h.clo
 refine b2F L (-1) _ (by omega) fun x hx => ?_
 obtain ⟨i, hi, rfl⟩ := List.mem_iff_getElem.1 hx
 have h1 := h.le G hG i
 have h2 := hs i (by rw [← h.clo.len]; exact hi)
 rw [yV L i hi]
 omega
theorem a2Q (fs : List TFile) (d : List TDir) (L : List Nat) (ns : List ByteArray) (k : Nat) : ∀ (F : Nat) (x : List TResult × Nat), (jQ fs d L ns k F x).2 ≤ x.2 + F
 | 0, x => by simp [jQ]
 | F + 1, x => by
  unfold jQ
  split
  ·have := a2Q fs d L ns k F (passT fs d L ns k d.length x.1, x.2 + 1)
   simp only at this
   omega
  ·simp only; omega
theorem a5A (fs : List TFile) (d : List TDir) (L : List Nat) (ns : List ByteArray) (c : Nat) (r : List TResult) : ∀ k, (allE fs d L ns c r k).2 ≤ k * (d.length * c + 1)
 | 0 => by simp [allE]
 | k + 1 => by
  have h1 := a5A fs d L ns c r k
  have h2 := a2Q fs d L ns k (d.length * c + 1) (allE fs d L ns c r k)
  simp only [allE, Nat.succ_mul]
  omega
theorem a5B (d : List TDir) (L : List Nat) (k : Nat) : (k : Int) ≤ a6T L ↔ k < xV d L := by
 have : -1 ≤ a6T L := b2E L (-1)
 unfold xV
 omega
theorem b1a {fs : List TFile} {d : List TDir} {L : List Nat} {ns : List ByteArray} {k i : Nat} {R : List TResult} (h : passT fs d L ns k (i + 1) R = passT fs d L ns k i R) : chB fs d L ns k (i + 1) R = chB fs d L ns k i R := by unfold chB; rw [h]
theorem a9g (s : TStore) (d : List TDir) (hs : bW s ≤ 4300000) (hd : dK d ≤ 4300000) : FnC Tryz.prog 79 [gY s, .o (.d (.sl (d.map bD)))] (.t [(false, [.w 115 2 ((evX s d [] (dirNs d)).1.map bX)]), (false, [.d (iv ((evX s d [] (dirNs d)).2 : Nat))]), (false, [.d (bv (evB s d))])]) := by
 have hd0 : d.length + dD mG d ≤ 4300000 := hd
 have hs0 : dH s.fSchema + (s.fFiles.length + dD aW s.fFiles) ≤ 4300000 := hs
 refine ent Tryz.func79 rfl Tryz.call79 rfl (fun C => ?_); simp only [go_sem, st0, Tryz.ntmps79]
 have hr : aY [] ≤ 4300000 := by simp [aY, dD]
 generalize hrr : ([] : List TResult) = r at *
 have hns : (dirNs d).length ≤ 4300000 := by rw [lM]; omega
 have hhas : ∀ i, (hi : i < d.length) → hasS (dirNs d) d[i].fName = true := b2D d
 generalize dirNs d = ns at *
 cases hb : sS d
 ·have e1 : evX s d r ns = ([], 0) := by simp [evX, hb]
  have e2 : evB s d = false := by simp [evB, hb]
  have q0 := @hb; refine jB (iX d hd) ?_
  exact aA ⟨⟨_, rfl, by simp only [go_sem, e1, e2, List.map_nil]; simp⟩, by simp [dF]⟩
 cases hst : cK s
 ·have e1 : evX s d r ns = ([], 0) := by simp [evX, hst]
  have e2 : evB s d = false := by simp [evB, hst]
  have q0 := @hb; have q1 := @hst; refine a6s (iX d hd) (bF s hs) ?_
  exact aA ⟨⟨_, rfl, by simp only [go_sem, e1, e2, List.map_nil]; simp⟩, by simp [dF]⟩
 obtain ⟨hv, hleast⟩ := pM hb
 have hclo := hleast.clo
 have hvq := fun i (hi : i < d.length) => lH hv i hi
 have h5 := mP hv
 have h12 := a0c hst
 have hLl := hclo.len
 obtain ⟨CC, hCC⟩ : ∃ c, s.fFiles.length + aY r = c := ⟨_, rfl⟩
 have hC2 : CC ≤ 4300012 := by omega
 have e1 : evX s d r ns = allE s.fFiles d (resL d) ns CC r (xV d (resL d)) := by simp [evX, hb, hst, hCC]
 have e2 : evB s d = true := by simp [evB, hb, hst]
 have q0 := @hb; have q1 := @hst; refine a6s (iX d hd) (bF s hs) ?_
 refine bB (α := Nat) (fun k => [(9, .o (.s 1)), (29, .o .u), (10, oi k)]) (fun k => [(1, .row 115 2 ((iP ns r (d.take k)).map bX) true)]) (fun k => k ≤ d.length) (fun k => d.length - k) 0 (fun _ => ?_) ?_ ?_ (fun k hk => ?_)
 ·simp only [go_sem]
 ·simp only [go_sem]; simp [iP]
 ·simp
 ·simp only [go_sem]
  refine aB ?_
  refine cnd rfl (fun h => ?_) (fun h => ?_)
  ·simp only [decide_eq_true_eq, Int.ofNat_lt] at h
   have hsl := a6S ns r d k
   have hl1 : (iP ns r (d.take k)).length + 1 ≤ 140737488355328 := by omega
   have hl2 : ((iP ns r (d.take k)).length + 1) * 40 ≤ 140737488355328 := by omega
   have hsu := a5z ns r d k h
   rw [hhas k h] at hsu
   have q0 := @h; have q1 := @hl1; have q2 := @hl2; refine mD ?_
   refine aD (k + 1) ?_ ?_ ?_
   ·simp only [go_sem, hsu, List.map_append]; simp [bX]
   ·omega
   ·omega
  ·simp only [decide_eq_false_iff_not] at h
   have e : k = d.length := by omega
   subst e
   rw [List.take_length]
   generalize hL : resL d = L at *
   refine aB ?_
   refine bB (α := Nat) (fun k => [(11, oi ((allE s.fFiles d L ns CC r k).2 : Nat)), (12, oi k)]) (fun k => [(1, .row 115 2 ((allE s.fFiles d L ns CC r k).1.map bX) true)]) (fun k => k ≤ xV d L) (fun k => xV d L - k) 0 (fun _ => ?_) ?_ ?_ (fun k hk => ?_)
   ·simp only [go_sem]
   ·simp only [go_sem]; simp [allE]
   ·simp
   ·simp only [go_sem]
    have q0 := @hL; refine jB (a6U d hd (by rw [hL]; omega)) ?_
    refine cnd rfl (fun hlev => ?_) (fun hlev => ?_)
    ·simp only [decide_eq_true_eq] at hlev
     have hkK := (a5B d L k).1 hlev
     have hev := uF (fs := s.fFiles) (ns := ns) (r := r) hvq hclo k
     rw [hCC] at hev
     have htop := b4r hleast
     have hcnt := a5A s.fFiles d L ns CC r k
     have hnm : d.length * CC ≤ 5 * 4300012 := Nat.mul_le_mul h5 hC2
     have hcnt2 : k * (d.length * CC + 1) ≤ 5 * 21500061 := Nat.mul_le_mul (by omega) (by omega)
     have hround : Round s.fFiles d L ns CC k (allE s.fFiles d L ns CC r (k + 1)) ((allE s.fFiles d L ns CC r k).1, (allE s.fFiles d L ns CC r k).2, true) := Round.start hev
     generalize hT : allE s.fFiles d L ns CC r (k + 1) = T at *
     generalize allE s.fFiles d L ns CC r k = X at *
     refine aB ?_
     refine bB (α := List TResult × Nat × Bool) (fun x => [(11, oi (x.2.1 : Nat)), (13, ob x.2.2)]) (fun x => [(1, .row 115 2 (x.1.map bX) true)]) (fun x => Round s.fFiles d L ns CC k T (x.1, x.2.1, x.2.2) ∧ x.2.1 ≤ X.2 + jC x.1 + (if x.2.2 then 0 else 1)) (fun x => if x.2.2 then d.length * CC + 1 - jC x.1 else 0) (X.1, X.2, true) (fun _ => ?_) ?_ ?_ (fun x hx => ?_)
     ·simp only [go_sem]
     ·simp only [go_sem]; simp
     ·exact ⟨hround, by simp⟩
     ·obtain ⟨R, c, b⟩ := x
      obtain ⟨hx, hcb⟩ := hx
      simp only at hcb
      simp only [go_sem]
      refine aB ?_
      refine cnd rfl (fun hbt => ?_) (fun hbt => ?_)
      ·subst hbt
       have hRe : Ev s.fFiles d L ns CC k R := hx.ev
       have hRt := hRe.tot
       simp only [if_true, Nat.add_zero] at hcb
       have hcI : c ≤ 1000000000 := by omega
       have hpass := hx.pass hvq hclo
       refine aB ?_
       refine bB (α := Nat) (fun i => [(13, ob (chB s.fFiles d L ns k i R)), (14, oi i)]) (fun i => [(1, .row 115 2 ((passT s.fFiles d L ns k i R).map bX) true)]) (fun i => i ≤ d.length) (fun i => d.length - i) 0 (fun _ => ?_) ?_ ?_ (fun i hi => ?_)
       ·simp only [go_sem]
       ·simp only [go_sem]; simp [chB, passT]
       ·simp
       ·simp only [go_sem]
        refine aB ?_
        refine cnd rfl (fun h => ?_) (fun h => ?_)
        ·simp only [decide_eq_true_eq, Int.ofNat_lt] at h
         have hEv := mR hvq hclo i R (by omega) hRe
         have hcs := passT_cases hvq hclo i R (by omega) hRe
         have hsu := mQ s.fFiles d L ns k i R h
         have hchk : passT s.fFiles d L ns k (i + 1) R = passT s.fFiles d L ns k i R → chB s.fFiles d L ns k (i + 1) R = chB s.fFiles d L ns k i R := b1a
         have hchn : jC R < jC (passT s.fFiles d L ns k (i + 1) R) → chB s.fFiles d L ns k (i + 1) R = true := fun hx => by unfold chB; exact decide_eq_true hx
         have hw := hEv.w hv hC2
         obtain ⟨g1, g2⟩ := hEv.get i h
         have hPl := hEv.len
         have hbd := hEv.bd i
         have hwd := eY mG d h
         have hwq : gM d[i].fQuery ≤ mG d[i] := by unfold mG; omega
         have hgrow := fun hin hik hne => hEv.grow h hin hik hne
         have hsame := fun he => a2R hEv h he
         generalize passT s.fFiles d L ns k i R = P at *
         generalize hP2 : passT s.fFiles d L ns k (i + 1) R = P2 at *
         have hiP : i < P.length := by omega
         have hiL : i < L.length := by omega
         have hg := yV L i hiL
         have hsl := a5E s.fFiles d[i].fQuery P
         by_cases hik : lv L i = k
         ·have hkI : ((lv L i : Nat) : Int) = ((k : Nat) : Int) := by omega
          have hn := hhas i h
          ·rw [if_pos ⟨hik, hn⟩] at hsu
           by_cases he : mY s.fFiles d[i].fQuery P = eQ P i
           ·have hE : eqL mU (mY s.fFiles d[i].fQuery P) (eQ P i) = true := by rw [a3W]; exact decide_eq_true he
            have hPP : P2 = P := by rw [hsu, hsame he]
            have qH := aI @h (aI @hiP (aI @hiL (aI @hg (aI @hkI (aI @g1 (aI @g2 (aI @hE (aI @hn (aI @decide_true @decide_false))))))))); repeat' (with_reducible first | refine nY ?_ | (refine mX ?_; try simp only [go_sem, qH]) | refine kD ?_ | refine rT [7] [74] ?_ | refine xA (aX ?_) (uX ?_) | refine a0X (aX ?_) ?_ | (refine uA ?_; simp only [go_sem, qH]; (repeat' first | omega | refine And.intro ?_ ?_ | refine cP (fT ns d[i].fName hns) ?_ | (refine mX ?_; simp only [go_sem, qH] <;> fail)); done) | refine rD ?_ | refine cP (fT ns d[i].fName hns) ?_ | refine vR (xW s d[i].fQuery P hs (by omega) hw) ?_ | refine vG (xW s d[i].fQuery P hs (by omega) hw) ?_ | refine vL (sZ (mY s.fFiles d[i].fQuery P) (eQ P i) (by omega)) ?_ | refine aO ?_ | fail)
            refine aD (i + 1) ?_ ?_ ?_
            ·simp only [go_sem, hP2, hchk hPP, hPP]; simp
            ·omega
            ·omega
           ·have hE : eqL mU (mY s.fFiles d[i].fQuery P) (eQ P i) = false := by rw [a3W]; exact decide_eq_false he
            have hlt := hgrow hn hik he
            have hch2 : chB s.fFiles d L ns k (i + 1) R = true := hchn (by
             rw [hsu]
             rcases hcs with e | e
             ·rw [← e]; exact hlt
             ·omega)
            have qH := aI @h (aI @hiP (aI @hiL (aI @hg (aI @hkI (aI @g1 (aI @g2 (aI @hE (aI @hn (aI @decide_true @decide_false))))))))); repeat' (with_reducible first | refine nY ?_ | (refine mX ?_; try simp only [go_sem, qH]) | refine kD ?_ | refine rT [7] [74] ?_ | refine xA (aX ?_) (uX ?_) | refine a0X (aX ?_) ?_ | (refine uA ?_; simp only [go_sem, qH]; (repeat' first | omega | refine And.intro ?_ ?_ | refine cP (fT ns d[i].fName hns) ?_ | (refine mX ?_; simp only [go_sem, qH] <;> fail)); done) | refine rD ?_ | refine cP (fT ns d[i].fName hns) ?_ | refine vR (xW s d[i].fQuery P hs (by omega) hw) ?_ | refine vG (xW s d[i].fQuery P hs (by omega) hw) ?_ | refine vL (sZ (mY s.fFiles d[i].fQuery P) (eQ P i) (by omega)) ?_ | refine aO ?_ | fail)
            refine aD (i + 1) ?_ ?_ ?_
            ·simp only [go_sem, hP2, hch2, hsu, rP, ← b5y]; simp
            ·omega
            ·omega
         ·rw [if_neg (fun h => hik h.1)] at hsu
          have hkI : ¬ ((lv L i : Nat) : Int) = ((k : Nat) : Int) := by omega
          have q0 := @h; have q1 := @hiP; have q2 := @hiL; have q3 := @hg; have q4 := @hkI; have q5 := @decide_true; have q6 := @decide_false; refine b0g ?_
          refine aD (i + 1) ?_ ?_ ?_
          ·simp only [go_sem, hP2, hchk hsu, hsu]; simp
          ·omega
          ·omega
        ·simp only [decide_eq_false_iff_not] at h
         have e : i = d.length := by omega
         subst e
         have hPe := mR hvq hclo d.length R (Nat.le_refl _) hRe
         have hPt := hPe.tot
         refine aB ?_
         refine aD (passT s.fFiles d L ns k d.length R, c + 1, chB s.fFiles d L ns k d.length R) ?_ ?_ ?_
         ·simp only [go_sem]; simp
         ·refine ⟨hpass, ?_⟩
          simp only
          have hpc := passT_cases hvq hclo d.length R (Nat.le_refl _) hRe
          cases hcb2 : chB s.fFiles d L ns k d.length R with
          | false =>
           have h9 : jC R ≤ jC (passT s.fFiles d L ns k d.length R) := by
            rcases hpc with e | e
            ·rw [e]; exact Nat.le_refl _
            ·omega
           simp only [Bool.false_eq_true, if_false]; omega
          | true =>
           have := of_decide_eq_true hcb2
           simp only [if_true]; omega
         ·simp only [if_true]
          cases hcb3 : chB s.fFiles d L ns k d.length R with
          | false => simp only [Bool.false_eq_true, if_false]; omega
          | true =>
           have := of_decide_eq_true hcb3
           simp only [if_true]; omega
      ·subst hbt
       have hTe := hx.fin rfl
       simp only at hTe
       refine aB ?_
       refine aD (k + 1) ?_ ?_ ?_
       ·simp only [go_sem, hT, hTe]; simp
       ·omega
       ·omega
    ·simp only [decide_eq_false_iff_not] at hlev
     have hkK : ¬ k < xV d L := fun h => hlev ((a5B d L k).2 h)
     have e : k = xV d L := by omega
     subst e
     refine aB ?_
     exact aA ⟨⟨_, rfl, by simp only [go_sem, e1, e2]; try simp⟩, by simp [dF]⟩
theorem nN (s : TStore) (d : List TDir) (hs : bW s ≤ 4300000) (hd : dK d ≤ 4300000) : FnC Tryz.prog 22 [gY s, .o (.d (.sl (d.map bD)))] (.t [(false, [.w 115 2 ((evX s d [] (dirNs d)).1.map bX)]), (false, [.d (bv (evB s d))])]) := by
 refine ent Tryz.func22 rfl Tryz.call22 rfl (fun C => ?_); simp only [go_sem, st0, Tryz.ntmps22]
 refine iV (a9g s d hs hd) ?_
 exact aA ⟨⟨_, rfl, by simp only [go_sem]⟩, by simp [dF]⟩
theorem b0Z (s : TStore) (d : List TDir) : aY (evX s d [] (dirNs d)).1 ≤ 95 := by
 unfold evX
 split
 ·rename_i hb
  rw [Bool.and_eq_true] at hb
  obtain ⟨hv, hleast⟩ := pM hb.1
  have h5 := mP hv
  have h12 := a0c hb.2
  have hev := uF (fs := s.fFiles) (ns := dirNs d) (r := []) (fun i (hi : i < d.length) => lH hv i hi) hleast.clo (xV d (resL d))
  have h0 : aY [] = 0 := by simp [aY, dD]
  revert hev
  generalize (allE s.fFiles d (resL d) (dirNs d) (s.fFiles.length + aY []) [] (xV d (resL d))).1 = X
  rw [h0]
  intro hev
  have hlen := hev.len
  have hb2 := vU iL 18 X fun i hi => by
   obtain ⟨e1, e2⟩ := hev.get i (by omega)
   have h1 := a0b hv i (by omega)
   have h2 := hev.bd i
   unfold iL
   rw [e1, e2]
   omega
  unfold aY
  have := Nat.mul_le_mul_right 18 h5
  rw [hlen] at hb2 ⊢
  omega
 ·simp [aY, dD]
theorem b3b (s : TStore) (d : List TDir) : aY (evX s d [] (dirNs d)).1 ≤ 4300000 := Nat.le_trans (b0Z s d) (by decide)
noncomputable def b2C (c : TCatalog) : Bool := evB c.fStore c.fDirs && eqL fC (evX c.fStore c.fDirs [] (dirNs c.fDirs)).1 c.fResults
theorem a6R (c : TCatalog) (h : xO c ≤ 4300000) : FnC Tryz.prog 21 [a1g c] (ob (b2C c)) := by
 unfold xO at h
 refine ent Tryz.func21 rfl Tryz.call21 rfl (fun C => ?_); simp only [go_sem, st0, Tryz.ntmps21]
 cases hb : evB c.fStore c.fDirs
 all_goals
  have q0 := @hb; refine a8A (nN c.fStore c.fDirs (by omega) (by omega)) (uN (evX c.fStore c.fDirs [] (dirNs c.fDirs)).1 c.fResults (b3b _ _)) ?_
  exact aA ⟨⟨_, rfl, by simp only [go_sem, b2C, hb, Bool.true_and, Bool.false_and]⟩, trivial⟩
noncomputable def a5y (s : TStore) (d : List TDir) : TCatalog := if evB s d then ⟨s, d, (evX s d [] (dirNs d)).1⟩ else ⟨⟨[], [], 0⟩, [], []⟩
theorem a6Q (s : TStore) (d : List TDir) (hs : bW s ≤ 4300000) (hd : dK d ≤ 4300000) : FnC Tryz.prog 194 [gY s, .o (.d (.sl (d.map bD)))] (.t [(true, (b0C (a5y s d)).cells), (false, [.d (bv (evB s d))])]) := by
 refine ent Tryz.func194 rfl Tryz.call194 rfl (fun C => ?_); simp only [go_sem, st0, Tryz.ntmps194]
 cases hb : evB s d
 ·have e : a5y s d = ⟨⟨[], [], 0⟩, [], []⟩ := by simp [a5y, hb]
  have q0 := @hb; refine jB (nN s d hs hd) ?_
  exact aA ⟨⟨_, rfl, by simp only [go_sem, e, List.map_nil]; try simp⟩, by simp [dF]⟩
 ·have e : a5y s d = ⟨s, d, (evX s d [] (dirNs d)).1⟩ := by simp [a5y, hb]
  have q0 := @hb; refine b6g (nN s d hs hd) (iW s hs) (b0P d hd) ?_
  exact aA ⟨⟨_, rfl, by simp only [go_sem, e]; try simp⟩, by simp [dF]⟩
@[go_sem] def a4M (x : TCatalog) : SV := .g [.d (.sl (x.fStore.fSchema.map dE)), .d (.sl (x.fStore.fFiles.map dN)), .d (iv x.fStore.fNextID), .d (.sl (x.fDirs.map bD)), .w 115 2 (x.fResults.map bX)]
theorem a4N (s : TStore) (d : List TDir) (hs : bW s ≤ 4300000) (hd : dK d ≤ 4300000) : FnC Tryz.prog 194 [gY s, .o (.d (.sl (d.map bD)))] (.t [(true, (a4M (a5y s d)).cells), (false, [.d (bv (evB s d))])]) :=
 (a6Q s d hs hd).re [0, 1, 2] rfl rfl (by simp only [go_sem, and_self]) (by simp only [go_sem]; try simp) rfl
theorem b2b {s : TStore} {d : List TDir} (h : evB s d = true) : ((evX s d [] (dirNs d)).1).length = d.length := by
 unfold evB at h
 rw [Bool.and_eq_true] at h
 have hv := (pM h.1).1
 have hq := fun i hi => lH hv i hi
 have e : evX s d [] (dirNs d) = allE s.fFiles d (resL d) (dirNs d) (s.fFiles.length + aY []) [] (xV d (resL d)) := by unfold evX; simp [h.1, h.2]
 rw [e]
 exact (uF hq (pM h.1).2.clo _).len
structure catL (c : TCatalog) : Prop where
 st : storeD 7 c.fStore
 di : dirsD 6 c.fDirs
 rs : 0 < c.fResults.length
 rw_ : aY c.fResults ≤ 95
theorem a0Z {l : List Int} (hl : fA l) : Drw l 133 [] (fun c : TCatalog => catL c) (fun c => a4M c) := by
 intro i h hi hh; refine kN Tryz.func133 rfl Tryz.call133 rfl (fun C b => ?_); simp only [go_sem, Tryz.ntmps133]
 refine aB ?_
 first | (refine aJ (nG hl i h hi hh) ⟨rfl, rfl⟩ ?_ rfl ?_; (focus first | rfl | (simp only [go_sem]; done))) | (refine hZ (nG hl i h hi hh) ⟨rfl, rfl⟩ ?_ rfl ?_; (focus first | rfl | (simp only [go_sem]; done)))
 clear hi hh; rintro ⟨s, i, h⟩ ⟨hs, hi, hh⟩; simp only at hs hi hh; simp only [go_sem]
 refine aB ?_
 first | (refine aJ (a1a hl i h hi hh) ⟨rfl, rfl⟩ ?_ rfl ?_; (focus first | rfl | (simp only [go_sem]; done))) | (refine hZ (a1a hl i h hi hh) ⟨rfl, rfl⟩ ?_ rfl ?_; (focus first | rfl | (simp only [go_sem]; done)))
 clear hi hh; rintro ⟨d, i, h⟩ ⟨hd, hi, hh⟩; simp only at hd hi hh; simp only [go_sem]
 have hw1 := sF hs
 have hw2 := xF hd.1 (by decide)
 have hev : evB s d = true := by unfold evB; rw [hd.2.2, hs.ok]; rfl
 have hn := a4N s d (by omega) (by omega)
 have e : a5y s d = ⟨s, d, (evX s d [] (dirNs d)).1⟩ := by unfold a5y; rw [if_pos hev]
 have hcl : catL ⟨s, d, (evX s d [] (dirNs d)).1⟩ := ⟨hs, hd.1, by simp only; rw [b2b hev]; exact hd.2.1, b0Z s d⟩
 rw [e, hev] at hn
 generalize (evX s d [] (dirNs d)).1 = r at *
 refine iV hn ?_
 exact aF (⟨s, d, r⟩, i, h) ⟨⟨_, rfl, by simp only [go_sem]⟩, trivial⟩ ⟨hcl, ⟨hi, hh⟩⟩ (by simp only [go_sem])
theorem b0j : ∀ (r : List TResult) (h : 0 < r.length) (x : List Int), aY (r.set 0 ⟨r[0].fName, x⟩) ≤ aY r + x.length
 | [], h, _ => by simp at h
 | y :: r, _, x => by
  unfold aY
  simp only [List.set_cons_zero, List.length_cons, dD, List.getElem_cons_zero, iL]
  omega
structure catA (c : TCatalog) : Prop where
 st : storeA c.fStore
 di : dirsD 6 c.fDirs
 rw_ : aY c.fResults ≤ 200
theorem b2c {c : TCatalog} (h : catL c) : catA c := ⟨yM h.st, h.di, by have := h.rw_; omega⟩
theorem a2q {l : List Int} (hl : fA l) : Drw l 68 [] (fun c : TCatalog => catA c) (fun c => a1g c) := by
 intro i h hi hh; refine kN Tryz.func68 rfl Tryz.call68 rfl (fun C b => ?_); simp only [go_sem, Tryz.ntmps68]
 refine aB ?_
 first | (refine aJ (a0Z hl i h hi hh) ⟨rfl, rfl⟩ ?_ rfl ?_; (focus first | rfl | (simp only [go_sem]; done))) | (refine hZ (a0Z hl i h hi hh) ⟨rfl, rfl⟩ ?_ rfl ?_; (focus first | rfl | (simp only [go_sem]; done)))
 clear hi hh; rintro ⟨⟨s, d, r⟩, i, h⟩ ⟨hc0, hi, hh⟩; simp only at hc0 hi hh; simp only [go_sem]
 have hcA := b2c hc0
 have hpos := hc0.rs
 have hr95 := hc0.rw_
 clear hc0
 simp only at hpos hr95
 refine aB ?_
 first | (refine aJ (aC hl 12 (by decide) (by decide) i h hi hh) ⟨rfl, rfl⟩ ?_ rfl ?_; (focus first | rfl | (simp only [go_sem]; done))) | (refine hZ (aC hl 12 (by decide) (by decide) i h hi hh) ⟨rfl, rfl⟩ ?_ rfl ?_; (focus first | rfl | (simp only [go_sem]; done)))
 clear hi hh; rintro ⟨c, i, h⟩ ⟨hc, hi, hh⟩; simp only at hc hi hh; simp only [go_sem]
 have h4 : c = 0 ∨ c = 1 ∨ c = 2 ∨ (¬ c = 0 ∧ ¬ c = 1 ∧ ¬ c = 2) := by omega
 rcases h4 with rfl | rfl | rfl | ⟨k0, k1, k2⟩
 ·have qH := @hpos; repeat' (with_reducible first | refine nY ?_ | (refine mX ?_; try simp only [go_sem, qH]) | refine kD ?_ | (apply rF [3,6] [] [0,1,2] [0,1,2] ((.c 3 [4,5] [0,1,4,5] (.c 6 [] [] .n .n) .n)) (by simp only [go_sem]; rfl) (by simp only [go_sem]; rfl) (by simp only [go_sem]; rfl) (by decide +kernel); (focus simp only [go_sem]; done)) | exact aQ | refine aK (uX ?_) ?_ | refine aL (aX ?_) ?_ | refine aM (aX ?_) ?_ | exact bE | exact oH | exact uB | refine rD ?_ | refine aO ?_ | fail)
  first | (refine aJ (a2F hl i h hi hh) ⟨rfl, rfl⟩ ?_ rfl ?_; (focus first | rfl | (simp only [go_sem]; done))) | (refine hZ (a2F hl i h hi hh) ⟨rfl, rfl⟩ ?_ rfl ?_; (focus first | rfl | (simp only [go_sem]; done)))
  clear hi hh; rintro ⟨x, i, h⟩ ⟨hx, hi, hh⟩; simp only at hx hi hh; simp only [go_sem]
  have qH := @hpos; repeat' (with_reducible first | refine nY ?_ | (refine mX ?_; try simp only [go_sem, qH]) | refine kD ?_ | exact aQ | refine aK (uX ?_) ?_ | refine aL (aX ?_) ?_ | refine aM (aX ?_) ?_ | exact uB | refine rD ?_ | refine aO ?_ | fail)
  refine dL (Sees.frz 2 rfl) ?_
  simp only [go_sem]
  exact aF (⟨s, d, r.set 0 ⟨r[0].fName, x⟩⟩, i, h) ⟨⟨_, rfl, by simp only [go_sem, List.map_set]; try rfl⟩, trivial⟩ ⟨(show catA ⟨s, d, r.set 0 ⟨r[0].fName, x⟩⟩ from ⟨hcA.st, hcA.di, by have h1 := b0j r hpos x; have h2 := hx.len; simp only at h1 ⊢; omega⟩), ⟨hi, hh⟩⟩ (by simp only [go_sem])
 ·refine aB ?_
  first | (refine aJ (fM hl i h hi hh) ⟨rfl, rfl⟩ ?_ rfl ?_; (focus first | rfl | (simp only [go_sem]; done))) | (refine hZ (fM hl i h hi hh) ⟨rfl, rfl⟩ ?_ rfl ?_; (focus first | rfl | (simp only [go_sem]; done)))
  clear hi hh; rintro ⟨d2, i, h⟩ ⟨hd2, hi, hh⟩; simp only at hd2 hi hh; simp only [go_sem]
  refine aB ?_
  refine dL (Sees.frz 2 rfl) ?_
  simp only [go_sem]
  exact aF (⟨s, d2, r⟩, i, h) ⟨⟨_, rfl, by simp only [go_sem, List.map_set]; try rfl⟩, trivial⟩ ⟨(show catA ⟨s, d2, r⟩ from ⟨hcA.st, hd2, hcA.rw_⟩), ⟨hi, hh⟩⟩ (by simp only [go_sem])
 ·refine aB ?_
  first | (refine aJ (a2t hl i h hi hh) ⟨rfl, rfl⟩ ?_ rfl ?_; (focus first | rfl | (simp only [go_sem]; done))) | (refine hZ (a2t hl i h hi hh) ⟨rfl, rfl⟩ ?_ rfl ?_; (focus first | rfl | (simp only [go_sem]; done)))
  clear hi hh; rintro ⟨s2, i, h⟩ ⟨hs2, hi, hh⟩; simp only at hs2 hi hh; simp only [go_sem]
  refine aB ?_
  refine dL (Sees.frz 2 rfl) ?_
  simp only [go_sem]
  refine dL (Sees.frz 4 rfl) ?_
  simp only [go_sem]
  exact aF (⟨s2, d, r⟩, i, h) ⟨⟨_, rfl, by simp only [go_sem, List.map_set]; try rfl⟩, trivial⟩ ⟨(show catA ⟨s2, d, r⟩ from ⟨hs2, hcA.di, hcA.rw_⟩), ⟨hi, hh⟩⟩ (by simp only [go_sem])
 ·have q0 := @k0; have q1 := @k1; have q2 := @k2; have q3 := @decide_false; refine mE ?_
  refine dL (Sees.frz 2 rfl) ?_
  simp only [go_sem]
  exact aF (⟨s, d, r⟩, i, h) ⟨⟨_, rfl, by simp only [go_sem, List.map_set]; try rfl⟩, trivial⟩ ⟨(show catA ⟨s, d, r⟩ from hcA), ⟨hi, hh⟩⟩ (by simp only [go_sem])
theorem a6x {l : List Int} (hl : fA l) : FnX Tryz.prog 18 [.o (.d (.sl (l.map kM)))] (fun p : TCatalog × TFile => catA p.1 ∧ fileA p.2) (fun p => .t [(true, (a1g p.1).cells), (true, (qZ p.2).cells)]) := by
 refine a8I Tryz.func18 rfl Tryz.call18 rfl (fun C => ?_); simp only [go_sem, st0, Tryz.ntmps18]
 refine aB ?_
 refine a5a (oU l hl.1 hl.2) rfl rfl ?_
 intro h hh
 simp only [go_sem]
 refine aB ?_
 first | (refine aJ (a2q hl 0 h (Nat.zero_le _) hh) ⟨rfl, rfl⟩ ?_ rfl ?_; (focus first | rfl | (simp only [go_sem]; done))) | (refine hZ (a2q hl 0 h (Nat.zero_le _) hh) ⟨rfl, rfl⟩ ?_ rfl ?_; (focus first | rfl | (simp only [go_sem]; done)))
 clear hh; rintro ⟨c, i, h⟩ ⟨hcA, hi, hh⟩; simp only at hcA hi hh; simp only [go_sem]
 have hlw : c.fStore.fFiles.length ≤ 2000 := by have := hcA.st.w; unfold bW iE at this; omega
 by_cases hp : 0 < c.fStore.fFiles.length
 ·have hpi : ((0 : Int) < (c.fStore.fFiles.length : Int)) = True := by simp; omega
  have q0 := @hpi; have q1 := @decide_true; refine gT ?_
  first | (refine aJ (bU hl 6 (by decide) (by decide) i h hi hh) ⟨rfl, rfl⟩ ?_ rfl ?_; (focus first | rfl | (simp only [go_sem]; done))) | (refine hZ (bU hl 6 (by decide) (by decide) i h hi hh) ⟨rfl, rfl⟩ ?_ rfl ?_; (focus first | rfl | (simp only [go_sem]; done)))
  clear hi hh; rintro ⟨c1, i, h⟩ ⟨q1, hi, hh⟩; simp only at q1 hi hh; simp only [go_sem]
  cases c1
  case true =>
   have qH := trivial; repeat' (with_reducible first | refine nY ?_ | (refine mX ?_; try simp only [go_sem]) | refine kD ?_ | (apply rF [2,3,4] [] [0,1] [0,1] ((.c 2 [] [0] (.c 3 [] [] (.c 4 [] [] .n .n) .n) .n)) (by simp only [go_sem]; rfl) (by simp only [go_sem]; rfl) (by simp only [go_sem]; rfl) (by decide +kernel); (focus simp only [go_sem]; done)) | exact aQ | refine aK (uX ?_) ?_ | refine aL (aX ?_) ?_ | refine aM (aX ?_) ?_ | exact bE | exact oH | (refine uA ?_; simp only [go_sem]; (repeat' first | omega | refine And.intro ?_ ?_); done) | refine rD ?_ | refine aO ?_ | fail)
   first | (refine aJ (gW hl i h hi hh) ⟨rfl, rfl⟩ ?_ rfl ?_; (focus first | rfl | (simp only [go_sem]; done))) | (refine hZ (gW hl i h hi hh) ⟨rfl, rfl⟩ ?_ rfl ?_; (focus first | rfl | (simp only [go_sem]; done)))
   clear hi hh; rintro ⟨f, i, h⟩ ⟨hf, hi, hh⟩; simp only at hf hi hh; simp only [go_sem]
   have qH := trivial; repeat' (with_reducible first | refine nY ?_ | (refine mX ?_; try simp only [go_sem]) | refine kD ?_ | exact aQ | refine aK (uX ?_) ?_ | refine aL (aX ?_) ?_ | refine aM (aX ?_) ?_ | (refine uA ?_; simp only [go_sem]; (repeat' first | omega | refine And.intro ?_ ?_); done) | refine rD ?_ | refine aO ?_ | fail)
   exact kH (c, f) ⟨⟨_, rfl, by simp only [go_sem]; try simp⟩, by simp [dF]⟩ ⟨hcA, hf⟩
  case false =>
   have qH := @hp; repeat' (with_reducible first | refine nY ?_ | (refine mX ?_; try simp only [go_sem, qH]) | refine kD ?_ | (apply rF [9,13,14,15] [] [0,1,2,3,4,5,6,7,8] [0,1,2,3,4,5,6,7,8] ((.c 9 [10,11,12] [0,1,2,3,10,11,12] (.c 13 [] [1] (.c 14 [] [1] (.c 15 [] [] .n .n) .n) (.c 14 [] [0,1,2,3,10,11,12] (.c 13 [] [1] (.c 15 [] [] .n .n) .n) .n)) (.c 14 [] [0,1,2,3,4,5,6,7,8] (.c 9 [10,11,12] [0,1,2,3,10,11,12] (.c 13 [] [1] (.c 15 [] [] .n .n) .n) .n) .n))) (by simp only [go_sem]; rfl) (by simp only [go_sem]; rfl) (by simp only [go_sem]; rfl) (by decide +kernel); (focus simp only [go_sem]; done)) | exact aQ | refine aK (uX ?_) ?_ | refine aL (aX ?_) ?_ | refine aM (aX ?_) ?_ | exact bE | exact oH | exact uB | refine rD ?_ | refine aO ?_ | fail)
   all_goals
    skip
    first | (refine aJ (aC hl (c.fStore.fFiles.length : Int) (by omega) (by omega) i h hi hh) ⟨rfl, rfl⟩ ?_ rfl ?_; (focus first | rfl | (simp only [go_sem]; done))) | (refine hZ (aC hl (c.fStore.fFiles.length : Int) (by omega) (by omega) i h hi hh) ⟨rfl, rfl⟩ ?_ rfl ?_; (focus first | rfl | (simp only [go_sem]; done)))
    clear hi hh; rintro ⟨x, i, h⟩ ⟨hx, hi, hh⟩; simp only at hx hi hh; simp only [go_sem]
    obtain ⟨k, rfl⟩ := Int.eq_ofNat_of_zero_le hx.1
    have hk : k < c.fStore.fFiles.length := by omega
    have hid := hcA.st.idr _ (List.getElem_mem hk)
    have qH := @hk; repeat' (with_reducible first | refine nY ?_ | (refine mX ?_; try simp only [go_sem, qH]) | refine kD ?_ | exact aQ | refine aK (uX ?_) ?_ | refine aL (aX ?_) ?_ | refine aM (aX ?_) ?_ | exact uB | refine rD ?_ | refine aO ?_ | fail)
    all_goals
     skip
     first | (refine aJ (fU hl c.fStore.fFiles[k].fID i h hi hh) ⟨rfl, rfl⟩ ?_ rfl ?_; (focus first | rfl | (simp only [go_sem]; done))) | (refine hZ (fU hl c.fStore.fFiles[k].fID i h hi hh) ⟨rfl, rfl⟩ ?_ rfl ?_; (focus first | rfl | (simp only [go_sem]; done)))
     clear hi hh; rintro ⟨f, i, h⟩ ⟨hf, hi, hh⟩; simp only at hf hi hh; simp only [go_sem]
     have hfA := a5n hf hid
     have qH := trivial; repeat' (with_reducible first | refine nY ?_ | (refine mX ?_; try simp only [go_sem]) | refine kD ?_ | (apply rE [2,3] [] [0,1] [0,1] ((.c 2 [] [1] (.c 3 [] [] .n .n) .n)) (by simp only [go_sem]; rfl) (by simp only [go_sem]; rfl) (by simp only [go_sem]; rfl) (by decide +kernel); (focus simp only [go_sem]; done)) | exact aQ | refine aK (uX ?_) ?_ | refine aL (aX ?_) ?_ | refine aM (aX ?_) ?_ | exact bE | exact oH | (refine uA ?_; simp only [go_sem]; (repeat' first | omega | refine And.intro ?_ ?_); done) | refine rD ?_ | refine aO ?_ | fail)
     exact kH (c, f) ⟨⟨_, rfl, by simp only [go_sem]; try simp⟩, by simp [dF]⟩ ⟨hcA, hfA⟩
 ·have hpi : ((0 : Int) < (c.fStore.fFiles.length : Int)) = False := by simp only [eq_iff_iff, iff_false]; omega
  have qH := aI @hpi @decide_false; repeat' (with_reducible first | refine nY ?_ | (refine mX ?_; try simp only [go_sem, qH]) | refine kD ?_ | (apply rF [2,3,4] [] [0,1] [0,1] ((.c 2 [] [0] (.c 3 [] [] (.c 4 [] [] .n .n) .n) .n)) (by simp only [go_sem]; rfl) (by simp only [go_sem]; rfl) (by simp only [go_sem]; rfl) (by decide +kernel); (focus simp only [go_sem]; done)) | exact aQ | refine aK (uX ?_) ?_ | refine aL (aX ?_) ?_ | refine aM (aX ?_) ?_ | exact bE | exact oH | exact uB | refine rD ?_ | refine aO ?_ | fail)
  first | (refine aJ (gW hl i h hi hh) ⟨rfl, rfl⟩ ?_ rfl ?_; (focus first | rfl | (simp only [go_sem]; done))) | (refine hZ (gW hl i h hi hh) ⟨rfl, rfl⟩ ?_ rfl ?_; (focus first | rfl | (simp only [go_sem]; done)))
  clear hi hh; rintro ⟨f, i, h⟩ ⟨hf, hi, hh⟩; simp only at hf hi hh; simp only [go_sem]
  have qH := trivial; repeat' (with_reducible first | refine nY ?_ | (refine mX ?_; try simp only [go_sem]) | refine kD ?_ | exact aQ | refine aK (uX ?_) ?_ | refine aL (aX ?_) ?_ | refine aM (aX ?_) ?_ | (refine uA ?_; simp only [go_sem]; (repeat' first | omega | refine And.intro ?_ ?_); done) | refine rD ?_ | refine aO ?_ | fail)
  exact kH (c, f) ⟨⟨_, rfl, by simp only [go_sem]; try simp⟩, by simp [dF]⟩ ⟨hcA, hf⟩
end Go.Proofs.YtolgdibgnndoaaaGreat
end
section
namespace Go.Sx.Clos
section
variable {β : Type} [DecidableEq β]
def Closed (E : List (β × List β)) (S : List β) : Prop := ∀ e ∈ E, (∃ x ∈ e.2, x ∈ S) → e.1 ∈ S
def wsm (w : β → Nat) : List β → Nat
 | [] => 0
 | x :: l => w x + wsm w l
def iJ (w : β → Nat) : List (β × List β) → List β → Nat
 | [], _ => 0
 | e :: E, S => (if e.1 ∈ S then 0 else w e.1) + iJ w E S
theorem a0e (w : β → Nat) (E : List (β × List β)) {S T : List β} (h : ∀ x ∈ S, x ∈ T) : iJ w E T ≤ iJ w E S := by
 induction E with
 | nil => simp [iJ]
 | cons e E ih =>
  simp only [iJ]
  by_cases h1 : e.1 ∈ S
  ·have h2 := h _ h1; simp [h1, h2]; exact ih
  ·by_cases h2 : e.1 ∈ T
   ·simp [h1, h2]; omega
   ·simp [h1, h2]; exact ih
theorem zH (w : β → Nat) (E : List (β × List β)) {S T : List β} (h : ∀ x ∈ S, x ∈ T) {y : β} (hy : ∃ e ∈ E, e.1 = y) (h1 : y ∈ T) (h2 : ¬ y ∈ S) : iJ w E T + w y ≤ iJ w E S := by
 induction E with
 | nil => obtain ⟨e, he, _⟩ := hy; simp at he
 | cons e E ih =>
  obtain ⟨e', he', rfl⟩ := hy
  rcases List.mem_cons.1 he' with rfl | hm
  ·have := a0e w E h
   simp only [iJ]
   simp [h1, h2]; omega
  ·have := ih ⟨e', hm, rfl⟩
   simp only [iJ]
   by_cases h3 : e.1 ∈ S
   ·have h4 := h _ h3; simp [h3, h4]; exact this
   ·by_cases h4 : e.1 ∈ T
    ·simp [h3, h4]; omega
    ·simp [h3, h4]; omega
theorem a9r (E : List (β × List β)) (S : List β) : iJ (fun _ => 1) E S ≤ E.length := by
 induction E with
 | nil => simp [iJ]
 | cons e E ih => simp only [iJ, List.length_cons]; split <;> omega
variable (put : List β → β → List β)
def askC (name : β) (out asks : List β) : List β := asks.foldl (fun o a => if a ∈ o then put o name else o) out
def round (E : List (β × List β)) (S : List β) : List β := E.foldl (fun o e => askC put e.1 o e.2) S
def gP (E : List (β × List β)) : Nat → List β → List β
 | 0, S => S
 | n + 1, S => round put E (gP E n S)
variable {put} (hput : ∀ l s x, x ∈ put l s ↔ x = s ∨ x ∈ l)
include hput
theorem xZ (name : β) (asks : List β) : ∀ (out : List β) (x : β), x ∈ askC put name out asks ↔ x ∈ out ∨ (x = name ∧ ∃ a ∈ asks, a ∈ out) := by
 induction asks with
 | nil => intro out x; simp [askC]
 | cons a asks ih =>
  intro out x
  have ih' := ih (if a ∈ out then put out name else out) x
  unfold askC at *
  rw [List.foldl_cons, ih']
  by_cases h : a ∈ out
  ·simp only [h, if_true, hput]
   constructor
   ·rintro ((rfl | h1) | ⟨rfl, _⟩)
    ·exact .inr ⟨rfl, a, List.mem_cons_self, h⟩
    ·exact .inl h1
    ·exact .inr ⟨rfl, a, List.mem_cons_self, h⟩
   ·rintro (h1 | ⟨rfl, _⟩)
    ·exact .inl (.inr h1)
    ·exact .inl (.inl rfl)
  ·simp only [h, if_false]
   constructor
   ·rintro (h1 | ⟨rfl, b, hb, h2⟩)
    ·exact .inl h1
    ·exact .inr ⟨rfl, b, List.mem_cons_of_mem _ hb, h2⟩
   ·rintro (h1 | ⟨rfl, b, hb, h2⟩)
    ·exact .inl h1
    ·rcases List.mem_cons.1 hb with rfl | hb
     ·exact absurd h2 h
     ·exact .inr ⟨rfl, b, hb, h2⟩
theorem uH (E : List (β × List β)) : ∀ (S : List β), ∀ x ∈ S, x ∈ round put E S := by
 induction E with
 | nil => intro S x h; exact h
 | cons e E ih =>
  intro S x h
  exact ih _ x ((xZ hput e.1 e.2 S x).2 (.inl h))
theorem a0f (E : List (β × List β)) {T : List β} (hT : Closed E T) : ∀ (S : List β), (∀ x ∈ S, x ∈ T) → ∀ x ∈ round put E S, x ∈ T := by
 induction E with
 | nil => intro S h; exact h
 | cons e E ih =>
  intro S h
  refine ih (fun e' he' => hT e' (List.mem_cons_of_mem _ he')) _ (fun x hx => ?_)
  rcases (xZ hput e.1 e.2 S x).1 hx with h1 | ⟨rfl, a, ha, h2⟩
  ·exact h x h1
  ·exact hT e List.mem_cons_self ⟨a, ha, h a h2⟩
theorem a7f (E : List (β × List β)) : ∀ (S : List β) (e : β × List β), e ∈ E → (∃ x ∈ e.2, x ∈ S) → e.1 ∈ round put E S := by
 induction E with
 | nil => intro S e he; simp at he
 | cons e0 E ih =>
  intro S e he h
  rcases List.mem_cons.1 he with rfl | he
  ·exact uH hput E _ _ ((xZ hput e.1 e.2 S e.1).2 (.inr ⟨rfl, h⟩))
  ·obtain ⟨x, hx, hs⟩ := h
   exact ih _ e he ⟨x, hx, (xZ hput e0.1 e0.2 S x).2 (.inl hs)⟩
theorem round_new (E : List (β × List β)) : ∀ (S : List β) (x : β), x ∈ round put E S → x ∈ S ∨ ∃ e ∈ E, e.1 = x := by
 induction E with
 | nil => intro S x h; exact .inl h
 | cons e E ih =>
  intro S x h
  rcases ih _ x h with h | ⟨e', he', rfl⟩
  ·rcases (xZ hput e.1 e.2 S x).1 h with h | ⟨rfl, _⟩
   ·exact .inl h
   ·exact .inr ⟨e, List.mem_cons_self, rfl⟩
  ·exact .inr ⟨e', List.mem_cons_of_mem _ he', rfl⟩
theorem wB (E : List (β × List β)) (S : List β) : ∀ (n : Nat), ∀ x ∈ S, x ∈ gP put E n S
 | 0, x, h => h
 | n + 1, x, h => uH hput E _ x (wB E S n x h)
theorem yA (E : List (β × List β)) {S T : List β} (hT : Closed E T) (h : ∀ x ∈ S, x ∈ T) : ∀ (n : Nat), ∀ x ∈ gP put E n S, x ∈ T
 | 0, x, hx => h x hx
 | n + 1, x, hx => a0f hput E hT _ (yA E hT h n) x hx
theorem rounds_count (E : List (β × List β)) (S : List β) : ∀ (n : Nat), Closed E (gP put E n S) ∨ iJ (fun _ => 1) E (gP put E n S) + n ≤ E.length
 | 0 => .inr (by simpa [gP] using a9r E S)
 | n + 1 => by
  rcases rounds_count E S n with h | h
  ·refine .inl (fun e he hx => ?_)
   obtain ⟨x, hx, hs⟩ := hx
   have hs' := a0f hput E h _ (fun y hy => hy) x hs
   exact uH hput E _ _ (h e he ⟨x, hx, hs'⟩)
  ·by_cases hc : Closed E (gP put E (n + 1) S)
   ·exact .inl hc
   ·refine .inr ?_
    have hn : ∃ y, y ∈ round put E (gP put E n S) ∧ ¬ y ∈ gP put E n S := Classical.byContradiction fun hno => hc (fun e he hx => by
     obtain ⟨x, hx, hs⟩ := hx
     have hs' : x ∈ gP put E n S := Classical.byContradiction fun h' => hno ⟨x, hs, h'⟩
     exact a7f hput E _ e he ⟨x, hx, hs'⟩)
    obtain ⟨y, h1, h2⟩ := hn
    have hy : ∃ e ∈ E, e.1 = y := by
     rcases round_new hput E _ y h1 with h | h
     ·exact absurd h h2
     ·exact h
    have := zH (fun _ => 1) E (uH hput E (gP put E n S)) hy h1 h2
    simp only [gP]
    omega
omit hput in
theorem a8a {P : List β → Prop} {Nm : β → Prop} (hP : ∀ o n, P o → Nm n → P (put o n)) (name : β) (hn : Nm name) (asks : List β) : ∀ out, P out → P (askC put name out asks) := by
 induction asks with
 | nil => intro out h; exact h
 | cons a asks ih =>
  intro out h
  unfold askC at *
  rw [List.foldl_cons]
  refine ih _ ?_
  split
  ·exact hP _ _ h hn
  ·exact h
omit hput in
theorem a2V {P : List β → Prop} {Nm : β → Prop} (hP : ∀ o n, P o → Nm n → P (put o n)) (E : List (β × List β)) : (∀ e ∈ E, Nm e.1) → ∀ S, P S → P (round put E S) := by
 induction E with
 | nil => intro _ S h; exact h
 | cons e E ih => intro hn S h; exact ih (fun e he => hn e (List.mem_cons_of_mem _ he)) _ (a8a hP e.1 (hn e List.mem_cons_self) e.2 S h)
omit hput in
theorem a1H {P : List β → Prop} {Nm : β → Prop} (hP : ∀ o n, P o → Nm n → P (put o n)) (E : List (β × List β)) (hn : ∀ e ∈ E, Nm e.1) {S : List β} (h : P S) : ∀ n, P (gP put E n S)
 | 0 => h
 | n + 1 => a2V hP E hn _ (a1H hP E hn h n)
theorem uW (E : List (β × List β)) (S : List β) : Closed E (gP put E (E.length + 1) S) := by
 rcases rounds_count hput E S (E.length + 1) with h | h
 ·exact h
 ·omega
theorem a5N (E : List (β × List β)) {S O : List β} (h1 : ∀ x ∈ S, x ∈ O) (h2 : Closed E O) (h3 : ∀ T : List β, Closed E T → (∀ x ∈ S, x ∈ T) → ∀ x ∈ O, x ∈ T) (x : β) : x ∈ O ↔ x ∈ gP put E (E.length + 1) S :=
 ⟨fun h => h3 _ (uW hput E S) (wB hput E S _) x h, fun h => yA hput E h2 h1 _ x h⟩
omit hput
theorem tC {lt : β → β → Prop} (hi : ∀ x, ¬ lt x x) (ht : ∀ x y z, lt x y → lt y z → lt x z) : ∀ {l m : List β}, l.Pairwise lt → m.Pairwise lt → (∀ x, x ∈ l ↔ x ∈ m) → l = m
 | [], [], _, _, _ => rfl
 | [], b :: m, _, _, h => by have := (h b).2 List.mem_cons_self; simp at this
 | a :: l, [], _, _, h => by have := (h a).1 List.mem_cons_self; simp at this
 | a :: l, b :: m, h1, h2, h => by
  rw [List.pairwise_cons] at h1 h2
  have hab : a = b := by
   rcases List.mem_cons.1 ((h a).1 List.mem_cons_self) with e | e
   ·exact e
   ·rcases List.mem_cons.1 ((h b).2 List.mem_cons_self) with e' | e'
    ·exact e'.symm
    ·exact absurd (ht _ _ _ (h1.1 b e') (h2.1 a e)) (hi a)
  subst hab
  congr 1
  refine tC hi ht h1.2 h2.2 (fun x => ⟨fun hx => ?_, fun hx => ?_⟩)
  ·rcases List.mem_cons.1 ((h x).1 (List.mem_cons_of_mem _ hx)) with e | e
   ·subst e; exact absurd (h1.1 x hx) (hi x)
   ·exact e
  ·rcases List.mem_cons.1 ((h x).2 (List.mem_cons_of_mem _ hx)) with e | e
   ·subst e; exact absurd (h2.1 x hx) (hi x)
   ·exact e
end
end Go.Sx.Clos
namespace Go.Proofs.YtolgdibgnndoaaaGreat
open Go Go.Sx Go.RowKit Go.Proofs
theorem b4x {x y : ByteArray} (h : bl x = bl y) : x = y := by rw [← a5w x, ← a5w y, h]
def ltS (x y : ByteArray) : Prop := bl x < bl y
theorem a2W (x y : ByteArray) : gF x y = true ↔ ltS x y := by
 unfold gF ltS bl
 rw [Go.Proofs.bytesLess_eq, decide_eq_true_eq, ByteArray.toList_eq, ByteArray.toList_eq]
theorem a1I (x : ByteArray) : ¬ ltS x x := List.lt_irrefl (bl x)
theorem zI (x y z : ByteArray) (h : ltS x y) (k : ltS y z) : ltS x z := List.lt_trans h k
theorem b1o {x y : List UInt8} (h : x ≤ y) (k : x ≠ y) : x < y := Classical.byContradiction fun hn => k (List.le_antisymm h (List.not_lt.1 hn))
theorem b2Q {x y : ByteArray} (h : ¬ ltS x y) (k : x ≠ y) : ltS y x := b1o (List.not_lt.1 h) fun e => k (b4x e).symm
theorem a9s (y s : ByteArray) (l : List ByteArray) : putS (y :: l) s = if gF y s then y :: putS l s else if y = s then y :: l else s :: y :: l := by
 unfold putS
 cases h : gF y s with
 | true =>
  have hg : geS s y = false := by simp [geS, h]
  simp only [dM, hg, Bool.false_eq_true, if_false, List.drop_succ_cons, if_true]
  split
  ·rfl
  ·simp [iA]
 | false =>
  have hg : geS s y = true := by simp [geS, h]
  simp only [dM, hg, if_true, List.drop_zero, List.head?_cons, Bool.false_eq_true, if_false, Option.some.injEq]
  split
  ·rfl
  ·simp [iA]
theorem nP (s : ByteArray) : ∀ {l : List ByteArray}, l.Pairwise ltS → (putS l s).Pairwise ltS
 | [], _ => by simp [putS, dM, iA]
 | y :: l, h => by
  rw [a9s]
  rw [List.pairwise_cons] at h
  split
  ·rename_i hlt
   rw [List.pairwise_cons]
   refine ⟨fun x hx => ?_, nP s h.2⟩
   rcases (kK l s x).1 hx with rfl | hx
   ·exact (a2W _ _).1 hlt
   ·exact h.1 x hx
  ·rename_i hlt
   split
   ·exact List.pairwise_cons.2 h
   ·rename_i hne
    have hs : ltS s y := b2Q (fun hh => hlt ((a2W _ _).2 hh)) hne
    refine List.pairwise_cons.2 ⟨fun x hx => ?_, List.pairwise_cons.2 h⟩
    rcases List.mem_cons.1 hx with rfl | hx
    ·exact hs
    ·exact zI _ _ _ hs (h.1 x hx)
theorem a4g (l : List ByteArray) : ∀ {a : List ByteArray}, a.Pairwise ltS → (l.foldl putS a).Pairwise ltS := by
 induction l with
 | nil => intro a h; exact h
 | cons y l ih => intro a h; exact ih (nP y h)
theorem a5O (l : List ByteArray) : (putL l).Pairwise ltS := a4g l List.Pairwise.nil
theorem uY (d : Array (List UInt8)) (hs : ∀ i j, i < j → j < d.size → d[i]! ≤ d[j]!) : ∀ m, m ≤ d.size → (Lib.compactUpTo d m).Pairwise (fun x y => x < y) ∧ ∀ x ∈ Lib.compactUpTo d m, 0 < m ∧ x ≤ d[m - 1]!
 | 0, _ => by simp [Lib.compactUpTo]
 | m + 1, hm => by
  obtain ⟨h1, h2⟩ := uY d hs m (by omega)
  rw [Lib.compactUpTo_succ]
  have hup : ∀ x ∈ Lib.compactUpTo d m, x ≤ d[m]! := fun x hx => by
   obtain ⟨h0, h3⟩ := h2 x hx
   exact List.le_trans h3 (hs (m - 1) m (by omega) (by omega))
  refine ⟨?_, fun x hx => ⟨by omega, ?_⟩⟩
  ·cases hk : Lib.keeps d m with
   | false => simpa using h1
   | true =>
    rw [List.pairwise_append]
    refine ⟨h1, by simp, fun x hx y hy => ?_⟩
    simp only [if_true, List.mem_singleton] at hy
    subst hy
    obtain ⟨h0, h3⟩ := h2 x hx
    have hne : d[m]! ≠ d[m - 1]! := fun e => by rw [Lib.keeps_neg h0 e] at hk; cases hk
    have hle := hs (m - 1) m (by omega) (by omega)
    refine b1o (hup x hx) fun e => hne ?_
    rw [e] at h3
    exact List.le_antisymm h3 hle
  ·rcases List.mem_append.1 hx with h | h
   ·exact hup x h
   ·split at h
    ·simp only [List.mem_singleton] at h; subst h; exact List.le_refl _
    ·simp at h
theorem a4h (l : List ByteArray) : (fH l).Pairwise ltS := by
 have e : (pK l).map bl = kU (l.map bl) := by
  unfold pK
  rw [List.map_map]
  have : (bl ∘ lb) = id := by funext x; exact b0V x
  rw [this, List.map_id]
 unfold fH a2L
 rw [e, List.pairwise_map]
 have hs : (kU (l.map bl)).Pairwise (fun a b => decide (a ≤ b) = true) := by
  refine List.pairwise_mergeSort (le := fun x y : List UInt8 => decide (x ≤ y)) (fun a b c h k => decide_eq_true (List.le_trans (of_decide_eq_true h) (of_decide_eq_true k))) (fun a b => ?_) (l.map bl)
  by_cases h : a ≤ b
  ·simp [h]
  ·have : b ≤ a := List.le_of_lt (List.not_le.1 h)
   simp [this]
 have h := (uY (kU (l.map bl)).toArray (fun i j hij hj => by
  have hj' : j < (kU (l.map bl)).length := by simpa using hj
  have hi' : i < (kU (l.map bl)).length := by omega
  have := List.pairwise_iff_getElem.1 hs i j hi' hj' hij
  simpa [getElem!_pos, hi', hj'] using of_decide_eq_true this) (kU (l.map bl)).length (by simp)).1
 exact h.imp (fun {x y} h => by show bl (lb x) < bl (lb y); exact h)
end Go.Proofs.YtolgdibgnndoaaaGreat
end
