/- Joined texts. -/
import Derived.Test.YtakopfjdmmnjcaaGreatZ13
import Derived.Test.YtakopfjdmmnjcaaGreatZ12
import Derived.Test.YtakopfjdmmnjcaaGreatZ07
import Derived.Test.YtakopfjdmmnjcaaGreatZ11
import Derived.Sort.Walk0
set_option linter.all false
section
set_option maxRecDepth 100000
set_option maxHeartbeats 4000000
namespace Go.Proofs.YtakopfjdmmnjcaaGreat
open Go Go.Sx Go.RowKit Go.Proofs
def tT : List Nat → Int → Int
 | [], m => m
 | x :: l, m => tT l (if (x : Int) > m then (x : Int) else m)
def yG (L : List Nat) : Int := tT L (-1)
theorem zN (L : List Nat) (k : Nat) (m : Int) (h : k < L.length) : tT (L.drop k) m = tT (L.drop (k + 1)) (if (L[k] : Int) > m then (L[k] : Int) else m) := by
 rw [List.drop_eq_getElem_cons h, tT]
theorem a0t (q : List TNode) (f : TFile) (R : List TResult) (hq : bW q ≤ 4300000) (hf : wFile f ≤ 4300000) (hR : aW R ≤ 67108864) : FnC Tryz.prog 190 [.o (.d (.sl (q.map bD))), jC f, .o (.d (.sl (R.map aQ)))] (ob (pr q R f)) := by
 refine ent Tryz.func190 rfl Tryz.call190 rfl (fun C => ?_); simp only [go_sem, st0, Tryz.ntmps190]
 cases hv : okQ q
 ·have q0 := @hv; refine iU (bM q hq) ?_
  exact aA ⟨⟨_, rfl, by simp only [go_sem, pr, hv, Bool.false_and]⟩, trivial⟩
 ·have hl := kY hv
  have hx : (q.length : Int) - 1 = ((q.length - 1 : Nat) : Int) := by omega
  have q0 := @hv; have q1 := @hx; refine yU (bM q hq) (a4C q f R hv hf hR q.length (q.length - 1) (by omega) (by omega)) ?_
  exact aA ⟨⟨_, rfl, by simp only [go_sem, pr, hv, Bool.true_and]⟩, trivial⟩
theorem a0u (q : List TNode) (f : TFile) (R : List TResult) (hq : bW q ≤ 4300000) (hf : wFile f ≤ 4300000) (hR : aW R ≤ 67108864) : FnC Tryz.prog 191 [.o (.d (.sl (q.map bD))), jC f, .o (.d (.sl (R.map aQ)))] (ob (pr q R f)) := by
 refine ent Tryz.func191 rfl Tryz.call191 rfl (fun C => ?_); simp only [go_sem, st0, Tryz.ntmps191]
 cases hv : okQ q
 ·have q0 := @hv; refine iU (bX q hq) ?_
  exact aA ⟨⟨_, rfl, by simp only [go_sem, pr, hv, Bool.false_and]⟩, trivial⟩
 ·have hl := kY hv
  have hx : (q.length : Int) - 1 = ((q.length - 1 : Nat) : Int) := by omega
  have q0 := @hv; have q1 := @hx; refine yU (bX q hq) (a4D q f R hv hf hR q.length (q.length - 1) (by omega) (by omega)) ?_
  exact aA ⟨⟨_, rfl, by simp only [go_sem, pr, hv, Bool.true_and]⟩, trivial⟩
theorem yH (s : TStore) (q : List TNode) (R : List TResult) (hs : wStore s ≤ 4300000) (hq : bW q ≤ 4300000) (hR : aW R ≤ 67108864) : FnC Tryz.prog 173 [cB s, .o (.d (.sl (q.map bD))), .o (.d (.sl (R.map aQ)))] (.o (.w 3 1 ((kS s.fFiles q R).map fA))) := by
 unfold wStore dO at hs
 refine ent Tryz.func173 rfl Tryz.call173 rfl (fun C => ?_); simp only [go_sem, st0, Tryz.ntmps173]
 refine aD ?_
 refine aM (α := Nat) (fun k => [(7, .o (.s 1)), (10, .o .u), (14, oi k)]) (fun k => [(1, .row 3 1 ((eZ ((s.fFiles.take k).filter (pr q R))).map fA) true)]) (fun k => k ≤ s.fFiles.length) (fun k => s.fFiles.length - k) 0 (fun _ => ?_) ?_ ?_ (fun k hk => ?_)
 ·simp only [go_sem]
 ·simp only [go_sem]; simp [eZ]
 ·simp
 ·simp only [go_sem]
  refine aD ?_
  refine cnd rfl (fun h => ?_) (fun h => ?_)
  ·simp only [decide_eq_true_eq, Int.ofNat_lt] at h
   have hw := bB wFile s.fFiles h
   have ht : s.fFiles.take (k + 1) = s.fFiles.take k ++ [s.fFiles[k]] := List.take_succ_eq_append_getElem h
   have hl : (eZ ((s.fFiles.take k).filter (pr q R))).length ≤ k := by
    unfold eZ; rw [List.length_map]
    exact Nat.le_trans (List.length_filter_le _ _) (by rw [List.length_take]; omega)
   have hl1 : (eZ ((s.fFiles.take k).filter (pr q R))).length + 1 ≤ 140737488355328 := by omega
   have hl2 : ((eZ ((s.fFiles.take k).filter (pr q R))).length + 1) * 8 ≤ 140737488355328 := by omega
   cases hm : pr q R s.fFiles[k]
   ·have hf : eZ ((s.fFiles.take (k + 1)).filter (pr q R)) = eZ ((s.fFiles.take k).filter (pr q R)) := by rw [ht, List.filter_append]; simp [hm]
    have q0 := @h; have q1 := @hm; refine qX (a0t q s.fFiles[k] R hq (by omega) hR) ?_
    refine aF (k + 1) ?_ ?_ ?_
    ·simp only [go_sem, hf]; simp
    ·omega
    ·omega
   ·have hf : eZ ((s.fFiles.take (k + 1)).filter (pr q R)) = eZ ((s.fFiles.take k).filter (pr q R)) ++ [s.fFiles[k].fID] := by rw [ht, List.filter_append]; simp [hm, eZ]
    have q0 := @h; have q1 := @hm; refine qX (a0t q s.fFiles[k] R hq (by omega) hR) ?_
    refine aF (k + 1) ?_ ?_ ?_
    ·simp only [go_sem, hf, List.map_append]; simp
    ·omega
    ·omega
  ·simp only [decide_eq_false_iff_not] at h
   have e : k = s.fFiles.length := by omega
   subst e
   refine aD ?_
   exact aA ⟨⟨_, rfl, by simp only [go_sem, kS, List.take_length]⟩, trivial⟩
theorem yI (s : TStore) (q : List TNode) (R : List TResult) (hs : wStore s ≤ 4300000) (hq : bW q ≤ 4300000) (hR : aW R ≤ 67108864) : FnC Tryz.prog 176 [cB s, .o (.d (.sl (q.map bD))), .o (.d (.sl (R.map aQ)))] (.o (.w 3 1 ((kS s.fFiles q R).map fA))) := by
 unfold wStore dO at hs
 refine ent Tryz.func176 rfl Tryz.call176 rfl (fun C => ?_); simp only [go_sem, st0, Tryz.ntmps176]
 refine aD ?_
 refine aM (α := Nat) (fun k => [(7, .o (.s 1)), (9, .o .u), (8, oi k)]) (fun k => [(1, .row 3 1 ((eZ ((s.fFiles.take k).filter (pr q R))).map fA) true)]) (fun k => k ≤ s.fFiles.length) (fun k => s.fFiles.length - k) 0 (fun _ => ?_) ?_ ?_ (fun k hk => ?_)
 ·simp only [go_sem]
 ·simp only [go_sem]; simp [eZ]
 ·simp
 ·simp only [go_sem]
  refine aD ?_
  refine cnd rfl (fun h => ?_) (fun h => ?_)
  ·simp only [decide_eq_true_eq, Int.ofNat_lt] at h
   have hw := bB wFile s.fFiles h
   have ht : s.fFiles.take (k + 1) = s.fFiles.take k ++ [s.fFiles[k]] := List.take_succ_eq_append_getElem h
   have hl : (eZ ((s.fFiles.take k).filter (pr q R))).length ≤ k := by
    unfold eZ; rw [List.length_map]
    exact Nat.le_trans (List.length_filter_le _ _) (by rw [List.length_take]; omega)
   have hl1 : (eZ ((s.fFiles.take k).filter (pr q R))).length + 1 ≤ 140737488355328 := by omega
   have hl2 : ((eZ ((s.fFiles.take k).filter (pr q R))).length + 1) * 8 ≤ 140737488355328 := by omega
   cases hm : pr q R s.fFiles[k]
   ·have hf : eZ ((s.fFiles.take (k + 1)).filter (pr q R)) = eZ ((s.fFiles.take k).filter (pr q R)) := by rw [ht, List.filter_append]; simp [hm]
    have q0 := @h; have q1 := @hm; refine qX (a0u q s.fFiles[k] R hq (by omega) hR) ?_
    refine aF (k + 1) ?_ ?_ ?_
    ·simp only [go_sem, hf]; simp
    ·omega
    ·omega
   ·have hf : eZ ((s.fFiles.take (k + 1)).filter (pr q R)) = eZ ((s.fFiles.take k).filter (pr q R)) ++ [s.fFiles[k].fID] := by rw [ht, List.filter_append]; simp [hm, eZ]
    have q0 := @h; have q1 := @hm; refine qX (a0u q s.fFiles[k] R hq (by omega) hR) ?_
    refine aF (k + 1) ?_ ?_ ?_
    ·simp only [go_sem, hf, List.map_append]; simp
    ·omega
    ·omega
  ·simp only [decide_eq_false_iff_not] at h
   have e : k = s.fFiles.length := by omega
   subst e
   refine aD ?_
   exact aA ⟨⟨_, rfl, by simp only [go_sem, kS, List.take_length]⟩, trivial⟩
theorem b1O (d : List TDir) (h : rU d = false) : resL d = [] := by
 unfold rU at h
 unfold resL
 split
 ·rename_i hv
  rw [if_pos hv] at h
  apply a4I
  intro hx
  obtain ⟨F, hF⟩ := hx
  rw [zR hF] at h; cases h
 ·rfl
theorem b3i (A : List Nat) (h : 0 < A.length) (hl : A.length ≤ 4300000) : FnC Tryz.prog 189 [.o (.d (.sl (A.map pU)))] (oi (yG A)) := by
 have h1 : ¬ (A.length : Int) < 1 := by omega
 have hst : yG A = tT (A.drop 1) (A[0] : Int) := by
  have := zN A 0 (-1) h
  rw [List.drop_zero] at this
  unfold yG
  rw [this, if_pos (by omega)]
 refine ent Tryz.func189 rfl Tryz.call189 rfl (fun C => ?_); simp only [go_sem, st0, Tryz.ntmps189]
 have q0 := @h; have q1 := @h1; have q2 := @decide_false; have q3 := @Int.toNat_zero; have q4 := @Int.le_refl; refine xS ?_
 refine aM (α := Nat × Int) (fun x => [(3, oi x.2), (4, oi x.1)]) (fun _ => []) (fun x => 1 ≤ x.1 ∧ x.1 ≤ A.length ∧ yG A = tT (A.drop x.1) x.2) (fun x => A.length - x.1) (1, (A[0] : Int)) (fun _ => ?_) ?_ ?_ (fun x hx => ?_)
 ·simp only [go_sem]
 ·simp only [go_sem]; simp
 ·exact ⟨by simp, by simp only; omega, hst⟩
 ·obtain ⟨k, m⟩ := x
  obtain ⟨hk1, hk, hq⟩ := hx
  simp only at hk1 hk hq
  simp only [go_sem]
  refine aD ?_
  refine cnd rfl (fun h2 => ?_) (fun h2 => ?_)
  ·simp only [decide_eq_true_eq, Int.ofNat_lt] at h2
   rw [zN A k m h2] at hq
   have q0 := @h2; refine iB ?_
   refine aF (k + 1, mxI m (A[k] : Int)) ?_ ?_ ?_
   ·simp only [go_sem]; simp
   ·exact ⟨by simp, by simp only; omega, hq⟩
   ·simp only; omega
  ·simp only [decide_eq_false_iff_not] at h2
   have e : k = A.length := by omega
   subst e
   rw [List.drop_length, tT] at hq
   refine aD ?_
   exact aA ⟨⟨_, rfl, by simp only [go_sem, hq]⟩, trivial⟩
theorem a7T (d : List TDir) (hd : dM d ≤ 4300000) (hl : (resL d).length ≤ 4300000) : FnC Tryz.prog 172 [.o (.d (.sl (d.map bH)))] (oi (yG (resL d))) := by
 refine ent Tryz.func172 rfl Tryz.call172 rfl (fun C => ?_); simp only [go_sem, st0, Tryz.ntmps172]
 cases hb : rU d
 ·have e := b1O d hb
  have q0 := @hb; refine iU (gU d hd) ?_
  exact aA ⟨⟨_, rfl, by simp only [go_sem, e, yG, tT]⟩, trivial⟩
 ·by_cases h0 : 0 < (resL d).length
  ·have hn : ¬ ((resL d).length : Int) = 0 := by omega
   have q0 := @hb; have q1 := @hn; have q2 := @decide_false; refine a4o (gU d hd) (b3i (resL d) h0 hl) ?_
   exact aA ⟨⟨_, rfl, by simp only [go_sem]⟩, trivial⟩
  ·have hn : ((resL d).length : Int) = 0 := by omega
   have e : resL d = [] := List.eq_nil_of_length_eq_zero (by omega)
   have q0 := @hb; have q1 := @hn; have q2 := @decide_true; refine kG (gU d hd) ?_
   exact aA ⟨⟨_, rfl, by simp only [go_sem, e, yG, tT]⟩, trivial⟩
theorem a7U (d : List TDir) (hd : dM d ≤ 4300000) (hl : (resL d).length ≤ 4300000) : FnC Tryz.prog 175 [.o (.d (.sl (d.map bH)))] (oi (yG (resL d))) := by
 refine ent Tryz.func175 rfl Tryz.call175 rfl (fun C => ?_); simp only [go_sem, st0, Tryz.ntmps175]
 refine iL (kZ d hd) ?_
 generalize resL d = A at *
 refine aM (α := Nat × Int) (fun x => [(5, oi x.2), (6, oi x.1)]) (fun _ => []) (fun x => x.1 ≤ A.length ∧ yG A = tT (A.drop x.1) x.2) (fun x => A.length - x.1) (0, -1) (fun _ => ?_) ?_ ?_ (fun x hx => ?_)
 ·simp only [go_sem]
 ·simp only [go_sem]; simp
 ·simp [yG]
 ·obtain ⟨k, m⟩ := x
  obtain ⟨hk, hq⟩ := hx
  simp only at hk hq
  simp only [go_sem]
  refine aD ?_
  refine cnd rfl (fun h2 => ?_) (fun h2 => ?_)
  ·simp only [decide_eq_true_eq, Int.ofNat_lt] at h2
   rw [zN A k m h2] at hq
   have q0 := @h2; refine iB ?_
   by_cases hc : m < (A[k] : Int)
   ·rw [if_pos hc] at hq
    refine cnd (b := decide (m < (A[k] : Int))) rfl (fun _ => ?_) (fun hx => ?_)
    ·have q0 := @h2; refine iB ?_
     refine aF (k + 1, (A[k] : Int)) ?_ ?_ ?_
     ·simp only [go_sem]; simp
     ·exact ⟨by simp only; omega, hq⟩
     ·simp only; omega
    ·simp [hc] at hx
   ·rw [if_neg hc] at hq
    refine cnd (b := decide (m < (A[k] : Int))) rfl (fun hx => ?_) (fun _ => ?_)
    ·simp [hc] at hx
    ·have q0 := @h2; refine iB ?_
     refine aF (k + 1, m) ?_ ?_ ?_
     ·simp only [go_sem]; simp
     ·exact ⟨by simp only; omega, hq⟩
     ·simp only; omega
  ·simp only [decide_eq_false_iff_not] at h2
   have e : k = A.length := by omega
   subst e
   rw [List.drop_length, tT] at hq
   refine aD ?_
   exact aA ⟨⟨_, rfl, by simp only [go_sem, hq]⟩, trivial⟩
end Go.Proofs.YtakopfjdmmnjcaaGreat
end
section
set_option maxRecDepth 100000
namespace Go.Proofs.YtakopfjdmmnjcaaGreat
open Go Go.Sx Go.RowKit Go.Proofs
def eqL {α : Type} (p : α → α → Bool) : List α → List α → Bool
 | [], [] => true
 | x :: xs, y :: ys => p x y && eqL p xs ys
 | _, _ => false
theorem a4L {α : Type} (p : α → α → Bool) : ∀ {a b : List α}, a.length ≠ b.length → eqL p a b = false
 | [], [], h => by simp at h
 | x :: xs, y :: ys, h => by
  have := a4L p (a := xs) (b := ys) (by simpa using h)
  simp [eqL, this]
 | [], _ :: _, _ => rfl
 | _ :: _, [], _ => rfl
@[go_sem] def iI (a b : Int) : Bool := decide (a = b)
@[go_sem] def b2d (a b : TField) : Bool := decide (a.fName = b.fName) && decide (a.fKind = b.fKind)
@[go_sem] def b3o (a b : TAttr) : Bool := decide (a.fName = b.fName) && (decide (a.fValue.fKind = b.fValue.fKind) && (decide (a.fValue.fInt = b.fValue.fInt) && decide (a.fValue.fStr = b.fValue.fStr)))
@[go_sem] def b3p (a b : TNode) : Bool := decide (a.fOp = b.fOp) && (decide (a.fLeft = b.fLeft) && (decide (a.fRight = b.fRight) && (decide (a.fName = b.fName) && (decide (a.fValue.fKind = b.fValue.fKind) && (decide (a.fValue.fInt = b.fValue.fInt) && decide (a.fValue.fStr = b.fValue.fStr))))))
def b3q (a b : TFile) : Bool := decide (a.fID = b.fID) && (decide (a.fOwner = b.fOwner) && ((a.fShared == b.fShared) && (decide (a.fLink = b.fLink) && eqL b3o a.fAttrs b.fAttrs)))
def b2e (a b : TDir) : Bool := decide (a.fName = b.fName) && eqL b3p a.fQuery b.fQuery
def a3J (a b : TResult) : Bool := decide (a.fName = b.fName) && eqL iI a.fIDs b.fIDs
def a6v (a b : TStore) : Bool := eqL b2d a.fSchema b.fSchema && (eqL b3q a.fFiles b.fFiles && decide (a.fNextID = b.fNextID))
def b3J (a b : TSnapshot) : Bool := a6v a.fStore b.fStore && eqL b2e a.fDirs b.fDirs
def b4z (a b : TCatalog) : Bool := a6v a.fStore b.fStore && (eqL b2e a.fDirs b.fDirs && eqL a3J a.fResults b.fResults)
theorem a0A (a b : List Int) (ha : a.length ≤ 4300000) : FnC Tryz.prog 144 [.o (.d (.sl (a.map fA))), .o (.d (.sl (b.map fA)))] (ob (eqL iI a b)) := by
 have hal : a.length ≤ 4300000 := by omega
 refine ent Tryz.func144 rfl Tryz.call144 rfl (fun C => ?_); simp only [go_sem, st0, Tryz.ntmps144]
 refine aD ?_
 refine cnd rfl (fun h0 => ?_) (fun h0 => ?_)
 ·have e : eqL iI a b = false := a4L _ (by simp only [Bool.not_eq_true', decide_eq_false_iff_not] at h0; omega)
  refine aD ?_
  exact aA ⟨⟨_, rfl, by simp only [go_sem, e]⟩, trivial⟩
 have h0 : a.length = b.length := by simpa [Int.ofNat_inj] using h0
 refine aD ?_
 refine aM (α := Nat) (fun k => [(5, oi k)]) (fun _ => []) (fun k => k ≤ a.length ∧ eqL iI a b = eqL iI (a.drop k) (b.drop k)) (fun k => a.length - k) 0 (fun _ => ?_) ?_ ?_ (fun k hk => ?_)
 ·simp only [go_sem]
 ·simp only [go_sem]; simp
 ·simp
 ·obtain ⟨hk, hq⟩ := hk
  simp only [go_sem]
  refine aD ?_
  refine cnd rfl (fun h => ?_) (fun h => ?_)
  ·simp only [decide_eq_true_eq, Int.ofNat_lt] at h
   have hb : k < b.length := by omega
   rw [List.drop_eq_getElem_cons h, List.drop_eq_getElem_cons hb, eqL] at hq
   have q0 := @h; have q1 := @hb; refine jB ?_
   refine cnd (b := !(iI a[k] b[k])) (by rfl) (fun h2 => ?_) (fun h2 => ?_)
   ·simp only [Bool.not_eq_true'] at h2
    rw [h2, Bool.false_and] at hq
    refine aD ?_
    exact aA ⟨⟨_, rfl, by simp only [go_sem, hq]⟩, trivial⟩
   ·simp only [Bool.not_eq_false'] at h2
    rw [h2, Bool.true_and] at hq
    refine aD ?_
    refine aF (k + 1) ?_ ?_ ?_
    ·simp only [go_sem]; simp
    ·exact ⟨h, hq⟩
    ·omega
  ·simp only [decide_eq_false_iff_not] at h
   have e : k = a.length := by omega
   subst e
   rw [List.drop_length, List.drop_of_length_le (by omega), eqL] at hq
   refine aD ?_
   exact aA ⟨⟨_, rfl, by simp only [go_sem, hq]⟩, trivial⟩
theorem vT (a b : List Int) (ha : a.length ≤ 4300000) : FnC Tryz.prog 174 [.o (.d (.sl (a.map fA))), .o (.d (.sl (b.map fA)))] (ob (eqL iI a b)) := by
 have hal : a.length ≤ 4300000 := by omega
 refine ent Tryz.func174 rfl Tryz.call174 rfl (fun C => ?_); simp only [go_sem, st0, Tryz.ntmps174]
 refine aD ?_
 refine cnd rfl (fun h0 => ?_) (fun h0 => ?_)
 ·have e : eqL iI a b = false := a4L _ (by simp only [Bool.not_eq_true', decide_eq_false_iff_not] at h0; omega)
  refine aD ?_
  exact aA ⟨⟨_, rfl, by simp only [go_sem, e]⟩, trivial⟩
 have h0 : a.length = b.length := by simpa [Int.ofNat_inj] using h0
 refine aD ?_
 refine aM (α := Nat) (fun k => [(13, oi k)]) (fun _ => []) (fun k => k ≤ a.length ∧ eqL iI a b = eqL iI (a.drop k) (b.drop k)) (fun k => a.length - k) 0 (fun _ => ?_) ?_ ?_ (fun k hk => ?_)
 ·simp only [go_sem]
 ·simp only [go_sem]; simp
 ·simp
 ·obtain ⟨hk, hq⟩ := hk
  simp only [go_sem]
  refine aD ?_
  refine cnd rfl (fun h => ?_) (fun h => ?_)
  ·simp only [decide_eq_true_eq, Int.ofNat_lt] at h
   have hb : k < b.length := by omega
   rw [List.drop_eq_getElem_cons h, List.drop_eq_getElem_cons hb, eqL] at hq
   have q0 := @h; have q1 := @hb; refine jB ?_
   refine cnd (b := !(iI a[k] b[k])) (by rfl) (fun h2 => ?_) (fun h2 => ?_)
   ·simp only [Bool.not_eq_true'] at h2
    rw [h2, Bool.false_and] at hq
    refine aD ?_
    exact aA ⟨⟨_, rfl, by simp only [go_sem, hq]⟩, trivial⟩
   ·simp only [Bool.not_eq_false'] at h2
    rw [h2, Bool.true_and] at hq
    refine aD ?_
    refine aF (k + 1) ?_ ?_ ?_
    ·simp only [go_sem]; simp
    ·exact ⟨h, hq⟩
    ·omega
  ·simp only [decide_eq_false_iff_not] at h
   have e : k = a.length := by omega
   subst e
   rw [List.drop_length, List.drop_of_length_le (by omega), eqL] at hq
   refine aD ?_
   exact aA ⟨⟨_, rfl, by simp only [go_sem, hq]⟩, trivial⟩
end Go.Proofs.YtakopfjdmmnjcaaGreat
end
section
set_option maxRecDepth 100000
set_option maxHeartbeats 4000000
namespace Go.Proofs.YtakopfjdmmnjcaaGreat
open Go Go.Sx Go.RowKit Go.Proofs
def tQ (d : List TDir) (L : List Nat) : Nat := (yG L + 1).toNat
noncomputable def evX (s : TStore) (d : List TDir) (r : List TResult) (ns : List ByteArray) : List TResult × Nat := if rU d && cO s then allE s.fFiles d (resL d) ns (s.fFiles.length + aW r) r (tQ d (resL d)) else ([], 0)
noncomputable def evB (s : TStore) (d : List TDir) : Bool := rU d && cO s
theorem yE {d : List TDir} (h : rU d = true) : dF d = true ∧ Least d.length (EE d) (resL d) := by
 unfold rU at h
 split at h
 ·rename_i hv
  refine ⟨hv, ?_⟩
  unfold a0z at h
  split at h
  ·rename_i hx
   have hex : ∃ L, Least d.length (EE d) L := by
    have hends := a3G (tV d) (fB d) (fun x => Iff.rfl) (d.length * d.length + 2) (by omega)
    simp only at hends
    split at hends
    ·exact ⟨_, hends⟩
    ·exact (hends hx).elim
   obtain ⟨L, hL⟩ := hex
   have e : resL d = L := by unfold resL; rw [if_pos hv]; exact a4H hL
   rw [e]; exact hL
  ·cases h
 ·cases h
theorem a0r {d : List TDir} (h : dF d = true) (i : Nat) (hi : i < d.length) : d[i].fName.size ≤ 6 := by
 unfold dF at h
 simp only [Bool.and_eq_true, List.all_eq_true, List.mem_range] at h
 have := h.1 i hi
 unfold iM at this
 rw [List.getElem?_eq_getElem hi] at this
 simp only [Bool.and_eq_true] at this
 have := a9H this.1
 omega
theorem nW {s : TStore} (h : cO s = true) : s.fFiles.length ≤ 12 := by
 unfold cO at h
 simp only [Bool.and_eq_true, decide_eq_true_eq] at h
 omega
theorem wN {α : Type} (w : α → Nat) (c : Nat) : ∀ l : List α, (∀ i, (h : i < l.length) → w l[i] ≤ c) → wsum w l ≤ l.length * c
 | [], _ => by simp [wsum]
 | x :: l, h => by
  have h0 := h 0 (by simp)
  have h1 := wN w c l fun i hi => h (i + 1) (by simpa using hi)
  simp only [List.getElem_cons_zero] at h0
  simp only [wsum, List.length_cons, Nat.succ_mul]
  omega
theorem Ev.get {fs : List TFile} {d : List TDir} {L : List Nat} {ns : List ByteArray} {c k : Nat} {R : List TResult} (h : Ev fs d L ns c k R) (i : Nat) (hi : i < d.length) : (R[i]'(by rw [h.len]; exact hi)).fName = d[i].fName ∧ (R[i]'(by rw [h.len]; exact hi)).fIDs = dU R i := by
 have hlen := h.len
 have hR : i < R.length := by omega
 refine ⟨?_, ?_⟩
 ·have := congrArg (fun l : List ByteArray => l[i]?) h.nm
  simp only [List.getElem?_map] at this
  rw [List.getElem?_eq_getElem hR, List.getElem?_eq_getElem hi] at this
  simpa using this
 ·simp [dU, List.getD_eq_getElem?_getD, hR]
theorem Ev.w {fs : List TFile} {d : List TDir} {L : List Nat} {ns : List ByteArray} {c k : Nat} {R : List TResult} (h : Ev fs d L ns c k R) (hv : dF d = true) (hc : c ≤ 4300012) : aW R ≤ 67108864 := by
 have hlen := h.len
 have h5 := jH hv
 have hb := wN jD 4300018 R fun i hi => by
  obtain ⟨e1, e2⟩ := h.get i (by omega)
  have h1 := a0r hv i (by omega)
  have h2 := h.bd i
  unfold jD
  rw [e1, e2]
  omega
 unfold aW
 have : R.length * 4300018 ≤ 5 * 4300018 := Nat.mul_le_mul_right _ (by omega)
 omega
theorem b3I (R : List TResult) (i : Nat) (nm : ByteArray) (l : List Int) : (R.map aQ).set i [sv nm, .sl (l.map fA)] = (R.set i ⟨nm, l⟩).map aQ := by rw [List.map_set]; rfl
theorem a1c (a b : List Int) : eqL iI a b = decide (a = b) := by
 induction a generalizing b with
 | nil => cases b <;> simp [eqL]
 | cons x a ih =>
  cases b with
  | nil => simp [eqL]
  | cons y b =>
   simp only [eqL, ih, iI]
   by_cases h1 : x = y <;> by_cases h2 : a = b <;> simp [h1, h2]
theorem a0s (ns : List ByteArray) (r : List TResult) (d : List TDir) (k : Nat) (h : k < d.length) : gH ns r (d.take (k + 1)) = gH ns r (d.take k) ++ [⟨d[k].fName, if nD ns d[k].fName then [] else bF d[k].fName r⟩] := by
 unfold gH; rw [List.take_succ_eq_append_getElem h, List.map_append]; rfl
theorem a2a (ns : List ByteArray) (r : List TResult) (d : List TDir) (k : Nat) : (gH ns r (d.take k)).length ≤ k := by unfold gH; simp; omega
theorem b3f (d : List TDir) (k : Nat) (h : k < d.length) : nD (dirNs d) d[k].fName = true := by
 rw [a2h]
 exact List.mem_map.2 ⟨d[k], List.getElem_mem h, rfl⟩
def chB (fs : List TFile) (d : List TDir) (L : List Nat) (ns : List ByteArray) (k i : Nat) (R : List TResult) : Bool := decide (iR R < iR (passT fs d L ns k i R))
theorem b3g (l : List Nat) (m : Int) : m ≤ tT l m := by
 induction l generalizing m with
 | nil => simp [tT]
 | cons x l ih =>
  simp only [tT]
  split
  ·have := ih (x : Int); omega
  ·exact ih m
theorem b3h (l : List Nat) (m c : Int) (hm : m ≤ c) (h : ∀ x ∈ l, (x : Int) ≤ c) : tT l m ≤ c := by
 induction l generalizing m with
 | nil => exact hm
 | cons x l ih =>
  simp only [tT]
  refine ih _ ?_ fun y hy => h y (List.mem_cons_of_mem _ hy)
  split
  ·exact h x (by simp)
  ·exact hm
theorem b1N {d : List TDir} {L : List Nat} (h : Least d.length (EE d) L) : yG L ≤ (d.length : Int) := by
 obtain ⟨G, hG, hs⟩ := zS (tV d) h.clo
 refine b3h L (-1) _ (by omega) fun x hx => ?_
 obtain ⟨i, hi, rfl⟩ := List.mem_iff_getElem.1 hx
 have h1 := h.le G hG i
 have h2 := hs i (by rw [← h.clo.len]; exact hi)
 rw [rV L i hi]
 omega
theorem a3z (fs : List TFile) (d : List TDir) (L : List Nat) (ns : List ByteArray) (k : Nat) : ∀ (F : Nat) (x : List TResult × Nat), (vS fs d L ns k F x).2 ≤ x.2 + F
 | 0, x => by simp [vS]
 | F + 1, x => by
  unfold vS
  split
  ·have := a3z fs d L ns k F (passT fs d L ns k d.length x.1, x.2 + 1)
   simp only at this
   omega
  ·simp only; omega
theorem a2b (fs : List TFile) (d : List TDir) (L : List Nat) (ns : List ByteArray) (c : Nat) (r : List TResult) : ∀ k, (allE fs d L ns c r k).2 ≤ k * (d.length * c + 1)
 | 0 => by simp [allE]
 | k + 1 => by
  have h1 := a2b fs d L ns c r k
  have h2 := a3z fs d L ns k (d.length * c + 1) (allE fs d L ns c r k)
  simp only [allE, Nat.succ_mul]
  omega
theorem yF (d : List TDir) (L : List Nat) (k : Nat) : (k : Int) ≤ yG L ↔ k < tQ d L := by
 have : -1 ≤ yG L := b3g L (-1)
 unfold tQ
 omega
theorem a6e {fs : List TFile} {d : List TDir} {L : List Nat} {ns : List ByteArray} {k i : Nat} {R : List TResult} (h : passT fs d L ns k (i + 1) R = passT fs d L ns k i R) : chB fs d L ns k (i + 1) R = chB fs d L ns k i R := by unfold chB; rw [h]
theorem b0c (s : TStore) (d : List TDir) (r : List TResult) (ns : List ByteArray) (hs : wStore s ≤ 4300000) (hd : dM d ≤ 4300000) (hr : aW r ≤ 4300000) (hns : ns.length ≤ 4300000) : FnC Tryz.prog 153 [cB s, .o (.d (.sl (d.map bH))), .o (.d (.sl (r.map aQ))), .o (.d (.sl (ns.map gW)))] (.t [(false, [.w 169 2 ((evX s d r ns).1.map aQ)]), (false, [.d (iv ((evX s d r ns).2 : Nat))]), (false, [.d (bv (evB s d))])]) := by
 have hd0 : d.length + wsum wDir d ≤ 4300000 := hd
 have hs0 : aL s.fSchema + (s.fFiles.length + wsum wFile s.fFiles) ≤ 4300000 := hs
 refine ent Tryz.func153 rfl Tryz.call153 rfl (fun C => ?_); simp only [go_sem, st0, Tryz.ntmps153]
 cases hb : rU d
 ·have e1 : evX s d r ns = ([], 0) := by simp [evX, hb]
  have e2 : evB s d = false := by simp [evB, hb]
  have q0 := @hb; refine iU (gU d hd) ?_
  exact aA ⟨⟨_, rfl, by simp only [go_sem, e1, e2, List.map_nil]; simp⟩, by simp [dN]⟩
 cases hst : cO s
 ·have e1 : evX s d r ns = ([], 0) := by simp [evX, hst]
  have e2 : evB s d = false := by simp [evB, hst]
  have q0 := @hb; have q1 := @hst; refine yU (gU d hd) (jV s hs) ?_
  exact aA ⟨⟨_, rfl, by simp only [go_sem, e1, e2, List.map_nil]; simp⟩, by simp [dN]⟩
 obtain ⟨hv, hleast⟩ := yE hb
 have hclo := hleast.clo
 have hvq := fun i (hi : i < d.length) => kR hv i hi
 have h5 := jH hv
 have h12 := nW hst
 have hLl := hclo.len
 obtain ⟨CC, hCC⟩ : ∃ c, s.fFiles.length + aW r = c := ⟨_, rfl⟩
 have hC2 : CC ≤ 4300012 := by omega
 have e1 : evX s d r ns = allE s.fFiles d (resL d) ns CC r (tQ d (resL d)) := by simp [evX, hb, hst, hCC]
 have e2 : evB s d = true := by simp [evB, hb, hst]
 have q0 := @hb; have q1 := @hst; refine yU (gU d hd) (jV s hs) ?_
 refine aM (α := Nat) (fun k => [(13, .o (.s 2)), (35, .o .u), (38, oi k)]) (fun k => [(2, .row 169 2 ((gH ns r (d.take k)).map aQ) true)]) (fun k => k ≤ d.length) (fun k => d.length - k) 0 (fun _ => ?_) ?_ ?_ (fun k hk => ?_)
 ·simp only [go_sem]
 ·simp only [go_sem]; simp [gH]
 ·simp
 ·simp only [go_sem]
  refine aD ?_
  refine cnd rfl (fun h => ?_) (fun h => ?_)
  ·simp only [decide_eq_true_eq, Int.ofNat_lt] at h
   have hsl := a2a ns r d k
   have hl1 : (gH ns r (d.take k)).length + 1 ≤ 140737488355328 := by omega
   have hl2 : ((gH ns r (d.take k)).length + 1) * 40 ≤ 140737488355328 := by omega
   have hsu := a0s ns r d k h
   cases hn : nD ns d[k].fName
   ·rw [hn] at hsu
    have q0 := @h; have q1 := @hn; have q2 := @hl1; have q3 := @hl2; refine xR (eP ns d[k].fName hns) (vE r d[k].fName (by omega)) ?_
    refine aF (k + 1) ?_ ?_ ?_
    ·simp only [go_sem, hsu, List.map_append]; simp [aQ]
    ·omega
    ·omega
   ·rw [hn] at hsu
    have q0 := @h; have q1 := @hn; have q2 := @hl1; have q3 := @hl2; refine a2y (eP ns d[k].fName hns) ?_
    refine aF (k + 1) ?_ ?_ ?_
    ·simp only [go_sem, hsu, List.map_append]; simp [aQ]
    ·omega
    ·omega
  ·simp only [decide_eq_false_iff_not] at h
   have e : k = d.length := by omega
   subst e
   rw [List.take_length]
   generalize hL : resL d = L at *
   refine aD ?_
   refine aM (α := Nat) (fun k => [(17, oi ((allE s.fFiles d L ns CC r k).2 : Nat)), (18, oi k)]) (fun k => [(2, .row 169 2 ((allE s.fFiles d L ns CC r k).1.map aQ) true)]) (fun k => k ≤ tQ d L) (fun k => tQ d L - k) 0 (fun _ => ?_) ?_ ?_ (fun k hk => ?_)
   ·simp only [go_sem]
   ·simp only [go_sem]; simp [allE]
   ·simp
   ·simp only [go_sem]
    have q0 := @hL; refine iU (a7T d hd (by rw [hL]; omega)) ?_
    refine cnd rfl (fun hlev => ?_) (fun hlev => ?_)
    ·simp only [decide_eq_true_eq] at hlev
     have hkK := (yF d L k).1 hlev
     have hev := yL (fs := s.fFiles) (ns := ns) (r := r) hvq hclo k
     rw [hCC] at hev
     have htop := b1N hleast
     have hcnt := a2b s.fFiles d L ns CC r k
     have hnm : d.length * CC ≤ 5 * 4300012 := Nat.mul_le_mul h5 hC2
     have hcnt2 : k * (d.length * CC + 1) ≤ 5 * 21500061 := Nat.mul_le_mul (by omega) (by omega)
     have hround : Round s.fFiles d L ns CC k (allE s.fFiles d L ns CC r (k + 1)) ((allE s.fFiles d L ns CC r k).1, (allE s.fFiles d L ns CC r k).2, true) := Round.start hev
     generalize hT : allE s.fFiles d L ns CC r (k + 1) = T at *
     generalize allE s.fFiles d L ns CC r k = X at *
     refine aD ?_
     refine aM (α := List TResult × Nat × Bool) (fun x => [(17, oi (x.2.1 : Nat)), (19, ob x.2.2)]) (fun x => [(2, .row 169 2 (x.1.map aQ) true)]) (fun x => Round s.fFiles d L ns CC k T (x.1, x.2.1, x.2.2) ∧ x.2.1 ≤ X.2 + iR x.1 + (if x.2.2 then 0 else 1)) (fun x => if x.2.2 then d.length * CC + 1 - iR x.1 else 0) (X.1, X.2, true) (fun _ => ?_) ?_ ?_ (fun x hx => ?_)
     ·simp only [go_sem]
     ·simp only [go_sem]; simp
     ·exact ⟨hround, by simp⟩
     ·obtain ⟨R, c, b⟩ := x
      obtain ⟨hx, hcb⟩ := hx
      simp only at hcb
      simp only [go_sem]
      refine aD ?_
      refine cnd rfl (fun hbt => ?_) (fun hbt => ?_)
      ·subst hbt
       have hRe : Ev s.fFiles d L ns CC k R := hx.ev
       have hRt := hRe.tot
       simp only [if_true, Nat.add_zero] at hcb
       have hcI : c ≤ 1000000000 := by omega
       have hpass := hx.pass hvq hclo
       refine aD ?_
       refine aM (α := Nat) (fun i => [(19, ob (chB s.fFiles d L ns k i R)), (71, oi i)]) (fun i => [(2, .row 169 2 ((passT s.fFiles d L ns k i R).map aQ) true)]) (fun i => i ≤ d.length) (fun i => d.length - i) 0 (fun _ => ?_) ?_ ?_ (fun i hi => ?_)
       ·simp only [go_sem]
       ·simp only [go_sem]; simp [chB, passT]
       ·simp
       ·simp only [go_sem]
        refine aD ?_
        refine cnd rfl (fun h => ?_) (fun h => ?_)
        ·simp only [decide_eq_true_eq, Int.ofNat_lt] at h
         have hEv := lF hvq hclo i R (by omega) hRe
         have hcs := lG hvq hclo i R (by omega) hRe
         have hsu := rX s.fFiles d L ns k i R h
         have hchk : passT s.fFiles d L ns k (i + 1) R = passT s.fFiles d L ns k i R → chB s.fFiles d L ns k (i + 1) R = chB s.fFiles d L ns k i R := a6e
         have hchn : iR R < iR (passT s.fFiles d L ns k (i + 1) R) → chB s.fFiles d L ns k (i + 1) R = true := fun hx => by unfold chB; exact decide_eq_true hx
         have hw := hEv.w hv hC2
         obtain ⟨g1, g2⟩ := hEv.get i h
         have hPl := hEv.len
         have hbd := hEv.bd i
         have hwd := bB wDir d h
         have hwq : bW d[i].fQuery ≤ wDir d[i] := by unfold wDir; omega
         have hgrow := fun hin hik hne => hEv.grow h hin hik hne
         have hsame := fun he => zT hEv h he
         generalize passT s.fFiles d L ns k i R = P at *
         generalize hP2 : passT s.fFiles d L ns k (i + 1) R = P2 at *
         have hiP : i < P.length := by omega
         have hiL : i < L.length := by omega
         have hg := rV L i hiL
         have hsl := a2m s.fFiles d[i].fQuery P
         by_cases hik : lv L i = k
         ·have hkI : ((lv L i : Nat) : Int) = ((k : Nat) : Int) := by omega
          cases hn : nD ns d[i].fName
          ·rw [if_neg (fun h => by rw [hn] at h; cases h.2)] at hsu
           have q0 := @h; have q1 := @hiP; have q2 := @hiL; have q3 := @hg; have q4 := @hkI; have q5 := @hn; have q6 := @decide_true; have q7 := @decide_false; refine a1C (eP ns d[i].fName hns) ?_
           refine aF (i + 1) ?_ ?_ ?_
           ·simp only [go_sem, hP2, hchk hsu, hsu]; simp
           ·omega
           ·omega
          ·rw [if_pos ⟨hik, hn⟩] at hsu
           by_cases he : kS s.fFiles d[i].fQuery P = dU P i
           ·have hE : eqL iI (kS s.fFiles d[i].fQuery P) (dU P i) = true := by rw [a1c]; exact decide_eq_true he
            have hPP : P2 = P := by rw [hsu, hsame he]
            have qH := aI @h (aI @hiP (aI @hiL (aI @hg (aI @hkI (aI @g1 (aI @g2 (aI @hE (aI @hn (aI @decide_true @decide_false))))))))); repeat' (with_reducible first | refine nY ?_ | (refine mX ?_; try simp only [go_sem, qH]) | refine kD ?_ | refine rD ?_ | refine cP (eP ns d[i].fName hns) ?_ | refine vR (yH s d[i].fQuery P hs (by omega) hw) ?_ | refine vD (yH s d[i].fQuery P hs (by omega) hw) ?_ | refine vL (vT (kS s.fFiles d[i].fQuery P) (dU P i) (by omega)) ?_ | refine aO ?_ | fail)
            refine aF (i + 1) ?_ ?_ ?_
            ·simp only [go_sem, hP2, hchk hPP, hPP]; simp
            ·omega
            ·omega
           ·have hE : eqL iI (kS s.fFiles d[i].fQuery P) (dU P i) = false := by rw [a1c]; exact decide_eq_false he
            have hlt := hgrow hn hik he
            have hch2 : chB s.fFiles d L ns k (i + 1) R = true := hchn (by
             rw [hsu]
             rcases hcs with e | e
             ·rw [← e]; exact hlt
             ·omega)
            have qH := aI @h (aI @hiP (aI @hiL (aI @hg (aI @hkI (aI @g1 (aI @g2 (aI @hE (aI @hn (aI @decide_true @decide_false))))))))); repeat' (with_reducible first | refine nY ?_ | (refine mX ?_; try simp only [go_sem, qH]) | refine kD ?_ | refine rD ?_ | refine cP (eP ns d[i].fName hns) ?_ | refine vR (yH s d[i].fQuery P hs (by omega) hw) ?_ | refine vD (yH s d[i].fQuery P hs (by omega) hw) ?_ | refine vL (vT (kS s.fFiles d[i].fQuery P) (dU P i) (by omega)) ?_ | refine aO ?_ | fail)
            refine aF (i + 1) ?_ ?_ ?_
            ·simp only [go_sem, hP2, hch2, hsu, uV, ← b3I]; simp
            ·omega
            ·omega
         ·rw [if_neg (fun h => hik h.1)] at hsu
          have hkI : ¬ ((lv L i : Nat) : Int) = ((k : Nat) : Int) := by omega
          have q0 := @h; have q1 := @hiP; have q2 := @hiL; have q3 := @hg; have q4 := @hkI; have q5 := @decide_true; have q6 := @decide_false; refine a7s ?_
          refine aF (i + 1) ?_ ?_ ?_
          ·simp only [go_sem, hP2, hchk hsu, hsu]; simp
          ·omega
          ·omega
        ·simp only [decide_eq_false_iff_not] at h
         have e : i = d.length := by omega
         subst e
         have hPe := lF hvq hclo d.length R (Nat.le_refl _) hRe
         have hPt := hPe.tot
         refine aD ?_
         refine aF (passT s.fFiles d L ns k d.length R, c + 1, chB s.fFiles d L ns k d.length R) ?_ ?_ ?_
         ·simp only [go_sem]; simp
         ·refine ⟨hpass, ?_⟩
          simp only
          have hpc := lG hvq hclo d.length R (Nat.le_refl _) hRe
          cases hcb2 : chB s.fFiles d L ns k d.length R with
          | false =>
           have h9 : iR R ≤ iR (passT s.fFiles d L ns k d.length R) := by
            rcases hpc with e | e
            ·rw [e]; exact Nat.le_refl _
            ·omega
           simp only [Bool.false_eq_true, if_false]; omega
          | true =>
           have := of_decide_eq_true hcb2
           simp only [if_true]; omega
         ·simp only [if_true]
          cases hcb3 : chB s.fFiles d L ns k d.length R with
          | false => simp only [Bool.false_eq_true, if_false]; omega
          | true =>
           have := of_decide_eq_true hcb3
           simp only [if_true]; omega
      ·subst hbt
       have hTe := hx.fin rfl
       simp only at hTe
       refine aD ?_
       refine aF (k + 1) ?_ ?_ ?_
       ·simp only [go_sem, hT, hTe]; simp
       ·omega
       ·omega
    ·simp only [decide_eq_false_iff_not] at hlev
     have hkK : ¬ k < tQ d L := fun h => hlev ((yF d L k).2 h)
     have e : k = tQ d L := by omega
     subst e
     refine aD ?_
     exact aA ⟨⟨_, rfl, by simp only [go_sem, e1, e2]; try simp⟩, by simp [dN]⟩
theorem b0m (s : TStore) (d : List TDir) (hs : wStore s ≤ 4300000) (hd : dM d ≤ 4300000) : FnC Tryz.prog 155 [cB s, .o (.d (.sl (d.map bH)))] (.t [(false, [.w 169 2 ((evX s d [] (dirNs d)).1.map aQ)]), (false, [.d (iv ((evX s d [] (dirNs d)).2 : Nat))]), (false, [.d (bv (evB s d))])]) := by
 have hd0 : d.length + wsum wDir d ≤ 4300000 := hd
 have hs0 : aL s.fSchema + (s.fFiles.length + wsum wFile s.fFiles) ≤ 4300000 := hs
 refine ent Tryz.func155 rfl Tryz.call155 rfl (fun C => ?_); simp only [go_sem, st0, Tryz.ntmps155]
 have hr : aW [] ≤ 4300000 := by simp [aW, wsum]
 generalize hrr : ([] : List TResult) = r at *
 have hns : (dirNs d).length ≤ 4300000 := by rw [zK]; omega
 have hhas : ∀ i, (hi : i < d.length) → nD (dirNs d) d[i].fName = true := b3f d
 generalize dirNs d = ns at *
 cases hb : rU d
 ·have e1 : evX s d r ns = ([], 0) := by simp [evX, hb]
  have e2 : evB s d = false := by simp [evB, hb]
  have q0 := @hb; refine iU (kZ d hd) ?_
  exact aA ⟨⟨_, rfl, by simp only [go_sem, e1, e2, List.map_nil]; simp⟩, by simp [dN]⟩
 cases hst : cO s
 ·have e1 : evX s d r ns = ([], 0) := by simp [evX, hst]
  have e2 : evB s d = false := by simp [evB, hst]
  have q0 := @hb; have q1 := @hst; refine yU (kZ d hd) (jW s hs) ?_
  exact aA ⟨⟨_, rfl, by simp only [go_sem, e1, e2, List.map_nil]; simp⟩, by simp [dN]⟩
 obtain ⟨hv, hleast⟩ := yE hb
 have hclo := hleast.clo
 have hvq := fun i (hi : i < d.length) => kR hv i hi
 have h5 := jH hv
 have h12 := nW hst
 have hLl := hclo.len
 obtain ⟨CC, hCC⟩ : ∃ c, s.fFiles.length + aW r = c := ⟨_, rfl⟩
 have hC2 : CC ≤ 4300012 := by omega
 have e1 : evX s d r ns = allE s.fFiles d (resL d) ns CC r (tQ d (resL d)) := by simp [evX, hb, hst, hCC]
 have e2 : evB s d = true := by simp [evB, hb, hst]
 have q0 := @hb; have q1 := @hst; refine yU (kZ d hd) (jW s hs) ?_
 refine aM (α := Nat) (fun k => [(9, .o (.s 1)), (29, .o .u), (10, oi k)]) (fun k => [(1, .row 169 2 ((gH ns r (d.take k)).map aQ) true)]) (fun k => k ≤ d.length) (fun k => d.length - k) 0 (fun _ => ?_) ?_ ?_ (fun k hk => ?_)
 ·simp only [go_sem]
 ·simp only [go_sem]; simp [gH]
 ·simp
 ·simp only [go_sem]
  refine aD ?_
  refine cnd rfl (fun h => ?_) (fun h => ?_)
  ·simp only [decide_eq_true_eq, Int.ofNat_lt] at h
   have hsl := a2a ns r d k
   have hl1 : (gH ns r (d.take k)).length + 1 ≤ 140737488355328 := by omega
   have hl2 : ((gH ns r (d.take k)).length + 1) * 40 ≤ 140737488355328 := by omega
   have hsu := a0s ns r d k h
   rw [hhas k h] at hsu
   have q0 := @h; have q1 := @hl1; have q2 := @hl2; refine lI ?_
   refine aF (k + 1) ?_ ?_ ?_
   ·simp only [go_sem, hsu, List.map_append]; simp [aQ]
   ·omega
   ·omega
  ·simp only [decide_eq_false_iff_not] at h
   have e : k = d.length := by omega
   subst e
   rw [List.take_length]
   generalize hL : resL d = L at *
   refine aD ?_
   refine aM (α := Nat) (fun k => [(11, oi ((allE s.fFiles d L ns CC r k).2 : Nat)), (12, oi k)]) (fun k => [(1, .row 169 2 ((allE s.fFiles d L ns CC r k).1.map aQ) true)]) (fun k => k ≤ tQ d L) (fun k => tQ d L - k) 0 (fun _ => ?_) ?_ ?_ (fun k hk => ?_)
   ·simp only [go_sem]
   ·simp only [go_sem]; simp [allE]
   ·simp
   ·simp only [go_sem]
    have q0 := @hL; refine iU (a7U d hd (by rw [hL]; omega)) ?_
    refine cnd rfl (fun hlev => ?_) (fun hlev => ?_)
    ·simp only [decide_eq_true_eq] at hlev
     have hkK := (yF d L k).1 hlev
     have hev := yL (fs := s.fFiles) (ns := ns) (r := r) hvq hclo k
     rw [hCC] at hev
     have htop := b1N hleast
     have hcnt := a2b s.fFiles d L ns CC r k
     have hnm : d.length * CC ≤ 5 * 4300012 := Nat.mul_le_mul h5 hC2
     have hcnt2 : k * (d.length * CC + 1) ≤ 5 * 21500061 := Nat.mul_le_mul (by omega) (by omega)
     have hround : Round s.fFiles d L ns CC k (allE s.fFiles d L ns CC r (k + 1)) ((allE s.fFiles d L ns CC r k).1, (allE s.fFiles d L ns CC r k).2, true) := Round.start hev
     generalize hT : allE s.fFiles d L ns CC r (k + 1) = T at *
     generalize allE s.fFiles d L ns CC r k = X at *
     refine aD ?_
     refine aM (α := List TResult × Nat × Bool) (fun x => [(11, oi (x.2.1 : Nat)), (13, ob x.2.2)]) (fun x => [(1, .row 169 2 (x.1.map aQ) true)]) (fun x => Round s.fFiles d L ns CC k T (x.1, x.2.1, x.2.2) ∧ x.2.1 ≤ X.2 + iR x.1 + (if x.2.2 then 0 else 1)) (fun x => if x.2.2 then d.length * CC + 1 - iR x.1 else 0) (X.1, X.2, true) (fun _ => ?_) ?_ ?_ (fun x hx => ?_)
     ·simp only [go_sem]
     ·simp only [go_sem]; simp
     ·exact ⟨hround, by simp⟩
     ·obtain ⟨R, c, b⟩ := x
      obtain ⟨hx, hcb⟩ := hx
      simp only at hcb
      simp only [go_sem]
      refine aD ?_
      refine cnd rfl (fun hbt => ?_) (fun hbt => ?_)
      ·subst hbt
       have hRe : Ev s.fFiles d L ns CC k R := hx.ev
       have hRt := hRe.tot
       simp only [if_true, Nat.add_zero] at hcb
       have hcI : c ≤ 1000000000 := by omega
       have hpass := hx.pass hvq hclo
       refine aD ?_
       refine aM (α := Nat) (fun i => [(13, ob (chB s.fFiles d L ns k i R)), (14, oi i)]) (fun i => [(1, .row 169 2 ((passT s.fFiles d L ns k i R).map aQ) true)]) (fun i => i ≤ d.length) (fun i => d.length - i) 0 (fun _ => ?_) ?_ ?_ (fun i hi => ?_)
       ·simp only [go_sem]
       ·simp only [go_sem]; simp [chB, passT]
       ·simp
       ·simp only [go_sem]
        refine aD ?_
        refine cnd rfl (fun h => ?_) (fun h => ?_)
        ·simp only [decide_eq_true_eq, Int.ofNat_lt] at h
         have hEv := lF hvq hclo i R (by omega) hRe
         have hcs := lG hvq hclo i R (by omega) hRe
         have hsu := rX s.fFiles d L ns k i R h
         have hchk : passT s.fFiles d L ns k (i + 1) R = passT s.fFiles d L ns k i R → chB s.fFiles d L ns k (i + 1) R = chB s.fFiles d L ns k i R := a6e
         have hchn : iR R < iR (passT s.fFiles d L ns k (i + 1) R) → chB s.fFiles d L ns k (i + 1) R = true := fun hx => by unfold chB; exact decide_eq_true hx
         have hw := hEv.w hv hC2
         obtain ⟨g1, g2⟩ := hEv.get i h
         have hPl := hEv.len
         have hbd := hEv.bd i
         have hwd := bB wDir d h
         have hwq : bW d[i].fQuery ≤ wDir d[i] := by unfold wDir; omega
         have hgrow := fun hin hik hne => hEv.grow h hin hik hne
         have hsame := fun he => zT hEv h he
         generalize passT s.fFiles d L ns k i R = P at *
         generalize hP2 : passT s.fFiles d L ns k (i + 1) R = P2 at *
         have hiP : i < P.length := by omega
         have hiL : i < L.length := by omega
         have hg := rV L i hiL
         have hsl := a2m s.fFiles d[i].fQuery P
         by_cases hik : lv L i = k
         ·have hkI : ((lv L i : Nat) : Int) = ((k : Nat) : Int) := by omega
          have hn := hhas i h
          ·rw [if_pos ⟨hik, hn⟩] at hsu
           by_cases he : kS s.fFiles d[i].fQuery P = dU P i
           ·have hE : eqL iI (kS s.fFiles d[i].fQuery P) (dU P i) = true := by rw [a1c]; exact decide_eq_true he
            have hPP : P2 = P := by rw [hsu, hsame he]
            have qH := aI @h (aI @hiP (aI @hiL (aI @hg (aI @hkI (aI @g1 (aI @g2 (aI @hE (aI @hn (aI @decide_true @decide_false))))))))); repeat' (with_reducible first | refine nY ?_ | (refine mX ?_; try simp only [go_sem, qH]) | refine kD ?_ | refine rT [7] [74] ?_ | refine bU (aX ?_) (uX ?_) | refine dI (aX ?_) ?_ | (refine uA ?_; simp only [go_sem, qH]; (repeat' first | omega | refine And.intro ?_ ?_ | refine cP (eP ns d[i].fName hns) ?_ | (refine mX ?_; simp only [go_sem, qH] <;> fail)); done) | refine rD ?_ | refine cP (eP ns d[i].fName hns) ?_ | refine vR (yI s d[i].fQuery P hs (by omega) hw) ?_ | refine vG (yI s d[i].fQuery P hs (by omega) hw) ?_ | refine vL (a0A (kS s.fFiles d[i].fQuery P) (dU P i) (by omega)) ?_ | refine aO ?_ | fail)
            refine aF (i + 1) ?_ ?_ ?_
            ·simp only [go_sem, hP2, hchk hPP, hPP]; simp
            ·omega
            ·omega
           ·have hE : eqL iI (kS s.fFiles d[i].fQuery P) (dU P i) = false := by rw [a1c]; exact decide_eq_false he
            have hlt := hgrow hn hik he
            have hch2 : chB s.fFiles d L ns k (i + 1) R = true := hchn (by
             rw [hsu]
             rcases hcs with e | e
             ·rw [← e]; exact hlt
             ·omega)
            have qH := aI @h (aI @hiP (aI @hiL (aI @hg (aI @hkI (aI @g1 (aI @g2 (aI @hE (aI @hn (aI @decide_true @decide_false))))))))); repeat' (with_reducible first | refine nY ?_ | (refine mX ?_; try simp only [go_sem, qH]) | refine kD ?_ | refine rT [7] [74] ?_ | refine bU (aX ?_) (uX ?_) | refine dI (aX ?_) ?_ | (refine uA ?_; simp only [go_sem, qH]; (repeat' first | omega | refine And.intro ?_ ?_ | refine cP (eP ns d[i].fName hns) ?_ | (refine mX ?_; simp only [go_sem, qH] <;> fail)); done) | refine rD ?_ | refine cP (eP ns d[i].fName hns) ?_ | refine vR (yI s d[i].fQuery P hs (by omega) hw) ?_ | refine vG (yI s d[i].fQuery P hs (by omega) hw) ?_ | refine vL (a0A (kS s.fFiles d[i].fQuery P) (dU P i) (by omega)) ?_ | refine aO ?_ | fail)
            refine aF (i + 1) ?_ ?_ ?_
            ·simp only [go_sem, hP2, hch2, hsu, uV, ← b3I]; simp
            ·omega
            ·omega
         ·rw [if_neg (fun h => hik h.1)] at hsu
          have hkI : ¬ ((lv L i : Nat) : Int) = ((k : Nat) : Int) := by omega
          have q0 := @h; have q1 := @hiP; have q2 := @hiL; have q3 := @hg; have q4 := @hkI; have q5 := @decide_true; have q6 := @decide_false; refine a7s ?_
          refine aF (i + 1) ?_ ?_ ?_
          ·simp only [go_sem, hP2, hchk hsu, hsu]; simp
          ·omega
          ·omega
        ·simp only [decide_eq_false_iff_not] at h
         have e : i = d.length := by omega
         subst e
         have hPe := lF hvq hclo d.length R (Nat.le_refl _) hRe
         have hPt := hPe.tot
         refine aD ?_
         refine aF (passT s.fFiles d L ns k d.length R, c + 1, chB s.fFiles d L ns k d.length R) ?_ ?_ ?_
         ·simp only [go_sem]; simp
         ·refine ⟨hpass, ?_⟩
          simp only
          have hpc := lG hvq hclo d.length R (Nat.le_refl _) hRe
          cases hcb2 : chB s.fFiles d L ns k d.length R with
          | false =>
           have h9 : iR R ≤ iR (passT s.fFiles d L ns k d.length R) := by
            rcases hpc with e | e
            ·rw [e]; exact Nat.le_refl _
            ·omega
           simp only [Bool.false_eq_true, if_false]; omega
          | true =>
           have := of_decide_eq_true hcb2
           simp only [if_true]; omega
         ·simp only [if_true]
          cases hcb3 : chB s.fFiles d L ns k d.length R with
          | false => simp only [Bool.false_eq_true, if_false]; omega
          | true =>
           have := of_decide_eq_true hcb3
           simp only [if_true]; omega
      ·subst hbt
       have hTe := hx.fin rfl
       simp only at hTe
       refine aD ?_
       refine aF (k + 1) ?_ ?_ ?_
       ·simp only [go_sem, hT, hTe]; simp
       ·omega
       ·omega
    ·simp only [decide_eq_false_iff_not] at hlev
     have hkK : ¬ k < tQ d L := fun h => hlev ((yF d L k).2 h)
     have e : k = tQ d L := by omega
     subst e
     refine aD ?_
     exact aA ⟨⟨_, rfl, by simp only [go_sem, e1, e2]; try simp⟩, by simp [dN]⟩
theorem a2o (s : TStore) (d : List TDir) (hs : wStore s ≤ 4300000) (hd : dM d ≤ 4300000) : FnC Tryz.prog 153 [cB s, .o (.d (.sl (d.map bH))), .o (.d (.sl [])), .o (.d (.sl ((dirNs d).map gW)))] (.t [(false, [.w 169 2 ((evX s d [] (dirNs d)).1.map aQ)]), (false, [.d (iv ((evX s d [] (dirNs d)).2 : Nat))]), (false, [.d (bv (evB s d))])]) :=
 b0c s d [] (dirNs d) hs hd (by simp [aW, wsum]) (by rw [zK]; unfold dM at hd; omega)
theorem a6w (s : TStore) (d : List TDir) (hs : wStore s ≤ 4300000) (hd : dM d ≤ 4300000) : FnC Tryz.prog 125 [cB s, .o (.d (.sl (d.map bH)))] (.t [(false, [.w 169 2 ((evX s d [] (dirNs d)).1.map aQ)]), (false, [.d (bv (evB s d))])]) := by
 have hl : d.length ≤ 4300000 := by unfold dM at hd; omega
 refine ent Tryz.func125 rfl Tryz.call125 rfl (fun C => ?_); simp only [go_sem, st0, Tryz.ntmps125]
 have qH := trivial; repeat' (with_reducible first | refine nY ?_ | (refine mX ?_; try simp only [go_sem]) | refine kD ?_ | refine rT [3, 4] [13, 14] ?_ | refine bU (aX ?_) (uX ?_) | refine dI (aX ?_) ?_ | (refine uA ?_; simp only [go_sem]; (repeat' first | omega | refine And.intro ?_ ?_ | refine cP (a2o s d hs hd) ?_ | refine cP (a0p d hl) ?_ | (refine mX ?_; simp only [go_sem] <;> fail)); done) | refine rD ?_ | refine cP (a2o s d hs hd) ?_ | refine cP (a0p d hl) ?_ | refine aO ?_ | fail)
 exact aA ⟨⟨_, rfl, by simp only [go_sem]⟩, by simp [dN]⟩
theorem a6x (s : TStore) (d : List TDir) (hs : wStore s ≤ 4300000) (hd : dM d ≤ 4300000) : FnC Tryz.prog 127 [cB s, .o (.d (.sl (d.map bH)))] (.t [(false, [.w 169 2 ((evX s d [] (dirNs d)).1.map aQ)]), (false, [.d (bv (evB s d))])]) := by
 refine ent Tryz.func127 rfl Tryz.call127 rfl (fun C => ?_); simp only [go_sem, st0, Tryz.ntmps127]
 refine iL (b0m s d hs hd) ?_
 exact aA ⟨⟨_, rfl, by simp only [go_sem]⟩, by simp [dN]⟩
theorem b4A (s : TStore) (d : List TDir) : aW (evX s d [] (dirNs d)).1 ≤ 95 := by
 unfold evX
 split
 ·rename_i hb
  rw [Bool.and_eq_true] at hb
  obtain ⟨hv, hleast⟩ := yE hb.1
  have h5 := jH hv
  have h12 := nW hb.2
  have hev := yL (fs := s.fFiles) (ns := dirNs d) (r := []) (fun i (hi : i < d.length) => kR hv i hi) hleast.clo (tQ d (resL d))
  have h0 : aW [] = 0 := by simp [aW, wsum]
  revert hev
  generalize (allE s.fFiles d (resL d) (dirNs d) (s.fFiles.length + aW []) [] (tQ d (resL d))).1 = X
  rw [h0]
  intro hev
  have hlen := hev.len
  have hb2 := wN jD 18 X fun i hi => by
   obtain ⟨e1, e2⟩ := hev.get i (by omega)
   have h1 := a0r hv i (by omega)
   have h2 := hev.bd i
   unfold jD
   rw [e1, e2]
   omega
  unfold aW
  have := Nat.mul_le_mul_right 18 h5
  rw [hlen] at hb2 ⊢
  omega
 ·simp [aW, wsum]
noncomputable def b6m (c : TCatalog) : Bool := evB c.fStore c.fDirs && eqL a3J (evX c.fStore c.fDirs [] (dirNs c.fDirs)).1 c.fResults
noncomputable def chC (c : TCatalog) (s : TStore) (d : List TDir) (ns : List ByteArray) : TCatalog := if evB s d then ⟨s, d, (evX s d c.fResults ns).1⟩ else c
noncomputable def chD (c : TCatalog) (s : TStore) (d : List TDir) (ns : List ByteArray) : List TDiff := if evB s d then b3H c.fResults (evX s d c.fResults ns).1 else []
noncomputable def goC (b : Bool) (c : TCatalog) (s : TStore) (d : List TDir) (ns : List ByteArray) : TCatalog := if b then ⟨s, d, (evX s d c.fResults ns).1⟩ else c
noncomputable def goD (b : Bool) (c : TCatalog) (s : TStore) (d : List TDir) (ns : List ByteArray) : List TDiff := if b then b3H c.fResults (evX s d c.fResults ns).1 else []
end Go.Proofs.YtakopfjdmmnjcaaGreat
end
section
namespace Go.Sx.Clos
section
variable {β : Type} [DecidableEq β]
def Closed (E : List (β × List β)) (S : List β) : Prop := ∀ e ∈ E, (∃ x ∈ e.2, x ∈ S) → e.1 ∈ S
def wsm (w : β → Nat) : List β → Nat
 | [] => 0
 | x :: l => w x + wsm w l
def kF (w : β → Nat) : List (β × List β) → List β → Nat
 | [], _ => 0
 | e :: E, S => (if e.1 ∈ S then 0 else w e.1) + kF w E S
theorem a0B (w : β → Nat) (E : List (β × List β)) {S T : List β} (h : ∀ x ∈ S, x ∈ T) : kF w E T ≤ kF w E S := by
 induction E with
 | nil => simp [kF]
 | cons e E ih =>
  simp only [kF]
  by_cases h1 : e.1 ∈ S
  ·have h2 := h _ h1; simp [h1, h2]; exact ih
  ·by_cases h2 : e.1 ∈ T
   ·simp [h1, h2]; omega
   ·simp [h1, h2]; exact ih
theorem zW (w : β → Nat) (E : List (β × List β)) {S T : List β} (h : ∀ x ∈ S, x ∈ T) {y : β} (hy : ∃ e ∈ E, e.1 = y) (h1 : y ∈ T) (h2 : ¬ y ∈ S) : kF w E T + w y ≤ kF w E S := by
 induction E with
 | nil => obtain ⟨e, he, _⟩ := hy; simp at he
 | cons e E ih =>
  obtain ⟨e', he', rfl⟩ := hy
  rcases List.mem_cons.1 he' with rfl | hm
  ·have := a0B w E h
   simp only [kF]
   simp [h1, h2]; omega
  ·have := ih ⟨e', hm, rfl⟩
   simp only [kF]
   by_cases h3 : e.1 ∈ S
   ·have h4 := h _ h3; simp [h3, h4]; exact this
   ·by_cases h4 : e.1 ∈ T
    ·simp [h3, h4]; omega
    ·simp [h3, h4]; omega
theorem b0o (E : List (β × List β)) (S : List β) : kF (fun _ => 1) E S ≤ E.length := by
 induction E with
 | nil => simp [kF]
 | cons e E ih => simp only [kF, List.length_cons]; split <;> omega
variable (put : List β → β → List β)
def b0p (name : β) (out asks : List β) : List β := asks.foldl (fun o a => if a ∈ o then put o name else o) out
def round (E : List (β × List β)) (S : List β) : List β := E.foldl (fun o e => b0p put e.1 o e.2) S
def iJ (E : List (β × List β)) : Nat → List β → List β
 | 0, S => S
 | n + 1, S => round put E (iJ E n S)
variable {put} (hput : ∀ l s x, x ∈ put l s ↔ x = s ∨ x ∈ l)
include hput
theorem yN (name : β) (asks : List β) : ∀ (out : List β) (x : β), x ∈ b0p put name out asks ↔ x ∈ out ∨ (x = name ∧ ∃ a ∈ asks, a ∈ out) := by
 induction asks with
 | nil => intro out x; simp [b0p]
 | cons a asks ih =>
  intro out x
  have ih' := ih (if a ∈ out then put out name else out) x
  unfold b0p at *
  rw [List.foldl_cons, ih']
  by_cases h : a ∈ out
  ·simp only [h, if_true, hput]
   constructor
   ·rintro ((rfl | h1) | ⟨rfl, _⟩)
    ·exact .inr ⟨rfl, a, List.mem_cons_self, h⟩
    ·exact .inl h1
    ·exact .inr ⟨rfl, a, List.mem_cons_self, h⟩
   ·rintro (h1 | ⟨rfl, _⟩)
    ·exact .inl (.inr h1)
    ·exact .inl (.inl rfl)
  ·simp only [h, if_false]
   constructor
   ·rintro (h1 | ⟨rfl, b, hb, h2⟩)
    ·exact .inl h1
    ·exact .inr ⟨rfl, b, List.mem_cons_of_mem _ hb, h2⟩
   ·rintro (h1 | ⟨rfl, b, hb, h2⟩)
    ·exact .inl h1
    ·rcases List.mem_cons.1 hb with rfl | hb
     ·exact absurd h2 h
     ·exact .inr ⟨rfl, b, hb, h2⟩
theorem uO (E : List (β × List β)) : ∀ (S : List β), ∀ x ∈ S, x ∈ round put E S := by
 induction E with
 | nil => intro S x h; exact h
 | cons e E ih =>
  intro S x h
  exact ih _ x ((yN hput e.1 e.2 S x).2 (.inl h))
theorem a0C (E : List (β × List β)) {T : List β} (hT : Closed E T) : ∀ (S : List β), (∀ x ∈ S, x ∈ T) → ∀ x ∈ round put E S, x ∈ T := by
 induction E with
 | nil => intro S h; exact h
 | cons e E ih =>
  intro S h
  refine ih (fun e' he' => hT e' (List.mem_cons_of_mem _ he')) _ (fun x hx => ?_)
  rcases (yN hput e.1 e.2 S x).1 hx with h1 | ⟨rfl, a, ha, h2⟩
  ·exact h x h1
  ·exact hT e List.mem_cons_self ⟨a, ha, h a h2⟩
theorem a8e (E : List (β × List β)) : ∀ (S : List β) (e : β × List β), e ∈ E → (∃ x ∈ e.2, x ∈ S) → e.1 ∈ round put E S := by
 induction E with
 | nil => intro S e he; simp at he
 | cons e0 E ih =>
  intro S e he h
  rcases List.mem_cons.1 he with rfl | he
  ·exact uO hput E _ _ ((yN hput e.1 e.2 S e.1).2 (.inr ⟨rfl, h⟩))
  ·obtain ⟨x, hx, hs⟩ := h
   exact ih _ e he ⟨x, hx, (yN hput e0.1 e0.2 S x).2 (.inl hs)⟩
theorem round_new (E : List (β × List β)) : ∀ (S : List β) (x : β), x ∈ round put E S → x ∈ S ∨ ∃ e ∈ E, e.1 = x := by
 induction E with
 | nil => intro S x h; exact .inl h
 | cons e E ih =>
  intro S x h
  rcases ih _ x h with h | ⟨e', he', rfl⟩
  ·rcases (yN hput e.1 e.2 S x).1 h with h | ⟨rfl, _⟩
   ·exact .inl h
   ·exact .inr ⟨e, List.mem_cons_self, rfl⟩
  ·exact .inr ⟨e', List.mem_cons_of_mem _ he', rfl⟩
theorem a2p (E : List (β × List β)) (S : List β) : ∀ (n : Nat), ∀ x ∈ S, x ∈ iJ put E n S
 | 0, x, h => h
 | n + 1, x, h => uO hput E _ x (a2p E S n x h)
theorem yO (E : List (β × List β)) {S T : List β} (hT : Closed E T) (h : ∀ x ∈ S, x ∈ T) : ∀ (n : Nat), ∀ x ∈ iJ put E n S, x ∈ T
 | 0, x, hx => h x hx
 | n + 1, x, hx => a0C hput E hT _ (yO E hT h n) x hx
theorem rounds_count (E : List (β × List β)) (S : List β) : ∀ (n : Nat), Closed E (iJ put E n S) ∨ kF (fun _ => 1) E (iJ put E n S) + n ≤ E.length
 | 0 => .inr (by simpa [iJ] using b0o E S)
 | n + 1 => by
  rcases rounds_count E S n with h | h
  ·refine .inl (fun e he hx => ?_)
   obtain ⟨x, hx, hs⟩ := hx
   have hs' := a0C hput E h _ (fun y hy => hy) x hs
   exact uO hput E _ _ (h e he ⟨x, hx, hs'⟩)
  ·by_cases hc : Closed E (iJ put E (n + 1) S)
   ·exact .inl hc
   ·refine .inr ?_
    have hn : ∃ y, y ∈ round put E (iJ put E n S) ∧ ¬ y ∈ iJ put E n S := Classical.byContradiction fun hno => hc (fun e he hx => by
     obtain ⟨x, hx, hs⟩ := hx
     have hs' : x ∈ iJ put E n S := Classical.byContradiction fun h' => hno ⟨x, hs, h'⟩
     exact a8e hput E _ e he ⟨x, hx, hs'⟩)
    obtain ⟨y, h1, h2⟩ := hn
    have hy : ∃ e ∈ E, e.1 = y := by
     rcases round_new hput E _ y h1 with h | h
     ·exact absurd h h2
     ·exact h
    have := zW (fun _ => 1) E (uO hput E (iJ put E n S)) hy h1 h2
    simp only [iJ]
    omega
omit hput in
theorem b3t {P : List β → Prop} {Nm : β → Prop} (hP : ∀ o n, P o → Nm n → P (put o n)) (name : β) (hn : Nm name) (asks : List β) : ∀ out, P out → P (b0p put name out asks) := by
 induction asks with
 | nil => intro out h; exact h
 | cons a asks ih =>
  intro out h
  unfold b0p at *
  rw [List.foldl_cons]
  refine ih _ ?_
  split
  ·exact hP _ _ h hn
  ·exact h
omit hput in
theorem b0q {P : List β → Prop} {Nm : β → Prop} (hP : ∀ o n, P o → Nm n → P (put o n)) (E : List (β × List β)) : (∀ e ∈ E, Nm e.1) → ∀ S, P S → P (round put E S) := by
 induction E with
 | nil => intro _ S h; exact h
 | cons e E ih => intro hn S h; exact ih (fun e he => hn e (List.mem_cons_of_mem _ he)) _ (b3t hP e.1 (hn e List.mem_cons_self) e.2 S h)
omit hput in
theorem a2q {P : List β → Prop} {Nm : β → Prop} (hP : ∀ o n, P o → Nm n → P (put o n)) (E : List (β × List β)) (hn : ∀ e ∈ E, Nm e.1) {S : List β} (h : P S) : ∀ n, P (iJ put E n S)
 | 0 => h
 | n + 1 => b0q hP E hn _ (a2q hP E hn h n)
theorem a2I (E : List (β × List β)) (S : List β) : Closed E (iJ put E (E.length + 1) S) := by
 rcases rounds_count hput E S (E.length + 1) with h | h
 ·exact h
 ·omega
theorem a6A (E : List (β × List β)) {S O : List β} (h1 : ∀ x ∈ S, x ∈ O) (h2 : Closed E O) (h3 : ∀ T : List β, Closed E T → (∀ x ∈ S, x ∈ T) → ∀ x ∈ O, x ∈ T) (x : β) : x ∈ O ↔ x ∈ iJ put E (E.length + 1) S :=
 ⟨fun h => h3 _ (a2I hput E S) (a2p hput E S _) x h, fun h => yO hput E h2 h1 _ x h⟩
omit hput
theorem nZ {lt : β → β → Prop} (hi : ∀ x, ¬ lt x x) (ht : ∀ x y z, lt x y → lt y z → lt x z) : ∀ {l m : List β}, l.Pairwise lt → m.Pairwise lt → (∀ x, x ∈ l ↔ x ∈ m) → l = m
 | [], [], _, _, _ => rfl
 | [], b :: m, _, _, h => by have := (h b).2 List.mem_cons_self; simp at this
 | a :: l, [], _, _, h => by have := (h a).1 List.mem_cons_self; simp at this
 | a :: l, b :: m, h1, h2, h => by
  rw [List.pairwise_cons] at h1 h2
  have hab : a = b := by
   rcases List.mem_cons.1 ((h a).1 List.mem_cons_self) with e | e
   ·exact e
   ·rcases List.mem_cons.1 ((h b).2 List.mem_cons_self) with e' | e'
    ·exact e'.symm
    ·exact absurd (ht _ _ _ (h1.1 b e') (h2.1 a e)) (hi a)
  subst hab
  congr 1
  refine nZ hi ht h1.2 h2.2 (fun x => ⟨fun hx => ?_, fun hx => ?_⟩)
  ·rcases List.mem_cons.1 ((h x).1 (List.mem_cons_of_mem _ hx)) with e | e
   ·subst e; exact absurd (h1.1 x hx) (hi x)
   ·exact e
  ·rcases List.mem_cons.1 ((h x).2 (List.mem_cons_of_mem _ hx)) with e | e
   ·subst e; exact absurd (h2.1 x hx) (hi x)
   ·exact e
end
end Go.Sx.Clos
namespace Go.Proofs.YtakopfjdmmnjcaaGreat
open Go Go.Sx Go.RowKit Go.Proofs
theorem b4D {x y : ByteArray} (h : bl x = bl y) : x = y := by rw [← a6q x, ← a6q y, h]
def ltS (x y : ByteArray) : Prop := bl x < bl y
theorem mG (x y : ByteArray) : dR x y = true ↔ ltS x y := by
 unfold dR ltS bl
 rw [Go.Proofs.bytesLess_eq, decide_eq_true_eq, ByteArray.toList_eq, ByteArray.toList_eq]
theorem wU (x : ByteArray) : ¬ ltS x x := List.lt_irrefl (bl x)
theorem uP (x y z : ByteArray) (h : ltS x y) (k : ltS y z) : ltS x z := List.lt_trans h k
theorem b2h {x y : List UInt8} (h : x ≤ y) (k : x ≠ y) : x < y := Classical.byContradiction fun hn => k (List.le_antisymm h (List.not_lt.1 hn))
theorem a4N {x y : ByteArray} (h : ¬ ltS x y) (k : x ≠ y) : ltS y x := b2h (List.not_lt.1 h) fun e => k (b4D e).symm
theorem b0r (y s : ByteArray) (l : List ByteArray) : jI (y :: l) s = if dR y s then y :: jI l s else if y = s then y :: l else s :: y :: l := by
 unfold jI
 cases h : dR y s with
 | true =>
  have hg : geS s y = false := by simp [geS, h]
  simp only [fJ, hg, Bool.false_eq_true, if_false, List.drop_succ_cons, if_true]
  split
  ·rfl
  ·simp [nU]
 | false =>
  have hg : geS s y = true := by simp [geS, h]
  simp only [fJ, hg, if_true, List.drop_zero, List.head?_cons, Bool.false_eq_true, if_false, Option.some.injEq]
  split
  ·rfl
  ·simp [nU]
theorem oC (s : ByteArray) : ∀ {l : List ByteArray}, l.Pairwise ltS → (jI l s).Pairwise ltS
 | [], _ => by simp [jI, fJ, nU]
 | y :: l, h => by
  rw [b0r]
  rw [List.pairwise_cons] at h
  split
  ·rename_i hlt
   rw [List.pairwise_cons]
   refine ⟨fun x hx => ?_, oC s h.2⟩
   rcases (pW l s x).1 hx with rfl | hx
   ·exact (mG _ _).1 hlt
   ·exact h.1 x hx
  ·rename_i hlt
   split
   ·exact List.pairwise_cons.2 h
   ·rename_i hne
    have hs : ltS s y := a4N (fun hh => hlt ((mG _ _).2 hh)) hne
    refine List.pairwise_cons.2 ⟨fun x hx => ?_, List.pairwise_cons.2 h⟩
    rcases List.mem_cons.1 hx with rfl | hx
    ·exact hs
    ·exact uP _ _ _ hs (h.1 x hx)
theorem a4O (l : List ByteArray) : ∀ {a : List ByteArray}, a.Pairwise ltS → (l.foldl jI a).Pairwise ltS := by
 induction l with
 | nil => intro a h; exact h
 | cons y l ih => intro a h; exact ih (oC y h)
theorem a6B (l : List ByteArray) : (putL l).Pairwise ltS := a4O l List.Pairwise.nil
theorem vU (d : Array (List UInt8)) (hs : ∀ i j, i < j → j < d.size → d[i]! ≤ d[j]!) : ∀ m, m ≤ d.size → (Lib.compactUpTo d m).Pairwise (fun x y => x < y) ∧ ∀ x ∈ Lib.compactUpTo d m, 0 < m ∧ x ≤ d[m - 1]!
 | 0, _ => by simp [Lib.compactUpTo]
 | m + 1, hm => by
  obtain ⟨h1, h2⟩ := vU d hs m (by omega)
  rw [Lib.compactUpTo_succ]
  have hup : ∀ x ∈ Lib.compactUpTo d m, x ≤ d[m]! := fun x hx => by
   obtain ⟨h0, h3⟩ := h2 x hx
   exact List.le_trans h3 (hs (m - 1) m (by omega) (by omega))
  refine ⟨?_, fun x hx => ⟨by omega, ?_⟩⟩
  ·cases hk : Lib.keeps d m with
   | false => simpa using h1
   | true =>
    rw [List.pairwise_append]
    refine ⟨h1, by simp, fun x hx y hy => ?_⟩
    simp only [if_true, List.mem_singleton] at hy
    subst hy
    obtain ⟨h0, h3⟩ := h2 x hx
    have hne : d[m]! ≠ d[m - 1]! := fun e => by rw [Lib.keeps_neg h0 e] at hk; cases hk
    have hle := hs (m - 1) m (by omega) (by omega)
    refine b2h (hup x hx) fun e => hne ?_
    rw [e] at h3
    exact List.le_antisymm h3 hle
  ·rcases List.mem_append.1 hx with h | h
   ·exact hup x h
   ·split at h
    ·simp only [List.mem_singleton] at h; subst h; exact List.le_refl _
    ·simp at h
theorem a4P (l : List ByteArray) : (eY l).Pairwise ltS := by
 have e : (pX l).map bl = lS (l.map bl) := by
  unfold pX
  rw [List.map_map]
  have : (bl ∘ lb) = id := by funext x; exact b1W x
  rw [this, List.map_id]
 unfold eY a3E
 rw [e, List.pairwise_map]
 have hs : (lS (l.map bl)).Pairwise (fun a b => decide (a ≤ b) = true) := by
  refine List.pairwise_mergeSort (le := fun x y : List UInt8 => decide (x ≤ y)) (fun a b c h k => decide_eq_true (List.le_trans (of_decide_eq_true h) (of_decide_eq_true k))) (fun a b => ?_) (l.map bl)
  by_cases h : a ≤ b
  ·simp [h]
  ·have : b ≤ a := List.le_of_lt (List.not_le.1 h)
   simp [this]
 have h := (vU (lS (l.map bl)).toArray (fun i j hij hj => by
  have hj' : j < (lS (l.map bl)).length := by simpa using hj
  have hi' : i < (lS (l.map bl)).length := by omega
  have := List.pairwise_iff_getElem.1 hs i j hi' hj' hij
  simpa [getElem!_pos, hi', hj'] using of_decide_eq_true this) (lS (l.map bl)).length (by simp)).1
 exact h.imp (fun {x y} h => by show bl (lb x) < bl (lb y); exact h)
end Go.Proofs.YtakopfjdmmnjcaaGreat
end
section
set_option maxRecDepth 100000
set_option maxHeartbeats 4000000
namespace Go.Proofs.YtakopfjdmmnjcaaGreat
open Go Go.Sx Go.RowKit Go.Proofs
def isA (n : TNode) : Bool := decide (2 ≤ n.fOp) && decide (n.fOp ≤ 4)
def qA (q : List TNode) : List ByteArray := (q.filter isA).map TNode.fName
def b5F (q : List TNode) : Bool := q.any fun n => decide (n.fOp = 9)
def b6o (ch qa : List ByteArray) : Bool := qa.any (nD ch)
def b6p (a b : TFile) (d : TDir) : Bool := b6o (chg a b) (qA d.fQuery) || (b5F d.fQuery && !decide (a.fLink = b.fLink))
def b6q (a b : TFile) (l : List TDir) : List ByteArray := (l.filter (b6p a b)).map TDir.fName
def b6r (a b : TFile) (l : List TDir) : List ByteArray := if a.fID = b.fID then b6q a b l else dirNs l
end Go.Proofs.YtakopfjdmmnjcaaGreat
end
