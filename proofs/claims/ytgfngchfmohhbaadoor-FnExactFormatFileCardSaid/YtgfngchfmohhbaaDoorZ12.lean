/- Joined texts. -/
import Derived.Test.YtgfngchfmohhbaaDoorZ07
import Derived.Test.YtgfngchfmohhbaaDoorZ08
set_option linter.all false
section
set_option maxRecDepth 100000
set_option maxHeartbeats 4000000
namespace Go.Proofs.YtgfngchfmohhbaaDoor
open Go Go.Sx Go.RowKit Go.Proofs
theorem a0C {a b : ByteArray} (h : a.data.toList = b.data.toList) : a = b := ByteArray.ext (Array.ext' h)
def sp : ByteArray := ⟨#[32]⟩
theorem a1F {l : List (List UInt8)} (h : l ≠ []) (x sep : List UInt8) : Lib.join (l ++ [x]) sep = Lib.join l sep ++ (sep ++ x) := by
 cases l with
 | nil => exact absurd rfl h
 | cons y l =>
  rw [List.cons_append, Lib.join_cons, Lib.join_cons]
  simp [Lib.joinTail]
theorem fC {l : List ByteArray} (h : l ≠ []) (x sep : ByteArray) : eQ (l ++ [x]) sep = eQ l sep ++ sep ++ x := by
 apply a0C
 unfold eQ
 rw [List.map_append, List.map_cons, List.map_nil, a1F (by simpa using h)]
 simp
theorem vY {l : List ByteArray} (h : l ≠ []) (x y sep : ByteArray) : eQ (l ++ [x, y]) sep = eQ l sep ++ sep ++ x ++ sep ++ y := by
 have e : l ++ [x, y] = (l ++ [x]) ++ [y] := by simp
 rw [e, fC (by simp), fC h]
theorem dX (n : Int) (hn : inR .i64 n) : (itoaB n).size ≤ 20 := by
 unfold inR at hn
 simp only at hn
 by_cases h0 : n = 0
 ·subst h0
  have e : itoaB 0 = ⟨#[48]⟩ := by simp [itoaB, Lib.itoa, Lib.decDigits]
  rw [e]; decide
 ·have hL : (iU n.natAbs).length ≤ 19 := mH 19 _ (by omega)
  have e : (itoaB n).size = (Lib.itoa n).length := rfl
  rw [e, nT h0]
  split
  ·rw [List.length_cons]; omega
  ·omega
theorem vZ (v : TValue) (hi : inR .i64 v.fInt) : (iV v).size ≤ 20 + v.fStr.size := by
 have h1 := dX v.fInt hi
 unfold iV
 split
 ·split
  ·omega
  ·split
   ·omega
   ·have : (⟨#[45]⟩ : ByteArray).size = 1 := rfl
    omega
 ·have : (⟨#[63]⟩ : ByteArray).size = 1 := rfl
  omega
def eP (f : TFile) : List ByteArray := [⟨#[102, 105, 108, 101]⟩, itoaB f.fID, itoaB f.fOwner, if f.fShared then ⟨#[115]⟩ else ⟨#[111]⟩, itoaB f.fLink]
def dM (l : List TAttr) : List ByteArray := l.flatMap fun a => [a.fName, iV a.fValue]
def a3y (f : TFile) : ByteArray := eQ (eP f ++ dM f.fAttrs) sp
theorem kK (l : List TAttr) (k : Nat) (h : k < l.length) : dM (l.take (k + 1)) = dM (l.take k) ++ [l[k].fName, iV l[k].fValue] := by
 unfold dM
 rw [List.take_succ_eq_append_getElem h, List.flatMap_append]
 simp
theorem sV (l : List TAttr) : (dM l).length = 2 * l.length := by
 induction l with
 | nil => rfl
 | cons a l ih => unfold dM at *; rw [List.flatMap_cons, List.length_append, ih]; simp; omega
theorem sW (f : TFile) (l : List ByteArray) : eP f ++ l ≠ [] := by simp [eP]
theorem sZ (f : TFile) : eQ (eP f) sp = (⟨#[102, 105, 108, 101, 32]⟩ : ByteArray) ++ itoaB f.fID ++ ⟨#[32]⟩ ++ itoaB f.fOwner ++ (if f.fShared then ⟨#[32, 115, 32]⟩ else ⟨#[32, 111, 32]⟩) ++ itoaB f.fLink := by
 have e : eP f = ((([⟨#[102, 105, 108, 101]⟩] ++ [itoaB f.fID]) ++ [itoaB f.fOwner]) ++ [if f.fShared then ⟨#[115]⟩ else ⟨#[111]⟩]) ++ [itoaB f.fLink] := rfl
 have e1 : eQ [⟨#[102, 105, 108, 101]⟩] sp = ⟨#[102, 105, 108, 101]⟩ := by
  apply a0C; unfold eQ; rw [List.map_cons, List.map_nil, Lib.join_one]
 rw [e, fC (by simp), fC (by simp), fC (by simp), fC (by simp), e1]
 apply a0C
 cases f.fShared <;> simp [sp]
theorem nK {l : List TAttr} {k : Nat} (h : k < l.length) : l[k].fName.size + l[k].fValue.fStr.size ≤ bK l := by
 have := dK wAttr l h
 unfold bK
 have e : wAttr l[k] = l[k].fName.size + l[k].fValue.fStr.size := rfl
 omega
theorem tC (f : TFile) (hf : iG f) (hw : wFile f ≤ 1048576) : ∀ k, k ≤ f.fAttrs.length → (eQ (eP f ++ dM (f.fAttrs.take k)) sp).size ≤ 100 + k * 2200000
 | 0, _ => by
  have e : eP f ++ dM (f.fAttrs.take 0) = eP f := by simp [dM]
  rw [e, sZ]
  have h1 := dX f.fID hf.1
  have h2 := dX f.fOwner hf.2.1
  have h3 := dX f.fLink hf.2.2.2.1
  have e1 : (⟨#[102, 105, 108, 101, 32]⟩ : ByteArray).size = 5 := rfl
  have e2 : (⟨#[32]⟩ : ByteArray).size = 1 := rfl
  have e3 : (if f.fShared then ⟨#[32, 115, 32]⟩ else ⟨#[32, 111, 32]⟩ : ByteArray).size = 3 := by cases f.fShared <;> rfl
  simp only [ByteArray.size_append]
  omega
 | k + 1, hk => by
  have ih := tC f hf hw k (by omega)
  have hx : f.fAttrs[k] ∈ f.fAttrs := List.getElem_mem (by omega)
  have hv := vZ f.fAttrs[k].fValue (hf.2.2.2.2.2 _ hx).2.2.1
  have hat := nK (l := f.fAttrs) (k := k) (by omega)
  have e2 : sp.size = 1 := rfl
  unfold wFile at hw
  rw [kK _ k (by omega), ← List.append_assoc, vY (sW _ _)]
  simp only [ByteArray.size_append]
  omega
theorem wB (f : TFile) (hw : wFile f ≤ 1048576) : f.fAttrs.length ≤ 1048576 := by unfold wFile bK at hw; omega
theorem nL (f : TFile) (hf : iG f) (hw : wFile f ≤ 1048576) : FnC Tryd.prog 16 [fQ f] (os (a3y f)) := by
 have hlen := wB f hw
 have hsz := tC f hf hw f.fAttrs.length (Nat.le_refl _)
 rw [List.take_length] at hsz
 have hpl := sV f.fAttrs
 have cj := a3A (eP f ++ dM f.fAttrs) ⟨#[32]⟩ (sW _ _) (by rw [List.length_append, hpl]; simp [eP]; omega) (by show (eQ (eP f ++ dM f.fAttrs) sp).size ≤ _; omega)
 refine ent Tryd.func16 rfl Tryd.call16 rfl (fun C => ?_); simp only [go_sem, st0, Tryd.ntmps16]
 have hb : eP f = [⟨#[102, 105, 108, 101]⟩, itoaB f.fID, itoaB f.fOwner, if f.fShared then ⟨#[115]⟩ else ⟨#[111]⟩, itoaB f.fLink] := rfl
 have fin : eQ (eP f ++ dM f.fAttrs) ⟨#[32]⟩ = a3y f := rfl
 have cv : ∀ (k : Nat) (h : k < f.fAttrs.length), FnC Tryd.prog 38 [fA f.fAttrs[k].fValue] (os (iV f.fAttrs[k].fValue)) := fun k h => lJ _ (by have := nK (l := f.fAttrs) h; unfold wFile at hw; omega) (hf.2.2.2.2.2 _ (List.getElem_mem h)).2.2.1
 have c1 := bZ f.fID hf.1
 have c2 := bZ f.fOwner hf.2.1
 have c3 := bZ f.fLink hf.2.2.2.1
 cases hs : f.fShared
 all_goals
  rw [hs] at hb
  have qH := @hs; repeat' (with_reducible first | refine nY ?_ | (refine mX ?_; try simp only [go_sem, qH]) | refine kD ?_ | (apply rE [2,5,9,10] [] [0,1,3,4,6,7,8] [0,1,3,4,6,7,8] ((.c 2 [] [3,4,6,7,8] (.c 5 [] [6,7,8] (.c 9 [] [6] (.c 10 [11] [11] .n .n) .n) .n) .n)) (by simp only [go_sem]; rfl) (by simp only [go_sem]; rfl) (by simp only [go_sem]; rfl) (by decide +kernel); (focus simp only [go_sem]; done)) | exact xL | refine qY (uX ?_) ?_ | refine qZ (aX ?_) ?_ | refine rA (aX ?_) ?_ | exact qX | exact oH | exact uB | refine rD ?_ | refine cP c1 ?_ | refine cP c2 ?_ | refine cP c3 ?_ | refine aO ?_ | fail)
  refine bB (α := Nat × List ByteArray) (fun x => [(4, .o (.s 1)), (19, .o .u), (23, oi x.1)]) (fun x => [(1, .row 9 1 (x.2.map eH) true)]) (fun x => x.1 ≤ f.fAttrs.length ∧ x.2 = eP f ++ dM (f.fAttrs.take x.1)) (fun x => f.fAttrs.length - x.1) (0, eP f) (fun _ => ?_) ?_ ?_ (fun x hx => ?_)
  ·simp only [go_sem]
  ·simp only [go_sem]; simp [hb, eH]
  ·exact ⟨Nat.zero_le _, by simp [dM]⟩
  ·obtain ⟨k, l⟩ := x
   obtain ⟨hk, hl⟩ := hx
   simp only at hk hl
   simp only [go_sem]
   refine aH ?_
   refine cnd rfl (fun h => ?_) (fun h => ?_)
   ·simp only [decide_eq_true_eq, Int.ofNat_lt] at h
    have hll : l.length = 5 + 2 * k := by
     rw [hl, List.length_append, sV, List.length_take, Nat.min_eq_left hk]; rfl
    have hl1 : l.length + 2 ≤ 140737488355328 := by omega
    have hl2 : (l.length + 2) * 16 ≤ 140737488355328 := by omega
    have c := cv k h
    have qH := aI @h (aI @hl1 (aI @hl2 @bU)); repeat' (with_reducible first | refine nY ?_ | (refine mX ?_; try simp only [go_sem, qH]) | refine kD ?_ | (apply rE [5,6,7,8] [8] [0,1,2,3,4] [0,1,2,3,4] ((.c 5 [] [0,1,2] (.c 6 [] [0] (.c 7 [] [] (.c 8 [] [] .n .n) .n) .n) .n)) (by simp only [go_sem]; rfl) (by simp only [go_sem]; rfl) (by simp only [go_sem]; rfl) (by decide +kernel); (focus simp only [go_sem]; done)) | exact xL | refine qY (uX ?_) ?_ | refine qZ (aX ?_) ?_ | refine rA (aX ?_) ?_ | exact qX | exact oH | exact uB | refine rD ?_ | refine cP c ?_ | refine aO ?_ | fail)
    refine aM (k + 1, l ++ [f.fAttrs[k].fName, iV f.fAttrs[k].fValue]) ?_ ?_ ?_
    ·simp only [go_sem, List.map_append]; simp [eH]
    ·exact ⟨by simp only; omega, by simp only; rw [kK _ k h, ← List.append_assoc, ← hl]⟩
    ·simp only; omega
   ·simp only [decide_eq_false_iff_not] at h
    have e : k = f.fAttrs.length := by omega
    subst e
    rw [List.take_length] at hl
    subst hl
    refine qB cj ?_
    exact aA ⟨⟨_, rfl, by simp only [go_sem, fin]⟩, trivial⟩
theorem nM (f : TFile) (hf : iG f) (hw : wFile f ≤ 1048576) : FnC Tryd.prog 14 [fQ f] (os (a3y f)) := by
 have hlen := wB f hw
 refine ent Tryd.func14 rfl Tryd.call14 rfl (fun C => ?_); simp only [go_sem, st0, Tryd.ntmps14]
 have hb := sZ f
 have fin : eQ (eP f ++ dM f.fAttrs) sp = a3y f := rfl
 have cv : ∀ (k : Nat) (h : k < f.fAttrs.length), FnC Tryd.prog 37 [fA f.fAttrs[k].fValue] (os (iV f.fAttrs[k].fValue)) := fun k h => lK _ (by have := nK (l := f.fAttrs) h; unfold wFile at hw; omega) (hf.2.2.2.2.2 _ (List.getElem_mem h)).2.2.1
 have c1 := cB f.fID hf.1
 have c2 := cB f.fOwner hf.2.1
 have c3 := cB f.fLink hf.2.2.2.1
 have s1 := dX f.fID hf.1
 have s2 := dX f.fOwner hf.2.1
 have s3 := dX f.fLink hf.2.2.2.1
 generalize itoaB f.fID = b1 at *
 generalize itoaB f.fOwner = b2 at *
 generalize itoaB f.fLink = b3 at *
 have e1 : (⟨#[102, 105, 108, 101, 32]⟩ : ByteArray).size = 5 := rfl
 have e2 : (⟨#[32]⟩ : ByteArray).size = 1 := rfl
 have e3 : (⟨#[32, 115, 32]⟩ : ByteArray).size = 3 := rfl
 have e4 : (⟨#[32, 111, 32]⟩ : ByteArray).size = 3 := rfl
 have m1 : (⟨#[102, 105, 108, 101, 32]⟩ : ByteArray).size + b1.size ≤ maxLen := by unfold maxLen; omega
 have m2 : ((⟨#[102, 105, 108, 101, 32]⟩ : ByteArray) ++ b1).size + (⟨#[32]⟩ : ByteArray).size ≤ maxLen := by unfold maxLen; rw [ByteArray.size_append]; omega
 have m3 : ((⟨#[102, 105, 108, 101, 32]⟩ : ByteArray) ++ b1 ++ ⟨#[32]⟩).size + b2.size ≤ maxLen := by unfold maxLen; simp only [ByteArray.size_append]; omega
 have m4 : ((⟨#[102, 105, 108, 101, 32]⟩ : ByteArray) ++ b1 ++ ⟨#[32]⟩ ++ b2).size + (⟨#[32, 115, 32]⟩ : ByteArray).size ≤ maxLen := by unfold maxLen; simp only [ByteArray.size_append]; omega
 have m5 : ((⟨#[102, 105, 108, 101, 32]⟩ : ByteArray) ++ b1 ++ ⟨#[32]⟩ ++ b2).size + (⟨#[32, 111, 32]⟩ : ByteArray).size ≤ maxLen := by unfold maxLen; simp only [ByteArray.size_append]; omega
 have m6 : ((⟨#[102, 105, 108, 101, 32]⟩ : ByteArray) ++ b1 ++ ⟨#[32]⟩ ++ b2 ++ ⟨#[32, 115, 32]⟩).size + b3.size ≤ maxLen := by unfold maxLen; simp only [ByteArray.size_append]; omega
 have m7 : ((⟨#[102, 105, 108, 101, 32]⟩ : ByteArray) ++ b1 ++ ⟨#[32]⟩ ++ b2 ++ ⟨#[32, 111, 32]⟩).size + b3.size ≤ maxLen := by unfold maxLen; simp only [ByteArray.size_append]; omega
 cases hs : f.fShared
 all_goals
  rw [hs] at hb
  simp only [if_true, Bool.false_eq_true, if_false] at hb
  have qH := aI @hs (aI @m1 (aI @m2 (aI @m3 (aI @m4 (aI @m5 (aI @m6 @m7)))))); repeat' (with_reducible first | refine nY ?_ | (refine mX ?_; try simp only [go_sem, qH]) | refine kD ?_ | (apply rE [2,7] [] [0,1,5,6] [0,1,5,6] ((.c 2 [3,4] [3,4,5,6] (.c 7 [8,9] [3,4,8,9] .n .n) .n)) (by simp only [go_sem]; rfl) (by simp only [go_sem]; rfl) (by simp only [go_sem]; rfl) (by decide +kernel); (focus simp only [go_sem]; done)) | exact xL | refine qY (uX ?_) ?_ | refine qZ (aX ?_) ?_ | refine rA (aX ?_) ?_ | exact qX | exact oH | exact uB | refine rD ?_ | refine cP c1 ?_ | refine cP c2 ?_ | refine cP c3 ?_ | refine aO ?_ | fail)
  refine bB (α := Nat × ByteArray) (fun x => [(3, os x.2), (4, oi x.1)]) (fun _ => []) (fun x => x.1 ≤ f.fAttrs.length ∧ x.2 = eQ (eP f ++ dM (f.fAttrs.take x.1)) sp) (fun x => f.fAttrs.length - x.1) (0, eQ (eP f) sp) (fun _ => ?_) ?_ ?_ (fun x hx => ?_)
  ·simp only [go_sem]
  ·simp only [go_sem]; simp [hb]
  ·exact ⟨Nat.zero_le _, by simp [dM]⟩
  ·obtain ⟨k, s⟩ := x
   obtain ⟨hk, hl⟩ := hx
   simp only at hk hl
   have hsz := tC f hf hw k hk
   rw [← hl] at hsz
   simp only [go_sem]
   refine aH ?_
   refine cnd rfl (fun h => ?_) (fun h => ?_)
   ·simp only [decide_eq_true_eq, Int.ofNat_lt] at h
    have c := cv k h
    have hat := nK (l := f.fAttrs) h
    have hv := vZ f.fAttrs[k].fValue (hf.2.2.2.2.2 _ (List.getElem_mem h)).2.2.1
    have hw' := hw
    unfold wFile at hw'
    have hkk : k * 2200000 ≤ 1048576 * 2200000 := Nat.mul_le_mul_right _ (by omega)
    have n1 : s.size + (⟨#[32]⟩ : ByteArray).size ≤ maxLen := by unfold maxLen; omega
    have n2 : (s ++ ⟨#[32]⟩).size + f.fAttrs[k].fName.size ≤ maxLen := by unfold maxLen; simp only [ByteArray.size_append]; omega
    have n3 : (s ++ ⟨#[32]⟩ ++ f.fAttrs[k].fName).size + (⟨#[32]⟩ : ByteArray).size ≤ maxLen := by unfold maxLen; simp only [ByteArray.size_append]; omega
    have n4 : (s ++ ⟨#[32]⟩ ++ f.fAttrs[k].fName ++ ⟨#[32]⟩).size + (iV f.fAttrs[k].fValue).size ≤ maxLen := by unfold maxLen; simp only [ByteArray.size_append]; omega
    have qH := aI @h (aI @n1 (aI @n2 (aI @n3 (aI @n4 @bU)))); repeat' (with_reducible first | refine nY ?_ | (refine mX ?_; try simp only [go_sem, qH]) | refine kD ?_ | (apply rE [16,18] [18] [0,1,2,3,4,5,6,7,8,9,10,11,12,13,14,15] [0,1,2,3,4,5,6,7,8,9,10,11,12,13,14,15] ((.c 16 [17] [0,1,2,3,4,5,6,7,8,9,17] (.c 18 [] [] .n .n) .n)) (by simp only [go_sem]; rfl) (by simp only [go_sem]; rfl) (by simp only [go_sem]; rfl) (by decide +kernel); (focus simp only [go_sem]; done)) | exact xL | refine qY (uX ?_) ?_ | refine qZ (aX ?_) ?_ | refine rA (aX ?_) ?_ | exact qX | exact oH | exact uB | refine rD ?_ | refine cP c ?_ | refine aO ?_ | fail)
    refine aM (k + 1, s ++ ⟨#[32]⟩ ++ f.fAttrs[k].fName ++ ⟨#[32]⟩ ++ iV f.fAttrs[k].fValue) ?_ ?_ ?_
    ·simp only [go_sem]; try simp
    ·exact ⟨by simp only; omega, by simp only; rw [kK _ k h, ← List.append_assoc, vY (sW _ _), ← hl]; rfl⟩
    ·simp only; omega
   ·simp only [decide_eq_false_iff_not] at h
    have e : k = f.fAttrs.length := by omega
    subst e
    rw [List.take_length, fin] at hl
    subst hl
    refine aH ?_
    exact aA ⟨⟨_, rfl, by simp only [go_sem]⟩, trivial⟩
theorem oK (x : TFile) (hf : iG x) : FnC Tryd.prog 4 [fQ x] (ob true) := by
 refine ent Tryd.func4 rfl Tryd.call4 rfl (fun C => ?_); simp only [go_sem, st0, Tryd.ntmps4]
 have hz := oG x 1048576 (by omega) hf
 by_cases h : bF 1048576 (wFile x) < 0
 ·have q0 := @h; refine jK hz ?_
  exact aA ⟨⟨_, rfl, by simp only [go_sem]⟩, trivial⟩
 ·have hs : wFile x ≤ 1048576 := by have := kH h; omega
  have q0 := @h; refine a6b hz (oI x hs) (nM x hf hs) (nL x hf hs) (a0y x hs) (vT x (by omega)) ?_
  exact aA ⟨⟨_, rfl, by simp only [go_sem]⟩, trivial⟩
end Go.Proofs.YtgfngchfmohhbaaDoor
end
