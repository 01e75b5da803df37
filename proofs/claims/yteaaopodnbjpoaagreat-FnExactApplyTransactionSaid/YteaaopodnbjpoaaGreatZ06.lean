/- Joined texts. -/
import Derived.Test.YteaaopodnbjpoaaGreatZ05
import Derived.Sort.Row
import Derived.Sort.Grow
import Derived.Shelf.RegionOpenPlain
import Derived.WalkKit
import Derived.Deep.LoopGhost
import Derived.Deep.Draws
import Derived.Lib.Walk
import Derived.Lib.SliceRun
import Derived.Shelf.SlicesE.Kit
import Derived.Shelf.SlicesE.DeleteFunc
set_option linter.all false
section
section
set_option linter.all false
namespace Go.Proofs.YteaaopodnbjpoaaGreat
open Go Go.Sx Go.RowKit Go.Proofs
def bP (n : Int) (w : Nat) : Int := if n - w < 0 then -1 else n - w
theorem aS {n : Int} {w : Nat} (h : n - w < 0) : bP n w = -1 := if_pos h
theorem aY {n : Int} {w : Nat} (h : ¬ n - w < 0) : bP n w = n - w := if_neg h
theorem a8O {n : Int} {w : Nat} (h : ¬ bP n w < 0) : w ≤ n := by
 unfold bP at h
 split at h <;> omega
def wsum {α : Type} (w : α → Nat) : List α → Nat
 | [] => 0
 | x :: l => w x + wsum w l
theorem bA {α : Type} (w : α → Nat) : ∀ (l : List α) {k : Nat} (h : k < l.length), w l[k] ≤ wsum w l
 | [], _, h => by simp at h
 | x :: l, 0, _ => by simp [wsum]
 | x :: l, k + 1, h => by
  have := bA w l (k := k) (by simpa using h)
  simp only [List.getElem_cons_succ, wsum]; omega
theorem jL {α : Type} (w : α → Nat) : ∀ (l : List α) {k : Nat} (h : k < l.length), wsum w (l.take (k + 1)) = wsum w (l.take k) + w l[k]
 | [], _, h => by simp at h
 | x :: l, 0, _ => by simp [wsum]
 | x :: l, k + 1, h => by
  have := jL w l (k := k) (by simpa using h)
  simp only [List.take_succ_cons, List.getElem_cons_succ, wsum]; omega
theorem kY {α : Type} (w : α → Nat) : ∀ (l : List α) (k : Nat), wsum w (l.take k) ≤ wsum w l
 | [], k => by simp
 | x :: l, 0 => by simp [wsum]
 | x :: l, k + 1 => by
  have := kY w l k
  simp only [List.take_succ_cons, wsum]; omega
@[go_sem] def fE (n : Int) : List D := [iv n]
@[go_sem] def bV (s : ByteArray) : List D := [sv s]
abbrev slI (l : List Int) : D := .sl (l.map fE)
abbrev slS (l : List ByteArray) : D := .sl (l.map bV)
def pJ (l : List ByteArray) : Nat := l.length + wsum ByteArray.size l
def a0f (l : List Int) : Prop := l.length ≤ 9223372036854775807 ∧ ∀ i ∈ l, inR .i64 i
def b8V (l : List ByteArray) : Prop := l.length ≤ 9223372036854775807 ∧ ∀ s ∈ l, s.size ≤ 9223372036854775807
theorem a0S {n : Nat} {r : List D} (h : ShD tt n 3 r) : ∃ i, r = fE i ∧ inR .i64 i := by
 match n, h with
 | n + 1, ⟨i, h, hi⟩ => exact ⟨i, h, hi⟩
theorem b3h {n : Nat} {r : List D} (h : ShD tt n 9 r) : ∃ s : ByteArray, r = bV s ∧ s.size ≤ 9223372036854775807 := by
 match n, h with
 | n + 1, ⟨s, h, hs⟩ => exact ⟨s, h, hs⟩
theorem c0g {n : Nat} {r : List D} (h : ShD tt n 4 r) : ∃ b : Bool, r = [bv b] := by
 match n, h with
 | n + 1, ⟨b, h⟩ => exact ⟨b, h⟩
theorem b1W {n : Nat} {r : List D} (h : ShD tt n 31 r) : ∃ l : List Int, r = [slI l] ∧ a0f l := by
 match n, h with
 | n + 1, ⟨rows, h, hm, hr⟩ =>
  obtain ⟨l, rfl, hl⟩ := lU fE (inR .i64) (fun r h => a0S (hr r h))
  exact ⟨l, h, by unfold maxLen at hm; simpa using hm, hl⟩
theorem yM (l : List Int) (hl : l.length ≤ 1048576) : FnC Tryz.prog 12 [.o (.d (slI l))] (.o (.w 3 1 (l.map fE))) := by
 refine ent Tryz.func12 rfl Tryz.call12 rfl (fun C => ?_); simp only [go_sem, st0, Tryz.ntmps12]
 refine aD ?_
 refine aN (α := Nat) (fun k => [(4, oi k)]) (fun k => [(0, .row 3 1 (lW fE [iv 0] l k) true)]) (fun k => k ≤ l.length) (fun k => l.length - k) 0 (fun _ => ?_) ?_ ?_ (fun k hk => ?_)
 ·simp only [go_sem]
 ·simp only [go_sem]; simp [jS]
 ·simp
 ·simp only [go_sem]
  refine aD ?_
  refine cnd rfl (fun h => ?_) (fun h => ?_)
  ·simp only [decide_eq_true_eq, Int.ofNat_lt] at h
   have q0 := @h; refine fU ?_
   refine aF (k + 1) ?_ ?_ ?_
   ·simp only [go_sem]; simp [← lJ, h, fE]
   ·omega
   ·omega
  ·simp only [decide_eq_false_iff_not] at h
   have e : k = l.length := by omega
   subst e
   refine aD ?_
   exact aA ⟨⟨_, rfl, by simp only [go_sem, lK]⟩, trivial⟩
theorem a3Z (l : List Int) (hl : l.length ≤ 1048576) : FnC Tryz.prog 12 [.o (.d (slI l))] (.o (.d (slI l))) := (yM l hl).pu (by simp only [go_sem, and_self])
theorem sS (l : List Int) (hl : l.length ≤ 67108864) : FnC Tryz.prog 17 [.o (.d (slI l)), .o (.d (slI l))] (ob true) := by
 refine ent Tryz.func17 rfl Tryz.call17 rfl (fun C => ?_); simp only [go_sem, st0, Tryz.ntmps17]
 refine aD ?_
 refine aN (α := Nat) (fun k => [(5, oi k)]) (fun _ => []) (fun k => k ≤ l.length) (fun k => l.length - k) 0 (fun _ => ?_) ?_ ?_ (fun k hk => ?_)
 ·simp only [go_sem]
 ·simp only [go_sem]; simp
 ·simp
 ·simp only [go_sem]
  refine aD ?_
  refine cnd rfl (fun h => ?_) (fun h => ?_)
  ·simp only [decide_eq_true_eq, Int.ofNat_lt] at h
   have q0 := @h; refine fU ?_
   refine aF (k + 1) ?_ ?_ ?_
   ·simp only [go_sem]; simp
   ·omega
   ·omega
  ·simp only [decide_eq_false_iff_not] at h
   refine aD ?_
   exact aA ⟨⟨_, rfl, by simp only [go_sem]⟩, trivial⟩
theorem a6d (l : List Int) (n : Int) (h0 : 0 ≤ n ∧ n ≤ 1048576) (hw : a0f l) : FnC Tryz.prog 149 [.o (.d (slI l)), oi n] (oi (bP n l.length)) := by
 have h1 := hw.1
 refine ent Tryz.func149 rfl Tryz.call149 rfl (fun C => ?_); simp only [go_sem, st0, Tryz.ntmps149]
 by_cases hc : n - (l.length : Nat) < 0
 ·have q0 := @hc; refine fU ?_
  exact aA ⟨⟨_, rfl, by simp only [go_sem, aS hc]⟩, trivial⟩
 ·have q0 := @hc; refine fU ?_
  exact aA ⟨⟨_, rfl, by simp only [go_sem, aY hc]⟩, trivial⟩
end Go.Proofs.YteaaopodnbjpoaaGreat
end
section
set_option linter.all false
set_option maxHeartbeats 1000000
namespace Go.Proofs.YteaaopodnbjpoaaGreat
open Go Go.Sx Go.RowKit Go.Proofs
structure TValue where
 fKind : Int
 fInt : Int
 fStr : ByteArray
@[go_sem] def b4Z (x : TValue) : List D := [iv x.fKind, iv x.fInt, sv x.fStr]
@[go_sem] def pK (x : TValue) : SV := .g [.d (iv x.fKind), .d (iv x.fInt), .d (sv x.fStr)]
def gY (x : TValue) : Nat := x.fStr.size
def uY (x : TValue) : Prop := inR .i64 x.fKind ∧ inR .i64 x.fInt ∧ x.fStr.size ≤ 9223372036854775807
def b9B (l : List TValue) : Nat := l.length + wsum gY l
def b9s (l : List TValue) : Prop := l.length ≤ 9223372036854775807 ∧ ∀ x ∈ l, uY x
theorem a8P {n : Nat} {r : List D} (h : ShD tt n 212 r) : ∃ x : TValue, r = b4Z x ∧ uY x := by
 match n, h with
 | n + 1, ⟨a0, b0, e0, h0, a1, b1, e1, h1, a2, b2, e2, h2, ee⟩ =>
  obtain ⟨x0, rfl, p0⟩ := a0S h0
  obtain ⟨x1, rfl, p1⟩ := a0S h1
  obtain ⟨x2, rfl, p2⟩ := b3h h2
  have ee' : b2 = [] := ee
  subst ee' e2 e1 e0
  exact ⟨⟨x0, x1, x2⟩, rfl, p0, p1, p2⟩
theorem uZ (x : TValue) (n : Int) (h0 : 0 ≤ n ∧ n ≤ 1048576) (hw : uY x) : FnC Tryz.prog 245 [pK x, oi n] (oi (bP n (gY x))) := by
 refine ent Tryz.func245 rfl Tryz.call245 rfl (fun C => ?_); simp only [go_sem, st0, Tryz.ntmps245]
 unfold uY at hw
 by_cases hc0 : n - (x.fStr.size : Nat) < 0
 ·have e : bP n (gY x) = -1 := by rw [aS (by unfold gY; omega)]
  have q0 := @hc0; refine fU ?_
  exact aA ⟨⟨_, rfl, by simp only [go_sem, e]⟩, trivial⟩
 have e : bP n (gY x) = n - (x.fStr.size : Nat) := by rw [aY (by unfold gY; omega)]; unfold gY; omega
 have q0 := @hc0; refine fU ?_
 exact aA ⟨⟨_, rfl, by simp only [go_sem, e]⟩, trivial⟩
theorem a4a (x : TValue) (hx : gY x ≤ 1048576) : FnC Tryz.prog 246 [pK x] (pK x) := by
 unfold gY at hx
 refine ent Tryz.func246 rfl Tryz.call246 rfl (fun C => ?_); simp only [go_sem, st0, Tryz.ntmps246]
 refine aD ?_
 exact aA ⟨⟨_, rfl, by simp only [go_sem]⟩, trivial⟩
theorem a4b (x : TValue) (hx : gY x ≤ 67108864) : FnC Tryz.prog 147 [pK x, pK x] (ob true) := by
 unfold gY at hx
 refine ent Tryz.func147 rfl Tryz.call147 rfl (fun C => ?_); simp only [go_sem, st0, Tryz.ntmps147]
 refine aD ?_
 exact aA ⟨⟨_, rfl, by simp only [go_sem]⟩, trivial⟩
end Go.Proofs.YteaaopodnbjpoaaGreat
end
section
set_option linter.all false
set_option maxHeartbeats 1000000
namespace Go.Proofs.YteaaopodnbjpoaaGreat
open Go Go.Sx Go.RowKit Go.Proofs
structure TField where
 fName : ByteArray
 fKind : Int
@[go_sem] def bH (x : TField) : List D := [sv x.fName, iv x.fKind]
@[go_sem] def a4c (x : TField) : SV := .g [.d (sv x.fName), .d (iv x.fKind)]
def wField (x : TField) : Nat := x.fName.size
def a0T (x : TField) : Prop := x.fName.size ≤ 9223372036854775807 ∧ inR .i64 x.fKind
def aT (l : List TField) : Nat := l.length + wsum wField l
def a0U (l : List TField) : Prop := l.length ≤ 9223372036854775807 ∧ ∀ x ∈ l, a0T x
theorem b5a {n : Nat} {r : List D} (h : ShD tt n 181 r) : ∃ x : TField, r = bH x ∧ a0T x := by
 match n, h with
 | n + 1, ⟨a0, b0, e0, h0, a1, b1, e1, h1, ee⟩ =>
  obtain ⟨x0, rfl, p0⟩ := b3h h0
  obtain ⟨x1, rfl, p1⟩ := a0S h1
  have ee' : b1 = [] := ee
  subst ee' e1 e0
  exact ⟨⟨x0, x1⟩, rfl, p0, p1⟩
theorem b3i {n : Nat} {r : List D} (h : ShD tt n 22 r) : ∃ l : List TField, r = [.sl (l.map bH)] ∧ a0U l := by
 match n, h with
 | n + 1, ⟨rows, h, hm, hr⟩ =>
  obtain ⟨l, rfl, hl⟩ := lU bH a0T (fun r h => b5a (hr r h))
  exact ⟨l, h, by unfold maxLen at hm; simpa using hm, hl⟩
theorem a4d (x : TField) (n : Int) (h0 : 0 ≤ n ∧ n ≤ 1048576) (hw : a0T x) : FnC Tryz.prog 148 [a4c x, oi n] (oi (bP n (wField x))) := by
 refine ent Tryz.func148 rfl Tryz.call148 rfl (fun C => ?_); simp only [go_sem, st0, Tryz.ntmps148]
 unfold a0T at hw
 by_cases hc0 : n - (x.fName.size : Nat) < 0
 ·have e : bP n (wField x) = -1 := by rw [aS (by unfold wField; omega)]
  have q0 := @hc0; refine fU ?_
  exact aA ⟨⟨_, rfl, by simp only [go_sem, e]⟩, trivial⟩
 have e : bP n (wField x) = n - (x.fName.size : Nat) := by rw [aY (by unfold wField; omega)]; unfold wField; omega
 have q0 := @hc0; refine fU ?_
 exact aA ⟨⟨_, rfl, by simp only [go_sem, e]⟩, trivial⟩
theorem b0A (x : TField) (hx : wField x ≤ 1048576) : FnC Tryz.prog 165 [a4c x] (a4c x) := by
 unfold wField at hx
 refine ent Tryz.func165 rfl Tryz.call165 rfl (fun C => ?_); simp only [go_sem, st0, Tryz.ntmps165]
 refine aD ?_
 exact aA ⟨⟨_, rfl, by simp only [go_sem]⟩, trivial⟩
theorem b0B (x : TField) (hx : wField x ≤ 67108864) : FnC Tryz.prog 194 [a4c x, a4c x] (ob true) := by
 unfold wField at hx
 refine ent Tryz.func194 rfl Tryz.call194 rfl (fun C => ?_); simp only [go_sem, st0, Tryz.ntmps194]
 refine aD ?_
 exact aA ⟨⟨_, rfl, by simp only [go_sem]⟩, trivial⟩
theorem a8Q (l : List TField) (hl : aT l ≤ 1048576) : FnC Tryz.prog 94 [.o (.d (.sl (l.map bH)))] (.o (.w 196 2 (l.map bH))) := by
 unfold aT at hl
 refine ent Tryz.func94 rfl Tryz.call94 rfl (fun C => ?_); simp only [go_sem, st0, Tryz.ntmps94]
 refine aD ?_
 refine aN (α := Nat) (fun k => [(4, oi k)]) (fun k => [(0, .row 196 2 (lW bH [sv ⟨#[]⟩, iv 0] l k) true)]) (fun k => k ≤ l.length) (fun k => l.length - k) 0 (fun _ => ?_) ?_ ?_ (fun k hk => ?_)
 ·simp only [go_sem]
 ·simp only [go_sem]; simp [jS]
 ·simp
 ·simp only [go_sem]
  refine aD ?_
  refine cnd rfl (fun h => ?_) (fun h => ?_)
  ·simp only [decide_eq_true_eq, Int.ofNat_lt] at h
   have hw := bA wField l h
   have q0 := @h; refine fC (b0A l[k] (by omega)) ?_
   refine aF (k + 1) ?_ ?_ ?_
   ·simp only [go_sem]; simp [← lJ, h, bH]
   ·omega
   ·omega
  ·simp only [decide_eq_false_iff_not] at h
   have e : k = l.length := by omega
   subst e
   refine aD ?_
   exact aA ⟨⟨_, rfl, by simp only [go_sem, lK]⟩, trivial⟩
theorem a8R (l : List TField) (hl : aT l ≤ 67108864) : FnC Tryz.prog 116 [.o (.d (.sl (l.map bH))), .o (.d (.sl (l.map bH)))] (ob true) := by
 unfold aT at hl
 refine ent Tryz.func116 rfl Tryz.call116 rfl (fun C => ?_); simp only [go_sem, st0, Tryz.ntmps116]
 refine aD ?_
 refine aN (α := Nat) (fun k => [(5, oi k)]) (fun _ => []) (fun k => k ≤ l.length) (fun k => l.length - k) 0 (fun _ => ?_) ?_ ?_ (fun k hk => ?_)
 ·simp only [go_sem]
 ·simp only [go_sem]; simp
 ·simp
 ·simp only [go_sem]
  refine aD ?_
  refine cnd rfl (fun h => ?_) (fun h => ?_)
  ·simp only [decide_eq_true_eq, Int.ofNat_lt] at h
   have hw := bA wField l h
   have q0 := @h; refine fC (b0B l[k] (by omega)) ?_
   refine aF (k + 1) ?_ ?_ ?_
   ·simp only [go_sem]; simp
   ·omega
   ·omega
  ·simp only [decide_eq_false_iff_not] at h
   refine aD ?_
   exact aA ⟨⟨_, rfl, by simp only [go_sem]⟩, trivial⟩
theorem xH (l : List TField) (n : Int) (h0 : 0 ≤ n ∧ n ≤ 1048576) (hw : a0U l) : FnC Tryz.prog 74 [.o (.d (.sl (l.map bH))), oi n] (oi (bP n (aT l))) := by
 unfold a0U at hw
 refine ent Tryz.func74 rfl Tryz.call74 rfl (fun C => ?_); simp only [go_sem, st0, Tryz.ntmps74]
 by_cases hc : n - (l.length : Nat) < 0
 ·have e : bP n (aT l) = -1 := by rw [aS (by unfold aT; omega)]
  have q0 := @hc; refine fU ?_
  exact aA ⟨⟨_, rfl, by simp only [go_sem, e]⟩, trivial⟩
 have q0 := @hc; refine fU ?_
 refine aN (α := Nat) (fun k => [(5, oi k), (1, oi (n - (l.length : Nat) - (wsum wField (l.take k) : Nat)))]) (fun _ => []) (fun k => k ≤ l.length ∧ 0 ≤ n - (l.length : Nat) - (wsum wField (l.take k) : Nat)) (fun k => l.length - k) 0 (fun _ => ?_) ?_ ?_ (fun k hk => ?_)
 ·simp only [go_sem]
 ·simp only [go_sem]; simp [wsum]
 ·simp [wsum]; omega
 ·obtain ⟨hk, hn⟩ := hk
  simp only [go_sem]
  refine aD ?_
  refine cnd rfl (fun h => ?_) (fun h => ?_)
  ·simp only [decide_eq_true_eq, Int.ofNat_lt] at h
   have hs := jL wField l h
   have ht := kY wField l (k + 1)
   by_cases h2 : n - (l.length : Nat) - (wsum wField (l.take k) : Nat) - (wField l[k] : Nat) < 0
   ·have e : bP n (aT l) = -1 := by rw [aS (by unfold aT; omega)]
    have q0 := @h; have q1 := aS h2; refine mM (a4d l[k] _ ⟨hn, by omega⟩ (hw.2 _ (List.getElem_mem h))) ?_
    exact aA ⟨⟨_, rfl, by simp only [go_sem, e]⟩, trivial⟩
   ·have q0 := @h; have q1 := aY h2; have q2 := @h2; refine mF (a4d l[k] _ ⟨hn, by omega⟩ (hw.2 _ (List.getElem_mem h))) ?_
    refine aF (k + 1) ?_ ?_ ?_
    ·simp only [go_sem]; simp; omega
    ·omega
    ·omega
  ·simp only [decide_eq_false_iff_not] at h
   have e0 : k = l.length := by omega
   subst e0
   rw [List.take_length] at hn
   have e : bP n (aT l) = n - (l.length : Nat) - (wsum wField l : Nat) := by rw [aY (by unfold aT; omega)]; unfold aT; omega
   refine aD ?_
   exact aA ⟨⟨_, rfl, by simp only [go_sem, e, List.take_length]⟩, trivial⟩
end Go.Proofs.YteaaopodnbjpoaaGreat
end
section
set_option linter.all false
set_option maxHeartbeats 1000000
namespace Go.Proofs.YteaaopodnbjpoaaGreat
open Go Go.Sx Go.RowKit Go.Proofs
structure TAttr where
 fName : ByteArray
 fValue : TValue
@[go_sem] def eH (x : TAttr) : List D := [sv x.fName, iv x.fValue.fKind, iv x.fValue.fInt, sv x.fValue.fStr]
@[go_sem] def a8S (x : TAttr) : SV := .g [.d (sv x.fName), .d (iv x.fValue.fKind), .d (iv x.fValue.fInt), .d (sv x.fValue.fStr)]
def wAttr (x : TAttr) : Nat := x.fName.size + gY x.fValue
def a4e (x : TAttr) : Prop := x.fName.size ≤ 9223372036854775807 ∧ uY x.fValue
def dN (l : List TAttr) : Nat := l.length + wsum wAttr l
def a0V (l : List TAttr) : Prop := l.length ≤ 9223372036854775807 ∧ ∀ x ∈ l, a4e x
theorem b6N {n : Nat} {r : List D} (h : ShD tt n 214 r) : ∃ x : TAttr, r = eH x ∧ a4e x := by
 match n, h with
 | n + 1, ⟨a0, b0, e0, h0, a1, b1, e1, h1, ee⟩ =>
  obtain ⟨x0, rfl, p0⟩ := b3h h0
  obtain ⟨x1, rfl, p1⟩ := a8P h1
  have ee' : b1 = [] := ee
  subst ee' e1 e0
  exact ⟨⟨x0, x1⟩, rfl, p0, p1⟩
theorem b5b {n : Nat} {r : List D} (h : ShD tt n 58 r) : ∃ l : List TAttr, r = [.sl (l.map eH)] ∧ a0V l := by
 match n, h with
 | n + 1, ⟨rows, h, hm, hr⟩ =>
  obtain ⟨l, rfl, hl⟩ := lU eH a4e (fun r h => b6N (hr r h))
  exact ⟨l, h, by unfold maxLen at hm; simpa using hm, hl⟩
theorem a6e (x : TAttr) (n : Int) (h0 : 0 ≤ n ∧ n ≤ 1048576) (hw : a4e x) : FnC Tryz.prog 195 [a8S x, oi n] (oi (bP n (wAttr x))) := by
 refine ent Tryz.func195 rfl Tryz.call195 rfl (fun C => ?_); simp only [go_sem, st0, Tryz.ntmps195]
 unfold a4e at hw
 by_cases hc0 : n - (x.fName.size : Nat) < 0
 ·have e : bP n (wAttr x) = -1 := by rw [aS (by unfold wAttr; omega)]
  have q0 := @hc0; refine fU ?_
  exact aA ⟨⟨_, rfl, by simp only [go_sem, e]⟩, trivial⟩
 by_cases hc1 : n - (x.fName.size : Nat) - (gY x.fValue : Nat) < 0
 ·have e : bP n (wAttr x) = -1 := by rw [aS (by unfold wAttr; omega)]
  have q0 := @hc0; have q1 := aS hc1; have q2 := @hc1; refine mF (uZ x.fValue (n - (x.fName.size : Nat)) (by omega) hw.2) ?_
  exact aA ⟨⟨_, rfl, by simp only [go_sem, e]⟩, trivial⟩
 have e : bP n (wAttr x) = n - (x.fName.size : Nat) - (gY x.fValue : Nat) := by rw [aY (by unfold wAttr; omega)]; unfold wAttr; omega
 have q0 := @hc0; have q1 := aY hc1; have q2 := @hc1; refine mF (uZ x.fValue (n - (x.fName.size : Nat)) (by omega) hw.2) ?_
 exact aA ⟨⟨_, rfl, by simp only [go_sem, e]⟩, trivial⟩
theorem b3j (x : TAttr) (hx : wAttr x ≤ 1048576) : FnC Tryz.prog 197 [a8S x] (a8S x) := by
 unfold wAttr at hx
 refine ent Tryz.func197 rfl Tryz.call197 rfl (fun C => ?_); simp only [go_sem, st0, Tryz.ntmps197]
 refine gP (a4a x.fValue (by omega)) ?_
 exact aA ⟨⟨_, rfl, by simp only [go_sem]⟩, trivial⟩
theorem b3k (x : TAttr) (hx : wAttr x ≤ 67108864) : FnC Tryz.prog 73 [a8S x, a8S x] (ob true) := by
 unfold wAttr at hx
 refine ent Tryz.func73 rfl Tryz.call73 rfl (fun C => ?_); simp only [go_sem, st0, Tryz.ntmps73]
 refine gP (a4b x.fValue (by omega)) ?_
 exact aA ⟨⟨_, rfl, by simp only [go_sem]⟩, trivial⟩
theorem b0C (l : List TAttr) (hl : dN l ≤ 1048576) : FnC Tryz.prog 126 [.o (.d (.sl (l.map eH)))] (.o (.w 117 4 (l.map eH))) := by
 unfold dN at hl
 refine ent Tryz.func126 rfl Tryz.call126 rfl (fun C => ?_); simp only [go_sem, st0, Tryz.ntmps126]
 refine aD ?_
 refine aN (α := Nat) (fun k => [(4, oi k)]) (fun k => [(0, .row 117 4 (lW eH [sv ⟨#[]⟩, iv 0, iv 0, sv ⟨#[]⟩] l k) true)]) (fun k => k ≤ l.length) (fun k => l.length - k) 0 (fun _ => ?_) ?_ ?_ (fun k hk => ?_)
 ·simp only [go_sem]
 ·simp only [go_sem]; simp [jS]
 ·simp
 ·simp only [go_sem]
  refine aD ?_
  refine cnd rfl (fun h => ?_) (fun h => ?_)
  ·simp only [decide_eq_true_eq, Int.ofNat_lt] at h
   have hw := bA wAttr l h
   have q0 := @h; refine fC (b3j l[k] (by omega)) ?_
   refine aF (k + 1) ?_ ?_ ?_
   ·simp only [go_sem]; simp [← lJ, h, eH]
   ·omega
   ·omega
  ·simp only [decide_eq_false_iff_not] at h
   have e : k = l.length := by omega
   subst e
   refine aD ?_
   exact aA ⟨⟨_, rfl, by simp only [go_sem, lK]⟩, trivial⟩
theorem b0D (l : List TAttr) (hl : dN l ≤ 67108864) : FnC Tryz.prog 31 [.o (.d (.sl (l.map eH))), .o (.d (.sl (l.map eH)))] (ob true) := by
 unfold dN at hl
 refine ent Tryz.func31 rfl Tryz.call31 rfl (fun C => ?_); simp only [go_sem, st0, Tryz.ntmps31]
 refine aD ?_
 refine aN (α := Nat) (fun k => [(5, oi k)]) (fun _ => []) (fun k => k ≤ l.length) (fun k => l.length - k) 0 (fun _ => ?_) ?_ ?_ (fun k hk => ?_)
 ·simp only [go_sem]
 ·simp only [go_sem]; simp
 ·simp
 ·simp only [go_sem]
  refine aD ?_
  refine cnd rfl (fun h => ?_) (fun h => ?_)
  ·simp only [decide_eq_true_eq, Int.ofNat_lt] at h
   have hw := bA wAttr l h
   have q0 := @h; refine fC (b3k l[k] (by omega)) ?_
   refine aF (k + 1) ?_ ?_ ?_
   ·simp only [go_sem]; simp
   ·omega
   ·omega
  ·simp only [decide_eq_false_iff_not] at h
   refine aD ?_
   exact aA ⟨⟨_, rfl, by simp only [go_sem]⟩, trivial⟩
theorem a4f (l : List TAttr) (n : Int) (h0 : 0 ≤ n ∧ n ≤ 1048576) (hw : a0V l) : FnC Tryz.prog 124 [.o (.d (.sl (l.map eH))), oi n] (oi (bP n (dN l))) := by
 unfold a0V at hw
 refine ent Tryz.func124 rfl Tryz.call124 rfl (fun C => ?_); simp only [go_sem, st0, Tryz.ntmps124]
 by_cases hc : n - (l.length : Nat) < 0
 ·have e : bP n (dN l) = -1 := by rw [aS (by unfold dN; omega)]
  have q0 := @hc; refine fU ?_
  exact aA ⟨⟨_, rfl, by simp only [go_sem, e]⟩, trivial⟩
 have q0 := @hc; refine fU ?_
 refine aN (α := Nat) (fun k => [(5, oi k), (1, oi (n - (l.length : Nat) - (wsum wAttr (l.take k) : Nat)))]) (fun _ => []) (fun k => k ≤ l.length ∧ 0 ≤ n - (l.length : Nat) - (wsum wAttr (l.take k) : Nat)) (fun k => l.length - k) 0 (fun _ => ?_) ?_ ?_ (fun k hk => ?_)
 ·simp only [go_sem]
 ·simp only [go_sem]; simp [wsum]
 ·simp [wsum]; omega
 ·obtain ⟨hk, hn⟩ := hk
  simp only [go_sem]
  refine aD ?_
  refine cnd rfl (fun h => ?_) (fun h => ?_)
  ·simp only [decide_eq_true_eq, Int.ofNat_lt] at h
   have hs := jL wAttr l h
   have ht := kY wAttr l (k + 1)
   by_cases h2 : n - (l.length : Nat) - (wsum wAttr (l.take k) : Nat) - (wAttr l[k] : Nat) < 0
   ·have e : bP n (dN l) = -1 := by rw [aS (by unfold dN; omega)]
    have q0 := @h; have q1 := aS h2; refine mM (a6e l[k] _ ⟨hn, by omega⟩ (hw.2 _ (List.getElem_mem h))) ?_
    exact aA ⟨⟨_, rfl, by simp only [go_sem, e]⟩, trivial⟩
   ·have q0 := @h; have q1 := aY h2; have q2 := @h2; refine mF (a6e l[k] _ ⟨hn, by omega⟩ (hw.2 _ (List.getElem_mem h))) ?_
    refine aF (k + 1) ?_ ?_ ?_
    ·simp only [go_sem]; simp; omega
    ·omega
    ·omega
  ·simp only [decide_eq_false_iff_not] at h
   have e0 : k = l.length := by omega
   subst e0
   rw [List.take_length] at hn
   have e : bP n (dN l) = n - (l.length : Nat) - (wsum wAttr l : Nat) := by rw [aY (by unfold dN; omega)]; unfold dN; omega
   refine aD ?_
   exact aA ⟨⟨_, rfl, by simp only [go_sem, e, List.take_length]⟩, trivial⟩
end Go.Proofs.YteaaopodnbjpoaaGreat
end
section
set_option linter.all false
set_option maxHeartbeats 1000000
namespace Go.Proofs.YteaaopodnbjpoaaGreat
open Go Go.Sx Go.RowKit Go.Proofs
structure TFile where
 fID : Int
 fOwner : Int
 fShared : Bool
 fLink : Int
 fAttrs : List TAttr
@[go_sem] def bB (x : TFile) : List D := [iv x.fID, iv x.fOwner, bv x.fShared, iv x.fLink, .sl (x.fAttrs.map eH)]
@[go_sem] def dC (x : TFile) : SV := .g [.d (iv x.fID), .d (iv x.fOwner), .d (bv x.fShared), .d (iv x.fLink), .d (.sl (x.fAttrs.map eH))]
@[go_sem] def a8T (x : TFile) : SV := .g [.d (iv x.fID), .d (iv x.fOwner), .d (bv x.fShared), .d (iv x.fLink), .w 117 4 (x.fAttrs.map eH)]
def wFile (x : TFile) : Nat := dN x.fAttrs
def a1L (x : TFile) : Prop := inR .i64 x.fID ∧ inR .i64 x.fOwner ∧ True ∧ inR .i64 x.fLink ∧ a0V x.fAttrs
def bY (l : List TFile) : Nat := l.length + wsum wFile l
def a3j (l : List TFile) : Prop := l.length ≤ 9223372036854775807 ∧ ∀ x ∈ l, a1L x
theorem b1Y {n : Nat} {r : List D} (h : ShD tt n 60 r) : ∃ x : TFile, r = bB x ∧ a1L x := by
 match n, h with
 | n + 1, ⟨a0, b0, e0, h0, a1, b1, e1, h1, a2, b2, e2, h2, a3, b3, e3, h3, a4, b4, e4, h4, ee⟩ =>
  obtain ⟨x0, rfl, p0⟩ := a0S h0
  obtain ⟨x1, rfl, p1⟩ := a0S h1
  obtain ⟨x2, rfl⟩ := c0g h2
  obtain ⟨x3, rfl, p3⟩ := a0S h3
  obtain ⟨x4, rfl, p4⟩ := b5b h4
  have ee' : b4 = [] := ee
  subst ee' e4 e3 e2 e1 e0
  exact ⟨⟨x0, x1, x2, x3, x4⟩, rfl, p0, p1, trivial, p3, p4⟩
theorem b5d {n : Nat} {r : List D} (h : ShD tt n 23 r) : ∃ l : List TFile, r = [.sl (l.map bB)] ∧ a3j l := by
 match n, h with
 | n + 1, ⟨rows, h, hm, hr⟩ =>
  obtain ⟨l, rfl, hl⟩ := lU bB a1L (fun r h => b1Y (hr r h))
  exact ⟨l, h, by unfold maxLen at hm; simpa using hm, hl⟩
theorem sU (x : TFile) (n : Int) (h0 : 0 ≤ n ∧ n ≤ 1048576) (hw : a1L x) : FnC Tryz.prog 65 [dC x, oi n] (oi (bP n (wFile x))) := by
 refine ent Tryz.func65 rfl Tryz.call65 rfl (fun C => ?_); simp only [go_sem, st0, Tryz.ntmps65]
 unfold a1L at hw
 by_cases hc0 : n - (dN x.fAttrs : Nat) < 0
 ·have e : bP n (wFile x) = -1 := by rw [aS (by unfold wFile; omega)]
  have q0 := aS hc0; have q1 := @hc0; refine mM (a4f x.fAttrs (n) (by omega) hw.2.2.2.2) ?_
  exact aA ⟨⟨_, rfl, by simp only [go_sem, e]⟩, trivial⟩
 have e : bP n (wFile x) = n - (dN x.fAttrs : Nat) := by rw [aY (by unfold wFile; omega)]; unfold wFile; omega
 have q0 := aY hc0; have q1 := @hc0; refine mM (a4f x.fAttrs (n) (by omega) hw.2.2.2.2) ?_
 exact aA ⟨⟨_, rfl, by simp only [go_sem, e]⟩, trivial⟩
theorem a6f (x : TFile) (hx : wFile x ≤ 1048576) : FnC Tryz.prog 67 [dC x] (a8T x) := by
 unfold wFile at hx
 refine ent Tryz.func67 rfl Tryz.call67 rfl (fun C => ?_); simp only [go_sem, st0, Tryz.ntmps67]
 refine gP (b0C x.fAttrs (by omega)) ?_
 exact aA ⟨⟨_, rfl, by simp only [go_sem]⟩, trivial⟩
theorem a6g (x : TFile) (hx : wFile x ≤ 67108864) : FnC Tryz.prog 69 [dC x, dC x] (ob true) := by
 unfold wFile at hx
 refine ent Tryz.func69 rfl Tryz.call69 rfl (fun C => ?_); simp only [go_sem, st0, Tryz.ntmps69]
 refine gP (b0D x.fAttrs (by omega)) ?_
 exact aA ⟨⟨_, rfl, by simp only [go_sem]⟩, trivial⟩
theorem b0E (l : List TFile) (hl : bY l ≤ 1048576) : FnC Tryz.prog 95 [.o (.d (.sl (l.map bB)))] (.o (.w 70 5 (l.map bB))) := by
 unfold bY at hl
 refine ent Tryz.func95 rfl Tryz.call95 rfl (fun C => ?_); simp only [go_sem, st0, Tryz.ntmps95]
 refine aD ?_
 refine aN (α := Nat) (fun k => [(4, oi k)]) (fun k => [(0, .row 70 5 (lW bB [iv 0, iv 0, bv false, iv 0, .sl []] l k) true)]) (fun k => k ≤ l.length) (fun k => l.length - k) 0 (fun _ => ?_) ?_ ?_ (fun k hk => ?_)
 ·simp only [go_sem]
 ·simp only [go_sem]; simp [jS]
 ·simp
 ·simp only [go_sem]
  refine aD ?_
  refine cnd rfl (fun h => ?_) (fun h => ?_)
  ·simp only [decide_eq_true_eq, Int.ofNat_lt] at h
   have hw := bA wFile l h
   have q0 := @h; refine fC (a6f l[k] (by omega)) ?_
   refine aF (k + 1) ?_ ?_ ?_
   ·simp only [go_sem]; simp [← lJ, h, bB]
   ·omega
   ·omega
  ·simp only [decide_eq_false_iff_not] at h
   have e : k = l.length := by omega
   subst e
   refine aD ?_
   exact aA ⟨⟨_, rfl, by simp only [go_sem, lK]⟩, trivial⟩
theorem b0F (l : List TFile) (hl : bY l ≤ 67108864) : FnC Tryz.prog 117 [.o (.d (.sl (l.map bB))), .o (.d (.sl (l.map bB)))] (ob true) := by
 unfold bY at hl
 refine ent Tryz.func117 rfl Tryz.call117 rfl (fun C => ?_); simp only [go_sem, st0, Tryz.ntmps117]
 refine aD ?_
 refine aN (α := Nat) (fun k => [(5, oi k)]) (fun _ => []) (fun k => k ≤ l.length) (fun k => l.length - k) 0 (fun _ => ?_) ?_ ?_ (fun k hk => ?_)
 ·simp only [go_sem]
 ·simp only [go_sem]; simp
 ·simp
 ·simp only [go_sem]
  refine aD ?_
  refine cnd rfl (fun h => ?_) (fun h => ?_)
  ·simp only [decide_eq_true_eq, Int.ofNat_lt] at h
   have hw := bA wFile l h
   have q0 := @h; refine fC (a6g l[k] (by omega)) ?_
   refine aF (k + 1) ?_ ?_ ?_
   ·simp only [go_sem]; simp
   ·omega
   ·omega
  ·simp only [decide_eq_false_iff_not] at h
   refine aD ?_
   exact aA ⟨⟨_, rfl, by simp only [go_sem]⟩, trivial⟩
theorem a4g (l : List TFile) (n : Int) (h0 : 0 ≤ n ∧ n ≤ 1048576) (hw : a3j l) : FnC Tryz.prog 75 [.o (.d (.sl (l.map bB))), oi n] (oi (bP n (bY l))) := by
 unfold a3j at hw
 refine ent Tryz.func75 rfl Tryz.call75 rfl (fun C => ?_); simp only [go_sem, st0, Tryz.ntmps75]
 by_cases hc : n - (l.length : Nat) < 0
 ·have e : bP n (bY l) = -1 := by rw [aS (by unfold bY; omega)]
  have q0 := @hc; refine fU ?_
  exact aA ⟨⟨_, rfl, by simp only [go_sem, e]⟩, trivial⟩
 have q0 := @hc; refine fU ?_
 refine aN (α := Nat) (fun k => [(5, oi k), (1, oi (n - (l.length : Nat) - (wsum wFile (l.take k) : Nat)))]) (fun _ => []) (fun k => k ≤ l.length ∧ 0 ≤ n - (l.length : Nat) - (wsum wFile (l.take k) : Nat)) (fun k => l.length - k) 0 (fun _ => ?_) ?_ ?_ (fun k hk => ?_)
 ·simp only [go_sem]
 ·simp only [go_sem]; simp [wsum]
 ·simp [wsum]; omega
 ·obtain ⟨hk, hn⟩ := hk
  simp only [go_sem]
  refine aD ?_
  refine cnd rfl (fun h => ?_) (fun h => ?_)
  ·simp only [decide_eq_true_eq, Int.ofNat_lt] at h
   have hs := jL wFile l h
   have ht := kY wFile l (k + 1)
   by_cases h2 : n - (l.length : Nat) - (wsum wFile (l.take k) : Nat) - (wFile l[k] : Nat) < 0
   ·have e : bP n (bY l) = -1 := by rw [aS (by unfold bY; omega)]
    have q0 := @h; have q1 := aS h2; refine mM (sU l[k] _ ⟨hn, by omega⟩ (hw.2 _ (List.getElem_mem h))) ?_
    exact aA ⟨⟨_, rfl, by simp only [go_sem, e]⟩, trivial⟩
   ·have q0 := @h; have q1 := aY h2; have q2 := @h2; refine mF (sU l[k] _ ⟨hn, by omega⟩ (hw.2 _ (List.getElem_mem h))) ?_
    refine aF (k + 1) ?_ ?_ ?_
    ·simp only [go_sem]; simp; omega
    ·omega
    ·omega
  ·simp only [decide_eq_false_iff_not] at h
   have e0 : k = l.length := by omega
   subst e0
   rw [List.take_length] at hn
   have e : bP n (bY l) = n - (l.length : Nat) - (wsum wFile l : Nat) := by rw [aY (by unfold bY; omega)]; unfold bY; omega
   refine aD ?_
   exact aA ⟨⟨_, rfl, by simp only [go_sem, e, List.take_length]⟩, trivial⟩
end Go.Proofs.YteaaopodnbjpoaaGreat
end
section
set_option linter.all false
set_option maxHeartbeats 1000000
namespace Go.Proofs.YteaaopodnbjpoaaGreat
open Go Go.Sx Go.RowKit Go.Proofs
structure TStore where
 fSchema : List TField
 fFiles : List TFile
 fNextID : Int
@[go_sem] def b5e (x : TStore) : List D := [.sl (x.fSchema.map bH), .sl (x.fFiles.map bB), iv x.fNextID]
@[go_sem] def cZ (x : TStore) : SV := .g [.d (.sl (x.fSchema.map bH)), .d (.sl (x.fFiles.map bB)), .d (iv x.fNextID)]
@[go_sem] def xI (x : TStore) : SV := .g [.w 196 2 (x.fSchema.map bH), .w 70 5 (x.fFiles.map bB), .d (iv x.fNextID)]
def aL (x : TStore) : Nat := aT x.fSchema + bY x.fFiles
def yN (x : TStore) : Prop := a0U x.fSchema ∧ a3j x.fFiles ∧ inR .i64 x.fNextID
def b9C (l : List TStore) : Nat := l.length + wsum aL l
def b9t (l : List TStore) : Prop := l.length ≤ 9223372036854775807 ∧ ∀ x ∈ l, yN x
theorem b5f {n : Nat} {r : List D} (h : ShD tt n 25 r) : ∃ x : TStore, r = b5e x ∧ yN x := by
 match n, h with
 | n + 1, ⟨a0, b0, e0, h0, a1, b1, e1, h1, a2, b2, e2, h2, ee⟩ =>
  obtain ⟨x0, rfl, p0⟩ := b3i h0
  obtain ⟨x1, rfl, p1⟩ := b5d h1
  obtain ⟨x2, rfl, p2⟩ := a0S h2
  have ee' : b2 = [] := ee
  subst ee' e2 e1 e0
  exact ⟨⟨x0, x1, x2⟩, rfl, p0, p1, p2⟩
theorem vB (x : TStore) (n : Int) (h0 : 0 ≤ n ∧ n ≤ 1048576) (hw : yN x) : FnC Tryz.prog 36 [cZ x, oi n] (oi (bP n (aL x))) := by
 refine ent Tryz.func36 rfl Tryz.call36 rfl (fun C => ?_); simp only [go_sem, st0, Tryz.ntmps36]
 unfold yN at hw
 by_cases hc0 : n - (aT x.fSchema : Nat) < 0
 ·have e : bP n (aL x) = -1 := by rw [aS (by unfold aL; omega)]
  have q0 := aS hc0; have q1 := @hc0; refine mM (xH x.fSchema (n) (by omega) hw.1) ?_
  exact aA ⟨⟨_, rfl, by simp only [go_sem, e]⟩, trivial⟩
 by_cases hc1 : n - (aT x.fSchema : Nat) - (bY x.fFiles : Nat) < 0
 ·have e : bP n (aL x) = -1 := by rw [aS (by unfold aL; omega)]
  have q0 := aY hc0; have q1 := @hc0; have q2 := aS hc1; have q3 := @hc1; refine a0c (xH x.fSchema (n) (by omega) hw.1) (a4g x.fFiles (n - (aT x.fSchema : Nat)) (by omega) hw.2.1) ?_
  exact aA ⟨⟨_, rfl, by simp only [go_sem, e]⟩, trivial⟩
 have e : bP n (aL x) = n - (aT x.fSchema : Nat) - (bY x.fFiles : Nat) := by rw [aY (by unfold aL; omega)]; unfold aL; omega
 have q0 := aY hc0; have q1 := @hc0; have q2 := aY hc1; have q3 := @hc1; refine a0c (xH x.fSchema (n) (by omega) hw.1) (a4g x.fFiles (n - (aT x.fSchema : Nat)) (by omega) hw.2.1) ?_
 exact aA ⟨⟨_, rfl, by simp only [go_sem, e]⟩, trivial⟩
theorem b0G (x : TStore) (hx : aL x ≤ 1048576) : FnC Tryz.prog 44 [cZ x] (xI x) := by
 unfold aL at hx
 refine ent Tryz.func44 rfl Tryz.call44 rfl (fun C => ?_); simp only [go_sem, st0, Tryz.ntmps44]
 refine a3S (a8Q x.fSchema (by omega)) (b0E x.fFiles (by omega)) ?_
 exact aA ⟨⟨_, rfl, by simp only [go_sem]⟩, trivial⟩
theorem b0H (x : TStore) (hx : aL x ≤ 67108864) : FnC Tryz.prog 52 [cZ x, cZ x] (ob true) := by
 unfold aL at hx
 refine ent Tryz.func52 rfl Tryz.call52 rfl (fun C => ?_); simp only [go_sem, st0, Tryz.ntmps52]
 refine a3S (a8R x.fSchema (by omega)) (b0F x.fFiles (by omega)) ?_
 exact aA ⟨⟨_, rfl, by simp only [go_sem]⟩, trivial⟩
end Go.Proofs.YteaaopodnbjpoaaGreat
end
section
set_option linter.all false
set_option maxHeartbeats 1000000
namespace Go.Proofs.YteaaopodnbjpoaaGreat
open Go Go.Sx Go.RowKit Go.Proofs
structure TNode where
 fOp : Int
 fLeft : Int
 fRight : Int
 fName : ByteArray
 fValue : TValue
@[go_sem] def bC (x : TNode) : List D := [iv x.fOp, iv x.fLeft, iv x.fRight, sv x.fName, iv x.fValue.fKind, iv x.fValue.fInt, sv x.fValue.fStr]
@[go_sem] def wK (x : TNode) : SV := .g [.d (iv x.fOp), .d (iv x.fLeft), .d (iv x.fRight), .d (sv x.fName), .d (iv x.fValue.fKind), .d (iv x.fValue.fInt), .d (sv x.fValue.fStr)]
def wNode (x : TNode) : Nat := x.fName.size + gY x.fValue
def a4h (x : TNode) : Prop := inR .i64 x.fOp ∧ inR .i64 x.fLeft ∧ inR .i64 x.fRight ∧ x.fName.size ≤ 9223372036854775807 ∧ uY x.fValue
def bT (l : List TNode) : Nat := l.length + wsum wNode l
def a3k (l : List TNode) : Prop := l.length ≤ 9223372036854775807 ∧ ∀ x ∈ l, a4h x
theorem b6O {n : Nat} {r : List D} (h : ShD tt n 217 r) : ∃ x : TNode, r = bC x ∧ a4h x := by
 match n, h with
 | n + 1, ⟨a0, b0, e0, h0, a1, b1, e1, h1, a2, b2, e2, h2, a3, b3, e3, h3, a4, b4, e4, h4, ee⟩ =>
  obtain ⟨x0, rfl, p0⟩ := a0S h0
  obtain ⟨x1, rfl, p1⟩ := a0S h1
  obtain ⟨x2, rfl, p2⟩ := a0S h2
  obtain ⟨x3, rfl, p3⟩ := b3h h3
  obtain ⟨x4, rfl, p4⟩ := a8P h4
  have ee' : b4 = [] := ee
  subst ee' e4 e3 e2 e1 e0
  exact ⟨⟨x0, x1, x2, x3, x4⟩, rfl, p0, p1, p2, p3, p4⟩
theorem b5g {n : Nat} {r : List D} (h : ShD tt n 61 r) : ∃ l : List TNode, r = [.sl (l.map bC)] ∧ a3k l := by
 match n, h with
 | n + 1, ⟨rows, h, hm, hr⟩ =>
  obtain ⟨l, rfl, hl⟩ := lU bC a4h (fun r h => b6O (hr r h))
  exact ⟨l, h, by unfold maxLen at hm; simpa using hm, hl⟩
theorem a6h (x : TNode) (n : Int) (h0 : 0 ≤ n ∧ n ≤ 1048576) (hw : a4h x) : FnC Tryz.prog 196 [wK x, oi n] (oi (bP n (wNode x))) := by
 refine ent Tryz.func196 rfl Tryz.call196 rfl (fun C => ?_); simp only [go_sem, st0, Tryz.ntmps196]
 unfold a4h at hw
 by_cases hc0 : n - (x.fName.size : Nat) < 0
 ·have e : bP n (wNode x) = -1 := by rw [aS (by unfold wNode; omega)]
  have q0 := @hc0; refine fU ?_
  exact aA ⟨⟨_, rfl, by simp only [go_sem, e]⟩, trivial⟩
 by_cases hc1 : n - (x.fName.size : Nat) - (gY x.fValue : Nat) < 0
 ·have e : bP n (wNode x) = -1 := by rw [aS (by unfold wNode; omega)]
  have q0 := @hc0; have q1 := aS hc1; have q2 := @hc1; refine mF (uZ x.fValue (n - (x.fName.size : Nat)) (by omega) hw.2.2.2.2) ?_
  exact aA ⟨⟨_, rfl, by simp only [go_sem, e]⟩, trivial⟩
 have e : bP n (wNode x) = n - (x.fName.size : Nat) - (gY x.fValue : Nat) := by rw [aY (by unfold wNode; omega)]; unfold wNode; omega
 have q0 := @hc0; have q1 := aY hc1; have q2 := @hc1; refine mF (uZ x.fValue (n - (x.fName.size : Nat)) (by omega) hw.2.2.2.2) ?_
 exact aA ⟨⟨_, rfl, by simp only [go_sem, e]⟩, trivial⟩
theorem b3l (x : TNode) (hx : wNode x ≤ 1048576) : FnC Tryz.prog 198 [wK x] (wK x) := by
 unfold wNode at hx
 refine ent Tryz.func198 rfl Tryz.call198 rfl (fun C => ?_); simp only [go_sem, st0, Tryz.ntmps198]
 refine gP (a4a x.fValue (by omega)) ?_
 exact aA ⟨⟨_, rfl, by simp only [go_sem]⟩, trivial⟩
theorem b3m (x : TNode) (hx : wNode x ≤ 67108864) : FnC Tryz.prog 199 [wK x, wK x] (ob true) := by
 unfold wNode at hx
 refine ent Tryz.func199 rfl Tryz.call199 rfl (fun C => ?_); simp only [go_sem, st0, Tryz.ntmps199]
 refine gP (a4b x.fValue (by omega)) ?_
 exact aA ⟨⟨_, rfl, by simp only [go_sem]⟩, trivial⟩
theorem b0I (l : List TNode) (hl : bT l ≤ 1048576) : FnC Tryz.prog 127 [.o (.d (.sl (l.map bC)))] (.o (.w 158 7 (l.map bC))) := by
 unfold bT at hl
 refine ent Tryz.func127 rfl Tryz.call127 rfl (fun C => ?_); simp only [go_sem, st0, Tryz.ntmps127]
 refine aD ?_
 refine aN (α := Nat) (fun k => [(4, oi k)]) (fun k => [(0, .row 158 7 (lW bC [iv 0, iv 0, iv 0, sv ⟨#[]⟩, iv 0, iv 0, sv ⟨#[]⟩] l k) true)]) (fun k => k ≤ l.length) (fun k => l.length - k) 0 (fun _ => ?_) ?_ ?_ (fun k hk => ?_)
 ·simp only [go_sem]
 ·simp only [go_sem]; simp [jS]
 ·simp
 ·simp only [go_sem]
  refine aD ?_
  refine cnd rfl (fun h => ?_) (fun h => ?_)
  ·simp only [decide_eq_true_eq, Int.ofNat_lt] at h
   have hw := bA wNode l h
   have q0 := @h; refine fC (b3l l[k] (by omega)) ?_
   refine aF (k + 1) ?_ ?_ ?_
   ·simp only [go_sem]; simp [← lJ, h, bC]
   ·omega
   ·omega
  ·simp only [decide_eq_false_iff_not] at h
   have e : k = l.length := by omega
   subst e
   refine aD ?_
   exact aA ⟨⟨_, rfl, by simp only [go_sem, lK]⟩, trivial⟩
theorem b0J (l : List TNode) (hl : bT l ≤ 67108864) : FnC Tryz.prog 128 [.o (.d (.sl (l.map bC))), .o (.d (.sl (l.map bC)))] (ob true) := by
 unfold bT at hl
 refine ent Tryz.func128 rfl Tryz.call128 rfl (fun C => ?_); simp only [go_sem, st0, Tryz.ntmps128]
 refine aD ?_
 refine aN (α := Nat) (fun k => [(5, oi k)]) (fun _ => []) (fun k => k ≤ l.length) (fun k => l.length - k) 0 (fun _ => ?_) ?_ ?_ (fun k hk => ?_)
 ·simp only [go_sem]
 ·simp only [go_sem]; simp
 ·simp
 ·simp only [go_sem]
  refine aD ?_
  refine cnd rfl (fun h => ?_) (fun h => ?_)
  ·simp only [decide_eq_true_eq, Int.ofNat_lt] at h
   have hw := bA wNode l h
   have q0 := @h; refine fC (b3m l[k] (by omega)) ?_
   refine aF (k + 1) ?_ ?_ ?_
   ·simp only [go_sem]; simp
   ·omega
   ·omega
  ·simp only [decide_eq_false_iff_not] at h
   refine aD ?_
   exact aA ⟨⟨_, rfl, by simp only [go_sem]⟩, trivial⟩
theorem a4i (l : List TNode) (n : Int) (h0 : 0 ≤ n ∧ n ≤ 1048576) (hw : a3k l) : FnC Tryz.prog 125 [.o (.d (.sl (l.map bC))), oi n] (oi (bP n (bT l))) := by
 unfold a3k at hw
 refine ent Tryz.func125 rfl Tryz.call125 rfl (fun C => ?_); simp only [go_sem, st0, Tryz.ntmps125]
 by_cases hc : n - (l.length : Nat) < 0
 ·have e : bP n (bT l) = -1 := by rw [aS (by unfold bT; omega)]
  have q0 := @hc; refine fU ?_
  exact aA ⟨⟨_, rfl, by simp only [go_sem, e]⟩, trivial⟩
 have q0 := @hc; refine fU ?_
 refine aN (α := Nat) (fun k => [(5, oi k), (1, oi (n - (l.length : Nat) - (wsum wNode (l.take k) : Nat)))]) (fun _ => []) (fun k => k ≤ l.length ∧ 0 ≤ n - (l.length : Nat) - (wsum wNode (l.take k) : Nat)) (fun k => l.length - k) 0 (fun _ => ?_) ?_ ?_ (fun k hk => ?_)
 ·simp only [go_sem]
 ·simp only [go_sem]; simp [wsum]
 ·simp [wsum]; omega
 ·obtain ⟨hk, hn⟩ := hk
  simp only [go_sem]
  refine aD ?_
  refine cnd rfl (fun h => ?_) (fun h => ?_)
  ·simp only [decide_eq_true_eq, Int.ofNat_lt] at h
   have hs := jL wNode l h
   have ht := kY wNode l (k + 1)
   by_cases h2 : n - (l.length : Nat) - (wsum wNode (l.take k) : Nat) - (wNode l[k] : Nat) < 0
   ·have e : bP n (bT l) = -1 := by rw [aS (by unfold bT; omega)]
    have q0 := @h; have q1 := aS h2; refine mM (a6h l[k] _ ⟨hn, by omega⟩ (hw.2 _ (List.getElem_mem h))) ?_
    exact aA ⟨⟨_, rfl, by simp only [go_sem, e]⟩, trivial⟩
   ·have q0 := @h; have q1 := aY h2; have q2 := @h2; refine mF (a6h l[k] _ ⟨hn, by omega⟩ (hw.2 _ (List.getElem_mem h))) ?_
    refine aF (k + 1) ?_ ?_ ?_
    ·simp only [go_sem]; simp; omega
    ·omega
    ·omega
  ·simp only [decide_eq_false_iff_not] at h
   have e0 : k = l.length := by omega
   subst e0
   rw [List.take_length] at hn
   have e : bP n (bT l) = n - (l.length : Nat) - (wsum wNode l : Nat) := by rw [aY (by unfold bT; omega)]; unfold bT; omega
   refine aD ?_
   exact aA ⟨⟨_, rfl, by simp only [go_sem, e, List.take_length]⟩, trivial⟩
end Go.Proofs.YteaaopodnbjpoaaGreat
end
section
set_option linter.all false
set_option maxHeartbeats 1000000
namespace Go.Proofs.YteaaopodnbjpoaaGreat
open Go Go.Sx Go.RowKit Go.Proofs
structure TDir where
 fName : ByteArray
 fQuery : List TNode
@[go_sem] def aM (x : TDir) : List D := [sv x.fName, .sl (x.fQuery.map bC)]
@[go_sem] def a0W (x : TDir) : SV := .g [.d (sv x.fName), .d (.sl (x.fQuery.map bC))]
@[go_sem] def b9u (x : TDir) : SV := .g [.d (sv x.fName), .w 158 7 (x.fQuery.map bC)]
def wDir (x : TDir) : Nat := x.fName.size + bT x.fQuery
def a6i (x : TDir) : Prop := x.fName.size ≤ 9223372036854775807 ∧ a3k x.fQuery
def aP (l : List TDir) : Nat := l.length + wsum wDir l
def a4j (l : List TDir) : Prop := l.length ≤ 9223372036854775807 ∧ ∀ x ∈ l, a6i x
theorem b5h {n : Nat} {r : List D} (h : ShD tt n 63 r) : ∃ x : TDir, r = aM x ∧ a6i x := by
 match n, h with
 | n + 1, ⟨a0, b0, e0, h0, a1, b1, e1, h1, ee⟩ =>
  obtain ⟨x0, rfl, p0⟩ := b3h h0
  obtain ⟨x1, rfl, p1⟩ := b5g h1
  have ee' : b1 = [] := ee
  subst ee' e1 e0
  exact ⟨⟨x0, x1⟩, rfl, p0, p1⟩
theorem b6P {n : Nat} {r : List D} (h : ShD tt n 26 r) : ∃ l : List TDir, r = [.sl (l.map aM)] ∧ a4j l := by
 match n, h with
 | n + 1, ⟨rows, h, hm, hr⟩ =>
  obtain ⟨l, rfl, hl⟩ := lU aM a6i (fun r h => b5h (hr r h))
  exact ⟨l, h, by unfold maxLen at hm; simpa using hm, hl⟩
theorem a0X (x : TDir) (n : Int) (h0 : 0 ≤ n ∧ n ≤ 1048576) (hw : a6i x) : FnC Tryz.prog 66 [a0W x, oi n] (oi (bP n (wDir x))) := by
 refine ent Tryz.func66 rfl Tryz.call66 rfl (fun C => ?_); simp only [go_sem, st0, Tryz.ntmps66]
 unfold a6i at hw
 by_cases hc0 : n - (x.fName.size : Nat) < 0
 ·have e : bP n (wDir x) = -1 := by rw [aS (by unfold wDir; omega)]
  have q0 := @hc0; refine fU ?_
  exact aA ⟨⟨_, rfl, by simp only [go_sem, e]⟩, trivial⟩
 by_cases hc1 : n - (x.fName.size : Nat) - (bT x.fQuery : Nat) < 0
 ·have e : bP n (wDir x) = -1 := by rw [aS (by unfold wDir; omega)]
  have q0 := @hc0; have q1 := aS hc1; have q2 := @hc1; refine mF (a4i x.fQuery (n - (x.fName.size : Nat)) (by omega) hw.2) ?_
  exact aA ⟨⟨_, rfl, by simp only [go_sem, e]⟩, trivial⟩
 have e : bP n (wDir x) = n - (x.fName.size : Nat) - (bT x.fQuery : Nat) := by rw [aY (by unfold wDir; omega)]; unfold wDir; omega
 have q0 := @hc0; have q1 := aY hc1; have q2 := @hc1; refine mF (a4i x.fQuery (n - (x.fName.size : Nat)) (by omega) hw.2) ?_
 exact aA ⟨⟨_, rfl, by simp only [go_sem, e]⟩, trivial⟩
theorem a8U (x : TDir) (hx : wDir x ≤ 1048576) : FnC Tryz.prog 68 [a0W x] (b9u x) := by
 unfold wDir at hx
 refine ent Tryz.func68 rfl Tryz.call68 rfl (fun C => ?_); simp only [go_sem, st0, Tryz.ntmps68]
 refine gP (b0I x.fQuery (by omega)) ?_
 exact aA ⟨⟨_, rfl, by simp only [go_sem]⟩, trivial⟩
theorem a8V (x : TDir) (hx : wDir x ≤ 67108864) : FnC Tryz.prog 70 [a0W x, a0W x] (ob true) := by
 unfold wDir at hx
 refine ent Tryz.func70 rfl Tryz.call70 rfl (fun C => ?_); simp only [go_sem, st0, Tryz.ntmps70]
 refine gP (b0J x.fQuery (by omega)) ?_
 exact aA ⟨⟨_, rfl, by simp only [go_sem]⟩, trivial⟩
theorem b3n (l : List TDir) (hl : aP l ≤ 1048576) : FnC Tryz.prog 45 [.o (.d (.sl (l.map aM)))] (.o (.w 73 2 (l.map aM))) := by
 unfold aP at hl
 refine ent Tryz.func45 rfl Tryz.call45 rfl (fun C => ?_); simp only [go_sem, st0, Tryz.ntmps45]
 refine aD ?_
 refine aN (α := Nat) (fun k => [(4, oi k)]) (fun k => [(0, .row 73 2 (lW aM [sv ⟨#[]⟩, .sl []] l k) true)]) (fun k => k ≤ l.length) (fun k => l.length - k) 0 (fun _ => ?_) ?_ ?_ (fun k hk => ?_)
 ·simp only [go_sem]
 ·simp only [go_sem]; simp [jS]
 ·simp
 ·simp only [go_sem]
  refine aD ?_
  refine cnd rfl (fun h => ?_) (fun h => ?_)
  ·simp only [decide_eq_true_eq, Int.ofNat_lt] at h
   have hw := bA wDir l h
   have q0 := @h; refine fC (a8U l[k] (by omega)) ?_
   refine aF (k + 1) ?_ ?_ ?_
   ·simp only [go_sem]; simp [← lJ, h, aM]
   ·omega
   ·omega
  ·simp only [decide_eq_false_iff_not] at h
   have e : k = l.length := by omega
   subst e
   refine aD ?_
   exact aA ⟨⟨_, rfl, by simp only [go_sem, lK]⟩, trivial⟩
theorem b3o (l : List TDir) (hl : aP l ≤ 67108864) : FnC Tryz.prog 53 [.o (.d (.sl (l.map aM))), .o (.d (.sl (l.map aM)))] (ob true) := by
 unfold aP at hl
 refine ent Tryz.func53 rfl Tryz.call53 rfl (fun C => ?_); simp only [go_sem, st0, Tryz.ntmps53]
 refine aD ?_
 refine aN (α := Nat) (fun k => [(5, oi k)]) (fun _ => []) (fun k => k ≤ l.length) (fun k => l.length - k) 0 (fun _ => ?_) ?_ ?_ (fun k hk => ?_)
 ·simp only [go_sem]
 ·simp only [go_sem]; simp
 ·simp
 ·simp only [go_sem]
  refine aD ?_
  refine cnd rfl (fun h => ?_) (fun h => ?_)
  ·simp only [decide_eq_true_eq, Int.ofNat_lt] at h
   have hw := bA wDir l h
   have q0 := @h; refine fC (a8V l[k] (by omega)) ?_
   refine aF (k + 1) ?_ ?_ ?_
   ·simp only [go_sem]; simp
   ·omega
   ·omega
  ·simp only [decide_eq_false_iff_not] at h
   refine aD ?_
   exact aA ⟨⟨_, rfl, by simp only [go_sem]⟩, trivial⟩
theorem a1M (l : List TDir) (n : Int) (h0 : 0 ≤ n ∧ n ≤ 1048576) (hw : a4j l) : FnC Tryz.prog 37 [.o (.d (.sl (l.map aM))), oi n] (oi (bP n (aP l))) := by
 unfold a4j at hw
 refine ent Tryz.func37 rfl Tryz.call37 rfl (fun C => ?_); simp only [go_sem, st0, Tryz.ntmps37]
 by_cases hc : n - (l.length : Nat) < 0
 ·have e : bP n (aP l) = -1 := by rw [aS (by unfold aP; omega)]
  have q0 := @hc; refine fU ?_
  exact aA ⟨⟨_, rfl, by simp only [go_sem, e]⟩, trivial⟩
 have q0 := @hc; refine fU ?_
 refine aN (α := Nat) (fun k => [(5, oi k), (1, oi (n - (l.length : Nat) - (wsum wDir (l.take k) : Nat)))]) (fun _ => []) (fun k => k ≤ l.length ∧ 0 ≤ n - (l.length : Nat) - (wsum wDir (l.take k) : Nat)) (fun k => l.length - k) 0 (fun _ => ?_) ?_ ?_ (fun k hk => ?_)
 ·simp only [go_sem]
 ·simp only [go_sem]; simp [wsum]
 ·simp [wsum]; omega
 ·obtain ⟨hk, hn⟩ := hk
  simp only [go_sem]
  refine aD ?_
  refine cnd rfl (fun h => ?_) (fun h => ?_)
  ·simp only [decide_eq_true_eq, Int.ofNat_lt] at h
   have hs := jL wDir l h
   have ht := kY wDir l (k + 1)
   by_cases h2 : n - (l.length : Nat) - (wsum wDir (l.take k) : Nat) - (wDir l[k] : Nat) < 0
   ·have e : bP n (aP l) = -1 := by rw [aS (by unfold aP; omega)]
    have q0 := @h; have q1 := aS h2; refine mM (a0X l[k] _ ⟨hn, by omega⟩ (hw.2 _ (List.getElem_mem h))) ?_
    exact aA ⟨⟨_, rfl, by simp only [go_sem, e]⟩, trivial⟩
   ·have q0 := @h; have q1 := aY h2; have q2 := @h2; refine mF (a0X l[k] _ ⟨hn, by omega⟩ (hw.2 _ (List.getElem_mem h))) ?_
    refine aF (k + 1) ?_ ?_ ?_
    ·simp only [go_sem]; simp; omega
    ·omega
    ·omega
  ·simp only [decide_eq_false_iff_not] at h
   have e0 : k = l.length := by omega
   subst e0
   rw [List.take_length] at hn
   have e : bP n (aP l) = n - (l.length : Nat) - (wsum wDir l : Nat) := by rw [aY (by unfold aP; omega)]; unfold aP; omega
   refine aD ?_
   exact aA ⟨⟨_, rfl, by simp only [go_sem, e, List.take_length]⟩, trivial⟩
end Go.Proofs.YteaaopodnbjpoaaGreat
end
end
section
section
set_option linter.all false
namespace Go.Sx
open Go Go.RowKit
def rF {α : Type} (e : α → Value) (l : List α) : List (List D) := l.map fun x => [.v (e x)]
theorem iV {α : Type} (e : α → Value) (l : List α) : (rF e l).flatten = l.map fun x => D.v (e x) := by
 induction l with
 | nil => rfl
 | cons x l ih => simp only [rF, List.map_cons, List.flatten_cons] at ih ⊢; rw [ih]; rfl
theorem scal_down {α : Type} [Inhabited α] {e : α → Value} {V : View} {w : World} {ty : Nat} {l : List α} {y : Value} {S : List Nat} (h : RowR V w ty 1 (rF e l) y S) :
    ((∃ ao, y = .slice ao 0 0) ∧ l = [] ∧ S = []) ∨ ∃ b cap c, y = .slice (some ⟨b, 0, none⟩) l.length cap ∧ l.length ≤ cap ∧ cap ≤ maxLen ∧ w.heap[b]? = some (.cells c ty (0, 0)) ∧ c.size = cap ∧ Sort.Holds e w b 0 l.toArray ∧ V b = none ∧ S = [b] := by
 obtain ⟨h0, ys, Ss, h1, h3⟩ := h
 rcases h3 with ⟨ha, hb, hc⟩ | ⟨b, cap, c, rfl, e3, e4, e5, e6, e7, e8, rfl⟩
 ·exact .inl ⟨ha, by simpa [rF] using hb, hc⟩
 ·have key : ∀ j (hj : j < l.length), ys[j]? = some (e l[j]) ∧ Ss[j]? = some [] := fun j hj => by
   have hd : (rF e l).flatten[j]? = some (.v (e l[j])) := by rw [iV]; simp [hj]
   have hlt : j < ys.length := by rw [h1.1]; exact (List.getElem?_eq_some_iff.1 hd).1
   have hls : j < Ss.length := by rw [h1.2.1]; exact (List.getElem?_eq_some_iff.1 hd).1
   have hl := h1.2.2 j _ _ _ hd (List.getElem?_eq_getElem hlt) (List.getElem?_eq_getElem hls)
   rw [List.getElem?_eq_getElem hlt, List.getElem?_eq_getElem hls]
   generalize ys[j] = z at hl ⊢
   generalize Ss[j] = s at hl ⊢
   cases hl
   exact ⟨rfl, rfl⟩
  have hlen : Ss.length = l.length := by rw [h1.2.1, iV, List.length_map]
  refine .inr ⟨b, cap, c, by simp [rF], by simpa [rF] using e3, e4, e5, by simpa using e6, fun j hj => ?_, e8, ?_⟩
  ·have hj' : j < l.length := by simpa using hj
   have hy := gT e7 (key j hj').1
   refine ⟨?_, by simp [World.frozen?, e5]⟩
   simp only [World.cell?, e5, Nat.zero_add]
   simp only [Option.isSome_none, Bool.false_eq_true, if_false]
   rw [← Array.getElem?_toList, hy]
   congr 1
   rw [getElem!_pos l.toArray j (by simpa using hj')]
   simp
  ·congr 1
   refine List.flatten_eq_nil_iff.2 fun s hs => ?_
   obtain ⟨j, hj, rfl⟩ := List.mem_iff_getElem.1 hs
   have := (key j (by omega)).2
   rw [List.getElem?_eq_getElem hj] at this
   exact Option.some.inj this
theorem b1U {α : Type} [Inhabited α] {e : α → Value} (hs : ∀ x, scalar (e x) = true) {V : View} {w w' : World} {b ty cap n : Nat} {c : Array Value} {d : Array α} {l : List α} {os : Array Obj} (hb : w.heap[b]? = some (.cells c ty (0, 0)))
    (hc : c.size = cap) (hcap : cap ≤ maxLen) (hd : d.size ≤ cap) (hw : w' = Sort.grow (Sort.putRow e (Sort.ahead w n) b 0 d) os) (hl : l <+: d.toList) (hV : V b = none) :
    RowR V w' ty 1 (rF e l) (.slice (some ⟨b, 0, none⟩) l.length cap) [b] ∧ w.grownBy w' (some b) := by
 have hlt : b < w.heap.size := (Array.getElem?_eq_some_iff.1 hb).1
 have hle : l.length ≤ d.size := by have := hl.length_le; simpa using this
 have hheap : w'.heap[b]? = some (.cells (Sort.putCells e 0 d c) ty (0, 0)) := by
  subst hw
  rw [Sort.heap_grow_old _ _ (by simp [Sort.putRow, Sort.mapBlock, Sort.ahead]; exact hlt)]
  simp only [Sort.putRow, Sort.mapBlock, Sort.ahead, Array.getElem?_modify, if_true, hb, Option.map_some, Sort.onCells]
 refine ⟨⟨fun r hr => ?_, l.map e, List.replicate l.length [], ⟨by rw [iV]; simp, by rw [iV]; simp, fun k dd y s h1 h2 h3 => ?_⟩, .inr ⟨b, cap, _, by simp [rF], by simp [rF]; omega, hcap, hheap, by simp [Sort.putCells, hc], ?_, hV, ?_⟩⟩, ?_⟩
 ·obtain ⟨x, _, rfl⟩ := List.mem_map.1 hr; rfl
 ·rw [iV, List.getElem?_map] at h1
  rw [List.getElem?_map] at h2
  cases hk : l[k]? with
  | none => rw [hk] at h1; cases h1
  | some x =>
   rw [hk] at h1 h2
   cases h1; cases h2
   rw [List.getElem?_replicate] at h3
   split at h3
   ·cases h3; exact .v _ (hs x)
   ·cases h3
 ·refine List.prefix_iff_eq_take.2 ?_
  apply List.ext_getElem?
  intro j
  rw [List.getElem?_take, List.getElem?_map]
  simp only [List.length_map]
  by_cases hj : j < l.length
  ·have hjc : j < c.size := by omega
   have hdj : d.toList[j]? = some l[j] := gT hl (List.getElem?_eq_getElem hj)
   rw [Array.getElem?_toList, Array.getElem?_eq_getElem (by omega)] at hdj
   have h1 : (Sort.putCells e 0 d c).toList[j]? = some (e l[j]) := by
    rw [Array.getElem?_toList]
    simp only [Sort.putCells, Array.getElem?_mapIdx, Array.getElem?_eq_getElem hjc, Option.map_some]
    rw [if_pos (by omega), Nat.sub_zero, getElem!_pos d j (by omega), Option.some.inj hdj]
   rw [if_pos hj, h1, List.getElem?_eq_getElem hj]; rfl
  ·rw [if_neg hj, List.getElem?_eq_none (by omega)]; rfl
 ·simp
 ·subst hw
  refine ⟨rfl, rfl, rfl, by simp [Sort.putRow, Sort.mapBlock, Sort.ahead], fun k hk hne => ?_⟩
  rw [Sort.heap_grow_old _ _ (by simp [Sort.putRow, Sort.mapBlock, Sort.ahead]; exact hk)]
  simp only [Sort.putRow, Sort.mapBlock, Sort.ahead, Array.getElem?_modify]
  rw [if_neg (fun e => hne (by rw [e]))]
end Go.Sx
end
section
set_option linter.all false
namespace Go.Sx
open Go Go.RowKit
structure RowAt (w wr : World) (b ty N : Nat) (F : List Value) : Prop where
 cells : ∃ c : Array Value, wr.heap[b]? = some (.cells c ty (0, 0)) ∧ c.size = N ∧ F <+: c.toList
 grown : w.grownBy wr (some b)
theorem a0R (w : World) (r : Option Nat) : w.grownBy w r := ⟨rfl, rfl, rfl, Nat.le_refl _, fun _ _ _ => rfl⟩
theorem rG {w w1 w2 : World} {r : Option Nat} (h1 : w.grownBy w1 r) (h2 : w1.grownBy w2 r) : w.grownBy w2 r :=
 ⟨h2.os.trans h1.os, h2.tape.trans h1.tape, h2.output.trans h1.output, Nat.le_trans h1.size h2.size, fun k hk hn => (h2.block k (Nat.lt_of_lt_of_le hk h1.size) hn).trans (h1.block k hk hn)⟩
theorem rH {w w' : World} (r : Option Nat) (h : Below w.heap.size w w') : w.grownBy w' r := ⟨h.os, h.tape, h.output, h.size, fun k hk _ => h.block k hk⟩
variable {w wr : World} {b ty N : Nat} {F : List Value}
theorem RowAt.lt (h : RowAt w wr b ty N F) : b < wr.heap.size := by
 obtain ⟨c, h1, _⟩ := h.cells
 exact (Array.getElem?_eq_some_iff.1 h1).1
theorem RowAt.le (h : RowAt w wr b ty N F) : F.length ≤ N := by
 obtain ⟨c, _, h2, h3⟩ := h.cells
 have := h3.length_le
 simpa [h2] using this
theorem RowAt.cell (h : RowAt w wr b ty N F) {t : Nat} {v : Value} (ht : F[t]? = some v) : wr.cell? ⟨b, t, none⟩ = some v := by
 obtain ⟨c, h1, h2, h3⟩ := h.cells
 have := gT h3 ht
 simp only [World.cell?, h1, Option.isSome_none, Bool.false_eq_true, if_false]
 rw [← Array.getElem?_toList]; exact this
theorem RowAt.there (h : RowAt w wr b ty N F) {t : Nat} (ht : t < N) : (wr.cell? ⟨b, t, none⟩).isSome = true := by
 obtain ⟨c, h1, h2, h3⟩ := h.cells
 simp only [World.cell?, h1, Option.isSome_none, Bool.false_eq_true, if_false]
 simp [h2, ht]
theorem RowAt.frozen (h : RowAt w wr b ty N F) (t : Nat) : wr.frozen? ⟨b, t, none⟩ = false := by
 obtain ⟨c, h1, _⟩ := h.cells
 simp [World.frozen?, h1]
theorem RowAt.behind (h : RowAt w wr b ty N F) {w' : World} (hb : Below wr.heap.size wr w') : RowAt w w' b ty N F := by
 obtain ⟨c, h1, h2, h3⟩ := h.cells
 exact ⟨⟨c, by rw [hb.block b h.lt]; exact h1, h2, h3⟩, rG h.grown (rH _ hb)⟩
theorem a5u (F : List Value) (s : Nat) (v : Value) (c : List Value) (hF : F <+: c) (hs : s ≤ F.length) (hc : s < c.length) : F.take s ++ v :: F.drop (s + 1) <+: c.set s v := by
 obtain ⟨r, rfl⟩ := hF
 rcases Nat.lt_or_ge s F.length with h | h
 ·refine ⟨r, ?_⟩
  rw [List.set_append_left _ _ h, List.set_eq_take_append_cons_drop, if_pos h]
 ·have e : s = F.length := by omega
  subst e
  rw [List.take_of_length_le (Nat.le_refl _), List.drop_of_length_le (by omega), List.set_append_right _ _ (Nat.le_refl _), Nat.sub_self]
  cases r with
  | nil => simp at hc
  | cons x r => exact ⟨r, by simp⟩
theorem RowAt.set1 (h : RowAt w wr b ty N F) {s : Nat} (hs : s ≤ F.length) (hN : s < N) (v : Value) : RowAt w (wr.setCell ⟨b, s, none⟩ v) b ty N (F.take s ++ v :: F.drop (s + 1)) := by
 obtain ⟨c, h1, h2, h3⟩ := h.cells
 rw [Sort.setCell_eq]
 refine ⟨⟨c.setIfInBounds s v, ?_, by simp [h2], ?_⟩, rG h.grown ⟨rfl, rfl, rfl, by simp [Sort.mapBlock], fun k hk hne => ?_⟩⟩
 ·simp only [Sort.mapBlock, Array.getElem?_modify, if_true, h1, Option.map_some, Sort.onCells]
 ·rw [Array.toList_setIfInBounds]
  exact a5u F s v c.toList h3 hs (by simpa [h2] using hN)
 ·simp only [Sort.mapBlock, Array.getElem?_modify]
  rw [if_neg (fun e => hne (by rw [e]))]
theorem RowAt.set : ∀ (vs : List Value) {wr : World} {F : List Value} {s : Nat}, RowAt w wr b ty N F → s ≤ F.length → s + vs.length ≤ N → RowAt w (wr.setCells b s vs) b ty N (F.take s ++ vs ++ F.drop (s + vs.length))
 | [], wr, F, s, h, hs, hN => by simpa [World.setCells] using h
 | v :: vs, wr, F, s, h, hs, hN => by
  simp only [List.length_cons] at hN
  have h1 := h.set1 hs (by omega) v
  have h2 := RowAt.set vs (s := s + 1) h1 (by simp; omega) (by omega)
  rw [World.setCells]
  have e1 : (F.take s ++ v :: F.drop (s + 1)).take (s + 1) = F.take s ++ [v] := by
   rw [List.take_append, List.take_of_length_le (by simp; omega), List.length_take, Nat.min_eq_left hs, Nat.add_sub_cancel_left]; rfl
  have e2 : (F.take s ++ v :: F.drop (s + 1)).drop (s + 1 + vs.length) = F.drop (s + (vs.length + 1)) := by
   rw [List.drop_append, List.drop_of_length_le (by simp; omega), List.length_take, Nat.min_eq_left hs, List.nil_append, show s + 1 + vs.length - s = vs.length + 1 by omega, List.drop_succ_cons, List.drop_drop]
   congr 1; omega
  rw [e1, e2] at h2
  simpa [List.append_assoc] using h2
end Go.Sx
end
section
set_option linter.all false
namespace Go.Proofs.YteaaopodnbjpoaaGreat
open Go Go.Sx Go.RowKit Go.Proofs Go.Lib
structure DelInv {α : Type} (e : α → Value) (p : α → Bool) (xs : List α) (i j : Nat) (F : List Value) : Prop where
 len : F.length = xs.length
 ij : i < j
 jn : j ≤ xs.length
 lo : F.take i = ((xs.take j).filter fun x => !p x).map e
 hi : F.drop j = (xs.drop j).map e
 il : i = ((xs.take j).filter fun x => !p x).length
theorem zC {α : Type} (p : α → Bool) (xs : List α) (k : Nat) (h : ∀ j (hj : j < xs.length), j < k → p xs[j] = false) : (xs.take k).filter (fun x => !p x) = xs.take k := by
 refine List.filter_eq_self.2 fun x hx => ?_
 obtain ⟨j, hj, rfl⟩ := List.mem_iff_getElem.1 hx
 simp only [List.length_take] at hj
 rw [List.getElem_take, h j (by omega) (by omega)]; rfl
theorem DelInv.at {α : Type} {e : α → Value} {p : α → Bool} {xs : List α} {i j : Nat} {F : List Value} (h : DelInv e p xs i j F) (hj : j < xs.length) : F[j]? = some (e xs[j]) := by
 have h0 : (F.drop j)[0]? = ((xs.drop j).map e)[0]? := by rw [h.hi]
 rw [List.getElem?_drop, Nat.add_zero] at h0
 rw [h0, List.getElem?_map, List.getElem?_drop, Nat.add_zero, List.getElem?_eq_getElem hj]; rfl
theorem DelInv.start {α : Type} {e : α → Value} {p : α → Bool} {xs : List α} {k : Nat} (hk : k < xs.length) (h : ∀ j (hj : j < xs.length), j < k → p xs[j] = false) (hp : p xs[k] = true) : DelInv e p xs k (k + 1) (xs.map e) := by
 have e1 : (xs.take (k + 1)).filter (fun x => !p x) = xs.take k := by
  rw [List.take_succ_eq_append_getElem hk, List.filter_append, zC p xs k h]
  simp [hp]
 refine ⟨by simp, by omega, by omega, ?_, by simp, ?_⟩
 ·rw [e1, List.map_take]
 ·rw [e1]; simp; omega
theorem DelInv.keep {α : Type} {e : α → Value} {p : α → Bool} {xs : List α} {i j : Nat} {F : List Value} (h : DelInv e p xs i j F) (hj : j < xs.length) (hp : p xs[j] = false) : DelInv e p xs (i + 1) (j + 1) (F.take i ++ [e xs[j]] ++ F.drop (i + 1)) := by
 have e1 : (xs.take (j + 1)).filter (fun x => !p x) = (xs.take j).filter (fun x => !p x) ++ [xs[j]] := by
  rw [List.take_succ_eq_append_getElem hj, List.filter_append]
  simp [hp]
 have hl := h.len
 have hij := h.ij
 refine ⟨by simp; omega, by omega, by omega, ?_, ?_, ?_⟩
 ·rw [List.take_append_of_le_length (by simp; omega), List.take_of_length_le (by simp; omega), e1, List.map_append, h.lo]; rfl
 ·rw [List.drop_append, List.drop_of_length_le (by simp; omega), List.nil_append, List.drop_drop]
  have : F.drop (j + 1) = (xs.drop (j + 1)).map e := by rw [← List.drop_drop, h.hi, ← List.map_drop, List.drop_drop]
  rw [← this]
  congr 1
  simp; omega
 ·rw [e1, List.length_append, ← h.il]; rfl
theorem DelInv.skip {α : Type} {e : α → Value} {p : α → Bool} {xs : List α} {i j : Nat} {F : List Value} (h : DelInv e p xs i j F) (hj : j < xs.length) (hp : p xs[j] = true) : DelInv e p xs i (j + 1) F := by
 have e1 : (xs.take (j + 1)).filter (fun x => !p x) = (xs.take j).filter (fun x => !p x) := by
  rw [List.take_succ_eq_append_getElem hj, List.filter_append]
  simp [hp]
 have hij := h.ij
 exact ⟨h.len, by omega, by omega, by rw [e1]; exact h.lo, by rw [← List.drop_drop, h.hi, ← List.map_drop, List.drop_drop], by rw [e1]; exact h.il⟩
end Go.Proofs.YteaaopodnbjpoaaGreat
end
section
set_option linter.all false
set_option maxRecDepth 100000
namespace Go.Sx
open Go Go.RowKit
theorem RowAt.mod {V : View} {w W : World} {b ty N : Nat} {F : List Value} (hm : Mod V w) (hV : V b = none) (h : RowAt w W b ty N F) : Mod V W := fun k cs hk => by
 obtain ⟨c, t, fz, e1, e2⟩ := hm k cs hk
 exact ⟨c, t, fz, by rw [h.grown.block k (Array.getElem?_eq_some_iff.1 e1).1 (fun e => by cases e; rw [hV] at hk; cases hk)]; exact e1, e2⟩
def a2s (V : View) (b : Nat) (cs : List Value) : View := fun k => if k = b then some cs else V k
theorem b4W {V : View} {b : Nat} (hV : V b = none) (cs : List Value) : V.le (a2s V b cs) := fun k c hk => ⟨c, by
 unfold a2s
 rw [if_neg (fun e => by subst e; rw [hV] at hk; cases hk)]; exact hk, List.prefix_refl _⟩
theorem b3f {V : View} {w : World} {b ty N : Nat} {F : List Value} (hm : Mod V w) (h : RowAt w w b ty N F) : Mod (a2s V b F) w := fun k cs hk => by
 unfold a2s at hk
 split at hk
 ·cases hk
  rename_i e
  subst e
  obtain ⟨c, e1, _, e3⟩ := h.cells
  exact ⟨c, ty, (0, 0), e1, e3⟩
 ·exact hm k cs hk
theorem b3g {α : Type} {e : α → Value} (hs : ∀ x, scalar (e x) = true) {V : View} {b cap : Nat} {l : List α} (h1 : l.length ≤ cap) (h2 : cap ≤ maxLen) : Lay (a2s V b (l.map e)) (.sl (rF e l)) (.slice (some ⟨b, 0, none⟩) l.length cap) ((if (rF e l).isEmpty then [] else [b]) ++ (List.replicate l.length []).flatten) := by
 have := Lay.sl (V := a2s V b (l.map e)) (rF e l) ⟨b, 0, none⟩ cap 1 (l.map e) (List.replicate l.length []) (fun r hr => by obtain ⟨x, _, rfl⟩ := List.mem_map.1 hr; rfl) (by simpa [rF] using h1) h2 (by rw [iV]; simp) (by rw [iV]; simp)
  (fun k y hk => by
   have : (Addr.add ⟨b, 0, none⟩ k) = ⟨b, k, none⟩ := by rw [Addr.add_lit, Nat.zero_add]
   rw [this]
   simp only [View.cell, a2s, if_true]
   simpa using hk)
  (fun k d y S h1 h2 h3 => by
   rw [iV, List.getElem?_map] at h1
   rw [List.getElem?_map] at h2
   cases hk : l[k]? with
   | none => rw [hk] at h1; cases h1
   | some x =>
    rw [hk] at h1 h2
    cases h1; cases h2
    rw [List.getElem?_replicate] at h3
    split at h3
    ·cases h3; exact .v _ (hs x)
    ·cases h3)
 simpa [rF] using this
theorem RowAt.of_row {α : Type} [Inhabited α] {e : α → Value} {w : World} {ty b cap : Nat} {c : Array Value} {l : List α} (h1 : w.heap[b]? = some (.cells c ty (0, 0))) (h2 : c.size = cap) (h3 : l.length ≤ cap) (h4 : Sort.Holds e w b 0 l.toArray) : RowAt w w b ty cap (l.map e) := by
 refine ⟨⟨c, h1, h2, ?_⟩, a0R w _⟩
 refine List.prefix_iff_eq_take.2 ?_
 apply List.ext_getElem?
 intro j
 rw [List.getElem?_take, List.getElem?_map]
 simp only [List.length_map]
 by_cases hj : j < l.length
 ·rw [if_pos hj]
  have := (h4 j (by simpa using hj)).1
  simp only [World.cell?, h1, Nat.zero_add, Option.isSome_none, Bool.false_eq_true, if_false] at this
  have h5 : c.toList[j]? = some (e l[j]) := by
   rw [Array.getElem?_toList, this, getElem!_pos l.toArray j (by simpa using hj)]
   simp
  rw [h5, List.getElem?_eq_getElem hj]; rfl
 ·rw [if_neg hj, List.getElem?_eq_none (by omega)]; rfl
theorem RowAt.row {α : Type} {e : α → Value} (hs : ∀ x, scalar (e x) = true) {V : View} {w w' : World} {ty b cap : Nat} {l : List α} {G : List Value} (h : RowAt w w' b ty cap (l.map e ++ G)) (hcap : cap ≤ maxLen) (hV : V b = none) : RowR V w' ty 1 (rF e l) (.slice (some ⟨b, 0, none⟩) l.length cap) [b] := by
 have hle := h.le
 rw [List.length_append, List.length_map] at hle
 obtain ⟨c, h1, h2, h3⟩ := h.cells
 refine ⟨fun r hr => ?_, l.map e, List.replicate l.length [], ⟨by rw [iV]; simp, by rw [iV]; simp, fun k dd y s q1 q2 q3 => ?_⟩, .inr ⟨b, cap, c, by simp [rF], by simp [rF]; omega, hcap, h1, by simp [h2], (List.prefix_append _ _).trans h3, hV, by simp⟩⟩
 ·obtain ⟨x, _, rfl⟩ := List.mem_map.1 hr; rfl
 ·rw [iV, List.getElem?_map] at q1
  rw [List.getElem?_map] at q2
  cases hk : l[k]? with
  | none => rw [hk] at q1; cases q1
  | some x =>
   rw [hk] at q1 q2
   cases q1; cases q2
   rw [List.getElem?_replicate] at q3
   split at q3
   ·cases q3; exact .v _ (hs x)
   ·cases q3
theorem b4Y {V : View} (ao : Option Addr) : ∃ S, Lay V (.sl []) (.slice ao 0 0) S := by
 cases ao with
 | none => exact ⟨_, .nil⟩
 | some a => exact ⟨_, .sl [] a 0 0 [] [] (by simp) (by simp) (by simp [maxLen]) rfl rfl (fun k y h => by simp at h) (fun k d y S h => by simp at h)⟩
end Go.Sx
end
section
set_option linter.all false
set_option maxRecDepth 100000
set_option maxHeartbeats 4000000
namespace Go.Proofs.YteaaopodnbjpoaaGreat
open Go Go.Sx Go.RowKit Go.Proofs
def dX {α : Type} (p : α → Bool) : List α → Nat → Int
 | [], _ => -1
 | x :: xs, k => if p x then k else dX p xs (k + 1)
theorem idxP_spec {α : Type} (p : α → Bool) : ∀ (xs : List α) (k : Nat), (dX p xs k = -1 ∧ ∀ x ∈ xs, p x = false) ∨ ∃ k0 : Nat, dX p xs k = ((k + k0 : Nat) : Int) ∧ ∃ h : k0 < xs.length, p xs[k0] = true ∧ ∀ j (hj : j < xs.length), j < k0 → p xs[j] = false
 | [], k => .inl ⟨rfl, fun x hx => by simp at hx⟩
 | x :: xs, k => by
  unfold dX
  cases hx : p x with
  | true => exact .inr ⟨0, by simp, by simp, by simpa using hx, fun j hj h => by omega⟩
  | false =>
   rcases idxP_spec p xs (k + 1) with ⟨h1, h2⟩ | ⟨k0, h1, h2, h3, h4⟩
   ·exact .inl ⟨by simpa using h1, fun y hy => by
     rcases List.mem_cons.1 hy with rfl | hy
     ·exact hx
     ·exact h2 y hy⟩
   ·refine .inr ⟨k0 + 1, by simp only [Bool.false_eq_true, if_false]; rw [h1]; congr 1; omega, by simp; omega, by simpa using h3, fun j hj hk => ?_⟩
    cases j with
    | zero => simpa using hx
    | succ j => simpa using h4 j (by simpa using hj) (by omega)
theorem a5v (f : Nat) (c : List D) (p : ByteArray → Bool) (l : List ByteArray) (hf : ∀ s ∈ l, FnC Tryz.prog f [os s, .o (.q c)] (ob (p s))) (hl : l.length ≤ 4300000) : FnC Tryz.prog 307 [.o (.d (.sl (l.map bV))), .o (.f f [c])] (oi (dX p l 0)) := by
 refine ent Tryz.func307 rfl Tryz.call307 rfl (fun C => ?_); simp only [go_sem, st0, Tryz.ntmps307]
 refine aD ?_
 refine aN (α := Nat) (fun k => [(8, oi k)]) (fun _ => []) (fun k => k ≤ l.length ∧ dX p l 0 = dX p (l.drop k) k) (fun k => l.length - k) 0 (fun _ => ?_) ?_ ?_ (fun k hk => ?_)
 ·simp only [go_sem]
 ·simp only [go_sem]; simp
 ·simp
 ·obtain ⟨hk, hq⟩ := hk
  simp only [go_sem]
  refine aD ?_
  refine cnd rfl (fun h => ?_) (fun h => ?_)
  ·simp only [decide_eq_true_eq, Int.ofNat_lt] at h
   have hd := List.drop_eq_getElem_cons h
   rw [hd, dX] at hq
   have q0 := @h; refine fC (hf l[k] (List.getElem_mem h)) ?_
   refine cnd rfl (fun h2 => ?_) (fun h2 => ?_)
   ·refine aD ?_
    exact aA ⟨⟨_, rfl, by simp only [go_sem, hq, h2]⟩, trivial⟩
   ·refine aD ?_
    refine aF (k + 1) ?_ ?_ ?_
    ·simp only [go_sem]; simp
    ·rw [hq, h2]; exact ⟨h, by simp⟩
    ·omega
  ·simp only [decide_eq_false_iff_not] at h
   have e : k = l.length := by omega
   subst e
   simp only [List.drop_length, dX] at hq
   refine aD ?_
   exact aA ⟨⟨_, rfl, by simp only [go_sem, hq]⟩, trivial⟩
theorem b1V {V : View} {w w' : World} {v y : Value} (hs : scalar v = true) (h : Done V w (.o (.d (.v v))) y w') : Ending.returned y = Ending.returned v := by
 obtain ⟨V', S, _, _, _, ⟨l, hsh, Ss, r1, r2, r3, r4⟩, _, _⟩ := h.out
 have hl : l = [y] := hsh
 subst hl
 have hlt : 0 < Ss.length := by rw [r2]; simp [SV.all]
 obtain ⟨_, T, hL⟩ := r4 0 (.d (.v v)) y _ rfl rfl (List.getElem?_eq_getElem hlt)
 cases hL
 rfl
theorem a7k {V : View} {w w' : World} {n : Int} {y : Value} (h : Done V w (oi n) y w') : Ending.returned y = Ending.returned (.int .i64 n) := b1V rfl h
theorem b6M {V : View} {w w' : World} {n : Bool} {y : Value} (h : Done V w (ob n) y w') : Ending.returned y = Ending.returned (.bool n) := b1V rfl h
end Go.Proofs.YteaaopodnbjpoaaGreat
end
end
