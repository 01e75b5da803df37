/- Joined texts. -/
import Derived.Test.YteaaopodnbjpoaaGreatZ05
set_option linter.all false
section
section
set_option linter.all false
namespace Go.Proofs.YteaaopodnbjpoaaGreat
open Go Go.Sx Go.RowKit Go.Proofs
def cO (n : Int) (w : Nat) : Int := if n - w < 0 then -1 else n - w
theorem aZ {n : Int} {w : Nat} (h : n - w < 0) : cO n w = -1 := if_pos h
theorem bI {n : Int} {w : Nat} (h : ¬ n - w < 0) : cO n w = n - w := if_neg h
theorem a9w {n : Int} {w : Nat} (h : ¬ cO n w < 0) : w ≤ n := by
 unfold cO at h
 split at h <;> omega
def wsum {α : Type} (w : α → Nat) : List α → Nat
 | [] => 0
 | x :: l => w x + wsum w l
theorem bB {α : Type} (w : α → Nat) : ∀ (l : List α) {k : Nat} (h : k < l.length), w l[k] ≤ wsum w l
 | [], _, h => by simp at h
 | x :: l, 0, _ => by simp [wsum]
 | x :: l, k + 1, h => by
  have := bB w l (k := k) (by simpa using h)
  simp only [List.getElem_cons_succ, wsum]; omega
theorem nL {α : Type} (w : α → Nat) : ∀ (l : List α) {k : Nat} (h : k < l.length), wsum w (l.take (k + 1)) = wsum w (l.take k) + w l[k]
 | [], _, h => by simp at h
 | x :: l, 0, _ => by simp [wsum]
 | x :: l, k + 1, h => by
  have := nL w l (k := k) (by simpa using h)
  simp only [List.take_succ_cons, List.getElem_cons_succ, wsum]; omega
theorem rR {α : Type} (w : α → Nat) : ∀ (l : List α) (k : Nat), wsum w (l.take k) ≤ wsum w l
 | [], k => by simp
 | x :: l, 0 => by simp [wsum]
 | x :: l, k + 1 => by
  have := rR w l k
  simp only [List.take_succ_cons, wsum]; omega
@[go_sem] def eQ (n : Int) : List D := [iv n]
@[go_sem] def dD (s : ByteArray) : List D := [sv s]
abbrev slI (l : List Int) : D := .sl (l.map eQ)
abbrev slS (l : List ByteArray) : D := .sl (l.map dD)
def tV (l : List ByteArray) : Nat := l.length + wsum ByteArray.size l
def a2i (l : List Int) : Prop := l.length ≤ 9223372036854775807 ∧ ∀ i ∈ l, inR .i64 i
def b8W (l : List ByteArray) : Prop := l.length ≤ 9223372036854775807 ∧ ∀ s ∈ l, s.size ≤ 9223372036854775807
theorem a0v {n : Nat} {r : List D} (h : ShD tt n 3 r) : ∃ i, r = eQ i ∧ inR .i64 i := by
 match n, h with
 | n + 1, ⟨i, h, hi⟩ => exact ⟨i, h, hi⟩
theorem a9x {n : Nat} {r : List D} (h : ShD tt n 9 r) : ∃ s : ByteArray, r = dD s ∧ s.size ≤ 9223372036854775807 := by
 match n, h with
 | n + 1, ⟨s, h, hs⟩ => exact ⟨s, h, hs⟩
theorem c0q {n : Nat} {r : List D} (h : ShD tt n 4 r) : ∃ b : Bool, r = [bv b] := by
 match n, h with
 | n + 1, ⟨b, h⟩ => exact ⟨b, h⟩
theorem b6W {n : Nat} {r : List D} (h : ShD tt n 31 r) : ∃ l : List Int, r = [slI l] ∧ a2i l := by
 match n, h with
 | n + 1, ⟨rows, h, hm, hr⟩ =>
  obtain ⟨l, rfl, hl⟩ := oI eQ (inR .i64) (fun r h => a0v (hr r h))
  exact ⟨l, h, by unfold maxLen at hm; simpa using hm, hl⟩
theorem b3B (l : List Int) (hl : l.length ≤ 1048576) : FnC Tryz.prog 12 [.o (.d (slI l))] (.o (.w 3 1 (l.map eQ))) := by
 refine ent Tryz.func12 rfl Tryz.call12 rfl (fun C => ?_); simp only [go_sem, st0, Tryz.ntmps12]
 refine aD ?_
 refine aM (α := Nat) (fun k => [(4, oi k)]) (fun k => [(0, .row 3 1 (mY eQ [iv 0] l k) true)]) (fun k => k ≤ l.length) (fun k => l.length - k) 0 (fun _ => ?_) ?_ ?_ (fun k hk => ?_)
 ·simp only [go_sem]
 ·simp only [go_sem]; simp [lM]
 ·simp
 ·simp only [go_sem]
  refine aD ?_
  refine cnd rfl (fun h => ?_) (fun h => ?_)
  ·simp only [decide_eq_true_eq, Int.ofNat_lt] at h
   have q0 := @h; refine fD ?_
   refine aC (k + 1) ?_ ?_ ?_
   ·simp only [go_sem]; simp [← nA, h, eQ]
   ·omega
   ·omega
  ·simp only [decide_eq_false_iff_not] at h
   have e : k = l.length := by omega
   subst e
   refine aD ?_
   exact aA ⟨⟨_, rfl, by simp only [go_sem, nC]⟩, trivial⟩
theorem b3C (l : List Int) (hl : l.length ≤ 67108864) : FnC Tryz.prog 17 [.o (.d (slI l)), .o (.d (slI l))] (ob true) := by
 refine ent Tryz.func17 rfl Tryz.call17 rfl (fun C => ?_); simp only [go_sem, st0, Tryz.ntmps17]
 refine aD ?_
 refine aM (α := Nat) (fun k => [(5, oi k)]) (fun _ => []) (fun k => k ≤ l.length) (fun k => l.length - k) 0 (fun _ => ?_) ?_ ?_ (fun k hk => ?_)
 ·simp only [go_sem]
 ·simp only [go_sem]; simp
 ·simp
 ·simp only [go_sem]
  refine aD ?_
  refine cnd rfl (fun h => ?_) (fun h => ?_)
  ·simp only [decide_eq_true_eq, Int.ofNat_lt] at h
   have q0 := @h; refine fD ?_
   refine aC (k + 1) ?_ ?_ ?_
   ·simp only [go_sem]; simp
   ·omega
   ·omega
  ·simp only [decide_eq_false_iff_not] at h
   refine aD ?_
   exact aA ⟨⟨_, rfl, by simp only [go_sem]⟩, trivial⟩
theorem a6K (l : List Int) (n : Int) (h0 : 0 ≤ n ∧ n ≤ 1048576) (hw : a2i l) : FnC Tryz.prog 149 [.o (.d (slI l)), oi n] (oi (cO n l.length)) := by
 have h1 := hw.1
 refine ent Tryz.func149 rfl Tryz.call149 rfl (fun C => ?_); simp only [go_sem, st0, Tryz.ntmps149]
 by_cases hc : n - (l.length : Nat) < 0
 ·have q0 := @hc; refine fD ?_
  exact aA ⟨⟨_, rfl, by simp only [go_sem, aZ hc]⟩, trivial⟩
 ·have q0 := @hc; refine fD ?_
  exact aA ⟨⟨_, rfl, by simp only [go_sem, bI hc]⟩, trivial⟩
end Go.Proofs.YteaaopodnbjpoaaGreat
end
section
set_option linter.all false
set_option maxHeartbeats 1000000
namespace Go.Proofs.YteaaopodnbjpoaaGreat
open Go Go.Sx Go.RowKit Go.Proofs
structure TValue where
 fKind : Int
 fInt : Int
 fStr : ByteArray
@[go_sem] def b5o (x : TValue) : List D := [iv x.fKind, iv x.fInt, sv x.fStr]
@[go_sem] def mI (x : TValue) : SV := .g [.d (iv x.fKind), .d (iv x.fInt), .d (sv x.fStr)]
def fV (x : TValue) : Nat := x.fStr.size
def vZ (x : TValue) : Prop := inR .i64 x.fKind ∧ inR .i64 x.fInt ∧ x.fStr.size ≤ 9223372036854775807
def b9O (l : List TValue) : Nat := l.length + wsum fV l
def b9w (l : List TValue) : Prop := l.length ≤ 9223372036854775807 ∧ ∀ x ∈ l, vZ x
theorem a9y {n : Nat} {r : List D} (h : ShD tt n 212 r) : ∃ x : TValue, r = b5o x ∧ vZ x := by
 match n, h with
 | n + 1, ⟨a0, b0, e0, h0, a1, b1, e1, h1, a2, b2, e2, h2, ee⟩ =>
  obtain ⟨x0, rfl, p0⟩ := a0v h0
  obtain ⟨x1, rfl, p1⟩ := a0v h1
  obtain ⟨x2, rfl, p2⟩ := a9x h2
  have ee' : b2 = [] := ee
  subst ee' e2 e1 e0
  exact ⟨⟨x0, x1, x2⟩, rfl, p0, p1, p2⟩
theorem wB (x : TValue) (n : Int) (h0 : 0 ≤ n ∧ n ≤ 1048576) (hw : vZ x) : FnC Tryz.prog 245 [mI x, oi n] (oi (cO n (fV x))) := by
 refine ent Tryz.func245 rfl Tryz.call245 rfl (fun C => ?_); simp only [go_sem, st0, Tryz.ntmps245]
 unfold vZ at hw
 by_cases hc0 : n - (x.fStr.size : Nat) < 0
 ·have e : cO n (fV x) = -1 := by rw [aZ (by unfold fV; omega)]
  have q0 := @hc0; refine fD ?_
  exact aA ⟨⟨_, rfl, by simp only [go_sem, e]⟩, trivial⟩
 have e : cO n (fV x) = n - (x.fStr.size : Nat) := by rw [bI (by unfold fV; omega)]; unfold fV; omega
 have q0 := @hc0; refine fD ?_
 exact aA ⟨⟨_, rfl, by simp only [go_sem, e]⟩, trivial⟩
theorem a4A (x : TValue) (hx : fV x ≤ 1048576) : FnC Tryz.prog 246 [mI x] (mI x) := by
 unfold fV at hx
 refine ent Tryz.func246 rfl Tryz.call246 rfl (fun C => ?_); simp only [go_sem, st0, Tryz.ntmps246]
 refine aD ?_
 exact aA ⟨⟨_, rfl, by simp only [go_sem]⟩, trivial⟩
theorem a4B (x : TValue) (hx : fV x ≤ 67108864) : FnC Tryz.prog 147 [mI x, mI x] (ob true) := by
 unfold fV at hx
 refine ent Tryz.func147 rfl Tryz.call147 rfl (fun C => ?_); simp only [go_sem, st0, Tryz.ntmps147]
 refine aD ?_
 exact aA ⟨⟨_, rfl, by simp only [go_sem]⟩, trivial⟩
end Go.Proofs.YteaaopodnbjpoaaGreat
end
section
set_option linter.all false
set_option maxHeartbeats 1000000
namespace Go.Proofs.YteaaopodnbjpoaaGreat
open Go Go.Sx Go.RowKit Go.Proofs
structure TField where
 fName : ByteArray
 fKind : Int
@[go_sem] def bM (x : TField) : List D := [sv x.fName, iv x.fKind]
@[go_sem] def a4C (x : TField) : SV := .g [.d (sv x.fName), .d (iv x.fKind)]
def wField (x : TField) : Nat := x.fName.size
def a1o (x : TField) : Prop := x.fName.size ≤ 9223372036854775807 ∧ inR .i64 x.fKind
def aN (l : List TField) : Nat := l.length + wsum wField l
def a1p (l : List TField) : Prop := l.length ≤ 9223372036854775807 ∧ ∀ x ∈ l, a1o x
theorem b5p {n : Nat} {r : List D} (h : ShD tt n 181 r) : ∃ x : TField, r = bM x ∧ a1o x := by
 match n, h with
 | n + 1, ⟨a0, b0, e0, h0, a1, b1, e1, h1, ee⟩ =>
  obtain ⟨x0, rfl, p0⟩ := a9x h0
  obtain ⟨x1, rfl, p1⟩ := a0v h1
  have ee' : b1 = [] := ee
  subst ee' e1 e0
  exact ⟨⟨x0, x1⟩, rfl, p0, p1⟩
theorem b3D {n : Nat} {r : List D} (h : ShD tt n 22 r) : ∃ l : List TField, r = [.sl (l.map bM)] ∧ a1p l := by
 match n, h with
 | n + 1, ⟨rows, h, hm, hr⟩ =>
  obtain ⟨l, rfl, hl⟩ := oI bM a1o (fun r h => b5p (hr r h))
  exact ⟨l, h, by unfold maxLen at hm; simpa using hm, hl⟩
theorem a4D (x : TField) (n : Int) (h0 : 0 ≤ n ∧ n ≤ 1048576) (hw : a1o x) : FnC Tryz.prog 148 [a4C x, oi n] (oi (cO n (wField x))) := by
 refine ent Tryz.func148 rfl Tryz.call148 rfl (fun C => ?_); simp only [go_sem, st0, Tryz.ntmps148]
 unfold a1o at hw
 by_cases hc0 : n - (x.fName.size : Nat) < 0
 ·have e : cO n (wField x) = -1 := by rw [aZ (by unfold wField; omega)]
  have q0 := @hc0; refine fD ?_
  exact aA ⟨⟨_, rfl, by simp only [go_sem, e]⟩, trivial⟩
 have e : cO n (wField x) = n - (x.fName.size : Nat) := by rw [bI (by unfold wField; omega)]; unfold wField; omega
 have q0 := @hc0; refine fD ?_
 exact aA ⟨⟨_, rfl, by simp only [go_sem, e]⟩, trivial⟩
theorem b1l (x : TField) (hx : wField x ≤ 1048576) : FnC Tryz.prog 165 [a4C x] (a4C x) := by
 unfold wField at hx
 refine ent Tryz.func165 rfl Tryz.call165 rfl (fun C => ?_); simp only [go_sem, st0, Tryz.ntmps165]
 refine aD ?_
 exact aA ⟨⟨_, rfl, by simp only [go_sem]⟩, trivial⟩
theorem b1m (x : TField) (hx : wField x ≤ 67108864) : FnC Tryz.prog 194 [a4C x, a4C x] (ob true) := by
 unfold wField at hx
 refine ent Tryz.func194 rfl Tryz.call194 rfl (fun C => ?_); simp only [go_sem, st0, Tryz.ntmps194]
 refine aD ?_
 exact aA ⟨⟨_, rfl, by simp only [go_sem]⟩, trivial⟩
theorem a9z (l : List TField) (hl : aN l ≤ 1048576) : FnC Tryz.prog 94 [.o (.d (.sl (l.map bM)))] (.o (.w 196 2 (l.map bM))) := by
 unfold aN at hl
 refine ent Tryz.func94 rfl Tryz.call94 rfl (fun C => ?_); simp only [go_sem, st0, Tryz.ntmps94]
 refine aD ?_
 refine aM (α := Nat) (fun k => [(4, oi k)]) (fun k => [(0, .row 196 2 (mY bM [sv ⟨#[]⟩, iv 0] l k) true)]) (fun k => k ≤ l.length) (fun k => l.length - k) 0 (fun _ => ?_) ?_ ?_ (fun k hk => ?_)
 ·simp only [go_sem]
 ·simp only [go_sem]; simp [lM]
 ·simp
 ·simp only [go_sem]
  refine aD ?_
  refine cnd rfl (fun h => ?_) (fun h => ?_)
  ·simp only [decide_eq_true_eq, Int.ofNat_lt] at h
   have hw := bB wField l h
   have q0 := @h; refine eZ (b1l l[k] (by omega)) ?_
   refine aC (k + 1) ?_ ?_ ?_
   ·simp only [go_sem]; simp [← nA, h, bM]
   ·omega
   ·omega
  ·simp only [decide_eq_false_iff_not] at h
   have e : k = l.length := by omega
   subst e
   refine aD ?_
   exact aA ⟨⟨_, rfl, by simp only [go_sem, nC]⟩, trivial⟩
theorem a9A (l : List TField) (hl : aN l ≤ 67108864) : FnC Tryz.prog 116 [.o (.d (.sl (l.map bM))), .o (.d (.sl (l.map bM)))] (ob true) := by
 unfold aN at hl
 refine ent Tryz.func116 rfl Tryz.call116 rfl (fun C => ?_); simp only [go_sem, st0, Tryz.ntmps116]
 refine aD ?_
 refine aM (α := Nat) (fun k => [(5, oi k)]) (fun _ => []) (fun k => k ≤ l.length) (fun k => l.length - k) 0 (fun _ => ?_) ?_ ?_ (fun k hk => ?_)
 ·simp only [go_sem]
 ·simp only [go_sem]; simp
 ·simp
 ·simp only [go_sem]
  refine aD ?_
  refine cnd rfl (fun h => ?_) (fun h => ?_)
  ·simp only [decide_eq_true_eq, Int.ofNat_lt] at h
   have hw := bB wField l h
   have q0 := @h; refine eZ (b1m l[k] (by omega)) ?_
   refine aC (k + 1) ?_ ?_ ?_
   ·simp only [go_sem]; simp
   ·omega
   ·omega
  ·simp only [decide_eq_false_iff_not] at h
   refine aD ?_
   exact aA ⟨⟨_, rfl, by simp only [go_sem]⟩, trivial⟩
theorem xX (l : List TField) (n : Int) (h0 : 0 ≤ n ∧ n ≤ 1048576) (hw : a1p l) : FnC Tryz.prog 74 [.o (.d (.sl (l.map bM))), oi n] (oi (cO n (aN l))) := by
 unfold a1p at hw
 refine ent Tryz.func74 rfl Tryz.call74 rfl (fun C => ?_); simp only [go_sem, st0, Tryz.ntmps74]
 by_cases hc : n - (l.length : Nat) < 0
 ·have e : cO n (aN l) = -1 := by rw [aZ (by unfold aN; omega)]
  have q0 := @hc; refine fD ?_
  exact aA ⟨⟨_, rfl, by simp only [go_sem, e]⟩, trivial⟩
 have q0 := @hc; refine fD ?_
 refine aM (α := Nat) (fun k => [(5, oi k), (1, oi (n - (l.length : Nat) - (wsum wField (l.take k) : Nat)))]) (fun _ => []) (fun k => k ≤ l.length ∧ 0 ≤ n - (l.length : Nat) - (wsum wField (l.take k) : Nat)) (fun k => l.length - k) 0 (fun _ => ?_) ?_ ?_ (fun k hk => ?_)
 ·simp only [go_sem]
 ·simp only [go_sem]; simp [wsum]
 ·simp [wsum]; omega
 ·obtain ⟨hk, hn⟩ := hk
  simp only [go_sem]
  refine aD ?_
  refine cnd rfl (fun h => ?_) (fun h => ?_)
  ·simp only [decide_eq_true_eq, Int.ofNat_lt] at h
   have hs := nL wField l h
   have ht := rR wField l (k + 1)
   by_cases h2 : n - (l.length : Nat) - (wsum wField (l.take k) : Nat) - (wField l[k] : Nat) < 0
   ·have e : cO n (aN l) = -1 := by rw [aZ (by unfold aN; omega)]
    have q0 := @h; have q1 := aZ h2; refine jZ (a4D l[k] _ ⟨hn, by omega⟩ (hw.2 _ (List.getElem_mem h))) ?_
    exact aA ⟨⟨_, rfl, by simp only [go_sem, e]⟩, trivial⟩
   ·have q0 := @h; have q1 := bI h2; have q2 := @h2; refine jP (a4D l[k] _ ⟨hn, by omega⟩ (hw.2 _ (List.getElem_mem h))) ?_
    refine aC (k + 1) ?_ ?_ ?_
    ·simp only [go_sem]; simp; omega
    ·omega
    ·omega
  ·simp only [decide_eq_false_iff_not] at h
   have e0 : k = l.length := by omega
   subst e0
   rw [List.take_length] at hn
   have e : cO n (aN l) = n - (l.length : Nat) - (wsum wField l : Nat) := by rw [bI (by unfold aN; omega)]; unfold aN; omega
   refine aD ?_
   exact aA ⟨⟨_, rfl, by simp only [go_sem, e, List.take_length]⟩, trivial⟩
end Go.Proofs.YteaaopodnbjpoaaGreat
end
section
set_option linter.all false
set_option maxHeartbeats 1000000
namespace Go.Proofs.YteaaopodnbjpoaaGreat
open Go Go.Sx Go.RowKit Go.Proofs
structure TAttr where
 fName : ByteArray
 fValue : TValue
@[go_sem] def aJ (x : TAttr) : List D := [sv x.fName, iv x.fValue.fKind, iv x.fValue.fInt, sv x.fValue.fStr]
@[go_sem] def zZ (x : TAttr) : SV := .g [.d (sv x.fName), .d (iv x.fValue.fKind), .d (iv x.fValue.fInt), .d (sv x.fValue.fStr)]
def wAttr (x : TAttr) : Nat := x.fName.size + fV x.fValue
def a4E (x : TAttr) : Prop := x.fName.size ≤ 9223372036854775807 ∧ vZ x.fValue
def aV (l : List TAttr) : Nat := l.length + wsum wAttr l
def a1q (l : List TAttr) : Prop := l.length ≤ 9223372036854775807 ∧ ∀ x ∈ l, a4E x
theorem b6Y {n : Nat} {r : List D} (h : ShD tt n 214 r) : ∃ x : TAttr, r = aJ x ∧ a4E x := by
 match n, h with
 | n + 1, ⟨a0, b0, e0, h0, a1, b1, e1, h1, ee⟩ =>
  obtain ⟨x0, rfl, p0⟩ := a9x h0
  obtain ⟨x1, rfl, p1⟩ := a9y h1
  have ee' : b1 = [] := ee
  subst ee' e1 e0
  exact ⟨⟨x0, x1⟩, rfl, p0, p1⟩
theorem b5q {n : Nat} {r : List D} (h : ShD tt n 58 r) : ∃ l : List TAttr, r = [.sl (l.map aJ)] ∧ a1q l := by
 match n, h with
 | n + 1, ⟨rows, h, hm, hr⟩ =>
  obtain ⟨l, rfl, hl⟩ := oI aJ a4E (fun r h => b6Y (hr r h))
  exact ⟨l, h, by unfold maxLen at hm; simpa using hm, hl⟩
theorem a6L (x : TAttr) (n : Int) (h0 : 0 ≤ n ∧ n ≤ 1048576) (hw : a4E x) : FnC Tryz.prog 195 [zZ x, oi n] (oi (cO n (wAttr x))) := by
 refine ent Tryz.func195 rfl Tryz.call195 rfl (fun C => ?_); simp only [go_sem, st0, Tryz.ntmps195]
 unfold a4E at hw
 by_cases hc0 : n - (x.fName.size : Nat) < 0
 ·have e : cO n (wAttr x) = -1 := by rw [aZ (by unfold wAttr; omega)]
  have q0 := @hc0; refine fD ?_
  exact aA ⟨⟨_, rfl, by simp only [go_sem, e]⟩, trivial⟩
 by_cases hc1 : n - (x.fName.size : Nat) - (fV x.fValue : Nat) < 0
 ·have e : cO n (wAttr x) = -1 := by rw [aZ (by unfold wAttr; omega)]
  have q0 := @hc0; have q1 := aZ hc1; have q2 := @hc1; refine jP (wB x.fValue (n - (x.fName.size : Nat)) (by omega) hw.2) ?_
  exact aA ⟨⟨_, rfl, by simp only [go_sem, e]⟩, trivial⟩
 have e : cO n (wAttr x) = n - (x.fName.size : Nat) - (fV x.fValue : Nat) := by rw [bI (by unfold wAttr; omega)]; unfold wAttr; omega
 have q0 := @hc0; have q1 := bI hc1; have q2 := @hc1; refine jP (wB x.fValue (n - (x.fName.size : Nat)) (by omega) hw.2) ?_
 exact aA ⟨⟨_, rfl, by simp only [go_sem, e]⟩, trivial⟩
theorem b3E (x : TAttr) (hx : wAttr x ≤ 1048576) : FnC Tryz.prog 197 [zZ x] (zZ x) := by
 unfold wAttr at hx
 refine ent Tryz.func197 rfl Tryz.call197 rfl (fun C => ?_); simp only [go_sem, st0, Tryz.ntmps197]
 refine fK (a4A x.fValue (by omega)) ?_
 exact aA ⟨⟨_, rfl, by simp only [go_sem]⟩, trivial⟩
theorem b3F (x : TAttr) (hx : wAttr x ≤ 67108864) : FnC Tryz.prog 73 [zZ x, zZ x] (ob true) := by
 unfold wAttr at hx
 refine ent Tryz.func73 rfl Tryz.call73 rfl (fun C => ?_); simp only [go_sem, st0, Tryz.ntmps73]
 refine fK (a4B x.fValue (by omega)) ?_
 exact aA ⟨⟨_, rfl, by simp only [go_sem]⟩, trivial⟩
theorem b1n (l : List TAttr) (hl : aV l ≤ 1048576) : FnC Tryz.prog 126 [.o (.d (.sl (l.map aJ)))] (.o (.w 117 4 (l.map aJ))) := by
 unfold aV at hl
 refine ent Tryz.func126 rfl Tryz.call126 rfl (fun C => ?_); simp only [go_sem, st0, Tryz.ntmps126]
 refine aD ?_
 refine aM (α := Nat) (fun k => [(4, oi k)]) (fun k => [(0, .row 117 4 (mY aJ [sv ⟨#[]⟩, iv 0, iv 0, sv ⟨#[]⟩] l k) true)]) (fun k => k ≤ l.length) (fun k => l.length - k) 0 (fun _ => ?_) ?_ ?_ (fun k hk => ?_)
 ·simp only [go_sem]
 ·simp only [go_sem]; simp [lM]
 ·simp
 ·simp only [go_sem]
  refine aD ?_
  refine cnd rfl (fun h => ?_) (fun h => ?_)
  ·simp only [decide_eq_true_eq, Int.ofNat_lt] at h
   have hw := bB wAttr l h
   have q0 := @h; refine eZ (b3E l[k] (by omega)) ?_
   refine aC (k + 1) ?_ ?_ ?_
   ·simp only [go_sem]; simp [← nA, h, aJ]
   ·omega
   ·omega
  ·simp only [decide_eq_false_iff_not] at h
   have e : k = l.length := by omega
   subst e
   refine aD ?_
   exact aA ⟨⟨_, rfl, by simp only [go_sem, nC]⟩, trivial⟩
theorem qP (l : List TAttr) (hl : aV l ≤ 67108864) : FnC Tryz.prog 31 [.o (.d (.sl (l.map aJ))), .o (.d (.sl (l.map aJ)))] (ob true) := by
 unfold aV at hl
 refine ent Tryz.func31 rfl Tryz.call31 rfl (fun C => ?_); simp only [go_sem, st0, Tryz.ntmps31]
 refine aD ?_
 refine aM (α := Nat) (fun k => [(5, oi k)]) (fun _ => []) (fun k => k ≤ l.length) (fun k => l.length - k) 0 (fun _ => ?_) ?_ ?_ (fun k hk => ?_)
 ·simp only [go_sem]
 ·simp only [go_sem]; simp
 ·simp
 ·simp only [go_sem]
  refine aD ?_
  refine cnd rfl (fun h => ?_) (fun h => ?_)
  ·simp only [decide_eq_true_eq, Int.ofNat_lt] at h
   have hw := bB wAttr l h
   have q0 := @h; refine eZ (b3F l[k] (by omega)) ?_
   refine aC (k + 1) ?_ ?_ ?_
   ·simp only [go_sem]; simp
   ·omega
   ·omega
  ·simp only [decide_eq_false_iff_not] at h
   refine aD ?_
   exact aA ⟨⟨_, rfl, by simp only [go_sem]⟩, trivial⟩
theorem a4F (l : List TAttr) (n : Int) (h0 : 0 ≤ n ∧ n ≤ 1048576) (hw : a1q l) : FnC Tryz.prog 124 [.o (.d (.sl (l.map aJ))), oi n] (oi (cO n (aV l))) := by
 unfold a1q at hw
 refine ent Tryz.func124 rfl Tryz.call124 rfl (fun C => ?_); simp only [go_sem, st0, Tryz.ntmps124]
 by_cases hc : n - (l.length : Nat) < 0
 ·have e : cO n (aV l) = -1 := by rw [aZ (by unfold aV; omega)]
  have q0 := @hc; refine fD ?_
  exact aA ⟨⟨_, rfl, by simp only [go_sem, e]⟩, trivial⟩
 have q0 := @hc; refine fD ?_
 refine aM (α := Nat) (fun k => [(5, oi k), (1, oi (n - (l.length : Nat) - (wsum wAttr (l.take k) : Nat)))]) (fun _ => []) (fun k => k ≤ l.length ∧ 0 ≤ n - (l.length : Nat) - (wsum wAttr (l.take k) : Nat)) (fun k => l.length - k) 0 (fun _ => ?_) ?_ ?_ (fun k hk => ?_)
 ·simp only [go_sem]
 ·simp only [go_sem]; simp [wsum]
 ·simp [wsum]; omega
 ·obtain ⟨hk, hn⟩ := hk
  simp only [go_sem]
  refine aD ?_
  refine cnd rfl (fun h => ?_) (fun h => ?_)
  ·simp only [decide_eq_true_eq, Int.ofNat_lt] at h
   have hs := nL wAttr l h
   have ht := rR wAttr l (k + 1)
   by_cases h2 : n - (l.length : Nat) - (wsum wAttr (l.take k) : Nat) - (wAttr l[k] : Nat) < 0
   ·have e : cO n (aV l) = -1 := by rw [aZ (by unfold aV; omega)]
    have q0 := @h; have q1 := aZ h2; refine jZ (a6L l[k] _ ⟨hn, by omega⟩ (hw.2 _ (List.getElem_mem h))) ?_
    exact aA ⟨⟨_, rfl, by simp only [go_sem, e]⟩, trivial⟩
   ·have q0 := @h; have q1 := bI h2; have q2 := @h2; refine jP (a6L l[k] _ ⟨hn, by omega⟩ (hw.2 _ (List.getElem_mem h))) ?_
    refine aC (k + 1) ?_ ?_ ?_
    ·simp only [go_sem]; simp; omega
    ·omega
    ·omega
  ·simp only [decide_eq_false_iff_not] at h
   have e0 : k = l.length := by omega
   subst e0
   rw [List.take_length] at hn
   have e : cO n (aV l) = n - (l.length : Nat) - (wsum wAttr l : Nat) := by rw [bI (by unfold aV; omega)]; unfold aV; omega
   refine aD ?_
   exact aA ⟨⟨_, rfl, by simp only [go_sem, e, List.take_length]⟩, trivial⟩
end Go.Proofs.YteaaopodnbjpoaaGreat
end
section
set_option linter.all false
set_option maxHeartbeats 1000000
namespace Go.Proofs.YteaaopodnbjpoaaGreat
open Go Go.Sx Go.RowKit Go.Proofs
structure TFile where
 fID : Int
 fOwner : Int
 fShared : Bool
 fLink : Int
 fAttrs : List TAttr
@[go_sem] def bN (x : TFile) : List D := [iv x.fID, iv x.fOwner, bv x.fShared, iv x.fLink, .sl (x.fAttrs.map aJ)]
@[go_sem] def bC (x : TFile) : SV := .g [.d (iv x.fID), .d (iv x.fOwner), .d (bv x.fShared), .d (iv x.fLink), .d (.sl (x.fAttrs.map aJ))]
@[go_sem] def wX (x : TFile) : SV := .g [.d (iv x.fID), .d (iv x.fOwner), .d (bv x.fShared), .d (iv x.fLink), .w 117 4 (x.fAttrs.map aJ)]
def wFile (x : TFile) : Nat := aV x.fAttrs
def a2j (x : TFile) : Prop := inR .i64 x.fID ∧ inR .i64 x.fOwner ∧ True ∧ inR .i64 x.fLink ∧ a1q x.fAttrs
def cZ (l : List TFile) : Nat := l.length + wsum wFile l
def a3K (l : List TFile) : Prop := l.length ≤ 9223372036854775807 ∧ ∀ x ∈ l, a2j x
theorem b6Z {n : Nat} {r : List D} (h : ShD tt n 60 r) : ∃ x : TFile, r = bN x ∧ a2j x := by
 match n, h with
 | n + 1, ⟨a0, b0, e0, h0, a1, b1, e1, h1, a2, b2, e2, h2, a3, b3, e3, h3, a4, b4, e4, h4, ee⟩ =>
  obtain ⟨x0, rfl, p0⟩ := a0v h0
  obtain ⟨x1, rfl, p1⟩ := a0v h1
  obtain ⟨x2, rfl⟩ := c0q h2
  obtain ⟨x3, rfl, p3⟩ := a0v h3
  obtain ⟨x4, rfl, p4⟩ := b5q h4
  have ee' : b4 = [] := ee
  subst ee' e4 e3 e2 e1 e0
  exact ⟨⟨x0, x1, x2, x3, x4⟩, rfl, p0, p1, trivial, p3, p4⟩
theorem b5r {n : Nat} {r : List D} (h : ShD tt n 23 r) : ∃ l : List TFile, r = [.sl (l.map bN)] ∧ a3K l := by
 match n, h with
 | n + 1, ⟨rows, h, hm, hr⟩ =>
  obtain ⟨l, rfl, hl⟩ := oI bN a2j (fun r h => b6Z (hr r h))
  exact ⟨l, h, by unfold maxLen at hm; simpa using hm, hl⟩
theorem a6M (x : TFile) (n : Int) (h0 : 0 ≤ n ∧ n ≤ 1048576) (hw : a2j x) : FnC Tryz.prog 65 [bC x, oi n] (oi (cO n (wFile x))) := by
 refine ent Tryz.func65 rfl Tryz.call65 rfl (fun C => ?_); simp only [go_sem, st0, Tryz.ntmps65]
 unfold a2j at hw
 by_cases hc0 : n - (aV x.fAttrs : Nat) < 0
 ·have e : cO n (wFile x) = -1 := by rw [aZ (by unfold wFile; omega)]
  have q0 := aZ hc0; have q1 := @hc0; refine jZ (a4F x.fAttrs (n) (by omega) hw.2.2.2.2) ?_
  exact aA ⟨⟨_, rfl, by simp only [go_sem, e]⟩, trivial⟩
 have e : cO n (wFile x) = n - (aV x.fAttrs : Nat) := by rw [bI (by unfold wFile; omega)]; unfold wFile; omega
 have q0 := bI hc0; have q1 := @hc0; refine jZ (a4F x.fAttrs (n) (by omega) hw.2.2.2.2) ?_
 exact aA ⟨⟨_, rfl, by simp only [go_sem, e]⟩, trivial⟩
theorem b3G (x : TFile) (hx : wFile x ≤ 1048576) : FnC Tryz.prog 67 [bC x] (wX x) := by
 unfold wFile at hx
 refine ent Tryz.func67 rfl Tryz.call67 rfl (fun C => ?_); simp only [go_sem, st0, Tryz.ntmps67]
 refine fK (b1n x.fAttrs (by omega)) ?_
 exact aA ⟨⟨_, rfl, by simp only [go_sem]⟩, trivial⟩
theorem b3H (x : TFile) (hx : wFile x ≤ 67108864) : FnC Tryz.prog 69 [bC x, bC x] (ob true) := by
 unfold wFile at hx
 refine ent Tryz.func69 rfl Tryz.call69 rfl (fun C => ?_); simp only [go_sem, st0, Tryz.ntmps69]
 refine fK (qP x.fAttrs (by omega)) ?_
 exact aA ⟨⟨_, rfl, by simp only [go_sem]⟩, trivial⟩
theorem b1o (l : List TFile) (hl : cZ l ≤ 1048576) : FnC Tryz.prog 95 [.o (.d (.sl (l.map bN)))] (.o (.w 70 5 (l.map bN))) := by
 unfold cZ at hl
 refine ent Tryz.func95 rfl Tryz.call95 rfl (fun C => ?_); simp only [go_sem, st0, Tryz.ntmps95]
 refine aD ?_
 refine aM (α := Nat) (fun k => [(4, oi k)]) (fun k => [(0, .row 70 5 (mY bN [iv 0, iv 0, bv false, iv 0, .sl []] l k) true)]) (fun k => k ≤ l.length) (fun k => l.length - k) 0 (fun _ => ?_) ?_ ?_ (fun k hk => ?_)
 ·simp only [go_sem]
 ·simp only [go_sem]; simp [lM]
 ·simp
 ·simp only [go_sem]
  refine aD ?_
  refine cnd rfl (fun h => ?_) (fun h => ?_)
  ·simp only [decide_eq_true_eq, Int.ofNat_lt] at h
   have hw := bB wFile l h
   have q0 := @h; refine eZ (b3G l[k] (by omega)) ?_
   refine aC (k + 1) ?_ ?_ ?_
   ·simp only [go_sem]; simp [← nA, h, bN]
   ·omega
   ·omega
  ·simp only [decide_eq_false_iff_not] at h
   have e : k = l.length := by omega
   subst e
   refine aD ?_
   exact aA ⟨⟨_, rfl, by simp only [go_sem, nC]⟩, trivial⟩
theorem b1p (l : List TFile) (hl : cZ l ≤ 67108864) : FnC Tryz.prog 117 [.o (.d (.sl (l.map bN))), .o (.d (.sl (l.map bN)))] (ob true) := by
 unfold cZ at hl
 refine ent Tryz.func117 rfl Tryz.call117 rfl (fun C => ?_); simp only [go_sem, st0, Tryz.ntmps117]
 refine aD ?_
 refine aM (α := Nat) (fun k => [(5, oi k)]) (fun _ => []) (fun k => k ≤ l.length) (fun k => l.length - k) 0 (fun _ => ?_) ?_ ?_ (fun k hk => ?_)
 ·simp only [go_sem]
 ·simp only [go_sem]; simp
 ·simp
 ·simp only [go_sem]
  refine aD ?_
  refine cnd rfl (fun h => ?_) (fun h => ?_)
  ·simp only [decide_eq_true_eq, Int.ofNat_lt] at h
   have hw := bB wFile l h
   have q0 := @h; refine eZ (b3H l[k] (by omega)) ?_
   refine aC (k + 1) ?_ ?_ ?_
   ·simp only [go_sem]; simp
   ·omega
   ·omega
  ·simp only [decide_eq_false_iff_not] at h
   refine aD ?_
   exact aA ⟨⟨_, rfl, by simp only [go_sem]⟩, trivial⟩
theorem a4G (l : List TFile) (n : Int) (h0 : 0 ≤ n ∧ n ≤ 1048576) (hw : a3K l) : FnC Tryz.prog 75 [.o (.d (.sl (l.map bN))), oi n] (oi (cO n (cZ l))) := by
 unfold a3K at hw
 refine ent Tryz.func75 rfl Tryz.call75 rfl (fun C => ?_); simp only [go_sem, st0, Tryz.ntmps75]
 by_cases hc : n - (l.length : Nat) < 0
 ·have e : cO n (cZ l) = -1 := by rw [aZ (by unfold cZ; omega)]
  have q0 := @hc; refine fD ?_
  exact aA ⟨⟨_, rfl, by simp only [go_sem, e]⟩, trivial⟩
 have q0 := @hc; refine fD ?_
 refine aM (α := Nat) (fun k => [(5, oi k), (1, oi (n - (l.length : Nat) - (wsum wFile (l.take k) : Nat)))]) (fun _ => []) (fun k => k ≤ l.length ∧ 0 ≤ n - (l.length : Nat) - (wsum wFile (l.take k) : Nat)) (fun k => l.length - k) 0 (fun _ => ?_) ?_ ?_ (fun k hk => ?_)
 ·simp only [go_sem]
 ·simp only [go_sem]; simp [wsum]
 ·simp [wsum]; omega
 ·obtain ⟨hk, hn⟩ := hk
  simp only [go_sem]
  refine aD ?_
  refine cnd rfl (fun h => ?_) (fun h => ?_)
  ·simp only [decide_eq_true_eq, Int.ofNat_lt] at h
   have hs := nL wFile l h
   have ht := rR wFile l (k + 1)
   by_cases h2 : n - (l.length : Nat) - (wsum wFile (l.take k) : Nat) - (wFile l[k] : Nat) < 0
   ·have e : cO n (cZ l) = -1 := by rw [aZ (by unfold cZ; omega)]
    have q0 := @h; have q1 := aZ h2; refine jZ (a6M l[k] _ ⟨hn, by omega⟩ (hw.2 _ (List.getElem_mem h))) ?_
    exact aA ⟨⟨_, rfl, by simp only [go_sem, e]⟩, trivial⟩
   ·have q0 := @h; have q1 := bI h2; have q2 := @h2; refine jP (a6M l[k] _ ⟨hn, by omega⟩ (hw.2 _ (List.getElem_mem h))) ?_
    refine aC (k + 1) ?_ ?_ ?_
    ·simp only [go_sem]; simp; omega
    ·omega
    ·omega
  ·simp only [decide_eq_false_iff_not] at h
   have e0 : k = l.length := by omega
   subst e0
   rw [List.take_length] at hn
   have e : cO n (cZ l) = n - (l.length : Nat) - (wsum wFile l : Nat) := by rw [bI (by unfold cZ; omega)]; unfold cZ; omega
   refine aD ?_
   exact aA ⟨⟨_, rfl, by simp only [go_sem, e, List.take_length]⟩, trivial⟩
end Go.Proofs.YteaaopodnbjpoaaGreat
end
section
set_option linter.all false
set_option maxHeartbeats 1000000
namespace Go.Proofs.YteaaopodnbjpoaaGreat
open Go Go.Sx Go.RowKit Go.Proofs
structure TStore where
 fSchema : List TField
 fFiles : List TFile
 fNextID : Int
@[go_sem] def b5s (x : TStore) : List D := [.sl (x.fSchema.map bM), .sl (x.fFiles.map bN), iv x.fNextID]
@[go_sem] def cB (x : TStore) : SV := .g [.d (.sl (x.fSchema.map bM)), .d (.sl (x.fFiles.map bN)), .d (iv x.fNextID)]
@[go_sem] def a0w (x : TStore) : SV := .g [.w 196 2 (x.fSchema.map bM), .w 70 5 (x.fFiles.map bN), .d (iv x.fNextID)]
def aL (x : TStore) : Nat := aN x.fSchema + cZ x.fFiles
def zJ (x : TStore) : Prop := a1p x.fSchema ∧ a3K x.fFiles ∧ inR .i64 x.fNextID
def b9P (l : List TStore) : Nat := l.length + wsum aL l
def b9x (l : List TStore) : Prop := l.length ≤ 9223372036854775807 ∧ ∀ x ∈ l, zJ x
theorem b5t {n : Nat} {r : List D} (h : ShD tt n 25 r) : ∃ x : TStore, r = b5s x ∧ zJ x := by
 match n, h with
 | n + 1, ⟨a0, b0, e0, h0, a1, b1, e1, h1, a2, b2, e2, h2, ee⟩ =>
  obtain ⟨x0, rfl, p0⟩ := b3D h0
  obtain ⟨x1, rfl, p1⟩ := b5r h1
  obtain ⟨x2, rfl, p2⟩ := a0v h2
  have ee' : b2 = [] := ee
  subst ee' e2 e1 e0
  exact ⟨⟨x0, x1, x2⟩, rfl, p0, p1, p2⟩
theorem wC (x : TStore) (n : Int) (h0 : 0 ≤ n ∧ n ≤ 1048576) (hw : zJ x) : FnC Tryz.prog 36 [cB x, oi n] (oi (cO n (aL x))) := by
 refine ent Tryz.func36 rfl Tryz.call36 rfl (fun C => ?_); simp only [go_sem, st0, Tryz.ntmps36]
 unfold zJ at hw
 by_cases hc0 : n - (aN x.fSchema : Nat) < 0
 ·have e : cO n (aL x) = -1 := by rw [aZ (by unfold aL; omega)]
  have q0 := aZ hc0; have q1 := @hc0; refine jZ (xX x.fSchema (n) (by omega) hw.1) ?_
  exact aA ⟨⟨_, rfl, by simp only [go_sem, e]⟩, trivial⟩
 by_cases hc1 : n - (aN x.fSchema : Nat) - (cZ x.fFiles : Nat) < 0
 ·have e : cO n (aL x) = -1 := by rw [aZ (by unfold aL; omega)]
  have q0 := bI hc0; have q1 := @hc0; have q2 := aZ hc1; have q3 := @hc1; refine a1a (xX x.fSchema (n) (by omega) hw.1) (a4G x.fFiles (n - (aN x.fSchema : Nat)) (by omega) hw.2.1) ?_
  exact aA ⟨⟨_, rfl, by simp only [go_sem, e]⟩, trivial⟩
 have e : cO n (aL x) = n - (aN x.fSchema : Nat) - (cZ x.fFiles : Nat) := by rw [bI (by unfold aL; omega)]; unfold aL; omega
 have q0 := bI hc0; have q1 := @hc0; have q2 := bI hc1; have q3 := @hc1; refine a1a (xX x.fSchema (n) (by omega) hw.1) (a4G x.fFiles (n - (aN x.fSchema : Nat)) (by omega) hw.2.1) ?_
 exact aA ⟨⟨_, rfl, by simp only [go_sem, e]⟩, trivial⟩
theorem b1q (x : TStore) (hx : aL x ≤ 1048576) : FnC Tryz.prog 44 [cB x] (a0w x) := by
 unfold aL at hx
 refine ent Tryz.func44 rfl Tryz.call44 rfl (fun C => ?_); simp only [go_sem, st0, Tryz.ntmps44]
 refine a7J (a9z x.fSchema (by omega)) (b1o x.fFiles (by omega)) ?_
 exact aA ⟨⟨_, rfl, by simp only [go_sem]⟩, trivial⟩
theorem b1r (x : TStore) (hx : aL x ≤ 67108864) : FnC Tryz.prog 52 [cB x, cB x] (ob true) := by
 unfold aL at hx
 refine ent Tryz.func52 rfl Tryz.call52 rfl (fun C => ?_); simp only [go_sem, st0, Tryz.ntmps52]
 refine a7J (a9A x.fSchema (by omega)) (b1p x.fFiles (by omega)) ?_
 exact aA ⟨⟨_, rfl, by simp only [go_sem]⟩, trivial⟩
end Go.Proofs.YteaaopodnbjpoaaGreat
end
section
set_option linter.all false
set_option maxHeartbeats 1000000
namespace Go.Proofs.YteaaopodnbjpoaaGreat
open Go Go.Sx Go.RowKit Go.Proofs
structure TNode where
 fOp : Int
 fLeft : Int
 fRight : Int
 fName : ByteArray
 fValue : TValue
@[go_sem] def aT (x : TNode) : List D := [iv x.fOp, iv x.fLeft, iv x.fRight, sv x.fName, iv x.fValue.fKind, iv x.fValue.fInt, sv x.fValue.fStr]
@[go_sem] def wY (x : TNode) : SV := .g [.d (iv x.fOp), .d (iv x.fLeft), .d (iv x.fRight), .d (sv x.fName), .d (iv x.fValue.fKind), .d (iv x.fValue.fInt), .d (sv x.fValue.fStr)]
def wNode (x : TNode) : Nat := x.fName.size + fV x.fValue
def a4H (x : TNode) : Prop := inR .i64 x.fOp ∧ inR .i64 x.fLeft ∧ inR .i64 x.fRight ∧ x.fName.size ≤ 9223372036854775807 ∧ vZ x.fValue
def bK (l : List TNode) : Nat := l.length + wsum wNode l
def a3L (l : List TNode) : Prop := l.length ≤ 9223372036854775807 ∧ ∀ x ∈ l, a4H x
theorem b7a {n : Nat} {r : List D} (h : ShD tt n 217 r) : ∃ x : TNode, r = aT x ∧ a4H x := by
 match n, h with
 | n + 1, ⟨a0, b0, e0, h0, a1, b1, e1, h1, a2, b2, e2, h2, a3, b3, e3, h3, a4, b4, e4, h4, ee⟩ =>
  obtain ⟨x0, rfl, p0⟩ := a0v h0
  obtain ⟨x1, rfl, p1⟩ := a0v h1
  obtain ⟨x2, rfl, p2⟩ := a0v h2
  obtain ⟨x3, rfl, p3⟩ := a9x h3
  obtain ⟨x4, rfl, p4⟩ := a9y h4
  have ee' : b4 = [] := ee
  subst ee' e4 e3 e2 e1 e0
  exact ⟨⟨x0, x1, x2, x3, x4⟩, rfl, p0, p1, p2, p3, p4⟩
theorem b5u {n : Nat} {r : List D} (h : ShD tt n 61 r) : ∃ l : List TNode, r = [.sl (l.map aT)] ∧ a3L l := by
 match n, h with
 | n + 1, ⟨rows, h, hm, hr⟩ =>
  obtain ⟨l, rfl, hl⟩ := oI aT a4H (fun r h => b7a (hr r h))
  exact ⟨l, h, by unfold maxLen at hm; simpa using hm, hl⟩
theorem a6N (x : TNode) (n : Int) (h0 : 0 ≤ n ∧ n ≤ 1048576) (hw : a4H x) : FnC Tryz.prog 196 [wY x, oi n] (oi (cO n (wNode x))) := by
 refine ent Tryz.func196 rfl Tryz.call196 rfl (fun C => ?_); simp only [go_sem, st0, Tryz.ntmps196]
 unfold a4H at hw
 by_cases hc0 : n - (x.fName.size : Nat) < 0
 ·have e : cO n (wNode x) = -1 := by rw [aZ (by unfold wNode; omega)]
  have q0 := @hc0; refine fD ?_
  exact aA ⟨⟨_, rfl, by simp only [go_sem, e]⟩, trivial⟩
 by_cases hc1 : n - (x.fName.size : Nat) - (fV x.fValue : Nat) < 0
 ·have e : cO n (wNode x) = -1 := by rw [aZ (by unfold wNode; omega)]
  have q0 := @hc0; have q1 := aZ hc1; have q2 := @hc1; refine jP (wB x.fValue (n - (x.fName.size : Nat)) (by omega) hw.2.2.2.2) ?_
  exact aA ⟨⟨_, rfl, by simp only [go_sem, e]⟩, trivial⟩
 have e : cO n (wNode x) = n - (x.fName.size : Nat) - (fV x.fValue : Nat) := by rw [bI (by unfold wNode; omega)]; unfold wNode; omega
 have q0 := @hc0; have q1 := bI hc1; have q2 := @hc1; refine jP (wB x.fValue (n - (x.fName.size : Nat)) (by omega) hw.2.2.2.2) ?_
 exact aA ⟨⟨_, rfl, by simp only [go_sem, e]⟩, trivial⟩
theorem b3I (x : TNode) (hx : wNode x ≤ 1048576) : FnC Tryz.prog 198 [wY x] (wY x) := by
 unfold wNode at hx
 refine ent Tryz.func198 rfl Tryz.call198 rfl (fun C => ?_); simp only [go_sem, st0, Tryz.ntmps198]
 refine fK (a4A x.fValue (by omega)) ?_
 exact aA ⟨⟨_, rfl, by simp only [go_sem]⟩, trivial⟩
theorem b3J (x : TNode) (hx : wNode x ≤ 67108864) : FnC Tryz.prog 199 [wY x, wY x] (ob true) := by
 unfold wNode at hx
 refine ent Tryz.func199 rfl Tryz.call199 rfl (fun C => ?_); simp only [go_sem, st0, Tryz.ntmps199]
 refine fK (a4B x.fValue (by omega)) ?_
 exact aA ⟨⟨_, rfl, by simp only [go_sem]⟩, trivial⟩
theorem b1s (l : List TNode) (hl : bK l ≤ 1048576) : FnC Tryz.prog 127 [.o (.d (.sl (l.map aT)))] (.o (.w 158 7 (l.map aT))) := by
 unfold bK at hl
 refine ent Tryz.func127 rfl Tryz.call127 rfl (fun C => ?_); simp only [go_sem, st0, Tryz.ntmps127]
 refine aD ?_
 refine aM (α := Nat) (fun k => [(4, oi k)]) (fun k => [(0, .row 158 7 (mY aT [iv 0, iv 0, iv 0, sv ⟨#[]⟩, iv 0, iv 0, sv ⟨#[]⟩] l k) true)]) (fun k => k ≤ l.length) (fun k => l.length - k) 0 (fun _ => ?_) ?_ ?_ (fun k hk => ?_)
 ·simp only [go_sem]
 ·simp only [go_sem]; simp [lM]
 ·simp
 ·simp only [go_sem]
  refine aD ?_
  refine cnd rfl (fun h => ?_) (fun h => ?_)
  ·simp only [decide_eq_true_eq, Int.ofNat_lt] at h
   have hw := bB wNode l h
   have q0 := @h; refine eZ (b3I l[k] (by omega)) ?_
   refine aC (k + 1) ?_ ?_ ?_
   ·simp only [go_sem]; simp [← nA, h, aT]
   ·omega
   ·omega
  ·simp only [decide_eq_false_iff_not] at h
   have e : k = l.length := by omega
   subst e
   refine aD ?_
   exact aA ⟨⟨_, rfl, by simp only [go_sem, nC]⟩, trivial⟩
theorem b1t (l : List TNode) (hl : bK l ≤ 67108864) : FnC Tryz.prog 128 [.o (.d (.sl (l.map aT))), .o (.d (.sl (l.map aT)))] (ob true) := by
 unfold bK at hl
 refine ent Tryz.func128 rfl Tryz.call128 rfl (fun C => ?_); simp only [go_sem, st0, Tryz.ntmps128]
 refine aD ?_
 refine aM (α := Nat) (fun k => [(5, oi k)]) (fun _ => []) (fun k => k ≤ l.length) (fun k => l.length - k) 0 (fun _ => ?_) ?_ ?_ (fun k hk => ?_)
 ·simp only [go_sem]
 ·simp only [go_sem]; simp
 ·simp
 ·simp only [go_sem]
  refine aD ?_
  refine cnd rfl (fun h => ?_) (fun h => ?_)
  ·simp only [decide_eq_true_eq, Int.ofNat_lt] at h
   have hw := bB wNode l h
   have q0 := @h; refine eZ (b3J l[k] (by omega)) ?_
   refine aC (k + 1) ?_ ?_ ?_
   ·simp only [go_sem]; simp
   ·omega
   ·omega
  ·simp only [decide_eq_false_iff_not] at h
   refine aD ?_
   exact aA ⟨⟨_, rfl, by simp only [go_sem]⟩, trivial⟩
theorem a4I (l : List TNode) (n : Int) (h0 : 0 ≤ n ∧ n ≤ 1048576) (hw : a3L l) : FnC Tryz.prog 125 [.o (.d (.sl (l.map aT))), oi n] (oi (cO n (bK l))) := by
 unfold a3L at hw
 refine ent Tryz.func125 rfl Tryz.call125 rfl (fun C => ?_); simp only [go_sem, st0, Tryz.ntmps125]
 by_cases hc : n - (l.length : Nat) < 0
 ·have e : cO n (bK l) = -1 := by rw [aZ (by unfold bK; omega)]
  have q0 := @hc; refine fD ?_
  exact aA ⟨⟨_, rfl, by simp only [go_sem, e]⟩, trivial⟩
 have q0 := @hc; refine fD ?_
 refine aM (α := Nat) (fun k => [(5, oi k), (1, oi (n - (l.length : Nat) - (wsum wNode (l.take k) : Nat)))]) (fun _ => []) (fun k => k ≤ l.length ∧ 0 ≤ n - (l.length : Nat) - (wsum wNode (l.take k) : Nat)) (fun k => l.length - k) 0 (fun _ => ?_) ?_ ?_ (fun k hk => ?_)
 ·simp only [go_sem]
 ·simp only [go_sem]; simp [wsum]
 ·simp [wsum]; omega
 ·obtain ⟨hk, hn⟩ := hk
  simp only [go_sem]
  refine aD ?_
  refine cnd rfl (fun h => ?_) (fun h => ?_)
  ·simp only [decide_eq_true_eq, Int.ofNat_lt] at h
   have hs := nL wNode l h
   have ht := rR wNode l (k + 1)
   by_cases h2 : n - (l.length : Nat) - (wsum wNode (l.take k) : Nat) - (wNode l[k] : Nat) < 0
   ·have e : cO n (bK l) = -1 := by rw [aZ (by unfold bK; omega)]
    have q0 := @h; have q1 := aZ h2; refine jZ (a6N l[k] _ ⟨hn, by omega⟩ (hw.2 _ (List.getElem_mem h))) ?_
    exact aA ⟨⟨_, rfl, by simp only [go_sem, e]⟩, trivial⟩
   ·have q0 := @h; have q1 := bI h2; have q2 := @h2; refine jP (a6N l[k] _ ⟨hn, by omega⟩ (hw.2 _ (List.getElem_mem h))) ?_
    refine aC (k + 1) ?_ ?_ ?_
    ·simp only [go_sem]; simp; omega
    ·omega
    ·omega
  ·simp only [decide_eq_false_iff_not] at h
   have e0 : k = l.length := by omega
   subst e0
   rw [List.take_length] at hn
   have e : cO n (bK l) = n - (l.length : Nat) - (wsum wNode l : Nat) := by rw [bI (by unfold bK; omega)]; unfold bK; omega
   refine aD ?_
   exact aA ⟨⟨_, rfl, by simp only [go_sem, e, List.take_length]⟩, trivial⟩
end Go.Proofs.YteaaopodnbjpoaaGreat
end
section
set_option linter.all false
set_option maxHeartbeats 1000000
namespace Go.Proofs.YteaaopodnbjpoaaGreat
open Go Go.Sx Go.RowKit Go.Proofs
structure TDir where
 fName : ByteArray
 fQuery : List TNode
@[go_sem] def aS (x : TDir) : List D := [sv x.fName, .sl (x.fQuery.map aT)]
@[go_sem] def a4J (x : TDir) : SV := .g [.d (sv x.fName), .d (.sl (x.fQuery.map aT))]
@[go_sem] def b8C (x : TDir) : SV := .g [.d (sv x.fName), .w 158 7 (x.fQuery.map aT)]
def wDir (x : TDir) : Nat := x.fName.size + bK x.fQuery
def a6O (x : TDir) : Prop := x.fName.size ≤ 9223372036854775807 ∧ a3L x.fQuery
def aY (l : List TDir) : Nat := l.length + wsum wDir l
def a4K (l : List TDir) : Prop := l.length ≤ 9223372036854775807 ∧ ∀ x ∈ l, a6O x
theorem b8D {n : Nat} {r : List D} (h : ShD tt n 63 r) : ∃ x : TDir, r = aS x ∧ a6O x := by
 match n, h with
 | n + 1, ⟨a0, b0, e0, h0, a1, b1, e1, h1, ee⟩ =>
  obtain ⟨x0, rfl, p0⟩ := a9x h0
  obtain ⟨x1, rfl, p1⟩ := b5u h1
  have ee' : b1 = [] := ee
  subst ee' e1 e0
  exact ⟨⟨x0, x1⟩, rfl, p0, p1⟩
theorem b7b {n : Nat} {r : List D} (h : ShD tt n 26 r) : ∃ l : List TDir, r = [.sl (l.map aS)] ∧ a4K l := by
 match n, h with
 | n + 1, ⟨rows, h, hm, hr⟩ =>
  obtain ⟨l, rfl, hl⟩ := oI aS a6O (fun r h => b8D (hr r h))
  exact ⟨l, h, by unfold maxLen at hm; simpa using hm, hl⟩
theorem a9B (x : TDir) (n : Int) (h0 : 0 ≤ n ∧ n ≤ 1048576) (hw : a6O x) : FnC Tryz.prog 66 [a4J x, oi n] (oi (cO n (wDir x))) := by
 refine ent Tryz.func66 rfl Tryz.call66 rfl (fun C => ?_); simp only [go_sem, st0, Tryz.ntmps66]
 unfold a6O at hw
 by_cases hc0 : n - (x.fName.size : Nat) < 0
 ·have e : cO n (wDir x) = -1 := by rw [aZ (by unfold wDir; omega)]
  have q0 := @hc0; refine fD ?_
  exact aA ⟨⟨_, rfl, by simp only [go_sem, e]⟩, trivial⟩
 by_cases hc1 : n - (x.fName.size : Nat) - (bK x.fQuery : Nat) < 0
 ·have e : cO n (wDir x) = -1 := by rw [aZ (by unfold wDir; omega)]
  have q0 := @hc0; have q1 := aZ hc1; have q2 := @hc1; refine jP (a4I x.fQuery (n - (x.fName.size : Nat)) (by omega) hw.2) ?_
  exact aA ⟨⟨_, rfl, by simp only [go_sem, e]⟩, trivial⟩
 have e : cO n (wDir x) = n - (x.fName.size : Nat) - (bK x.fQuery : Nat) := by rw [bI (by unfold wDir; omega)]; unfold wDir; omega
 have q0 := @hc0; have q1 := bI hc1; have q2 := @hc1; refine jP (a4I x.fQuery (n - (x.fName.size : Nat)) (by omega) hw.2) ?_
 exact aA ⟨⟨_, rfl, by simp only [go_sem, e]⟩, trivial⟩
theorem b5v (x : TDir) (hx : wDir x ≤ 1048576) : FnC Tryz.prog 68 [a4J x] (b8C x) := by
 unfold wDir at hx
 refine ent Tryz.func68 rfl Tryz.call68 rfl (fun C => ?_); simp only [go_sem, st0, Tryz.ntmps68]
 refine fK (b1s x.fQuery (by omega)) ?_
 exact aA ⟨⟨_, rfl, by simp only [go_sem]⟩, trivial⟩
theorem b5w (x : TDir) (hx : wDir x ≤ 67108864) : FnC Tryz.prog 70 [a4J x, a4J x] (ob true) := by
 unfold wDir at hx
 refine ent Tryz.func70 rfl Tryz.call70 rfl (fun C => ?_); simp only [go_sem, st0, Tryz.ntmps70]
 refine fK (b1t x.fQuery (by omega)) ?_
 exact aA ⟨⟨_, rfl, by simp only [go_sem]⟩, trivial⟩
theorem b3K (l : List TDir) (hl : aY l ≤ 1048576) : FnC Tryz.prog 45 [.o (.d (.sl (l.map aS)))] (.o (.w 73 2 (l.map aS))) := by
 unfold aY at hl
 refine ent Tryz.func45 rfl Tryz.call45 rfl (fun C => ?_); simp only [go_sem, st0, Tryz.ntmps45]
 refine aD ?_
 refine aM (α := Nat) (fun k => [(4, oi k)]) (fun k => [(0, .row 73 2 (mY aS [sv ⟨#[]⟩, .sl []] l k) true)]) (fun k => k ≤ l.length) (fun k => l.length - k) 0 (fun _ => ?_) ?_ ?_ (fun k hk => ?_)
 ·simp only [go_sem]
 ·simp only [go_sem]; simp [lM]
 ·simp
 ·simp only [go_sem]
  refine aD ?_
  refine cnd rfl (fun h => ?_) (fun h => ?_)
  ·simp only [decide_eq_true_eq, Int.ofNat_lt] at h
   have hw := bB wDir l h
   have q0 := @h; refine eZ (b5v l[k] (by omega)) ?_
   refine aC (k + 1) ?_ ?_ ?_
   ·simp only [go_sem]; simp [← nA, h, aS]
   ·omega
   ·omega
  ·simp only [decide_eq_false_iff_not] at h
   have e : k = l.length := by omega
   subst e
   refine aD ?_
   exact aA ⟨⟨_, rfl, by simp only [go_sem, nC]⟩, trivial⟩
theorem b3L (l : List TDir) (hl : aY l ≤ 67108864) : FnC Tryz.prog 53 [.o (.d (.sl (l.map aS))), .o (.d (.sl (l.map aS)))] (ob true) := by
 unfold aY at hl
 refine ent Tryz.func53 rfl Tryz.call53 rfl (fun C => ?_); simp only [go_sem, st0, Tryz.ntmps53]
 refine aD ?_
 refine aM (α := Nat) (fun k => [(5, oi k)]) (fun _ => []) (fun k => k ≤ l.length) (fun k => l.length - k) 0 (fun _ => ?_) ?_ ?_ (fun k hk => ?_)
 ·simp only [go_sem]
 ·simp only [go_sem]; simp
 ·simp
 ·simp only [go_sem]
  refine aD ?_
  refine cnd rfl (fun h => ?_) (fun h => ?_)
  ·simp only [decide_eq_true_eq, Int.ofNat_lt] at h
   have hw := bB wDir l h
   have q0 := @h; refine eZ (b5w l[k] (by omega)) ?_
   refine aC (k + 1) ?_ ?_ ?_
   ·simp only [go_sem]; simp
   ·omega
   ·omega
  ·simp only [decide_eq_false_iff_not] at h
   refine aD ?_
   exact aA ⟨⟨_, rfl, by simp only [go_sem]⟩, trivial⟩
theorem a2k (l : List TDir) (n : Int) (h0 : 0 ≤ n ∧ n ≤ 1048576) (hw : a4K l) : FnC Tryz.prog 37 [.o (.d (.sl (l.map aS))), oi n] (oi (cO n (aY l))) := by
 unfold a4K at hw
 refine ent Tryz.func37 rfl Tryz.call37 rfl (fun C => ?_); simp only [go_sem, st0, Tryz.ntmps37]
 by_cases hc : n - (l.length : Nat) < 0
 ·have e : cO n (aY l) = -1 := by rw [aZ (by unfold aY; omega)]
  have q0 := @hc; refine fD ?_
  exact aA ⟨⟨_, rfl, by simp only [go_sem, e]⟩, trivial⟩
 have q0 := @hc; refine fD ?_
 refine aM (α := Nat) (fun k => [(5, oi k), (1, oi (n - (l.length : Nat) - (wsum wDir (l.take k) : Nat)))]) (fun _ => []) (fun k => k ≤ l.length ∧ 0 ≤ n - (l.length : Nat) - (wsum wDir (l.take k) : Nat)) (fun k => l.length - k) 0 (fun _ => ?_) ?_ ?_ (fun k hk => ?_)
 ·simp only [go_sem]
 ·simp only [go_sem]; simp [wsum]
 ·simp [wsum]; omega
 ·obtain ⟨hk, hn⟩ := hk
  simp only [go_sem]
  refine aD ?_
  refine cnd rfl (fun h => ?_) (fun h => ?_)
  ·simp only [decide_eq_true_eq, Int.ofNat_lt] at h
   have hs := nL wDir l h
   have ht := rR wDir l (k + 1)
   by_cases h2 : n - (l.length : Nat) - (wsum wDir (l.take k) : Nat) - (wDir l[k] : Nat) < 0
   ·have e : cO n (aY l) = -1 := by rw [aZ (by unfold aY; omega)]
    have q0 := @h; have q1 := aZ h2; refine jZ (a9B l[k] _ ⟨hn, by omega⟩ (hw.2 _ (List.getElem_mem h))) ?_
    exact aA ⟨⟨_, rfl, by simp only [go_sem, e]⟩, trivial⟩
   ·have q0 := @h; have q1 := bI h2; have q2 := @h2; refine jP (a9B l[k] _ ⟨hn, by omega⟩ (hw.2 _ (List.getElem_mem h))) ?_
    refine aC (k + 1) ?_ ?_ ?_
    ·simp only [go_sem]; simp; omega
    ·omega
    ·omega
  ·simp only [decide_eq_false_iff_not] at h
   have e0 : k = l.length := by omega
   subst e0
   rw [List.take_length] at hn
   have e : cO n (aY l) = n - (l.length : Nat) - (wsum wDir l : Nat) := by rw [bI (by unfold aY; omega)]; unfold aY; omega
   refine aD ?_
   exact aA ⟨⟨_, rfl, by simp only [go_sem, e, List.take_length]⟩, trivial⟩
end Go.Proofs.YteaaopodnbjpoaaGreat
end
end
section
section
set_option linter.all false
set_option maxHeartbeats 1000000
namespace Go.Proofs.YteaaopodnbjpoaaGreat
open Go Go.Sx Go.RowKit Go.Proofs
structure TResult where
 fName : ByteArray
 fIDs : List Int
@[go_sem] def aH (x : TResult) : List D := [sv x.fName, .sl (x.fIDs.map eQ)]
@[go_sem] def zH (x : TResult) : SV := .g [.d (sv x.fName), .d (.sl (x.fIDs.map eQ))]
@[go_sem] def b6T (x : TResult) : SV := .g [.d (sv x.fName), .w 3 1 (x.fIDs.map eQ)]
def wResult (x : TResult) : Nat := x.fName.size + x.fIDs.length
def xW (x : TResult) : Prop := x.fName.size ≤ 9223372036854775807 ∧ a2i x.fIDs
def aG (l : List TResult) : Nat := l.length + wsum wResult l
def zI (l : List TResult) : Prop := l.length ≤ 9223372036854775807 ∧ ∀ x ∈ l, xW x
theorem b3z {n : Nat} {r : List D} (h : ShD tt n 122 r) : ∃ x : TResult, r = aH x ∧ xW x := by
 match n, h with
 | n + 1, ⟨a0, b0, e0, h0, a1, b1, e1, h1, ee⟩ =>
  obtain ⟨x0, rfl, p0⟩ := a9x h0
  obtain ⟨x1, rfl, p1⟩ := b6W h1
  have ee' : b1 = [] := ee
  subst ee' e1 e0
  exact ⟨⟨x0, x1⟩, rfl, p0, p1⟩
theorem b1i {n : Nat} {r : List D} (h : ShD tt n 27 r) : ∃ l : List TResult, r = [.sl (l.map aH)] ∧ zI l := by
 match n, h with
 | n + 1, ⟨rows, h, hm, hr⟩ =>
  obtain ⟨l, rfl, hl⟩ := oI aH xW (fun r h => b3z (hr r h))
  exact ⟨l, h, by unfold maxLen at hm; simpa using hm, hl⟩
theorem a2L (x : TResult) (n : Int) (h0 : 0 ≤ n ∧ n ≤ 1048576) (hw : xW x) : FnC Tryz.prog 76 [zH x, oi n] (oi (cO n (wResult x))) := by
 refine ent Tryz.func76 rfl Tryz.call76 rfl (fun C => ?_); simp only [go_sem, st0, Tryz.ntmps76]
 unfold xW at hw
 by_cases hc0 : n - (x.fName.size : Nat) < 0
 ·have e : cO n (wResult x) = -1 := by rw [aZ (by unfold wResult; omega)]
  have q0 := @hc0; refine fD ?_
  exact aA ⟨⟨_, rfl, by simp only [go_sem, e]⟩, trivial⟩
 by_cases hc1 : n - (x.fName.size : Nat) - (x.fIDs.length : Nat) < 0
 ·have e : cO n (wResult x) = -1 := by rw [aZ (by unfold wResult; omega)]
  have q0 := @hc0; have q1 := aZ hc1; have q2 := @hc1; refine jP (a6K x.fIDs (n - (x.fName.size : Nat)) (by omega) hw.2) ?_
  exact aA ⟨⟨_, rfl, by simp only [go_sem, e]⟩, trivial⟩
 have e : cO n (wResult x) = n - (x.fName.size : Nat) - (x.fIDs.length : Nat) := by rw [bI (by unfold wResult; omega)]; unfold wResult; omega
 have q0 := @hc0; have q1 := bI hc1; have q2 := @hc1; refine jP (a6K x.fIDs (n - (x.fName.size : Nat)) (by omega) hw.2) ?_
 exact aA ⟨⟨_, rfl, by simp only [go_sem, e]⟩, trivial⟩
theorem a9t (x : TResult) (hx : wResult x ≤ 1048576) : FnC Tryz.prog 96 [zH x] (b6T x) := by
 unfold wResult at hx
 refine ent Tryz.func96 rfl Tryz.call96 rfl (fun C => ?_); simp only [go_sem, st0, Tryz.ntmps96]
 refine fK (b3B x.fIDs (by omega)) ?_
 exact aA ⟨⟨_, rfl, by simp only [go_sem]⟩, trivial⟩
theorem a9u (x : TResult) (hx : wResult x ≤ 67108864) : FnC Tryz.prog 118 [zH x, zH x] (ob true) := by
 unfold wResult at hx
 refine ent Tryz.func118 rfl Tryz.call118 rfl (fun C => ?_); simp only [go_sem, st0, Tryz.ntmps118]
 refine fK (b3C x.fIDs (by omega)) ?_
 exact aA ⟨⟨_, rfl, by simp only [go_sem]⟩, trivial⟩
theorem a7N (l : List TResult) (hl : aG l ≤ 1048576) : FnC Tryz.prog 46 [.o (.d (.sl (l.map aH)))] (.o (.w 141 2 (l.map aH))) := by
 unfold aG at hl
 refine ent Tryz.func46 rfl Tryz.call46 rfl (fun C => ?_); simp only [go_sem, st0, Tryz.ntmps46]
 refine aD ?_
 refine aM (α := Nat) (fun k => [(4, oi k)]) (fun k => [(0, .row 141 2 (mY aH [sv ⟨#[]⟩, .sl []] l k) true)]) (fun k => k ≤ l.length) (fun k => l.length - k) 0 (fun _ => ?_) ?_ ?_ (fun k hk => ?_)
 ·simp only [go_sem]
 ·simp only [go_sem]; simp [lM]
 ·simp
 ·simp only [go_sem]
  refine aD ?_
  refine cnd rfl (fun h => ?_) (fun h => ?_)
  ·simp only [decide_eq_true_eq, Int.ofNat_lt] at h
   have hw := bB wResult l h
   have q0 := @h; refine eZ (a9t l[k] (by omega)) ?_
   refine aC (k + 1) ?_ ?_ ?_
   ·simp only [go_sem]; simp [← nA, h, aH]
   ·omega
   ·omega
  ·simp only [decide_eq_false_iff_not] at h
   have e : k = l.length := by omega
   subst e
   refine aD ?_
   exact aA ⟨⟨_, rfl, by simp only [go_sem, nC]⟩, trivial⟩
theorem a7O (l : List TResult) (hl : aG l ≤ 67108864) : FnC Tryz.prog 54 [.o (.d (.sl (l.map aH))), .o (.d (.sl (l.map aH)))] (ob true) := by
 unfold aG at hl
 refine ent Tryz.func54 rfl Tryz.call54 rfl (fun C => ?_); simp only [go_sem, st0, Tryz.ntmps54]
 refine aD ?_
 refine aM (α := Nat) (fun k => [(5, oi k)]) (fun _ => []) (fun k => k ≤ l.length) (fun k => l.length - k) 0 (fun _ => ?_) ?_ ?_ (fun k hk => ?_)
 ·simp only [go_sem]
 ·simp only [go_sem]; simp
 ·simp
 ·simp only [go_sem]
  refine aD ?_
  refine cnd rfl (fun h => ?_) (fun h => ?_)
  ·simp only [decide_eq_true_eq, Int.ofNat_lt] at h
   have hw := bB wResult l h
   have q0 := @h; refine eZ (a9u l[k] (by omega)) ?_
   refine aC (k + 1) ?_ ?_ ?_
   ·simp only [go_sem]; simp
   ·omega
   ·omega
  ·simp only [decide_eq_false_iff_not] at h
   refine aD ?_
   exact aA ⟨⟨_, rfl, by simp only [go_sem]⟩, trivial⟩
theorem a1m (l : List TResult) (n : Int) (h0 : 0 ≤ n ∧ n ≤ 1048576) (hw : zI l) : FnC Tryz.prog 38 [.o (.d (.sl (l.map aH))), oi n] (oi (cO n (aG l))) := by
 unfold zI at hw
 refine ent Tryz.func38 rfl Tryz.call38 rfl (fun C => ?_); simp only [go_sem, st0, Tryz.ntmps38]
 by_cases hc : n - (l.length : Nat) < 0
 ·have e : cO n (aG l) = -1 := by rw [aZ (by unfold aG; omega)]
  have q0 := @hc; refine fD ?_
  exact aA ⟨⟨_, rfl, by simp only [go_sem, e]⟩, trivial⟩
 have q0 := @hc; refine fD ?_
 refine aM (α := Nat) (fun k => [(5, oi k), (1, oi (n - (l.length : Nat) - (wsum wResult (l.take k) : Nat)))]) (fun _ => []) (fun k => k ≤ l.length ∧ 0 ≤ n - (l.length : Nat) - (wsum wResult (l.take k) : Nat)) (fun k => l.length - k) 0 (fun _ => ?_) ?_ ?_ (fun k hk => ?_)
 ·simp only [go_sem]
 ·simp only [go_sem]; simp [wsum]
 ·simp [wsum]; omega
 ·obtain ⟨hk, hn⟩ := hk
  simp only [go_sem]
  refine aD ?_
  refine cnd rfl (fun h => ?_) (fun h => ?_)
  ·simp only [decide_eq_true_eq, Int.ofNat_lt] at h
   have hs := nL wResult l h
   have ht := rR wResult l (k + 1)
   by_cases h2 : n - (l.length : Nat) - (wsum wResult (l.take k) : Nat) - (wResult l[k] : Nat) < 0
   ·have e : cO n (aG l) = -1 := by rw [aZ (by unfold aG; omega)]
    have q0 := @h; have q1 := aZ h2; refine jZ (a2L l[k] _ ⟨hn, by omega⟩ (hw.2 _ (List.getElem_mem h))) ?_
    exact aA ⟨⟨_, rfl, by simp only [go_sem, e]⟩, trivial⟩
   ·have q0 := @h; have q1 := bI h2; have q2 := @h2; refine jP (a2L l[k] _ ⟨hn, by omega⟩ (hw.2 _ (List.getElem_mem h))) ?_
    refine aC (k + 1) ?_ ?_ ?_
    ·simp only [go_sem]; simp; omega
    ·omega
    ·omega
  ·simp only [decide_eq_false_iff_not] at h
   have e0 : k = l.length := by omega
   subst e0
   rw [List.take_length] at hn
   have e : cO n (aG l) = n - (l.length : Nat) - (wsum wResult l : Nat) := by rw [bI (by unfold aG; omega)]; unfold aG; omega
   refine aD ?_
   exact aA ⟨⟨_, rfl, by simp only [go_sem, e, List.take_length]⟩, trivial⟩
end Go.Proofs.YteaaopodnbjpoaaGreat
end
section
set_option linter.all false
set_option maxHeartbeats 1000000
namespace Go.Proofs.YteaaopodnbjpoaaGreat
open Go Go.Sx Go.RowKit Go.Proofs
structure TDiff where
 fName : ByteArray
 fAdded : List Int
 fRemoved : List Int
@[go_sem] def jW (x : TDiff) : List D := [sv x.fName, .sl (x.fAdded.map eQ), .sl (x.fRemoved.map eQ)]
@[go_sem] def c0z (x : TDiff) : SV := .g [.d (sv x.fName), .d (.sl (x.fAdded.map eQ)), .d (.sl (x.fRemoved.map eQ))]
@[go_sem] def c0A (x : TDiff) : SV := .g [.d (sv x.fName), .w 3 1 (x.fAdded.map eQ), .w 3 1 (x.fRemoved.map eQ)]
def a9v (x : TDiff) : Nat := x.fName.size + x.fAdded.length + x.fRemoved.length
def b8w (x : TDiff) : Prop := x.fName.size ≤ 9223372036854775807 ∧ a2i x.fAdded ∧ a2i x.fRemoved
def nK (l : List TDiff) : Nat := l.length + wsum a9v l
def b9G (l : List TDiff) : Prop := l.length ≤ 9223372036854775807 ∧ ∀ x ∈ l, b8w x
end Go.Proofs.YteaaopodnbjpoaaGreat
end
section
set_option linter.all false
set_option maxHeartbeats 1000000
namespace Go.Proofs.YteaaopodnbjpoaaGreat
open Go Go.Sx Go.RowKit Go.Proofs
structure TCatalog where
 fStore : TStore
 fDirs : List TDir
 fResults : List TResult
@[go_sem] def b1j (x : TCatalog) : List D := [.sl (x.fStore.fSchema.map bM), .sl (x.fStore.fFiles.map bN), iv x.fStore.fNextID, .sl (x.fDirs.map aS), .sl (x.fResults.map aH)]
@[go_sem] def bZ (x : TCatalog) : SV := .g [.d (.sl (x.fStore.fSchema.map bM)), .d (.sl (x.fStore.fFiles.map bN)), .d (iv x.fStore.fNextID), .d (.sl (x.fDirs.map aS)), .d (.sl (x.fResults.map aH))]
@[go_sem] def mG (x : TCatalog) : SV := .g [.w 196 2 (x.fStore.fSchema.map bM), .w 70 5 (x.fStore.fFiles.map bN), .d (iv x.fStore.fNextID), .w 73 2 (x.fDirs.map aS), .w 141 2 (x.fResults.map aH)]
def wCatalog (x : TCatalog) : Nat := aL x.fStore + aY x.fDirs + aG x.fResults
def pM (x : TCatalog) : Prop := zJ x.fStore ∧ a4K x.fDirs ∧ zI x.fResults
def b8R (l : List TCatalog) : Nat := l.length + wsum wCatalog l
def b8x (l : List TCatalog) : Prop := l.length ≤ 9223372036854775807 ∧ ∀ x ∈ l, pM x
theorem a4z {n : Nat} {r : List D} (h : ShD tt n 29 r) : ∃ x : TCatalog, r = b1j x ∧ pM x := by
 match n, h with
 | n + 1, ⟨a0, b0, e0, h0, a1, b1, e1, h1, a2, b2, e2, h2, ee⟩ =>
  obtain ⟨x0, rfl, p0⟩ := b5t h0
  obtain ⟨x1, rfl, p1⟩ := b7b h1
  obtain ⟨x2, rfl, p2⟩ := b1i h2
  have ee' : b2 = [] := ee
  subst ee' e2 e1 e0
  exact ⟨⟨x0, x1, x2⟩, rfl, p0, p1, p2⟩
theorem a1n (x : TCatalog) (n : Int) (h0 : 0 ≤ n ∧ n ≤ 1048576) (hw : pM x) : FnC Tryz.prog 7 [bZ x, oi n] (oi (cO n (wCatalog x))) := by
 refine ent Tryz.func7 rfl Tryz.call7 rfl (fun C => ?_); simp only [go_sem, st0, Tryz.ntmps7]
 unfold pM at hw
 by_cases hc0 : n - (aL x.fStore : Nat) < 0
 ·have e : cO n (wCatalog x) = -1 := by rw [aZ (by unfold wCatalog; omega)]
  have q0 := aZ hc0; have q1 := @hc0; refine jZ (wC x.fStore (n) (by omega) hw.1) ?_
  exact aA ⟨⟨_, rfl, by simp only [go_sem, e]⟩, trivial⟩
 by_cases hc1 : n - (aL x.fStore : Nat) - (aY x.fDirs : Nat) < 0
 ·have e : cO n (wCatalog x) = -1 := by rw [aZ (by unfold wCatalog; omega)]
  have q0 := bI hc0; have q1 := @hc0; have q2 := aZ hc1; have q3 := @hc1; refine a1a (wC x.fStore (n) (by omega) hw.1) (a2k x.fDirs (n - (aL x.fStore : Nat)) (by omega) hw.2.1) ?_
  exact aA ⟨⟨_, rfl, by simp only [go_sem, e]⟩, trivial⟩
 by_cases hc2 : n - (aL x.fStore : Nat) - (aY x.fDirs : Nat) - (aG x.fResults : Nat) < 0
 ·have e : cO n (wCatalog x) = -1 := by rw [aZ (by unfold wCatalog; omega)]
  have q0 := bI hc0; have q1 := @hc0; have q2 := bI hc1; have q3 := @hc1; have q4 := aZ hc2; have q5 := @hc2; refine b9q (wC x.fStore (n) (by omega) hw.1) (a2k x.fDirs (n - (aL x.fStore : Nat)) (by omega) hw.2.1) (a1m x.fResults (n - (aL x.fStore : Nat) - (aY x.fDirs : Nat)) (by omega) hw.2.2) ?_
  exact aA ⟨⟨_, rfl, by simp only [go_sem, e]⟩, trivial⟩
 have e : cO n (wCatalog x) = n - (aL x.fStore : Nat) - (aY x.fDirs : Nat) - (aG x.fResults : Nat) := by rw [bI (by unfold wCatalog; omega)]; unfold wCatalog; omega
 have q0 := bI hc0; have q1 := @hc0; have q2 := bI hc1; have q3 := @hc1; have q4 := bI hc2; have q5 := @hc2; refine b9q (wC x.fStore (n) (by omega) hw.1) (a2k x.fDirs (n - (aL x.fStore : Nat)) (by omega) hw.2.1) (a1m x.fResults (n - (aL x.fStore : Nat) - (aY x.fDirs : Nat)) (by omega) hw.2.2) ?_
 exact aA ⟨⟨_, rfl, by simp only [go_sem, e]⟩, trivial⟩
theorem mH (x : TCatalog) (hx : wCatalog x ≤ 1048576) : FnC Tryz.prog 10 [bZ x] (mG x) := by
 unfold wCatalog at hx
 refine ent Tryz.func10 rfl Tryz.call10 rfl (fun C => ?_); simp only [go_sem, st0, Tryz.ntmps10]
 refine b9k (b1q x.fStore (by omega)) (b3K x.fDirs (by omega)) (a7N x.fResults (by omega)) ?_
 exact aA ⟨⟨_, rfl, by simp only [go_sem]⟩, trivial⟩
theorem nZ (x : TCatalog) (hx : wCatalog x ≤ 1048576) : FnC Tryz.prog 10 [bZ x] (bZ x) := (mH x hx).pu (by simp only [go_sem, and_self])
theorem iF (x : TCatalog) (hx : wCatalog x ≤ 67108864) : FnC Tryz.prog 14 [bZ x, bZ x] (ob true) := by
 unfold wCatalog at hx
 refine ent Tryz.func14 rfl Tryz.call14 rfl (fun C => ?_); simp only [go_sem, st0, Tryz.ntmps14]
 refine b9k (b1r x.fStore (by omega)) (b3L x.fDirs (by omega)) (a7O x.fResults (by omega)) ?_
 exact aA ⟨⟨_, rfl, by simp only [go_sem]⟩, trivial⟩
end Go.Proofs.YteaaopodnbjpoaaGreat
end
section
set_option linter.all false
set_option maxHeartbeats 1000000
namespace Go.Proofs.YteaaopodnbjpoaaGreat
open Go Go.Sx Go.RowKit Go.Proofs
structure TGroup where
 fValue : TValue
 fIDs : List Int
@[go_sem] def b9s (x : TGroup) : List D := [iv x.fValue.fKind, iv x.fValue.fInt, sv x.fValue.fStr, .sl (x.fIDs.map eQ)]
@[go_sem] def c0m (x : TGroup) : SV := .g [.d (iv x.fValue.fKind), .d (iv x.fValue.fInt), .d (sv x.fValue.fStr), .d (.sl (x.fIDs.map eQ))]
@[go_sem] def c0n (x : TGroup) : SV := .g [.d (iv x.fValue.fKind), .d (iv x.fValue.fInt), .d (sv x.fValue.fStr), .w 3 1 (x.fIDs.map eQ)]
def b8y (x : TGroup) : Nat := fV x.fValue + x.fIDs.length
def b6U (x : TGroup) : Prop := vZ x.fValue ∧ a2i x.fIDs
def b9H (l : List TGroup) : Nat := l.length + wsum b8y l
def b9t (l : List TGroup) : Prop := l.length ≤ 9223372036854775807 ∧ ∀ x ∈ l, b6U x
end Go.Proofs.YteaaopodnbjpoaaGreat
end
section
set_option linter.all false
set_option maxHeartbeats 1000000
namespace Go.Proofs.YteaaopodnbjpoaaGreat
open Go Go.Sx Go.RowKit Go.Proofs
structure TEdit where
 fOK : Bool
 fSet : List TAttr
@[go_sem] def b9I (x : TEdit) : List D := [bv x.fOK, .sl (x.fSet.map aJ)]
@[go_sem] def gT (x : TEdit) : SV := .g [.d (bv x.fOK), .d (.sl (x.fSet.map aJ))]
@[go_sem] def a2M (x : TEdit) : SV := .g [.d (bv x.fOK), .w 117 4 (x.fSet.map aJ)]
def gG (x : TEdit) : Nat := aV x.fSet
def b8z (x : TEdit) : Prop := True ∧ a1q x.fSet
def c0o (l : List TEdit) : Nat := l.length + wsum gG l
def b9J (l : List TEdit) : Prop := l.length ≤ 9223372036854775807 ∧ ∀ x ∈ l, b8z x
end Go.Proofs.YteaaopodnbjpoaaGreat
end
section
set_option linter.all false
set_option maxHeartbeats 1000000
namespace Go.Proofs.YteaaopodnbjpoaaGreat
open Go Go.Sx Go.RowKit Go.Proofs
structure TChange where
 fKind : Int
 fFile : TFile
 fID : Int
 fDir : TDir
@[go_sem] def b8S (x : TChange) : List D := [iv x.fKind, iv x.fFile.fID, iv x.fFile.fOwner, bv x.fFile.fShared, iv x.fFile.fLink, .sl (x.fFile.fAttrs.map aJ), iv x.fID, sv x.fDir.fName, .sl (x.fDir.fQuery.map aT)]
@[go_sem] def b9K (x : TChange) : SV := .g [.d (iv x.fKind), .d (iv x.fFile.fID), .d (iv x.fFile.fOwner), .d (bv x.fFile.fShared), .d (iv x.fFile.fLink), .d (.sl (x.fFile.fAttrs.map aJ)), .d (iv x.fID), .d (sv x.fDir.fName), .d (.sl (x.fDir.fQuery.map aT))]
@[go_sem] def b9L (x : TChange) : SV := .g [.d (iv x.fKind), .d (iv x.fFile.fID), .d (iv x.fFile.fOwner), .d (bv x.fFile.fShared), .d (iv x.fFile.fLink), .w 117 4 (x.fFile.fAttrs.map aJ), .d (iv x.fID), .d (sv x.fDir.fName), .w 158 7 (x.fDir.fQuery.map aT)]
def b6V (x : TChange) : Nat := wFile x.fFile + wDir x.fDir
def b5n (x : TChange) : Prop := inR .i64 x.fKind ∧ a2j x.fFile ∧ inR .i64 x.fID ∧ a6O x.fDir
def b9u (l : List TChange) : Nat := l.length + wsum b6V l
def b8T (l : List TChange) : Prop := l.length ≤ 9223372036854775807 ∧ ∀ x ∈ l, b5n x
end Go.Proofs.YteaaopodnbjpoaaGreat
end
section
set_option linter.all false
set_option maxHeartbeats 1000000
namespace Go.Proofs.YteaaopodnbjpoaaGreat
open Go Go.Sx Go.RowKit Go.Proofs
structure TSnapshot where
 fStore : TStore
 fDirs : List TDir
@[go_sem] def b7J (x : TSnapshot) : List D := [.sl (x.fStore.fSchema.map bM), .sl (x.fStore.fFiles.map bN), iv x.fStore.fNextID, .sl (x.fDirs.map aS)]
@[go_sem] def b8U (x : TSnapshot) : SV := .g [.d (.sl (x.fStore.fSchema.map bM)), .d (.sl (x.fStore.fFiles.map bN)), .d (iv x.fStore.fNextID), .d (.sl (x.fDirs.map aS))]
@[go_sem] def b8V (x : TSnapshot) : SV := .g [.w 196 2 (x.fStore.fSchema.map bM), .w 70 5 (x.fStore.fFiles.map bN), .d (iv x.fStore.fNextID), .w 73 2 (x.fDirs.map aS)]
def b3A (x : TSnapshot) : Nat := aL x.fStore + aY x.fDirs
def b1k (x : TSnapshot) : Prop := zJ x.fStore ∧ a4K x.fDirs
def b8A (l : List TSnapshot) : Nat := l.length + wsum b3A l
def b7K (l : List TSnapshot) : Prop := l.length ≤ 9223372036854775807 ∧ ∀ x ∈ l, b1k x
end Go.Proofs.YteaaopodnbjpoaaGreat
end
section
set_option linter.all false
set_option maxHeartbeats 1000000
namespace Go.Proofs.YteaaopodnbjpoaaGreat
open Go Go.Sx Go.RowKit Go.Proofs
structure TDisk where
 fSlotA : ByteArray
 fSlotB : ByteArray
@[go_sem] def b9M (x : TDisk) : List D := [sv x.fSlotA, sv x.fSlotB]
@[go_sem] def c0B (x : TDisk) : SV := .g [.d (sv x.fSlotA), .d (sv x.fSlotB)]
def b9v (x : TDisk) : Nat := x.fSlotA.size + x.fSlotB.size
def b8B (x : TDisk) : Prop := x.fSlotA.size ≤ 9223372036854775807 ∧ x.fSlotB.size ≤ 9223372036854775807
def c0p (l : List TDisk) : Nat := l.length + wsum b9v l
def b9N (l : List TDisk) : Prop := l.length ≤ 9223372036854775807 ∧ ∀ x ∈ l, b8B x
end Go.Proofs.YteaaopodnbjpoaaGreat
end
section
set_option linter.all false
namespace Go.Proofs.YteaaopodnbjpoaaGreat
open Go Go.Sx Go.RowKit Go.Proofs
def inB (n a b : Int) : Bool := decide (a ≤ n) && decide (n ≤ b)
theorem aQ (n a b : Int) : FnC Tryz.prog 175 [oi n, oi a, oi b] (ob (inB n a b)) := by
 refine ent Tryz.func175 rfl Tryz.call175 rfl (fun C => ?_); simp only [go_sem, st0, Tryz.ntmps175]
 by_cases h0 : a ≤ n <;> by_cases h1 : n ≤ b
 all_goals
  have q0 := @h0; have q1 := @h1; have q2 := @decide_false; refine lT ?_
  refine aA ⟨⟨_, rfl, ?_⟩, ?_⟩
  ·simp only [go_sem]; simp [inB, h0, h1]
  ·trivial
theorem bS (n a b : Int) : FnC Tryz.prog 82 [oi n, oi a, oi b] (ob (inB n a b)) := by
 refine ent Tryz.func82 rfl Tryz.call82 rfl (fun C => ?_); simp only [go_sem, st0, Tryz.ntmps82]
 by_cases h0 : a ≤ n <;> by_cases h1 : n ≤ b
 all_goals
  have q0 := @h0; have q1 := @h1; have q2 := @decide_false; refine lT ?_
  refine aA ⟨⟨_, rfl, ?_⟩, ?_⟩
  ·simp only [go_sem]; simp [inB, h0, h1]
  ·trivial
end Go.Proofs.YteaaopodnbjpoaaGreat
end
section
set_option linter.all false
set_option maxHeartbeats 1000000
namespace Go.Proofs.YteaaopodnbjpoaaGreat
open Go Go.Sx Go.RowKit Go.Proofs
end Go.Proofs.YteaaopodnbjpoaaGreat
end
end
