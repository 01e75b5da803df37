/- Joined texts. -/
import Derived.Test.YtddimbdeggomaaaGreatZ05
import Derived.Sort.Row
import Derived.Sort.Grow
import Derived.Shelf.RegionOpenPlain
import Derived.WalkKit
import Derived.Deep.LoopGhost
import Derived.Deep.Draws
import Derived.Lib.Walk
import Derived.Lib.SliceRun
import Derived.Shelf.SlicesE.Kit
import Derived.Shelf.SlicesE.DeleteFunc
set_option linter.all false
section
section
set_option linter.all false
namespace Go.Proofs.YtddimbdeggomaaaGreat
open Go Go.Sx Go.RowKit Go.Proofs
def bP (n : Int) (w : Nat) : Int := if n - w < 0 then -1 else n - w
theorem aU {n : Int} {w : Nat} (h : n - w < 0) : bP n w = -1 := if_pos h
theorem aY {n : Int} {w : Nat} (h : ¬ n - w < 0) : bP n w = n - w := if_neg h
theorem a0U {n : Int} {w : Nat} (h : ¬ bP n w < 0) : w ≤ n := by
 unfold bP at h
 split at h <;> omega
def wsum {α : Type} (w : α → Nat) : List α → Nat
 | [] => 0
 | x :: l => w x + wsum w l
theorem bC {α : Type} (w : α → Nat) : ∀ (l : List α) {k : Nat} (h : k < l.length), w l[k] ≤ wsum w l
 | [], _, h => by simp at h
 | x :: l, 0, _ => by simp [wsum]
 | x :: l, k + 1, h => by
  have := bC w l (k := k) (by simpa using h)
  simp only [List.getElem_cons_succ, wsum]; omega
theorem mU {α : Type} (w : α → Nat) : ∀ (l : List α) {k : Nat} (h : k < l.length), wsum w (l.take (k + 1)) = wsum w (l.take k) + w l[k]
 | [], _, h => by simp at h
 | x :: l, 0, _ => by simp [wsum]
 | x :: l, k + 1, h => by
  have := mU w l (k := k) (by simpa using h)
  simp only [List.take_succ_cons, List.getElem_cons_succ, wsum]; omega
theorem vE {α : Type} (w : α → Nat) : ∀ (l : List α) (k : Nat), wsum w (l.take k) ≤ wsum w l
 | [], k => by simp
 | x :: l, 0 => by simp [wsum]
 | x :: l, k + 1 => by
  have := vE w l k
  simp only [List.take_succ_cons, wsum]; omega
@[go_sem] def fA (n : Int) : List D := [iv n]
@[go_sem] def bW (s : ByteArray) : List D := [sv s]
abbrev slI (l : List Int) : D := .sl (l.map fA)
abbrev slS (l : List ByteArray) : D := .sl (l.map bW)
def pQ (l : List ByteArray) : Nat := l.length + wsum ByteArray.size l
def a1Q (l : List Int) : Prop := l.length ≤ 9223372036854775807 ∧ ∀ i ∈ l, inR .i64 i
def b8w (l : List ByteArray) : Prop := l.length ≤ 9223372036854775807 ∧ ∀ s ∈ l, s.size ≤ 9223372036854775807
theorem a0V {n : Nat} {r : List D} (h : ShD tt n 3 r) : ∃ i, r = fA i ∧ inR .i64 i := by
 match n, h with
 | n + 1, ⟨i, h, hi⟩ => exact ⟨i, h, hi⟩
theorem b2I {n : Nat} {r : List D} (h : ShD tt n 9 r) : ∃ s : ByteArray, r = bW s ∧ s.size ≤ 9223372036854775807 := by
 match n, h with
 | n + 1, ⟨s, h, hs⟩ => exact ⟨s, h, hs⟩
theorem b9L {n : Nat} {r : List D} (h : ShD tt n 4 r) : ∃ b : Bool, r = [bv b] := by
 match n, h with
 | n + 1, ⟨b, h⟩ => exact ⟨b, h⟩
theorem b6l {n : Nat} {r : List D} (h : ShD tt n 118 r) : ∃ l : List Int, r = [slI l] ∧ a1Q l := by
 match n, h with
 | n + 1, ⟨rows, h, hm, hr⟩ =>
  obtain ⟨l, rfl, hl⟩ := nL fA (inR .i64) (fun r h => a0V (hr r h))
  exact ⟨l, h, by unfold maxLen at hm; simpa using hm, hl⟩
theorem b2J (l : List Int) (hl : l.length ≤ 1048576) : FnC Tryz.prog 161 [.o (.d (slI l))] (.o (.w 3 1 (l.map fA))) := by
 refine ent Tryz.func161 rfl Tryz.call161 rfl (fun C => ?_); simp only [go_sem, st0, Tryz.ntmps161]
 refine aD ?_
 refine aN (α := Nat) (fun k => [(4, oi k)]) (fun k => [(0, .row 3 1 (mI fA [iv 0] l k) true)]) (fun k => k ≤ l.length) (fun k => l.length - k) 0 (fun _ => ?_) ?_ ?_ (fun k hk => ?_)
 ·simp only [go_sem]
 ·simp only [go_sem]; simp [kV]
 ·simp
 ·simp only [go_sem]
  refine aD ?_
  refine cnd rfl (fun h => ?_) (fun h => ?_)
  ·simp only [decide_eq_true_eq, Int.ofNat_lt] at h
   have q0 := @h; refine gF ?_
   refine aF (k + 1) ?_ ?_ ?_
   ·simp only [go_sem]; simp [← mM, h, fA]
   ·omega
   ·omega
  ·simp only [decide_eq_false_iff_not] at h
   have e : k = l.length := by omega
   subst e
   refine aD ?_
   exact aA ⟨⟨_, rfl, by simp only [go_sem, mO]⟩, trivial⟩
theorem a1R (l : List Int) (hl : l.length ≤ 67108864) : FnC Tryz.prog 169 [.o (.d (slI l)), .o (.d (slI l))] (ob true) := by
 refine ent Tryz.func169 rfl Tryz.call169 rfl (fun C => ?_); simp only [go_sem, st0, Tryz.ntmps169]
 refine aD ?_
 refine aN (α := Nat) (fun k => [(5, oi k)]) (fun _ => []) (fun k => k ≤ l.length) (fun k => l.length - k) 0 (fun _ => ?_) ?_ ?_ (fun k hk => ?_)
 ·simp only [go_sem]
 ·simp only [go_sem]; simp
 ·simp
 ·simp only [go_sem]
  refine aD ?_
  refine cnd rfl (fun h => ?_) (fun h => ?_)
  ·simp only [decide_eq_true_eq, Int.ofNat_lt] at h
   have q0 := @h; refine gF ?_
   refine aF (k + 1) ?_ ?_ ?_
   ·simp only [go_sem]; simp
   ·omega
   ·omega
  ·simp only [decide_eq_false_iff_not] at h
   refine aD ?_
   exact aA ⟨⟨_, rfl, by simp only [go_sem]⟩, trivial⟩
theorem a5W (l : List Int) (n : Int) (h0 : 0 ≤ n ∧ n ≤ 1048576) (hw : a1Q l) : FnC Tryz.prog 154 [.o (.d (slI l)), oi n] (oi (bP n l.length)) := by
 have h1 := hw.1
 refine ent Tryz.func154 rfl Tryz.call154 rfl (fun C => ?_); simp only [go_sem, st0, Tryz.ntmps154]
 by_cases hc : n - (l.length : Nat) < 0
 ·have q0 := @hc; refine gF ?_
  exact aA ⟨⟨_, rfl, by simp only [go_sem, aU hc]⟩, trivial⟩
 ·have q0 := @hc; refine gF ?_
  exact aA ⟨⟨_, rfl, by simp only [go_sem, aY hc]⟩, trivial⟩
end Go.Proofs.YtddimbdeggomaaaGreat
end
section
set_option linter.all false
set_option maxHeartbeats 1000000
namespace Go.Proofs.YtddimbdeggomaaaGreat
open Go Go.Sx Go.RowKit Go.Proofs
structure TValue where
 fKind : Int
 fInt : Int
 fStr : ByteArray
@[go_sem] def b4B (x : TValue) : List D := [iv x.fKind, iv x.fInt, sv x.fStr]
@[go_sem] def pR (x : TValue) : SV := .g [.d (iv x.fKind), .d (iv x.fInt), .d (sv x.fStr)]
def gX (x : TValue) : Nat := x.fStr.size
def vF (x : TValue) : Prop := inR .i64 x.fKind ∧ inR .i64 x.fInt ∧ x.fStr.size ≤ 9223372036854775807
def b9m (l : List TValue) : Nat := l.length + wsum gX l
def b8T (l : List TValue) : Prop := l.length ≤ 9223372036854775807 ∧ ∀ x ∈ l, vF x
theorem a8D {n : Nat} {r : List D} (h : ShD tt n 206 r) : ∃ x : TValue, r = b4B x ∧ vF x := by
 match n, h with
 | n + 1, ⟨a0, b0, e0, h0, a1, b1, e1, h1, a2, b2, e2, h2, ee⟩ =>
  obtain ⟨x0, rfl, p0⟩ := a0V h0
  obtain ⟨x1, rfl, p1⟩ := a0V h1
  obtain ⟨x2, rfl, p2⟩ := b2I h2
  have ee' : b2 = [] := ee
  subst ee' e2 e1 e0
  exact ⟨⟨x0, x1, x2⟩, rfl, p0, p1, p2⟩
theorem vH (x : TValue) (n : Int) (h0 : 0 ≤ n ∧ n ≤ 1048576) (hw : vF x) : FnC Tryz.prog 249 [pR x, oi n] (oi (bP n (gX x))) := by
 refine ent Tryz.func249 rfl Tryz.call249 rfl (fun C => ?_); simp only [go_sem, st0, Tryz.ntmps249]
 unfold vF at hw
 by_cases hc0 : n - (x.fStr.size : Nat) < 0
 ·have e : bP n (gX x) = -1 := by rw [aU (by unfold gX; omega)]
  have q0 := @hc0; refine gF ?_
  exact aA ⟨⟨_, rfl, by simp only [go_sem, e]⟩, trivial⟩
 have e : bP n (gX x) = n - (x.fStr.size : Nat) := by rw [aY (by unfold gX; omega)]; unfold gX; omega
 have q0 := @hc0; refine gF ?_
 exact aA ⟨⟨_, rfl, by simp only [go_sem, e]⟩, trivial⟩
theorem a3V (x : TValue) (hx : gX x ≤ 1048576) : FnC Tryz.prog 251 [pR x] (pR x) := by
 unfold gX at hx
 refine ent Tryz.func251 rfl Tryz.call251 rfl (fun C => ?_); simp only [go_sem, st0, Tryz.ntmps251]
 refine aD ?_
 exact aA ⟨⟨_, rfl, by simp only [go_sem]⟩, trivial⟩
theorem a3W (x : TValue) (hx : gX x ≤ 67108864) : FnC Tryz.prog 228 [pR x, pR x] (ob true) := by
 unfold gX at hx
 refine ent Tryz.func228 rfl Tryz.call228 rfl (fun C => ?_); simp only [go_sem, st0, Tryz.ntmps228]
 refine aD ?_
 exact aA ⟨⟨_, rfl, by simp only [go_sem]⟩, trivial⟩
end Go.Proofs.YtddimbdeggomaaaGreat
end
section
set_option linter.all false
set_option maxHeartbeats 1000000
namespace Go.Proofs.YtddimbdeggomaaaGreat
open Go Go.Sx Go.RowKit Go.Proofs
structure TField where
 fName : ByteArray
 fKind : Int
@[go_sem] def bG (x : TField) : List D := [sv x.fName, iv x.fKind]
@[go_sem] def a3X (x : TField) : SV := .g [.d (sv x.fName), .d (iv x.fKind)]
def wField (x : TField) : Nat := x.fName.size
def a0W (x : TField) : Prop := x.fName.size ≤ 9223372036854775807 ∧ inR .i64 x.fKind
def aQ (l : List TField) : Nat := l.length + wsum wField l
def a0X (l : List TField) : Prop := l.length ≤ 9223372036854775807 ∧ ∀ x ∈ l, a0W x
theorem b4C {n : Nat} {r : List D} (h : ShD tt n 188 r) : ∃ x : TField, r = bG x ∧ a0W x := by
 match n, h with
 | n + 1, ⟨a0, b0, e0, h0, a1, b1, e1, h1, ee⟩ =>
  obtain ⟨x0, rfl, p0⟩ := b2I h0
  obtain ⟨x1, rfl, p1⟩ := a0V h1
  have ee' : b1 = [] := ee
  subst ee' e1 e0
  exact ⟨⟨x0, x1⟩, rfl, p0, p1⟩
theorem b2K {n : Nat} {r : List D} (h : ShD tt n 22 r) : ∃ l : List TField, r = [.sl (l.map bG)] ∧ a0X l := by
 match n, h with
 | n + 1, ⟨rows, h, hm, hr⟩ =>
  obtain ⟨l, rfl, hl⟩ := nL bG a0W (fun r h => b4C (hr r h))
  exact ⟨l, h, by unfold maxLen at hm; simpa using hm, hl⟩
theorem a3Y (x : TField) (n : Int) (h0 : 0 ≤ n ∧ n ≤ 1048576) (hw : a0W x) : FnC Tryz.prog 153 [a3X x, oi n] (oi (bP n (wField x))) := by
 refine ent Tryz.func153 rfl Tryz.call153 rfl (fun C => ?_); simp only [go_sem, st0, Tryz.ntmps153]
 unfold a0W at hw
 by_cases hc0 : n - (x.fName.size : Nat) < 0
 ·have e : bP n (wField x) = -1 := by rw [aU (by unfold wField; omega)]
  have q0 := @hc0; refine gF ?_
  exact aA ⟨⟨_, rfl, by simp only [go_sem, e]⟩, trivial⟩
 have e : bP n (wField x) = n - (x.fName.size : Nat) := by rw [aY (by unfold wField; omega)]; unfold wField; omega
 have q0 := @hc0; refine gF ?_
 exact aA ⟨⟨_, rfl, by simp only [go_sem, e]⟩, trivial⟩
theorem b0i (x : TField) (hx : wField x ≤ 1048576) : FnC Tryz.prog 160 [a3X x] (a3X x) := by
 unfold wField at hx
 refine ent Tryz.func160 rfl Tryz.call160 rfl (fun C => ?_); simp only [go_sem, st0, Tryz.ntmps160]
 refine aD ?_
 exact aA ⟨⟨_, rfl, by simp only [go_sem]⟩, trivial⟩
theorem b0j (x : TField) (hx : wField x ≤ 67108864) : FnC Tryz.prog 170 [a3X x, a3X x] (ob true) := by
 unfold wField at hx
 refine ent Tryz.func170 rfl Tryz.call170 rfl (fun C => ?_); simp only [go_sem, st0, Tryz.ntmps170]
 refine aD ?_
 exact aA ⟨⟨_, rfl, by simp only [go_sem]⟩, trivial⟩
theorem a8E (l : List TField) (hl : aQ l ≤ 1048576) : FnC Tryz.prog 86 [.o (.d (.sl (l.map bG)))] (.o (.w 193 2 (l.map bG))) := by
 unfold aQ at hl
 refine ent Tryz.func86 rfl Tryz.call86 rfl (fun C => ?_); simp only [go_sem, st0, Tryz.ntmps86]
 refine aD ?_
 refine aN (α := Nat) (fun k => [(4, oi k)]) (fun k => [(0, .row 193 2 (mI bG [sv ⟨#[]⟩, iv 0] l k) true)]) (fun k => k ≤ l.length) (fun k => l.length - k) 0 (fun _ => ?_) ?_ ?_ (fun k hk => ?_)
 ·simp only [go_sem]
 ·simp only [go_sem]; simp [kV]
 ·simp
 ·simp only [go_sem]
  refine aD ?_
  refine cnd rfl (fun h => ?_) (fun h => ?_)
  ·simp only [decide_eq_true_eq, Int.ofNat_lt] at h
   have hw := bC wField l h
   have q0 := @h; refine fE (b0i l[k] (by omega)) ?_
   refine aF (k + 1) ?_ ?_ ?_
   ·simp only [go_sem]; simp [← mM, h, bG]
   ·omega
   ·omega
  ·simp only [decide_eq_false_iff_not] at h
   have e : k = l.length := by omega
   subst e
   refine aD ?_
   exact aA ⟨⟨_, rfl, by simp only [go_sem, mO]⟩, trivial⟩
theorem a8F (l : List TField) (hl : aQ l ≤ 67108864) : FnC Tryz.prog 91 [.o (.d (.sl (l.map bG))), .o (.d (.sl (l.map bG)))] (ob true) := by
 unfold aQ at hl
 refine ent Tryz.func91 rfl Tryz.call91 rfl (fun C => ?_); simp only [go_sem, st0, Tryz.ntmps91]
 refine aD ?_
 refine aN (α := Nat) (fun k => [(5, oi k)]) (fun _ => []) (fun k => k ≤ l.length) (fun k => l.length - k) 0 (fun _ => ?_) ?_ ?_ (fun k hk => ?_)
 ·simp only [go_sem]
 ·simp only [go_sem]; simp
 ·simp
 ·simp only [go_sem]
  refine aD ?_
  refine cnd rfl (fun h => ?_) (fun h => ?_)
  ·simp only [decide_eq_true_eq, Int.ofNat_lt] at h
   have hw := bC wField l h
   have q0 := @h; refine fE (b0j l[k] (by omega)) ?_
   refine aF (k + 1) ?_ ?_ ?_
   ·simp only [go_sem]; simp
   ·omega
   ·omega
  ·simp only [decide_eq_false_iff_not] at h
   refine aD ?_
   exact aA ⟨⟨_, rfl, by simp only [go_sem]⟩, trivial⟩
theorem xK (l : List TField) (n : Int) (h0 : 0 ≤ n ∧ n ≤ 1048576) (hw : a0X l) : FnC Tryz.prog 76 [.o (.d (.sl (l.map bG))), oi n] (oi (bP n (aQ l))) := by
 unfold a0X at hw
 refine ent Tryz.func76 rfl Tryz.call76 rfl (fun C => ?_); simp only [go_sem, st0, Tryz.ntmps76]
 by_cases hc : n - (l.length : Nat) < 0
 ·have e : bP n (aQ l) = -1 := by rw [aU (by unfold aQ; omega)]
  have q0 := @hc; refine gF ?_
  exact aA ⟨⟨_, rfl, by simp only [go_sem, e]⟩, trivial⟩
 have q0 := @hc; refine gF ?_
 refine aN (α := Nat) (fun k => [(5, oi k), (1, oi (n - (l.length : Nat) - (wsum wField (l.take k) : Nat)))]) (fun _ => []) (fun k => k ≤ l.length ∧ 0 ≤ n - (l.length : Nat) - (wsum wField (l.take k) : Nat)) (fun k => l.length - k) 0 (fun _ => ?_) ?_ ?_ (fun k hk => ?_)
 ·simp only [go_sem]
 ·simp only [go_sem]; simp [wsum]
 ·simp [wsum]; omega
 ·obtain ⟨hk, hn⟩ := hk
  simp only [go_sem]
  refine aD ?_
  refine cnd rfl (fun h => ?_) (fun h => ?_)
  ·simp only [decide_eq_true_eq, Int.ofNat_lt] at h
   have hs := mU wField l h
   have ht := vE wField l (k + 1)
   by_cases h2 : n - (l.length : Nat) - (wsum wField (l.take k) : Nat) - (wField l[k] : Nat) < 0
   ·have e : bP n (aQ l) = -1 := by rw [aU (by unfold aQ; omega)]
    have q0 := @h; have q1 := aU h2; refine nO (a3Y l[k] _ ⟨hn, by omega⟩ (hw.2 _ (List.getElem_mem h))) ?_
    exact aA ⟨⟨_, rfl, by simp only [go_sem, e]⟩, trivial⟩
   ·have q0 := @h; have q1 := aY h2; have q2 := @h2; refine nP (a3Y l[k] _ ⟨hn, by omega⟩ (hw.2 _ (List.getElem_mem h))) ?_
    refine aF (k + 1) ?_ ?_ ?_
    ·simp only [go_sem]; simp; omega
    ·omega
    ·omega
  ·simp only [decide_eq_false_iff_not] at h
   have e0 : k = l.length := by omega
   subst e0
   rw [List.take_length] at hn
   have e : bP n (aQ l) = n - (l.length : Nat) - (wsum wField l : Nat) := by rw [aY (by unfold aQ; omega)]; unfold aQ; omega
   refine aD ?_
   exact aA ⟨⟨_, rfl, by simp only [go_sem, e, List.take_length]⟩, trivial⟩
end Go.Proofs.YtddimbdeggomaaaGreat
end
section
set_option linter.all false
set_option maxHeartbeats 1000000
namespace Go.Proofs.YtddimbdeggomaaaGreat
open Go Go.Sx Go.RowKit Go.Proofs
structure TAttr where
 fName : ByteArray
 fValue : TValue
@[go_sem] def dM (x : TAttr) : List D := [sv x.fName, iv x.fValue.fKind, iv x.fValue.fInt, sv x.fValue.fStr]
@[go_sem] def a8G (x : TAttr) : SV := .g [.d (sv x.fName), .d (iv x.fValue.fKind), .d (iv x.fValue.fInt), .d (sv x.fValue.fStr)]
def wAttr (x : TAttr) : Nat := x.fName.size + gX x.fValue
def a3Z (x : TAttr) : Prop := x.fName.size ≤ 9223372036854775807 ∧ vF x.fValue
def eB (l : List TAttr) : Nat := l.length + wsum wAttr l
def a0Y (l : List TAttr) : Prop := l.length ≤ 9223372036854775807 ∧ ∀ x ∈ l, a3Z x
theorem b6m {n : Nat} {r : List D} (h : ShD tt n 208 r) : ∃ x : TAttr, r = dM x ∧ a3Z x := by
 match n, h with
 | n + 1, ⟨a0, b0, e0, h0, a1, b1, e1, h1, ee⟩ =>
  obtain ⟨x0, rfl, p0⟩ := b2I h0
  obtain ⟨x1, rfl, p1⟩ := a8D h1
  have ee' : b1 = [] := ee
  subst ee' e1 e0
  exact ⟨⟨x0, x1⟩, rfl, p0, p1⟩
theorem b4D {n : Nat} {r : List D} (h : ShD tt n 62 r) : ∃ l : List TAttr, r = [.sl (l.map dM)] ∧ a0Y l := by
 match n, h with
 | n + 1, ⟨rows, h, hm, hr⟩ =>
  obtain ⟨l, rfl, hl⟩ := nL dM a3Z (fun r h => b6m (hr r h))
  exact ⟨l, h, by unfold maxLen at hm; simpa using hm, hl⟩
theorem a5X (x : TAttr) (n : Int) (h0 : 0 ≤ n ∧ n ≤ 1048576) (hw : a3Z x) : FnC Tryz.prog 179 [a8G x, oi n] (oi (bP n (wAttr x))) := by
 refine ent Tryz.func179 rfl Tryz.call179 rfl (fun C => ?_); simp only [go_sem, st0, Tryz.ntmps179]
 unfold a3Z at hw
 by_cases hc0 : n - (x.fName.size : Nat) < 0
 ·have e : bP n (wAttr x) = -1 := by rw [aU (by unfold wAttr; omega)]
  have q0 := @hc0; refine gF ?_
  exact aA ⟨⟨_, rfl, by simp only [go_sem, e]⟩, trivial⟩
 by_cases hc1 : n - (x.fName.size : Nat) - (gX x.fValue : Nat) < 0
 ·have e : bP n (wAttr x) = -1 := by rw [aU (by unfold wAttr; omega)]
  have q0 := @hc0; have q1 := aU hc1; have q2 := @hc1; refine nP (vH x.fValue (n - (x.fName.size : Nat)) (by omega) hw.2) ?_
  exact aA ⟨⟨_, rfl, by simp only [go_sem, e]⟩, trivial⟩
 have e : bP n (wAttr x) = n - (x.fName.size : Nat) - (gX x.fValue : Nat) := by rw [aY (by unfold wAttr; omega)]; unfold wAttr; omega
 have q0 := @hc0; have q1 := aY hc1; have q2 := @hc1; refine nP (vH x.fValue (n - (x.fName.size : Nat)) (by omega) hw.2) ?_
 exact aA ⟨⟨_, rfl, by simp only [go_sem, e]⟩, trivial⟩
theorem b2L (x : TAttr) (hx : wAttr x ≤ 1048576) : FnC Tryz.prog 183 [a8G x] (a8G x) := by
 unfold wAttr at hx
 refine ent Tryz.func183 rfl Tryz.call183 rfl (fun C => ?_); simp only [go_sem, st0, Tryz.ntmps183]
 refine gP (a3V x.fValue (by omega)) ?_
 exact aA ⟨⟨_, rfl, by simp only [go_sem]⟩, trivial⟩
theorem b2M (x : TAttr) (hx : wAttr x ≤ 67108864) : FnC Tryz.prog 147 [a8G x, a8G x] (ob true) := by
 unfold wAttr at hx
 refine ent Tryz.func147 rfl Tryz.call147 rfl (fun C => ?_); simp only [go_sem, st0, Tryz.ntmps147]
 refine gP (a3W x.fValue (by omega)) ?_
 exact aA ⟨⟨_, rfl, by simp only [go_sem]⟩, trivial⟩
theorem b0k (l : List TAttr) (hl : eB l ≤ 1048576) : FnC Tryz.prog 113 [.o (.d (.sl (l.map dM)))] (.o (.w 181 4 (l.map dM))) := by
 unfold eB at hl
 refine ent Tryz.func113 rfl Tryz.call113 rfl (fun C => ?_); simp only [go_sem, st0, Tryz.ntmps113]
 refine aD ?_
 refine aN (α := Nat) (fun k => [(4, oi k)]) (fun k => [(0, .row 181 4 (mI dM [sv ⟨#[]⟩, iv 0, iv 0, sv ⟨#[]⟩] l k) true)]) (fun k => k ≤ l.length) (fun k => l.length - k) 0 (fun _ => ?_) ?_ ?_ (fun k hk => ?_)
 ·simp only [go_sem]
 ·simp only [go_sem]; simp [kV]
 ·simp
 ·simp only [go_sem]
  refine aD ?_
  refine cnd rfl (fun h => ?_) (fun h => ?_)
  ·simp only [decide_eq_true_eq, Int.ofNat_lt] at h
   have hw := bC wAttr l h
   have q0 := @h; refine fE (b2L l[k] (by omega)) ?_
   refine aF (k + 1) ?_ ?_ ?_
   ·simp only [go_sem]; simp [← mM, h, dM]
   ·omega
   ·omega
  ·simp only [decide_eq_false_iff_not] at h
   have e : k = l.length := by omega
   subst e
   refine aD ?_
   exact aA ⟨⟨_, rfl, by simp only [go_sem, mO]⟩, trivial⟩
theorem b0l (l : List TAttr) (hl : eB l ≤ 67108864) : FnC Tryz.prog 65 [.o (.d (.sl (l.map dM))), .o (.d (.sl (l.map dM)))] (ob true) := by
 unfold eB at hl
 refine ent Tryz.func65 rfl Tryz.call65 rfl (fun C => ?_); simp only [go_sem, st0, Tryz.ntmps65]
 refine aD ?_
 refine aN (α := Nat) (fun k => [(5, oi k)]) (fun _ => []) (fun k => k ≤ l.length) (fun k => l.length - k) 0 (fun _ => ?_) ?_ ?_ (fun k hk => ?_)
 ·simp only [go_sem]
 ·simp only [go_sem]; simp
 ·simp
 ·simp only [go_sem]
  refine aD ?_
  refine cnd rfl (fun h => ?_) (fun h => ?_)
  ·simp only [decide_eq_true_eq, Int.ofNat_lt] at h
   have hw := bC wAttr l h
   have q0 := @h; refine fE (b2M l[k] (by omega)) ?_
   refine aF (k + 1) ?_ ?_ ?_
   ·simp only [go_sem]; simp
   ·omega
   ·omega
  ·simp only [decide_eq_false_iff_not] at h
   refine aD ?_
   exact aA ⟨⟨_, rfl, by simp only [go_sem]⟩, trivial⟩
theorem a4a (l : List TAttr) (n : Int) (h0 : 0 ≤ n ∧ n ≤ 1048576) (hw : a0Y l) : FnC Tryz.prog 107 [.o (.d (.sl (l.map dM))), oi n] (oi (bP n (eB l))) := by
 unfold a0Y at hw
 refine ent Tryz.func107 rfl Tryz.call107 rfl (fun C => ?_); simp only [go_sem, st0, Tryz.ntmps107]
 by_cases hc : n - (l.length : Nat) < 0
 ·have e : bP n (eB l) = -1 := by rw [aU (by unfold eB; omega)]
  have q0 := @hc; refine gF ?_
  exact aA ⟨⟨_, rfl, by simp only [go_sem, e]⟩, trivial⟩
 have q0 := @hc; refine gF ?_
 refine aN (α := Nat) (fun k => [(5, oi k), (1, oi (n - (l.length : Nat) - (wsum wAttr (l.take k) : Nat)))]) (fun _ => []) (fun k => k ≤ l.length ∧ 0 ≤ n - (l.length : Nat) - (wsum wAttr (l.take k) : Nat)) (fun k => l.length - k) 0 (fun _ => ?_) ?_ ?_ (fun k hk => ?_)
 ·simp only [go_sem]
 ·simp only [go_sem]; simp [wsum]
 ·simp [wsum]; omega
 ·obtain ⟨hk, hn⟩ := hk
  simp only [go_sem]
  refine aD ?_
  refine cnd rfl (fun h => ?_) (fun h => ?_)
  ·simp only [decide_eq_true_eq, Int.ofNat_lt] at h
   have hs := mU wAttr l h
   have ht := vE wAttr l (k + 1)
   by_cases h2 : n - (l.length : Nat) - (wsum wAttr (l.take k) : Nat) - (wAttr l[k] : Nat) < 0
   ·have e : bP n (eB l) = -1 := by rw [aU (by unfold eB; omega)]
    have q0 := @h; have q1 := aU h2; refine nO (a5X l[k] _ ⟨hn, by omega⟩ (hw.2 _ (List.getElem_mem h))) ?_
    exact aA ⟨⟨_, rfl, by simp only [go_sem, e]⟩, trivial⟩
   ·have q0 := @h; have q1 := aY h2; have q2 := @h2; refine nP (a5X l[k] _ ⟨hn, by omega⟩ (hw.2 _ (List.getElem_mem h))) ?_
    refine aF (k + 1) ?_ ?_ ?_
    ·simp only [go_sem]; simp; omega
    ·omega
    ·omega
  ·simp only [decide_eq_false_iff_not] at h
   have e0 : k = l.length := by omega
   subst e0
   rw [List.take_length] at hn
   have e : bP n (eB l) = n - (l.length : Nat) - (wsum wAttr l : Nat) := by rw [aY (by unfold eB; omega)]; unfold eB; omega
   refine aD ?_
   exact aA ⟨⟨_, rfl, by simp only [go_sem, e, List.take_length]⟩, trivial⟩
end Go.Proofs.YtddimbdeggomaaaGreat
end
section
set_option linter.all false
set_option maxHeartbeats 1000000
namespace Go.Proofs.YtddimbdeggomaaaGreat
open Go Go.Sx Go.RowKit Go.Proofs
structure TFile where
 fID : Int
 fOwner : Int
 fShared : Bool
 fLink : Int
 fAttrs : List TAttr
@[go_sem] def bB (x : TFile) : List D := [iv x.fID, iv x.fOwner, bv x.fShared, iv x.fLink, .sl (x.fAttrs.map dM)]
@[go_sem] def dC (x : TFile) : SV := .g [.d (iv x.fID), .d (iv x.fOwner), .d (bv x.fShared), .d (iv x.fLink), .d (.sl (x.fAttrs.map dM))]
@[go_sem] def a8H (x : TFile) : SV := .g [.d (iv x.fID), .d (iv x.fOwner), .d (bv x.fShared), .d (iv x.fLink), .w 181 4 (x.fAttrs.map dM)]
def wFile (x : TFile) : Nat := eB x.fAttrs
def a1S (x : TFile) : Prop := inR .i64 x.fID ∧ inR .i64 x.fOwner ∧ True ∧ inR .i64 x.fLink ∧ a0Y x.fAttrs
def bU (l : List TFile) : Nat := l.length + wsum wFile l
def a3h (l : List TFile) : Prop := l.length ≤ 9223372036854775807 ∧ ∀ x ∈ l, a1S x
theorem b1C {n : Nat} {r : List D} (h : ShD tt n 64 r) : ∃ x : TFile, r = bB x ∧ a1S x := by
 match n, h with
 | n + 1, ⟨a0, b0, e0, h0, a1, b1, e1, h1, a2, b2, e2, h2, a3, b3, e3, h3, a4, b4, e4, h4, ee⟩ =>
  obtain ⟨x0, rfl, p0⟩ := a0V h0
  obtain ⟨x1, rfl, p1⟩ := a0V h1
  obtain ⟨x2, rfl⟩ := b9L h2
  obtain ⟨x3, rfl, p3⟩ := a0V h3
  obtain ⟨x4, rfl, p4⟩ := b4D h4
  have ee' : b4 = [] := ee
  subst ee' e4 e3 e2 e1 e0
  exact ⟨⟨x0, x1, x2, x3, x4⟩, rfl, p0, p1, trivial, p3, p4⟩
theorem b4E {n : Nat} {r : List D} (h : ShD tt n 23 r) : ∃ l : List TFile, r = [.sl (l.map bB)] ∧ a3h l := by
 match n, h with
 | n + 1, ⟨rows, h, hm, hr⟩ =>
  obtain ⟨l, rfl, hl⟩ := nL bB a1S (fun r h => b1C (hr r h))
  exact ⟨l, h, by unfold maxLen at hm; simpa using hm, hl⟩
theorem tK (x : TFile) (n : Int) (h0 : 0 ≤ n ∧ n ≤ 1048576) (hw : a1S x) : FnC Tryz.prog 39 [dC x, oi n] (oi (bP n (wFile x))) := by
 refine ent Tryz.func39 rfl Tryz.call39 rfl (fun C => ?_); simp only [go_sem, st0, Tryz.ntmps39]
 unfold a1S at hw
 by_cases hc0 : n - (eB x.fAttrs : Nat) < 0
 ·have e : bP n (wFile x) = -1 := by rw [aU (by unfold wFile; omega)]
  have q0 := aU hc0; have q1 := @hc0; refine nO (a4a x.fAttrs (n) (by omega) hw.2.2.2.2) ?_
  exact aA ⟨⟨_, rfl, by simp only [go_sem, e]⟩, trivial⟩
 have e : bP n (wFile x) = n - (eB x.fAttrs : Nat) := by rw [aY (by unfold wFile; omega)]; unfold wFile; omega
 have q0 := aY hc0; have q1 := @hc0; refine nO (a4a x.fAttrs (n) (by omega) hw.2.2.2.2) ?_
 exact aA ⟨⟨_, rfl, by simp only [go_sem, e]⟩, trivial⟩
theorem a5Y (x : TFile) (hx : wFile x ≤ 1048576) : FnC Tryz.prog 42 [dC x] (a8H x) := by
 unfold wFile at hx
 refine ent Tryz.func42 rfl Tryz.call42 rfl (fun C => ?_); simp only [go_sem, st0, Tryz.ntmps42]
 refine gP (b0k x.fAttrs (by omega)) ?_
 exact aA ⟨⟨_, rfl, by simp only [go_sem]⟩, trivial⟩
theorem a5Z (x : TFile) (hx : wFile x ≤ 67108864) : FnC Tryz.prog 45 [dC x, dC x] (ob true) := by
 unfold wFile at hx
 refine ent Tryz.func45 rfl Tryz.call45 rfl (fun C => ?_); simp only [go_sem, st0, Tryz.ntmps45]
 refine gP (b0l x.fAttrs (by omega)) ?_
 exact aA ⟨⟨_, rfl, by simp only [go_sem]⟩, trivial⟩
theorem b0m (l : List TFile) (hl : bU l ≤ 1048576) : FnC Tryz.prog 87 [.o (.d (.sl (l.map bB)))] (.o (.w 73 5 (l.map bB))) := by
 unfold bU at hl
 refine ent Tryz.func87 rfl Tryz.call87 rfl (fun C => ?_); simp only [go_sem, st0, Tryz.ntmps87]
 refine aD ?_
 refine aN (α := Nat) (fun k => [(4, oi k)]) (fun k => [(0, .row 73 5 (mI bB [iv 0, iv 0, bv false, iv 0, .sl []] l k) true)]) (fun k => k ≤ l.length) (fun k => l.length - k) 0 (fun _ => ?_) ?_ ?_ (fun k hk => ?_)
 ·simp only [go_sem]
 ·simp only [go_sem]; simp [kV]
 ·simp
 ·simp only [go_sem]
  refine aD ?_
  refine cnd rfl (fun h => ?_) (fun h => ?_)
  ·simp only [decide_eq_true_eq, Int.ofNat_lt] at h
   have hw := bC wFile l h
   have q0 := @h; refine fE (a5Y l[k] (by omega)) ?_
   refine aF (k + 1) ?_ ?_ ?_
   ·simp only [go_sem]; simp [← mM, h, bB]
   ·omega
   ·omega
  ·simp only [decide_eq_false_iff_not] at h
   have e : k = l.length := by omega
   subst e
   refine aD ?_
   exact aA ⟨⟨_, rfl, by simp only [go_sem, mO]⟩, trivial⟩
theorem b0n (l : List TFile) (hl : bU l ≤ 67108864) : FnC Tryz.prog 92 [.o (.d (.sl (l.map bB))), .o (.d (.sl (l.map bB)))] (ob true) := by
 unfold bU at hl
 refine ent Tryz.func92 rfl Tryz.call92 rfl (fun C => ?_); simp only [go_sem, st0, Tryz.ntmps92]
 refine aD ?_
 refine aN (α := Nat) (fun k => [(5, oi k)]) (fun _ => []) (fun k => k ≤ l.length) (fun k => l.length - k) 0 (fun _ => ?_) ?_ ?_ (fun k hk => ?_)
 ·simp only [go_sem]
 ·simp only [go_sem]; simp
 ·simp
 ·simp only [go_sem]
  refine aD ?_
  refine cnd rfl (fun h => ?_) (fun h => ?_)
  ·simp only [decide_eq_true_eq, Int.ofNat_lt] at h
   have hw := bC wFile l h
   have q0 := @h; refine fE (a5Z l[k] (by omega)) ?_
   refine aF (k + 1) ?_ ?_ ?_
   ·simp only [go_sem]; simp
   ·omega
   ·omega
  ·simp only [decide_eq_false_iff_not] at h
   refine aD ?_
   exact aA ⟨⟨_, rfl, by simp only [go_sem]⟩, trivial⟩
theorem a4b (l : List TFile) (n : Int) (h0 : 0 ≤ n ∧ n ≤ 1048576) (hw : a3h l) : FnC Tryz.prog 77 [.o (.d (.sl (l.map bB))), oi n] (oi (bP n (bU l))) := by
 unfold a3h at hw
 refine ent Tryz.func77 rfl Tryz.call77 rfl (fun C => ?_); simp only [go_sem, st0, Tryz.ntmps77]
 by_cases hc : n - (l.length : Nat) < 0
 ·have e : bP n (bU l) = -1 := by rw [aU (by unfold bU; omega)]
  have q0 := @hc; refine gF ?_
  exact aA ⟨⟨_, rfl, by simp only [go_sem, e]⟩, trivial⟩
 have q0 := @hc; refine gF ?_
 refine aN (α := Nat) (fun k => [(5, oi k), (1, oi (n - (l.length : Nat) - (wsum wFile (l.take k) : Nat)))]) (fun _ => []) (fun k => k ≤ l.length ∧ 0 ≤ n - (l.length : Nat) - (wsum wFile (l.take k) : Nat)) (fun k => l.length - k) 0 (fun _ => ?_) ?_ ?_ (fun k hk => ?_)
 ·simp only [go_sem]
 ·simp only [go_sem]; simp [wsum]
 ·simp [wsum]; omega
 ·obtain ⟨hk, hn⟩ := hk
  simp only [go_sem]
  refine aD ?_
  refine cnd rfl (fun h => ?_) (fun h => ?_)
  ·simp only [decide_eq_true_eq, Int.ofNat_lt] at h
   have hs := mU wFile l h
   have ht := vE wFile l (k + 1)
   by_cases h2 : n - (l.length : Nat) - (wsum wFile (l.take k) : Nat) - (wFile l[k] : Nat) < 0
   ·have e : bP n (bU l) = -1 := by rw [aU (by unfold bU; omega)]
    have q0 := @h; have q1 := aU h2; refine nO (tK l[k] _ ⟨hn, by omega⟩ (hw.2 _ (List.getElem_mem h))) ?_
    exact aA ⟨⟨_, rfl, by simp only [go_sem, e]⟩, trivial⟩
   ·have q0 := @h; have q1 := aY h2; have q2 := @h2; refine nP (tK l[k] _ ⟨hn, by omega⟩ (hw.2 _ (List.getElem_mem h))) ?_
    refine aF (k + 1) ?_ ?_ ?_
    ·simp only [go_sem]; simp; omega
    ·omega
    ·omega
  ·simp only [decide_eq_false_iff_not] at h
   have e0 : k = l.length := by omega
   subst e0
   rw [List.take_length] at hn
   have e : bP n (bU l) = n - (l.length : Nat) - (wsum wFile l : Nat) := by rw [aY (by unfold bU; omega)]; unfold bU; omega
   refine aD ?_
   exact aA ⟨⟨_, rfl, by simp only [go_sem, e, List.take_length]⟩, trivial⟩
end Go.Proofs.YtddimbdeggomaaaGreat
end
section
set_option linter.all false
set_option maxHeartbeats 1000000
namespace Go.Proofs.YtddimbdeggomaaaGreat
open Go Go.Sx Go.RowKit Go.Proofs
structure TStore where
 fSchema : List TField
 fFiles : List TFile
 fNextID : Int
@[go_sem] def b4F (x : TStore) : List D := [.sl (x.fSchema.map bG), .sl (x.fFiles.map bB), iv x.fNextID]
@[go_sem] def dJ (x : TStore) : SV := .g [.d (.sl (x.fSchema.map bG)), .d (.sl (x.fFiles.map bB)), .d (iv x.fNextID)]
@[go_sem] def xL (x : TStore) : SV := .g [.w 193 2 (x.fSchema.map bG), .w 73 5 (x.fFiles.map bB), .d (iv x.fNextID)]
def aL (x : TStore) : Nat := aQ x.fSchema + bU x.fFiles
def yP (x : TStore) : Prop := a0X x.fSchema ∧ a3h x.fFiles ∧ inR .i64 x.fNextID
def b9n (l : List TStore) : Nat := l.length + wsum aL l
def b8U (l : List TStore) : Prop := l.length ≤ 9223372036854775807 ∧ ∀ x ∈ l, yP x
theorem b4G {n : Nat} {r : List D} (h : ShD tt n 25 r) : ∃ x : TStore, r = b4F x ∧ yP x := by
 match n, h with
 | n + 1, ⟨a0, b0, e0, h0, a1, b1, e1, h1, a2, b2, e2, h2, ee⟩ =>
  obtain ⟨x0, rfl, p0⟩ := b2K h0
  obtain ⟨x1, rfl, p1⟩ := b4E h1
  obtain ⟨x2, rfl, p2⟩ := a0V h2
  have ee' : b2 = [] := ee
  subst ee' e2 e1 e0
  exact ⟨⟨x0, x1, x2⟩, rfl, p0, p1, p2⟩
theorem vP (x : TStore) (n : Int) (h0 : 0 ≤ n ∧ n ≤ 1048576) (hw : yP x) : FnC Tryz.prog 14 [dJ x, oi n] (oi (bP n (aL x))) := by
 refine ent Tryz.func14 rfl Tryz.call14 rfl (fun C => ?_); simp only [go_sem, st0, Tryz.ntmps14]
 unfold yP at hw
 by_cases hc0 : n - (aQ x.fSchema : Nat) < 0
 ·have e : bP n (aL x) = -1 := by rw [aU (by unfold aL; omega)]
  have q0 := aU hc0; have q1 := @hc0; refine nO (xK x.fSchema (n) (by omega) hw.1) ?_
  exact aA ⟨⟨_, rfl, by simp only [go_sem, e]⟩, trivial⟩
 by_cases hc1 : n - (aQ x.fSchema : Nat) - (bU x.fFiles : Nat) < 0
 ·have e : bP n (aL x) = -1 := by rw [aU (by unfold aL; omega)]
  have q0 := aY hc0; have q1 := @hc0; have q2 := aU hc1; have q3 := @hc1; refine a0f (xK x.fSchema (n) (by omega) hw.1) (a4b x.fFiles (n - (aQ x.fSchema : Nat)) (by omega) hw.2.1) ?_
  exact aA ⟨⟨_, rfl, by simp only [go_sem, e]⟩, trivial⟩
 have e : bP n (aL x) = n - (aQ x.fSchema : Nat) - (bU x.fFiles : Nat) := by rw [aY (by unfold aL; omega)]; unfold aL; omega
 have q0 := aY hc0; have q1 := @hc0; have q2 := aY hc1; have q3 := @hc1; refine a0f (xK x.fSchema (n) (by omega) hw.1) (a4b x.fFiles (n - (aQ x.fSchema : Nat)) (by omega) hw.2.1) ?_
 exact aA ⟨⟨_, rfl, by simp only [go_sem, e]⟩, trivial⟩
theorem b0o (x : TStore) (hx : aL x ≤ 1048576) : FnC Tryz.prog 19 [dJ x] (xL x) := by
 unfold aL at hx
 refine ent Tryz.func19 rfl Tryz.call19 rfl (fun C => ?_); simp only [go_sem, st0, Tryz.ntmps19]
 refine a8x (a8E x.fSchema (by omega)) (b0m x.fFiles (by omega)) ?_
 exact aA ⟨⟨_, rfl, by simp only [go_sem]⟩, trivial⟩
theorem b0p (x : TStore) (hx : aL x ≤ 67108864) : FnC Tryz.prog 25 [dJ x, dJ x] (ob true) := by
 unfold aL at hx
 refine ent Tryz.func25 rfl Tryz.call25 rfl (fun C => ?_); simp only [go_sem, st0, Tryz.ntmps25]
 refine a8x (a8F x.fSchema (by omega)) (b0n x.fFiles (by omega)) ?_
 exact aA ⟨⟨_, rfl, by simp only [go_sem]⟩, trivial⟩
end Go.Proofs.YtddimbdeggomaaaGreat
end
section
set_option linter.all false
set_option maxHeartbeats 1000000
namespace Go.Proofs.YtddimbdeggomaaaGreat
open Go Go.Sx Go.RowKit Go.Proofs
structure TNode where
 fOp : Int
 fLeft : Int
 fRight : Int
 fName : ByteArray
 fValue : TValue
@[go_sem] def aW (x : TNode) : List D := [iv x.fOp, iv x.fLeft, iv x.fRight, sv x.fName, iv x.fValue.fKind, iv x.fValue.fInt, sv x.fValue.fStr]
@[go_sem] def wM (x : TNode) : SV := .g [.d (iv x.fOp), .d (iv x.fLeft), .d (iv x.fRight), .d (sv x.fName), .d (iv x.fValue.fKind), .d (iv x.fValue.fInt), .d (sv x.fValue.fStr)]
def wNode (x : TNode) : Nat := x.fName.size + gX x.fValue
def a4c (x : TNode) : Prop := inR .i64 x.fOp ∧ inR .i64 x.fLeft ∧ inR .i64 x.fRight ∧ x.fName.size ≤ 9223372036854775807 ∧ vF x.fValue
def bQ (l : List TNode) : Nat := l.length + wsum wNode l
def a3i (l : List TNode) : Prop := l.length ≤ 9223372036854775807 ∧ ∀ x ∈ l, a4c x
theorem b6n {n : Nat} {r : List D} (h : ShD tt n 215 r) : ∃ x : TNode, r = aW x ∧ a4c x := by
 match n, h with
 | n + 1, ⟨a0, b0, e0, h0, a1, b1, e1, h1, a2, b2, e2, h2, a3, b3, e3, h3, a4, b4, e4, h4, ee⟩ =>
  obtain ⟨x0, rfl, p0⟩ := a0V h0
  obtain ⟨x1, rfl, p1⟩ := a0V h1
  obtain ⟨x2, rfl, p2⟩ := a0V h2
  obtain ⟨x3, rfl, p3⟩ := b2I h3
  obtain ⟨x4, rfl, p4⟩ := a8D h4
  have ee' : b4 = [] := ee
  subst ee' e4 e3 e2 e1 e0
  exact ⟨⟨x0, x1, x2, x3, x4⟩, rfl, p0, p1, p2, p3, p4⟩
theorem b4H {n : Nat} {r : List D} (h : ShD tt n 86 r) : ∃ l : List TNode, r = [.sl (l.map aW)] ∧ a3i l := by
 match n, h with
 | n + 1, ⟨rows, h, hm, hr⟩ =>
  obtain ⟨l, rfl, hl⟩ := nL aW a4c (fun r h => b6n (hr r h))
  exact ⟨l, h, by unfold maxLen at hm; simpa using hm, hl⟩
theorem a6a (x : TNode) (n : Int) (h0 : 0 ≤ n ∧ n ≤ 1048576) (hw : a4c x) : FnC Tryz.prog 194 [wM x, oi n] (oi (bP n (wNode x))) := by
 refine ent Tryz.func194 rfl Tryz.call194 rfl (fun C => ?_); simp only [go_sem, st0, Tryz.ntmps194]
 unfold a4c at hw
 by_cases hc0 : n - (x.fName.size : Nat) < 0
 ·have e : bP n (wNode x) = -1 := by rw [aU (by unfold wNode; omega)]
  have q0 := @hc0; refine gF ?_
  exact aA ⟨⟨_, rfl, by simp only [go_sem, e]⟩, trivial⟩
 by_cases hc1 : n - (x.fName.size : Nat) - (gX x.fValue : Nat) < 0
 ·have e : bP n (wNode x) = -1 := by rw [aU (by unfold wNode; omega)]
  have q0 := @hc0; have q1 := aU hc1; have q2 := @hc1; refine nP (vH x.fValue (n - (x.fName.size : Nat)) (by omega) hw.2.2.2.2) ?_
  exact aA ⟨⟨_, rfl, by simp only [go_sem, e]⟩, trivial⟩
 have e : bP n (wNode x) = n - (x.fName.size : Nat) - (gX x.fValue : Nat) := by rw [aY (by unfold wNode; omega)]; unfold wNode; omega
 have q0 := @hc0; have q1 := aY hc1; have q2 := @hc1; refine nP (vH x.fValue (n - (x.fName.size : Nat)) (by omega) hw.2.2.2.2) ?_
 exact aA ⟨⟨_, rfl, by simp only [go_sem, e]⟩, trivial⟩
theorem b2N (x : TNode) (hx : wNode x ≤ 1048576) : FnC Tryz.prog 197 [wM x] (wM x) := by
 unfold wNode at hx
 refine ent Tryz.func197 rfl Tryz.call197 rfl (fun C => ?_); simp only [go_sem, st0, Tryz.ntmps197]
 refine gP (a3V x.fValue (by omega)) ?_
 exact aA ⟨⟨_, rfl, by simp only [go_sem]⟩, trivial⟩
theorem b2O (x : TNode) (hx : wNode x ≤ 67108864) : FnC Tryz.prog 206 [wM x, wM x] (ob true) := by
 unfold wNode at hx
 refine ent Tryz.func206 rfl Tryz.call206 rfl (fun C => ?_); simp only [go_sem, st0, Tryz.ntmps206]
 refine gP (a3W x.fValue (by omega)) ?_
 exact aA ⟨⟨_, rfl, by simp only [go_sem]⟩, trivial⟩
theorem b0q (l : List TNode) (hl : bQ l ≤ 1048576) : FnC Tryz.prog 136 [.o (.d (.sl (l.map aW)))] (.o (.w 199 7 (l.map aW))) := by
 unfold bQ at hl
 refine ent Tryz.func136 rfl Tryz.call136 rfl (fun C => ?_); simp only [go_sem, st0, Tryz.ntmps136]
 refine aD ?_
 refine aN (α := Nat) (fun k => [(4, oi k)]) (fun k => [(0, .row 199 7 (mI aW [iv 0, iv 0, iv 0, sv ⟨#[]⟩, iv 0, iv 0, sv ⟨#[]⟩] l k) true)]) (fun k => k ≤ l.length) (fun k => l.length - k) 0 (fun _ => ?_) ?_ ?_ (fun k hk => ?_)
 ·simp only [go_sem]
 ·simp only [go_sem]; simp [kV]
 ·simp
 ·simp only [go_sem]
  refine aD ?_
  refine cnd rfl (fun h => ?_) (fun h => ?_)
  ·simp only [decide_eq_true_eq, Int.ofNat_lt] at h
   have hw := bC wNode l h
   have q0 := @h; refine fE (b2N l[k] (by omega)) ?_
   refine aF (k + 1) ?_ ?_ ?_
   ·simp only [go_sem]; simp [← mM, h, aW]
   ·omega
   ·omega
  ·simp only [decide_eq_false_iff_not] at h
   have e : k = l.length := by omega
   subst e
   refine aD ?_
   exact aA ⟨⟨_, rfl, by simp only [go_sem, mO]⟩, trivial⟩
theorem b0r (l : List TNode) (hl : bQ l ≤ 67108864) : FnC Tryz.prog 140 [.o (.d (.sl (l.map aW))), .o (.d (.sl (l.map aW)))] (ob true) := by
 unfold bQ at hl
 refine ent Tryz.func140 rfl Tryz.call140 rfl (fun C => ?_); simp only [go_sem, st0, Tryz.ntmps140]
 refine aD ?_
 refine aN (α := Nat) (fun k => [(5, oi k)]) (fun _ => []) (fun k => k ≤ l.length) (fun k => l.length - k) 0 (fun _ => ?_) ?_ ?_ (fun k hk => ?_)
 ·simp only [go_sem]
 ·simp only [go_sem]; simp
 ·simp
 ·simp only [go_sem]
  refine aD ?_
  refine cnd rfl (fun h => ?_) (fun h => ?_)
  ·simp only [decide_eq_true_eq, Int.ofNat_lt] at h
   have hw := bC wNode l h
   have q0 := @h; refine fE (b2O l[k] (by omega)) ?_
   refine aF (k + 1) ?_ ?_ ?_
   ·simp only [go_sem]; simp
   ·omega
   ·omega
  ·simp only [decide_eq_false_iff_not] at h
   refine aD ?_
   exact aA ⟨⟨_, rfl, by simp only [go_sem]⟩, trivial⟩
theorem a4d (l : List TNode) (n : Int) (h0 : 0 ≤ n ∧ n ≤ 1048576) (hw : a3i l) : FnC Tryz.prog 132 [.o (.d (.sl (l.map aW))), oi n] (oi (bP n (bQ l))) := by
 unfold a3i at hw
 refine ent Tryz.func132 rfl Tryz.call132 rfl (fun C => ?_); simp only [go_sem, st0, Tryz.ntmps132]
 by_cases hc : n - (l.length : Nat) < 0
 ·have e : bP n (bQ l) = -1 := by rw [aU (by unfold bQ; omega)]
  have q0 := @hc; refine gF ?_
  exact aA ⟨⟨_, rfl, by simp only [go_sem, e]⟩, trivial⟩
 have q0 := @hc; refine gF ?_
 refine aN (α := Nat) (fun k => [(5, oi k), (1, oi (n - (l.length : Nat) - (wsum wNode (l.take k) : Nat)))]) (fun _ => []) (fun k => k ≤ l.length ∧ 0 ≤ n - (l.length : Nat) - (wsum wNode (l.take k) : Nat)) (fun k => l.length - k) 0 (fun _ => ?_) ?_ ?_ (fun k hk => ?_)
 ·simp only [go_sem]
 ·simp only [go_sem]; simp [wsum]
 ·simp [wsum]; omega
 ·obtain ⟨hk, hn⟩ := hk
  simp only [go_sem]
  refine aD ?_
  refine cnd rfl (fun h => ?_) (fun h => ?_)
  ·simp only [decide_eq_true_eq, Int.ofNat_lt] at h
   have hs := mU wNode l h
   have ht := vE wNode l (k + 1)
   by_cases h2 : n - (l.length : Nat) - (wsum wNode (l.take k) : Nat) - (wNode l[k] : Nat) < 0
   ·have e : bP n (bQ l) = -1 := by rw [aU (by unfold bQ; omega)]
    have q0 := @h; have q1 := aU h2; refine nO (a6a l[k] _ ⟨hn, by omega⟩ (hw.2 _ (List.getElem_mem h))) ?_
    exact aA ⟨⟨_, rfl, by simp only [go_sem, e]⟩, trivial⟩
   ·have q0 := @h; have q1 := aY h2; have q2 := @h2; refine nP (a6a l[k] _ ⟨hn, by omega⟩ (hw.2 _ (List.getElem_mem h))) ?_
    refine aF (k + 1) ?_ ?_ ?_
    ·simp only [go_sem]; simp; omega
    ·omega
    ·omega
  ·simp only [decide_eq_false_iff_not] at h
   have e0 : k = l.length := by omega
   subst e0
   rw [List.take_length] at hn
   have e : bP n (bQ l) = n - (l.length : Nat) - (wsum wNode l : Nat) := by rw [aY (by unfold bQ; omega)]; unfold bQ; omega
   refine aD ?_
   exact aA ⟨⟨_, rfl, by simp only [go_sem, e, List.take_length]⟩, trivial⟩
end Go.Proofs.YtddimbdeggomaaaGreat
end
section
set_option linter.all false
set_option maxHeartbeats 1000000
namespace Go.Proofs.YtddimbdeggomaaaGreat
open Go Go.Sx Go.RowKit Go.Proofs
structure TDir where
 fName : ByteArray
 fQuery : List TNode
@[go_sem] def aM (x : TDir) : List D := [sv x.fName, .sl (x.fQuery.map aW)]
@[go_sem] def wQ (x : TDir) : SV := .g [.d (sv x.fName), .d (.sl (x.fQuery.map aW))]
@[go_sem] def b8V (x : TDir) : SV := .g [.d (sv x.fName), .w 199 7 (x.fQuery.map aW)]
def wDir (x : TDir) : Nat := x.fName.size + bQ x.fQuery
def a4e (x : TDir) : Prop := x.fName.size ≤ 9223372036854775807 ∧ a3i x.fQuery
def aP (l : List TDir) : Nat := l.length + wsum wDir l
def a4f (l : List TDir) : Prop := l.length ≤ 9223372036854775807 ∧ ∀ x ∈ l, a4e x
theorem b0s {n : Nat} {r : List D} (h : ShD tt n 88 r) : ∃ x : TDir, r = aM x ∧ a4e x := by
 match n, h with
 | n + 1, ⟨a0, b0, e0, h0, a1, b1, e1, h1, ee⟩ =>
  obtain ⟨x0, rfl, p0⟩ := b2I h0
  obtain ⟨x1, rfl, p1⟩ := b4H h1
  have ee' : b1 = [] := ee
  subst ee' e1 e0
  exact ⟨⟨x0, x1⟩, rfl, p0, p1⟩
theorem b6o {n : Nat} {r : List D} (h : ShD tt n 26 r) : ∃ l : List TDir, r = [.sl (l.map aM)] ∧ a4f l := by
 match n, h with
 | n + 1, ⟨rows, h, hm, hr⟩ =>
  obtain ⟨l, rfl, hl⟩ := nL aM a4e (fun r h => b0s (hr r h))
  exact ⟨l, h, by unfold maxLen at hm; simpa using hm, hl⟩
theorem xM (x : TDir) (n : Int) (h0 : 0 ≤ n ∧ n ≤ 1048576) (hw : a4e x) : FnC Tryz.prog 55 [wQ x, oi n] (oi (bP n (wDir x))) := by
 refine ent Tryz.func55 rfl Tryz.call55 rfl (fun C => ?_); simp only [go_sem, st0, Tryz.ntmps55]
 unfold a4e at hw
 by_cases hc0 : n - (x.fName.size : Nat) < 0
 ·have e : bP n (wDir x) = -1 := by rw [aU (by unfold wDir; omega)]
  have q0 := @hc0; refine gF ?_
  exact aA ⟨⟨_, rfl, by simp only [go_sem, e]⟩, trivial⟩
 by_cases hc1 : n - (x.fName.size : Nat) - (bQ x.fQuery : Nat) < 0
 ·have e : bP n (wDir x) = -1 := by rw [aU (by unfold wDir; omega)]
  have q0 := @hc0; have q1 := aU hc1; have q2 := @hc1; refine nP (a4d x.fQuery (n - (x.fName.size : Nat)) (by omega) hw.2) ?_
  exact aA ⟨⟨_, rfl, by simp only [go_sem, e]⟩, trivial⟩
 have e : bP n (wDir x) = n - (x.fName.size : Nat) - (bQ x.fQuery : Nat) := by rw [aY (by unfold wDir; omega)]; unfold wDir; omega
 have q0 := @hc0; have q1 := aY hc1; have q2 := @hc1; refine nP (a4d x.fQuery (n - (x.fName.size : Nat)) (by omega) hw.2) ?_
 exact aA ⟨⟨_, rfl, by simp only [go_sem, e]⟩, trivial⟩
theorem xN (x : TDir) (hx : wDir x ≤ 1048576) : FnC Tryz.prog 57 [wQ x] (b8V x) := by
 unfold wDir at hx
 refine ent Tryz.func57 rfl Tryz.call57 rfl (fun C => ?_); simp only [go_sem, st0, Tryz.ntmps57]
 refine gP (b0q x.fQuery (by omega)) ?_
 exact aA ⟨⟨_, rfl, by simp only [go_sem]⟩, trivial⟩
theorem a6b (x : TDir) (hx : wDir x ≤ 1048576) : FnC Tryz.prog 57 [wQ x] (wQ x) := (xN x hx).pu (by simp only [go_sem, and_self])
theorem a0Z (x : TDir) (hx : wDir x ≤ 67108864) : FnC Tryz.prog 59 [wQ x, wQ x] (ob true) := by
 unfold wDir at hx
 refine ent Tryz.func59 rfl Tryz.call59 rfl (fun C => ?_); simp only [go_sem, st0, Tryz.ntmps59]
 refine gP (b0r x.fQuery (by omega)) ?_
 exact aA ⟨⟨_, rfl, by simp only [go_sem]⟩, trivial⟩
theorem b2P (l : List TDir) (hl : aP l ≤ 1048576) : FnC Tryz.prog 20 [.o (.d (.sl (l.map aM)))] (.o (.w 93 2 (l.map aM))) := by
 unfold aP at hl
 refine ent Tryz.func20 rfl Tryz.call20 rfl (fun C => ?_); simp only [go_sem, st0, Tryz.ntmps20]
 refine aD ?_
 refine aN (α := Nat) (fun k => [(4, oi k)]) (fun k => [(0, .row 93 2 (mI aM [sv ⟨#[]⟩, .sl []] l k) true)]) (fun k => k ≤ l.length) (fun k => l.length - k) 0 (fun _ => ?_) ?_ ?_ (fun k hk => ?_)
 ·simp only [go_sem]
 ·simp only [go_sem]; simp [kV]
 ·simp
 ·simp only [go_sem]
  refine aD ?_
  refine cnd rfl (fun h => ?_) (fun h => ?_)
  ·simp only [decide_eq_true_eq, Int.ofNat_lt] at h
   have hw := bC wDir l h
   have q0 := @h; refine fE (xN l[k] (by omega)) ?_
   refine aF (k + 1) ?_ ?_ ?_
   ·simp only [go_sem]; simp [← mM, h, aM]
   ·omega
   ·omega
  ·simp only [decide_eq_false_iff_not] at h
   have e : k = l.length := by omega
   subst e
   refine aD ?_
   exact aA ⟨⟨_, rfl, by simp only [go_sem, mO]⟩, trivial⟩
theorem b2Q (l : List TDir) (hl : aP l ≤ 67108864) : FnC Tryz.prog 26 [.o (.d (.sl (l.map aM))), .o (.d (.sl (l.map aM)))] (ob true) := by
 unfold aP at hl
 refine ent Tryz.func26 rfl Tryz.call26 rfl (fun C => ?_); simp only [go_sem, st0, Tryz.ntmps26]
 refine aD ?_
 refine aN (α := Nat) (fun k => [(5, oi k)]) (fun _ => []) (fun k => k ≤ l.length) (fun k => l.length - k) 0 (fun _ => ?_) ?_ ?_ (fun k hk => ?_)
 ·simp only [go_sem]
 ·simp only [go_sem]; simp
 ·simp
 ·simp only [go_sem]
  refine aD ?_
  refine cnd rfl (fun h => ?_) (fun h => ?_)
  ·simp only [decide_eq_true_eq, Int.ofNat_lt] at h
   have hw := bC wDir l h
   have q0 := @h; refine fE (a0Z l[k] (by omega)) ?_
   refine aF (k + 1) ?_ ?_ ?_
   ·simp only [go_sem]; simp
   ·omega
   ·omega
  ·simp only [decide_eq_false_iff_not] at h
   refine aD ?_
   exact aA ⟨⟨_, rfl, by simp only [go_sem]⟩, trivial⟩
theorem a1T (l : List TDir) (n : Int) (h0 : 0 ≤ n ∧ n ≤ 1048576) (hw : a4f l) : FnC Tryz.prog 15 [.o (.d (.sl (l.map aM))), oi n] (oi (bP n (aP l))) := by
 unfold a4f at hw
 refine ent Tryz.func15 rfl Tryz.call15 rfl (fun C => ?_); simp only [go_sem, st0, Tryz.ntmps15]
 by_cases hc : n - (l.length : Nat) < 0
 ·have e : bP n (aP l) = -1 := by rw [aU (by unfold aP; omega)]
  have q0 := @hc; refine gF ?_
  exact aA ⟨⟨_, rfl, by simp only [go_sem, e]⟩, trivial⟩
 have q0 := @hc; refine gF ?_
 refine aN (α := Nat) (fun k => [(5, oi k), (1, oi (n - (l.length : Nat) - (wsum wDir (l.take k) : Nat)))]) (fun _ => []) (fun k => k ≤ l.length ∧ 0 ≤ n - (l.length : Nat) - (wsum wDir (l.take k) : Nat)) (fun k => l.length - k) 0 (fun _ => ?_) ?_ ?_ (fun k hk => ?_)
 ·simp only [go_sem]
 ·simp only [go_sem]; simp [wsum]
 ·simp [wsum]; omega
 ·obtain ⟨hk, hn⟩ := hk
  simp only [go_sem]
  refine aD ?_
  refine cnd rfl (fun h => ?_) (fun h => ?_)
  ·simp only [decide_eq_true_eq, Int.ofNat_lt] at h
   have hs := mU wDir l h
   have ht := vE wDir l (k + 1)
   by_cases h2 : n - (l.length : Nat) - (wsum wDir (l.take k) : Nat) - (wDir l[k] : Nat) < 0
   ·have e : bP n (aP l) = -1 := by rw [aU (by unfold aP; omega)]
    have q0 := @h; have q1 := aU h2; refine nO (xM l[k] _ ⟨hn, by omega⟩ (hw.2 _ (List.getElem_mem h))) ?_
    exact aA ⟨⟨_, rfl, by simp only [go_sem, e]⟩, trivial⟩
   ·have q0 := @h; have q1 := aY h2; have q2 := @h2; refine nP (xM l[k] _ ⟨hn, by omega⟩ (hw.2 _ (List.getElem_mem h))) ?_
    refine aF (k + 1) ?_ ?_ ?_
    ·simp only [go_sem]; simp; omega
    ·omega
    ·omega
  ·simp only [decide_eq_false_iff_not] at h
   have e0 : k = l.length := by omega
   subst e0
   rw [List.take_length] at hn
   have e : bP n (aP l) = n - (l.length : Nat) - (wsum wDir l : Nat) := by rw [aY (by unfold aP; omega)]; unfold aP; omega
   refine aD ?_
   exact aA ⟨⟨_, rfl, by simp only [go_sem, e, List.take_length]⟩, trivial⟩
end Go.Proofs.YtddimbdeggomaaaGreat
end
end
section
section
set_option linter.all false
namespace Go.Sx
open Go Go.RowKit
def rR {α : Type} (e : α → Value) (l : List α) : List (List D) := l.map fun x => [.v (e x)]
theorem iW {α : Type} (e : α → Value) (l : List α) : (rR e l).flatten = l.map fun x => D.v (e x) := by
 induction l with
 | nil => rfl
 | cons x l ih => simp only [rR, List.map_cons, List.flatten_cons] at ih ⊢; rw [ih]; rfl
theorem scal_down {α : Type} [Inhabited α] {e : α → Value} {V : View} {w : World} {ty : Nat} {l : List α} {y : Value} {S : List Nat} (h : RowR V w ty 1 (rR e l) y S) :
    ((∃ ao, y = .slice ao 0 0) ∧ l = [] ∧ S = []) ∨ ∃ b cap c, y = .slice (some ⟨b, 0, none⟩) l.length cap ∧ l.length ≤ cap ∧ cap ≤ maxLen ∧ w.heap[b]? = some (.cells c ty (0, 0)) ∧ c.size = cap ∧ Sort.Holds e w b 0 l.toArray ∧ V b = none ∧ S = [b] := by
 obtain ⟨h0, ys, Ss, h1, h3⟩ := h
 rcases h3 with ⟨ha, hb, hc⟩ | ⟨b, cap, c, rfl, e3, e4, e5, e6, e7, e8, rfl⟩
 ·exact .inl ⟨ha, by simpa [rR] using hb, hc⟩
 ·have key : ∀ j (hj : j < l.length), ys[j]? = some (e l[j]) ∧ Ss[j]? = some [] := fun j hj => by
   have hd : (rR e l).flatten[j]? = some (.v (e l[j])) := by rw [iW]; simp [hj]
   have hlt : j < ys.length := by rw [h1.1]; exact (List.getElem?_eq_some_iff.1 hd).1
   have hls : j < Ss.length := by rw [h1.2.1]; exact (List.getElem?_eq_some_iff.1 hd).1
   have hl := h1.2.2 j _ _ _ hd (List.getElem?_eq_getElem hlt) (List.getElem?_eq_getElem hls)
   rw [List.getElem?_eq_getElem hlt, List.getElem?_eq_getElem hls]
   generalize ys[j] = z at hl ⊢
   generalize Ss[j] = s at hl ⊢
   cases hl
   exact ⟨rfl, rfl⟩
  have hlen : Ss.length = l.length := by rw [h1.2.1, iW, List.length_map]
  refine .inr ⟨b, cap, c, by simp [rR], by simpa [rR] using e3, e4, e5, by simpa using e6, fun j hj => ?_, e8, ?_⟩
  ·have hj' : j < l.length := by simpa using hj
   have hy := gT e7 (key j hj').1
   refine ⟨?_, by simp [World.frozen?, e5]⟩
   simp only [World.cell?, e5, Nat.zero_add]
   simp only [Option.isSome_none, Bool.false_eq_true, if_false]
   rw [← Array.getElem?_toList, hy]
   congr 1
   rw [getElem!_pos l.toArray j (by simpa using hj')]
   simp
  ·congr 1
   refine List.flatten_eq_nil_iff.2 fun s hs => ?_
   obtain ⟨j, hj, rfl⟩ := List.mem_iff_getElem.1 hs
   have := (key j (by omega)).2
   rw [List.getElem?_eq_getElem hj] at this
   exact Option.some.inj this
theorem b1A {α : Type} [Inhabited α] {e : α → Value} (hs : ∀ x, scalar (e x) = true) {V : View} {w w' : World} {b ty cap n : Nat} {c : Array Value} {d : Array α} {l : List α} {os : Array Obj} (hb : w.heap[b]? = some (.cells c ty (0, 0)))
    (hc : c.size = cap) (hcap : cap ≤ maxLen) (hd : d.size ≤ cap) (hw : w' = Sort.grow (Sort.putRow e (Sort.ahead w n) b 0 d) os) (hl : l <+: d.toList) (hV : V b = none) :
    RowR V w' ty 1 (rR e l) (.slice (some ⟨b, 0, none⟩) l.length cap) [b] ∧ w.grownBy w' (some b) := by
 have hlt : b < w.heap.size := (Array.getElem?_eq_some_iff.1 hb).1
 have hle : l.length ≤ d.size := by have := hl.length_le; simpa using this
 have hheap : w'.heap[b]? = some (.cells (Sort.putCells e 0 d c) ty (0, 0)) := by
  subst hw
  rw [Sort.heap_grow_old _ _ (by simp [Sort.putRow, Sort.mapBlock, Sort.ahead]; exact hlt)]
  simp only [Sort.putRow, Sort.mapBlock, Sort.ahead, Array.getElem?_modify, if_true, hb, Option.map_some, Sort.onCells]
 refine ⟨⟨fun r hr => ?_, l.map e, List.replicate l.length [], ⟨by rw [iW]; simp, by rw [iW]; simp, fun k dd y s h1 h2 h3 => ?_⟩, .inr ⟨b, cap, _, by simp [rR], by simp [rR]; omega, hcap, hheap, by simp [Sort.putCells, hc], ?_, hV, ?_⟩⟩, ?_⟩
 ·obtain ⟨x, _, rfl⟩ := List.mem_map.1 hr; rfl
 ·rw [iW, List.getElem?_map] at h1
  rw [List.getElem?_map] at h2
  cases hk : l[k]? with
  | none => rw [hk] at h1; cases h1
  | some x =>
   rw [hk] at h1 h2
   cases h1; cases h2
   rw [List.getElem?_replicate] at h3
   split at h3
   ·cases h3; exact .v _ (hs x)
   ·cases h3
 ·refine List.prefix_iff_eq_take.2 ?_
  apply List.ext_getElem?
  intro j
  rw [List.getElem?_take, List.getElem?_map]
  simp only [List.length_map]
  by_cases hj : j < l.length
  ·have hjc : j < c.size := by omega
   have hdj : d.toList[j]? = some l[j] := gT hl (List.getElem?_eq_getElem hj)
   rw [Array.getElem?_toList, Array.getElem?_eq_getElem (by omega)] at hdj
   have h1 : (Sort.putCells e 0 d c).toList[j]? = some (e l[j]) := by
    rw [Array.getElem?_toList]
    simp only [Sort.putCells, Array.getElem?_mapIdx, Array.getElem?_eq_getElem hjc, Option.map_some]
    rw [if_pos (by omega), Nat.sub_zero, getElem!_pos d j (by omega), Option.some.inj hdj]
   rw [if_pos hj, h1, List.getElem?_eq_getElem hj]; rfl
  ·rw [if_neg hj, List.getElem?_eq_none (by omega)]; rfl
 ·simp
 ·subst hw
  refine ⟨rfl, rfl, rfl, by simp [Sort.putRow, Sort.mapBlock, Sort.ahead], fun k hk hne => ?_⟩
  rw [Sort.heap_grow_old _ _ (by simp [Sort.putRow, Sort.mapBlock, Sort.ahead]; exact hk)]
  simp only [Sort.putRow, Sort.mapBlock, Sort.ahead, Array.getElem?_modify]
  rw [if_neg (fun e => hne (by rw [e]))]
end Go.Sx
end
section
set_option linter.all false
namespace Go.Sx
open Go Go.RowKit
structure RowAt (w wr : World) (b ty N : Nat) (F : List Value) : Prop where
 cells : ∃ c : Array Value, wr.heap[b]? = some (.cells c ty (0, 0)) ∧ c.size = N ∧ F <+: c.toList
 grown : w.grownBy wr (some b)
theorem a0T (w : World) (r : Option Nat) : w.grownBy w r := ⟨rfl, rfl, rfl, Nat.le_refl _, fun _ _ _ => rfl⟩
theorem rU {w w1 w2 : World} {r : Option Nat} (h1 : w.grownBy w1 r) (h2 : w1.grownBy w2 r) : w.grownBy w2 r :=
 ⟨h2.os.trans h1.os, h2.tape.trans h1.tape, h2.output.trans h1.output, Nat.le_trans h1.size h2.size, fun k hk hn => (h2.block k (Nat.lt_of_lt_of_le hk h1.size) hn).trans (h1.block k hk hn)⟩
theorem rV {w w' : World} (r : Option Nat) (h : Below w.heap.size w w') : w.grownBy w' r := ⟨h.os, h.tape, h.output, h.size, fun k hk _ => h.block k hk⟩
variable {w wr : World} {b ty N : Nat} {F : List Value}
theorem RowAt.lt (h : RowAt w wr b ty N F) : b < wr.heap.size := by
 obtain ⟨c, h1, _⟩ := h.cells
 exact (Array.getElem?_eq_some_iff.1 h1).1
theorem RowAt.le (h : RowAt w wr b ty N F) : F.length ≤ N := by
 obtain ⟨c, _, h2, h3⟩ := h.cells
 have := h3.length_le
 simpa [h2] using this
theorem RowAt.cell (h : RowAt w wr b ty N F) {t : Nat} {v : Value} (ht : F[t]? = some v) : wr.cell? ⟨b, t, none⟩ = some v := by
 obtain ⟨c, h1, h2, h3⟩ := h.cells
 have := gT h3 ht
 simp only [World.cell?, h1, Option.isSome_none, Bool.false_eq_true, if_false]
 rw [← Array.getElem?_toList]; exact this
theorem RowAt.there (h : RowAt w wr b ty N F) {t : Nat} (ht : t < N) : (wr.cell? ⟨b, t, none⟩).isSome = true := by
 obtain ⟨c, h1, h2, h3⟩ := h.cells
 simp only [World.cell?, h1, Option.isSome_none, Bool.false_eq_true, if_false]
 simp [h2, ht]
theorem RowAt.frozen (h : RowAt w wr b ty N F) (t : Nat) : wr.frozen? ⟨b, t, none⟩ = false := by
 obtain ⟨c, h1, _⟩ := h.cells
 simp [World.frozen?, h1]
theorem RowAt.behind (h : RowAt w wr b ty N F) {w' : World} (hb : Below wr.heap.size wr w') : RowAt w w' b ty N F := by
 obtain ⟨c, h1, h2, h3⟩ := h.cells
 exact ⟨⟨c, by rw [hb.block b h.lt]; exact h1, h2, h3⟩, rU h.grown (rV _ hb)⟩
theorem a5l (F : List Value) (s : Nat) (v : Value) (c : List Value) (hF : F <+: c) (hs : s ≤ F.length) (hc : s < c.length) : F.take s ++ v :: F.drop (s + 1) <+: c.set s v := by
 obtain ⟨r, rfl⟩ := hF
 rcases Nat.lt_or_ge s F.length with h | h
 ·refine ⟨r, ?_⟩
  rw [List.set_append_left _ _ h, List.set_eq_take_append_cons_drop, if_pos h]
 ·have e : s = F.length := by omega
  subst e
  rw [List.take_of_length_le (Nat.le_refl _), List.drop_of_length_le (by omega), List.set_append_right _ _ (Nat.le_refl _), Nat.sub_self]
  cases r with
  | nil => simp at hc
  | cons x r => exact ⟨r, by simp⟩
theorem RowAt.set1 (h : RowAt w wr b ty N F) {s : Nat} (hs : s ≤ F.length) (hN : s < N) (v : Value) : RowAt w (wr.setCell ⟨b, s, none⟩ v) b ty N (F.take s ++ v :: F.drop (s + 1)) := by
 obtain ⟨c, h1, h2, h3⟩ := h.cells
 rw [Sort.setCell_eq]
 refine ⟨⟨c.setIfInBounds s v, ?_, by simp [h2], ?_⟩, rU h.grown ⟨rfl, rfl, rfl, by simp [Sort.mapBlock], fun k hk hne => ?_⟩⟩
 ·simp only [Sort.mapBlock, Array.getElem?_modify, if_true, h1, Option.map_some, Sort.onCells]
 ·rw [Array.toList_setIfInBounds]
  exact a5l F s v c.toList h3 hs (by simpa [h2] using hN)
 ·simp only [Sort.mapBlock, Array.getElem?_modify]
  rw [if_neg (fun e => hne (by rw [e]))]
theorem RowAt.set : ∀ (vs : List Value) {wr : World} {F : List Value} {s : Nat}, RowAt w wr b ty N F → s ≤ F.length → s + vs.length ≤ N → RowAt w (wr.setCells b s vs) b ty N (F.take s ++ vs ++ F.drop (s + vs.length))
 | [], wr, F, s, h, hs, hN => by simpa [World.setCells] using h
 | v :: vs, wr, F, s, h, hs, hN => by
  simp only [List.length_cons] at hN
  have h1 := h.set1 hs (by omega) v
  have h2 := RowAt.set vs (s := s + 1) h1 (by simp; omega) (by omega)
  rw [World.setCells]
  have e1 : (F.take s ++ v :: F.drop (s + 1)).take (s + 1) = F.take s ++ [v] := by
   rw [List.take_append, List.take_of_length_le (by simp; omega), List.length_take, Nat.min_eq_left hs, Nat.add_sub_cancel_left]; rfl
  have e2 : (F.take s ++ v :: F.drop (s + 1)).drop (s + 1 + vs.length) = F.drop (s + (vs.length + 1)) := by
   rw [List.drop_append, List.drop_of_length_le (by simp; omega), List.length_take, Nat.min_eq_left hs, List.nil_append, show s + 1 + vs.length - s = vs.length + 1 by omega, List.drop_succ_cons, List.drop_drop]
   congr 1; omega
  rw [e1, e2] at h2
  simpa [List.append_assoc] using h2
end Go.Sx
end
section
set_option linter.all false
namespace Go.Proofs.YtddimbdeggomaaaGreat
open Go Go.Sx Go.RowKit Go.Proofs Go.Lib
structure DelInv {α : Type} (e : α → Value) (p : α → Bool) (xs : List α) (i j : Nat) (F : List Value) : Prop where
 len : F.length = xs.length
 ij : i < j
 jn : j ≤ xs.length
 lo : F.take i = ((xs.take j).filter fun x => !p x).map e
 hi : F.drop j = (xs.drop j).map e
 il : i = ((xs.take j).filter fun x => !p x).length
theorem zD {α : Type} (p : α → Bool) (xs : List α) (k : Nat) (h : ∀ j (hj : j < xs.length), j < k → p xs[j] = false) : (xs.take k).filter (fun x => !p x) = xs.take k := by
 refine List.filter_eq_self.2 fun x hx => ?_
 obtain ⟨j, hj, rfl⟩ := List.mem_iff_getElem.1 hx
 simp only [List.length_take] at hj
 rw [List.getElem_take, h j (by omega) (by omega)]; rfl
theorem DelInv.at {α : Type} {e : α → Value} {p : α → Bool} {xs : List α} {i j : Nat} {F : List Value} (h : DelInv e p xs i j F) (hj : j < xs.length) : F[j]? = some (e xs[j]) := by
 have h0 : (F.drop j)[0]? = ((xs.drop j).map e)[0]? := by rw [h.hi]
 rw [List.getElem?_drop, Nat.add_zero] at h0
 rw [h0, List.getElem?_map, List.getElem?_drop, Nat.add_zero, List.getElem?_eq_getElem hj]; rfl
theorem DelInv.start {α : Type} {e : α → Value} {p : α → Bool} {xs : List α} {k : Nat} (hk : k < xs.length) (h : ∀ j (hj : j < xs.length), j < k → p xs[j] = false) (hp : p xs[k] = true) : DelInv e p xs k (k + 1) (xs.map e) := by
 have e1 : (xs.take (k + 1)).filter (fun x => !p x) = xs.take k := by
  rw [List.take_succ_eq_append_getElem hk, List.filter_append, zD p xs k h]
  simp [hp]
 refine ⟨by simp, by omega, by omega, ?_, by simp, ?_⟩
 ·rw [e1, List.map_take]
 ·rw [e1]; simp; omega
theorem DelInv.keep {α : Type} {e : α → Value} {p : α → Bool} {xs : List α} {i j : Nat} {F : List Value} (h : DelInv e p xs i j F) (hj : j < xs.length) (hp : p xs[j] = false) : DelInv e p xs (i + 1) (j + 1) (F.take i ++ [e xs[j]] ++ F.drop (i + 1)) := by
 have e1 : (xs.take (j + 1)).filter (fun x => !p x) = (xs.take j).filter (fun x => !p x) ++ [xs[j]] := by
  rw [List.take_succ_eq_append_getElem hj, List.filter_append]
  simp [hp]
 have hl := h.len
 have hij := h.ij
 refine ⟨by simp; omega, by omega, by omega, ?_, ?_, ?_⟩
 ·rw [List.take_append_of_le_length (by simp; omega), List.take_of_length_le (by simp; omega), e1, List.map_append, h.lo]; rfl
 ·rw [List.drop_append, List.drop_of_length_le (by simp; omega), List.nil_append, List.drop_drop]
  have : F.drop (j + 1) = (xs.drop (j + 1)).map e := by rw [← List.drop_drop, h.hi, ← List.map_drop, List.drop_drop]
  rw [← this]
  congr 1
  simp; omega
 ·rw [e1, List.length_append, ← h.il]; rfl
theorem DelInv.skip {α : Type} {e : α → Value} {p : α → Bool} {xs : List α} {i j : Nat} {F : List Value} (h : DelInv e p xs i j F) (hj : j < xs.length) (hp : p xs[j] = true) : DelInv e p xs i (j + 1) F := by
 have e1 : (xs.take (j + 1)).filter (fun x => !p x) = (xs.take j).filter (fun x => !p x) := by
  rw [List.take_succ_eq_append_getElem hj, List.filter_append]
  simp [hp]
 have hij := h.ij
 exact ⟨h.len, by omega, by omega, by rw [e1]; exact h.lo, by rw [← List.drop_drop, h.hi, ← List.map_drop, List.drop_drop], by rw [e1]; exact h.il⟩
end Go.Proofs.YtddimbdeggomaaaGreat
end
section
set_option linter.all false
set_option maxRecDepth 100000
namespace Go.Sx
open Go Go.RowKit
theorem RowAt.mod {V : View} {w W : World} {b ty N : Nat} {F : List Value} (hm : Mod V w) (hV : V b = none) (h : RowAt w W b ty N F) : Mod V W := fun k cs hk => by
 obtain ⟨c, t, fz, e1, e2⟩ := hm k cs hk
 exact ⟨c, t, fz, by rw [h.grown.block k (Array.getElem?_eq_some_iff.1 e1).1 (fun e => by cases e; rw [hV] at hk; cases hk)]; exact e1, e2⟩
def a2t (V : View) (b : Nat) (cs : List Value) : View := fun k => if k = b then some cs else V k
theorem b4z {V : View} {b : Nat} (hV : V b = none) (cs : List Value) : V.le (a2t V b cs) := fun k c hk => ⟨c, by
 unfold a2t
 rw [if_neg (fun e => by subst e; rw [hV] at hk; cases hk)]; exact hk, List.prefix_refl _⟩
theorem b2G {V : View} {w : World} {b ty N : Nat} {F : List Value} (hm : Mod V w) (h : RowAt w w b ty N F) : Mod (a2t V b F) w := fun k cs hk => by
 unfold a2t at hk
 split at hk
 ·cases hk
  rename_i e
  subst e
  obtain ⟨c, e1, _, e3⟩ := h.cells
  exact ⟨c, ty, (0, 0), e1, e3⟩
 ·exact hm k cs hk
theorem b2H {α : Type} {e : α → Value} (hs : ∀ x, scalar (e x) = true) {V : View} {b cap : Nat} {l : List α} (h1 : l.length ≤ cap) (h2 : cap ≤ maxLen) : Lay (a2t V b (l.map e)) (.sl (rR e l)) (.slice (some ⟨b, 0, none⟩) l.length cap) ((if (rR e l).isEmpty then [] else [b]) ++ (List.replicate l.length []).flatten) := by
 have := Lay.sl (V := a2t V b (l.map e)) (rR e l) ⟨b, 0, none⟩ cap 1 (l.map e) (List.replicate l.length []) (fun r hr => by obtain ⟨x, _, rfl⟩ := List.mem_map.1 hr; rfl) (by simpa [rR] using h1) h2 (by rw [iW]; simp) (by rw [iW]; simp)
  (fun k y hk => by
   have : (Addr.add ⟨b, 0, none⟩ k) = ⟨b, k, none⟩ := by rw [Addr.add_lit, Nat.zero_add]
   rw [this]
   simp only [View.cell, a2t, if_true]
   simpa using hk)
  (fun k d y S h1 h2 h3 => by
   rw [iW, List.getElem?_map] at h1
   rw [List.getElem?_map] at h2
   cases hk : l[k]? with
   | none => rw [hk] at h1; cases h1
   | some x =>
    rw [hk] at h1 h2
    cases h1; cases h2
    rw [List.getElem?_replicate] at h3
    split at h3
    ·cases h3; exact .v _ (hs x)
    ·cases h3)
 simpa [rR] using this
theorem RowAt.of_row {α : Type} [Inhabited α] {e : α → Value} {w : World} {ty b cap : Nat} {c : Array Value} {l : List α} (h1 : w.heap[b]? = some (.cells c ty (0, 0))) (h2 : c.size = cap) (h3 : l.length ≤ cap) (h4 : Sort.Holds e w b 0 l.toArray) : RowAt w w b ty cap (l.map e) := by
 refine ⟨⟨c, h1, h2, ?_⟩, a0T w _⟩
 refine List.prefix_iff_eq_take.2 ?_
 apply List.ext_getElem?
 intro j
 rw [List.getElem?_take, List.getElem?_map]
 simp only [List.length_map]
 by_cases hj : j < l.length
 ·rw [if_pos hj]
  have := (h4 j (by simpa using hj)).1
  simp only [World.cell?, h1, Nat.zero_add, Option.isSome_none, Bool.false_eq_true, if_false] at this
  have h5 : c.toList[j]? = some (e l[j]) := by
   rw [Array.getElem?_toList, this, getElem!_pos l.toArray j (by simpa using hj)]
   simp
  rw [h5, List.getElem?_eq_getElem hj]; rfl
 ·rw [if_neg hj, List.getElem?_eq_none (by omega)]; rfl
theorem RowAt.row {α : Type} {e : α → Value} (hs : ∀ x, scalar (e x) = true) {V : View} {w w' : World} {ty b cap : Nat} {l : List α} {G : List Value} (h : RowAt w w' b ty cap (l.map e ++ G)) (hcap : cap ≤ maxLen) (hV : V b = none) : RowR V w' ty 1 (rR e l) (.slice (some ⟨b, 0, none⟩) l.length cap) [b] := by
 have hle := h.le
 rw [List.length_append, List.length_map] at hle
 obtain ⟨c, h1, h2, h3⟩ := h.cells
 refine ⟨fun r hr => ?_, l.map e, List.replicate l.length [], ⟨by rw [iW]; simp, by rw [iW]; simp, fun k dd y s q1 q2 q3 => ?_⟩, .inr ⟨b, cap, c, by simp [rR], by simp [rR]; omega, hcap, h1, by simp [h2], (List.prefix_append _ _).trans h3, hV, by simp⟩⟩
 ·obtain ⟨x, _, rfl⟩ := List.mem_map.1 hr; rfl
 ·rw [iW, List.getElem?_map] at q1
  rw [List.getElem?_map] at q2
  cases hk : l[k]? with
  | none => rw [hk] at q1; cases q1
  | some x =>
   rw [hk] at q1 q2
   cases q1; cases q2
   rw [List.getElem?_replicate] at q3
   split at q3
   ·cases q3; exact .v _ (hs x)
   ·cases q3
theorem b4A {V : View} (ao : Option Addr) : ∃ S, Lay V (.sl []) (.slice ao 0 0) S := by
 cases ao with
 | none => exact ⟨_, .nil⟩
 | some a => exact ⟨_, .sl [] a 0 0 [] [] (by simp) (by simp) (by simp [maxLen]) rfl rfl (fun k y h => by simp at h) (fun k d y S h => by simp at h)⟩
end Go.Sx
end
section
set_option linter.all false
set_option maxRecDepth 100000
set_option maxHeartbeats 4000000
namespace Go.Proofs.YtddimbdeggomaaaGreat
open Go Go.Sx Go.RowKit Go.Proofs
def dV {α : Type} (p : α → Bool) : List α → Nat → Int
 | [], _ => -1
 | x :: xs, k => if p x then k else dV p xs (k + 1)
theorem idxP_spec {α : Type} (p : α → Bool) : ∀ (xs : List α) (k : Nat), (dV p xs k = -1 ∧ ∀ x ∈ xs, p x = false) ∨ ∃ k0 : Nat, dV p xs k = ((k + k0 : Nat) : Int) ∧ ∃ h : k0 < xs.length, p xs[k0] = true ∧ ∀ j (hj : j < xs.length), j < k0 → p xs[j] = false
 | [], k => .inl ⟨rfl, fun x hx => by simp at hx⟩
 | x :: xs, k => by
  unfold dV
  cases hx : p x with
  | true => exact .inr ⟨0, by simp, by simp, by simpa using hx, fun j hj h => by omega⟩
  | false =>
   rcases idxP_spec p xs (k + 1) with ⟨h1, h2⟩ | ⟨k0, h1, h2, h3, h4⟩
   ·exact .inl ⟨by simpa using h1, fun y hy => by
     rcases List.mem_cons.1 hy with rfl | hy
     ·exact hx
     ·exact h2 y hy⟩
   ·refine .inr ⟨k0 + 1, by simp only [Bool.false_eq_true, if_false]; rw [h1]; congr 1; omega, by simp; omega, by simpa using h3, fun j hj hk => ?_⟩
    cases j with
    | zero => simpa using hx
    | succ j => simpa using h4 j (by simpa using hj) (by omega)
theorem a5m (f : Nat) (c : List D) (p : ByteArray → Bool) (l : List ByteArray) (hf : ∀ s ∈ l, FnC Tryz.prog f [os s, .o (.q c)] (ob (p s))) (hl : l.length ≤ 4300000) : FnC Tryz.prog 299 [.o (.d (.sl (l.map bW))), .o (.f f [c])] (oi (dV p l 0)) := by
 refine ent Tryz.func299 rfl Tryz.call299 rfl (fun C => ?_); simp only [go_sem, st0, Tryz.ntmps299]
 refine aD ?_
 refine aN (α := Nat) (fun k => [(8, oi k)]) (fun _ => []) (fun k => k ≤ l.length ∧ dV p l 0 = dV p (l.drop k) k) (fun k => l.length - k) 0 (fun _ => ?_) ?_ ?_ (fun k hk => ?_)
 ·simp only [go_sem]
 ·simp only [go_sem]; simp
 ·simp
 ·obtain ⟨hk, hq⟩ := hk
  simp only [go_sem]
  refine aD ?_
  refine cnd rfl (fun h => ?_) (fun h => ?_)
  ·simp only [decide_eq_true_eq, Int.ofNat_lt] at h
   have hd := List.drop_eq_getElem_cons h
   rw [hd, dV] at hq
   have q0 := @h; refine fE (hf l[k] (List.getElem_mem h)) ?_
   refine cnd rfl (fun h2 => ?_) (fun h2 => ?_)
   ·refine aD ?_
    exact aA ⟨⟨_, rfl, by simp only [go_sem, hq, h2]⟩, trivial⟩
   ·refine aD ?_
    refine aF (k + 1) ?_ ?_ ?_
    ·simp only [go_sem]; simp
    ·rw [hq, h2]; exact ⟨h, by simp⟩
    ·omega
  ·simp only [decide_eq_false_iff_not] at h
   have e : k = l.length := by omega
   subst e
   simp only [List.drop_length, dV] at hq
   refine aD ?_
   exact aA ⟨⟨_, rfl, by simp only [go_sem, hq]⟩, trivial⟩
theorem b1B {V : View} {w w' : World} {v y : Value} (hs : scalar v = true) (h : Done V w (.o (.d (.v v))) y w') : Ending.returned y = Ending.returned v := by
 obtain ⟨V', S, _, _, _, ⟨l, hsh, Ss, r1, r2, r3, r4⟩, _, _⟩ := h.out
 have hl : l = [y] := hsh
 subst hl
 have hlt : 0 < Ss.length := by rw [r2]; simp [SV.all]
 obtain ⟨_, T, hL⟩ := r4 0 (.d (.v v)) y _ rfl rfl (List.getElem?_eq_getElem hlt)
 cases hL
 rfl
theorem a7a {V : View} {w w' : World} {n : Int} {y : Value} (h : Done V w (oi n) y w') : Ending.returned y = Ending.returned (.int .i64 n) := b1B rfl h
theorem b6k {V : View} {w w' : World} {n : Bool} {y : Value} (h : Done V w (ob n) y w') : Ending.returned y = Ending.returned (.bool n) := b1B rfl h
end Go.Proofs.YtddimbdeggomaaaGreat
end
end
