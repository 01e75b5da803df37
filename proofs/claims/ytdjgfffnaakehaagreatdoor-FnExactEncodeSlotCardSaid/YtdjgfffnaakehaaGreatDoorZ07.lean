/- Joined texts. -/
import Derived.Test.YtdjgfffnaakehaaGreatDoorZ06
set_option linter.all false
section
section
set_option linter.all false
namespace Go.Proofs.YtdjgfffnaakehaaGreatDoor
open Go Go.Sx Go.RowKit Go.Proofs
def bK (n : Int) (w : Nat) : Int := if n - w < 0 then -1 else n - w
theorem aQ {n : Int} {w : Nat} (h : n - w < 0) : bK n w = -1 := if_pos h
theorem bE {n : Int} {w : Nat} (h : ¬ n - w < 0) : bK n w = n - w := if_neg h
theorem a2F {n : Int} {w : Nat} (h : ¬ bK n w < 0) : w ≤ n := by
 unfold bK at h
 split at h <;> omega
def wsum {α : Type} (w : α → Nat) : List α → Nat
 | [] => 0
 | x :: l => w x + wsum w l
theorem bL {α : Type} (w : α → Nat) : ∀ (l : List α) {k : Nat} (h : k < l.length), w l[k] ≤ wsum w l
 | [], _, h => by simp at h
 | x :: l, 0, _ => by simp [wsum]
 | x :: l, k + 1, h => by
  have := bL w l (k := k) (by simpa using h)
  simp only [List.getElem_cons_succ, wsum]; omega
theorem jF {α : Type} (w : α → Nat) : ∀ (l : List α) {k : Nat} (h : k < l.length), wsum w (l.take (k + 1)) = wsum w (l.take k) + w l[k]
 | [], _, h => by simp at h
 | x :: l, 0, _ => by simp [wsum]
 | x :: l, k + 1, h => by
  have := jF w l (k := k) (by simpa using h)
  simp only [List.take_succ_cons, List.getElem_cons_succ, wsum]; omega
theorem qE {α : Type} (w : α → Nat) : ∀ (l : List α) (k : Nat), wsum w (l.take k) ≤ wsum w l
 | [], k => by simp
 | x :: l, 0 => by simp [wsum]
 | x :: l, k + 1 => by
  have := qE w l k
  simp only [List.take_succ_cons, wsum]; omega
@[go_sem] def tY (n : Int) : List D := [iv n]
@[go_sem] def dA (s : ByteArray) : List D := [sv s]
abbrev slI (l : List Int) : D := .sl (l.map tY)
abbrev slS (l : List ByteArray) : D := .sl (l.map dA)
def b0b (l : List ByteArray) : Nat := l.length + wsum ByteArray.size l
def a1F (l : List Int) : Prop := l.length ≤ 9223372036854775807 ∧ ∀ i ∈ l, inR .i64 i
def a9z (l : List ByteArray) : Prop := l.length ≤ 9223372036854775807 ∧ ∀ s ∈ l, s.size ≤ 9223372036854775807
theorem yU {n : Nat} {r : List D} (h : ShD tt n 3 r) : ∃ i, r = tY i ∧ inR .i64 i := by
 match n, h with
 | n + 1, ⟨i, h, hi⟩ => exact ⟨i, h, hi⟩
theorem a6Y {n : Nat} {r : List D} (h : ShD tt n 9 r) : ∃ s : ByteArray, r = dA s ∧ s.size ≤ 9223372036854775807 := by
 match n, h with
 | n + 1, ⟨s, h, hs⟩ => exact ⟨s, h, hs⟩
theorem b0V {n : Nat} {r : List D} (h : ShD tt n 4 r) : ∃ b : Bool, r = [bv b] := by
 match n, h with
 | n + 1, ⟨b, h⟩ => exact ⟨b, h⟩
end Go.Proofs.YtdjgfffnaakehaaGreatDoor
end
section
set_option linter.all false
set_option maxHeartbeats 1000000
namespace Go.Proofs.YtdjgfffnaakehaaGreatDoor
open Go Go.Sx Go.RowKit Go.Proofs
structure TValue where
 fKind : Int
 fInt : Int
 fStr : ByteArray
@[go_sem] def a6Z (x : TValue) : List D := [iv x.fKind, iv x.fInt, sv x.fStr]
@[go_sem] def jG (x : TValue) : SV := .g [.d (iv x.fKind), .d (iv x.fInt), .d (sv x.fStr)]
def eB (x : TValue) : Nat := x.fStr.size
def nP (x : TValue) : Prop := inR .i64 x.fKind ∧ inR .i64 x.fInt ∧ x.fStr.size ≤ 9223372036854775807
def b0z (l : List TValue) : Nat := l.length + wsum eB l
def b0c (l : List TValue) : Prop := l.length ≤ 9223372036854775807 ∧ ∀ x ∈ l, nP x
theorem a2G {n : Nat} {r : List D} (h : ShD tt n 133 r) : ∃ x : TValue, r = a6Z x ∧ nP x := by
 match n, h with
 | n + 1, ⟨a0, b0, e0, h0, a1, b1, e1, h1, a2, b2, e2, h2, ee⟩ =>
  obtain ⟨x0, rfl, p0⟩ := yU h0
  obtain ⟨x1, rfl, p1⟩ := yU h1
  obtain ⟨x2, rfl, p2⟩ := a6Y h2
  have ee' : b2 = [] := ee
  subst ee' e2 e1 e0
  exact ⟨⟨x0, x1, x2⟩, rfl, p0, p1, p2⟩
theorem nQ (x : TValue) (n : Int) (h0 : 0 ≤ n ∧ n ≤ 1048576) (hw : nP x) : FnC Tryz.prog 117 [jG x, oi n] (oi (bK n (eB x))) := by
 refine ent Tryz.func117 rfl Tryz.call117 rfl (fun C => ?_); simp only [go_sem, st0, Tryz.ntmps117]
 unfold nP at hw
 by_cases hc0 : n - (x.fStr.size : Nat) < 0
 ·have e : bK n (eB x) = -1 := by rw [aQ (by unfold eB; omega)]
  have q0 := @hc0; refine jT ?_
  exact aA ⟨⟨_, rfl, by simp only [go_sem, e]⟩, trivial⟩
 have e : bK n (eB x) = n - (x.fStr.size : Nat) := by rw [bE (by unfold eB; omega)]; unfold eB; omega
 have q0 := @hc0; refine jT ?_
 exact aA ⟨⟨_, rfl, by simp only [go_sem, e]⟩, trivial⟩
theorem yV (x : TValue) (hx : eB x ≤ 1048576) : FnC Tryz.prog 123 [jG x] (jG x) := by
 unfold eB at hx
 refine ent Tryz.func123 rfl Tryz.call123 rfl (fun C => ?_); simp only [go_sem, st0, Tryz.ntmps123]
 refine aK ?_
 exact aA ⟨⟨_, rfl, by simp only [go_sem]⟩, trivial⟩
theorem yX (x : TValue) (hx : eB x ≤ 67108864) : FnC Tryz.prog 132 [jG x, jG x] (ob true) := by
 unfold eB at hx
 refine ent Tryz.func132 rfl Tryz.call132 rfl (fun C => ?_); simp only [go_sem, st0, Tryz.ntmps132]
 refine aK ?_
 exact aA ⟨⟨_, rfl, by simp only [go_sem]⟩, trivial⟩
end Go.Proofs.YtdjgfffnaakehaaGreatDoor
end
section
set_option linter.all false
set_option maxHeartbeats 1000000
namespace Go.Proofs.YtdjgfffnaakehaaGreatDoor
open Go Go.Sx Go.RowKit Go.Proofs
structure TField where
 fName : ByteArray
 fKind : Int
@[go_sem] def aZ (x : TField) : List D := [sv x.fName, iv x.fKind]
@[go_sem] def nR (x : TField) : SV := .g [.d (sv x.fName), .d (iv x.fKind)]
def wField (x : TField) : Nat := x.fName.size
def tZ (x : TField) : Prop := x.fName.size ≤ 9223372036854775807 ∧ inR .i64 x.fKind
def aM (l : List TField) : Nat := l.length + wsum wField l
def uC (l : List TField) : Prop := l.length ≤ 9223372036854775807 ∧ ∀ x ∈ l, tZ x
theorem a7a {n : Nat} {r : List D} (h : ShD tt n 99 r) : ∃ x : TField, r = aZ x ∧ tZ x := by
 match n, h with
 | n + 1, ⟨a0, b0, e0, h0, a1, b1, e1, h1, ee⟩ =>
  obtain ⟨x0, rfl, p0⟩ := a6Y h0
  obtain ⟨x1, rfl, p1⟩ := yU h1
  have ee' : b1 = [] := ee
  subst ee' e1 e0
  exact ⟨⟨x0, x1⟩, rfl, p0, p1⟩
theorem a5L {n : Nat} {r : List D} (h : ShD tt n 22 r) : ∃ l : List TField, r = [.sl (l.map aZ)] ∧ uC l := by
 match n, h with
 | n + 1, ⟨rows, h, hm, hr⟩ =>
  obtain ⟨l, rfl, hl⟩ := mQ aZ tZ (fun r h => a7a (hr r h))
  exact ⟨l, h, by unfold maxLen at hm; simpa using hm, hl⟩
theorem yY (x : TField) (n : Int) (h0 : 0 ≤ n ∧ n ≤ 1048576) (hw : tZ x) : FnC Tryz.prog 66 [nR x, oi n] (oi (bK n (wField x))) := by
 refine ent Tryz.func66 rfl Tryz.call66 rfl (fun C => ?_); simp only [go_sem, st0, Tryz.ntmps66]
 unfold tZ at hw
 by_cases hc0 : n - (x.fName.size : Nat) < 0
 ·have e : bK n (wField x) = -1 := by rw [aQ (by unfold wField; omega)]
  have q0 := @hc0; refine jT ?_
  exact aA ⟨⟨_, rfl, by simp only [go_sem, e]⟩, trivial⟩
 have e : bK n (wField x) = n - (x.fName.size : Nat) := by rw [bE (by unfold wField; omega)]; unfold wField; omega
 have q0 := @hc0; refine jT ?_
 exact aA ⟨⟨_, rfl, by simp only [go_sem, e]⟩, trivial⟩
theorem a3X (x : TField) (hx : wField x ≤ 1048576) : FnC Tryz.prog 72 [nR x] (nR x) := by
 unfold wField at hx
 refine ent Tryz.func72 rfl Tryz.call72 rfl (fun C => ?_); simp only [go_sem, st0, Tryz.ntmps72]
 refine aK ?_
 exact aA ⟨⟨_, rfl, by simp only [go_sem]⟩, trivial⟩
theorem a3Y (x : TField) (hx : wField x ≤ 67108864) : FnC Tryz.prog 79 [nR x, nR x] (ob true) := by
 unfold wField at hx
 refine ent Tryz.func79 rfl Tryz.call79 rfl (fun C => ?_); simp only [go_sem, st0, Tryz.ntmps79]
 refine aK ?_
 exact aA ⟨⟨_, rfl, by simp only [go_sem]⟩, trivial⟩
theorem a2H (l : List TField) (hl : aM l ≤ 1048576) : FnC Tryz.prog 45 [.o (.d (.sl (l.map aZ)))] (.o (.w 59 2 (l.map aZ))) := by
 unfold aM at hl
 refine ent Tryz.func45 rfl Tryz.call45 rfl (fun C => ?_); simp only [go_sem, st0, Tryz.ntmps45]
 refine aK ?_
 refine bC (α := Nat) (fun k => [(4, oi k)]) (fun k => [(0, .row 59 2 (kC aZ [sv ⟨#[]⟩, iv 0] l k) true)]) (fun k => k ≤ l.length) (fun k => l.length - k) 0 (fun _ => ?_) ?_ ?_ (fun k hk => ?_)
 ·simp only [go_sem]
 ·simp only [go_sem]; simp [kS]
 ·simp
 ·simp only [go_sem]
  refine aK ?_
  refine cnd rfl (fun h => ?_) (fun h => ?_)
  ·simp only [decide_eq_true_eq, Int.ofNat_lt] at h
   have hw := bL wField l h
   have q0 := @h; refine gG (a3X l[k] (by omega)) ?_
   refine aG (k + 1) ?_ ?_ ?_
   ·simp only [go_sem]; simp [← mE, h, aZ]
   ·omega
   ·omega
  ·simp only [decide_eq_false_iff_not] at h
   have e : k = l.length := by omega
   subst e
   refine aK ?_
   exact aA ⟨⟨_, rfl, by simp only [go_sem, mF]⟩, trivial⟩
theorem a2I (l : List TField) (hl : aM l ≤ 67108864) : FnC Tryz.prog 51 [.o (.d (.sl (l.map aZ))), .o (.d (.sl (l.map aZ)))] (ob true) := by
 unfold aM at hl
 refine ent Tryz.func51 rfl Tryz.call51 rfl (fun C => ?_); simp only [go_sem, st0, Tryz.ntmps51]
 refine aK ?_
 refine bC (α := Nat) (fun k => [(5, oi k)]) (fun _ => []) (fun k => k ≤ l.length) (fun k => l.length - k) 0 (fun _ => ?_) ?_ ?_ (fun k hk => ?_)
 ·simp only [go_sem]
 ·simp only [go_sem]; simp
 ·simp
 ·simp only [go_sem]
  refine aK ?_
  refine cnd rfl (fun h => ?_) (fun h => ?_)
  ·simp only [decide_eq_true_eq, Int.ofNat_lt] at h
   have hw := bL wField l h
   have q0 := @h; refine gG (a3Y l[k] (by omega)) ?_
   refine aG (k + 1) ?_ ?_ ?_
   ·simp only [go_sem]; simp
   ·omega
   ·omega
  ·simp only [decide_eq_false_iff_not] at h
   refine aK ?_
   exact aA ⟨⟨_, rfl, by simp only [go_sem]⟩, trivial⟩
theorem pK (l : List TField) (n : Int) (h0 : 0 ≤ n ∧ n ≤ 1048576) (hw : uC l) : FnC Tryz.prog 39 [.o (.d (.sl (l.map aZ))), oi n] (oi (bK n (aM l))) := by
 unfold uC at hw
 refine ent Tryz.func39 rfl Tryz.call39 rfl (fun C => ?_); simp only [go_sem, st0, Tryz.ntmps39]
 by_cases hc : n - (l.length : Nat) < 0
 ·have e : bK n (aM l) = -1 := by rw [aQ (by unfold aM; omega)]
  have q0 := @hc; refine jT ?_
  exact aA ⟨⟨_, rfl, by simp only [go_sem, e]⟩, trivial⟩
 have q0 := @hc; refine jT ?_
 refine bC (α := Nat) (fun k => [(5, oi k), (1, oi (n - (l.length : Nat) - (wsum wField (l.take k) : Nat)))]) (fun _ => []) (fun k => k ≤ l.length ∧ 0 ≤ n - (l.length : Nat) - (wsum wField (l.take k) : Nat)) (fun k => l.length - k) 0 (fun _ => ?_) ?_ ?_ (fun k hk => ?_)
 ·simp only [go_sem]
 ·simp only [go_sem]; simp [wsum]
 ·simp [wsum]; omega
 ·obtain ⟨hk, hn⟩ := hk
  simp only [go_sem]
  refine aK ?_
  refine cnd rfl (fun h => ?_) (fun h => ?_)
  ·simp only [decide_eq_true_eq, Int.ofNat_lt] at h
   have hs := jF wField l h
   have ht := qE wField l (k + 1)
   by_cases h2 : n - (l.length : Nat) - (wsum wField (l.take k) : Nat) - (wField l[k] : Nat) < 0
   ·have e : bK n (aM l) = -1 := by rw [aQ (by unfold aM; omega)]
    have q0 := @h; have q1 := aQ h2; refine yR (yY l[k] _ ⟨hn, by omega⟩ (hw.2 _ (List.getElem_mem h))) ?_
    exact aA ⟨⟨_, rfl, by simp only [go_sem, e]⟩, trivial⟩
   ·have q0 := @h; have q1 := bE h2; have q2 := @h2; refine fG (yY l[k] _ ⟨hn, by omega⟩ (hw.2 _ (List.getElem_mem h))) ?_
    refine aG (k + 1) ?_ ?_ ?_
    ·simp only [go_sem]; simp; omega
    ·omega
    ·omega
  ·simp only [decide_eq_false_iff_not] at h
   have e0 : k = l.length := by omega
   subst e0
   rw [List.take_length] at hn
   have e : bK n (aM l) = n - (l.length : Nat) - (wsum wField l : Nat) := by rw [bE (by unfold aM; omega)]; unfold aM; omega
   refine aK ?_
   exact aA ⟨⟨_, rfl, by simp only [go_sem, e, List.take_length]⟩, trivial⟩
end Go.Proofs.YtdjgfffnaakehaaGreatDoor
end
section
set_option linter.all false
set_option maxHeartbeats 1000000
namespace Go.Proofs.YtdjgfffnaakehaaGreatDoor
open Go Go.Sx Go.RowKit Go.Proofs
structure TAttr where
 fName : ByteArray
 fValue : TValue
@[go_sem] def dC (x : TAttr) : List D := [sv x.fName, iv x.fValue.fKind, iv x.fValue.fInt, sv x.fValue.fStr]
@[go_sem] def a2J (x : TAttr) : SV := .g [.d (sv x.fName), .d (iv x.fValue.fKind), .d (iv x.fValue.fInt), .d (sv x.fValue.fStr)]
def wAttr (x : TAttr) : Nat := x.fName.size + eB x.fValue
def yZ (x : TAttr) : Prop := x.fName.size ≤ 9223372036854775807 ∧ nP x.fValue
def dV (l : List TAttr) : Nat := l.length + wsum wAttr l
def uE (l : List TAttr) : Prop := l.length ≤ 9223372036854775807 ∧ ∀ x ∈ l, yZ x
theorem a8r {n : Nat} {r : List D} (h : ShD tt n 150 r) : ∃ x : TAttr, r = dC x ∧ yZ x := by
 match n, h with
 | n + 1, ⟨a0, b0, e0, h0, a1, b1, e1, h1, ee⟩ =>
  obtain ⟨x0, rfl, p0⟩ := a6Y h0
  obtain ⟨x1, rfl, p1⟩ := a2G h1
  have ee' : b1 = [] := ee
  subst ee' e1 e0
  exact ⟨⟨x0, x1⟩, rfl, p0, p1⟩
theorem a7b {n : Nat} {r : List D} (h : ShD tt n 101 r) : ∃ l : List TAttr, r = [.sl (l.map dC)] ∧ uE l := by
 match n, h with
 | n + 1, ⟨rows, h, hm, hr⟩ =>
  obtain ⟨l, rfl, hl⟩ := mQ dC yZ (fun r h => a8r (hr r h))
  exact ⟨l, h, by unfold maxLen at hm; simpa using hm, hl⟩
theorem a0I (x : TAttr) (n : Int) (h0 : 0 ≤ n ∧ n ≤ 1048576) (hw : yZ x) : FnC Tryz.prog 116 [a2J x, oi n] (oi (bK n (wAttr x))) := by
 refine ent Tryz.func116 rfl Tryz.call116 rfl (fun C => ?_); simp only [go_sem, st0, Tryz.ntmps116]
 unfold yZ at hw
 by_cases hc0 : n - (x.fName.size : Nat) < 0
 ·have e : bK n (wAttr x) = -1 := by rw [aQ (by unfold wAttr; omega)]
  have q0 := @hc0; refine jT ?_
  exact aA ⟨⟨_, rfl, by simp only [go_sem, e]⟩, trivial⟩
 by_cases hc1 : n - (x.fName.size : Nat) - (eB x.fValue : Nat) < 0
 ·have e : bK n (wAttr x) = -1 := by rw [aQ (by unfold wAttr; omega)]
  have q0 := @hc0; have q1 := aQ hc1; have q2 := @hc1; refine fG (nQ x.fValue (n - (x.fName.size : Nat)) (by omega) hw.2) ?_
  exact aA ⟨⟨_, rfl, by simp only [go_sem, e]⟩, trivial⟩
 have e : bK n (wAttr x) = n - (x.fName.size : Nat) - (eB x.fValue : Nat) := by rw [bE (by unfold wAttr; omega)]; unfold wAttr; omega
 have q0 := @hc0; have q1 := bE hc1; have q2 := @hc1; refine fG (nQ x.fValue (n - (x.fName.size : Nat)) (by omega) hw.2) ?_
 exact aA ⟨⟨_, rfl, by simp only [go_sem, e]⟩, trivial⟩
theorem a5M (x : TAttr) (hx : wAttr x ≤ 1048576) : FnC Tryz.prog 122 [a2J x] (a2J x) := by
 unfold wAttr at hx
 refine ent Tryz.func122 rfl Tryz.call122 rfl (fun C => ?_); simp only [go_sem, st0, Tryz.ntmps122]
 refine jA (yV x.fValue (by omega)) ?_
 exact aA ⟨⟨_, rfl, by simp only [go_sem]⟩, trivial⟩
theorem a5N (x : TAttr) (hx : wAttr x ≤ 67108864) : FnC Tryz.prog 131 [a2J x, a2J x] (ob true) := by
 unfold wAttr at hx
 refine ent Tryz.func131 rfl Tryz.call131 rfl (fun C => ?_); simp only [go_sem, st0, Tryz.ntmps131]
 refine jA (yX x.fValue (by omega)) ?_
 exact aA ⟨⟨_, rfl, by simp only [go_sem]⟩, trivial⟩
theorem a3Z (l : List TAttr) (hl : dV l ≤ 1048576) : FnC Tryz.prog 101 [.o (.d (.sl (l.map dC)))] (.o (.w 90 4 (l.map dC))) := by
 unfold dV at hl
 refine ent Tryz.func101 rfl Tryz.call101 rfl (fun C => ?_); simp only [go_sem, st0, Tryz.ntmps101]
 refine aK ?_
 refine bC (α := Nat) (fun k => [(4, oi k)]) (fun k => [(0, .row 90 4 (kC dC [sv ⟨#[]⟩, iv 0, iv 0, sv ⟨#[]⟩] l k) true)]) (fun k => k ≤ l.length) (fun k => l.length - k) 0 (fun _ => ?_) ?_ ?_ (fun k hk => ?_)
 ·simp only [go_sem]
 ·simp only [go_sem]; simp [kS]
 ·simp
 ·simp only [go_sem]
  refine aK ?_
  refine cnd rfl (fun h => ?_) (fun h => ?_)
  ·simp only [decide_eq_true_eq, Int.ofNat_lt] at h
   have hw := bL wAttr l h
   have q0 := @h; refine gG (a5M l[k] (by omega)) ?_
   refine aG (k + 1) ?_ ?_ ?_
   ·simp only [go_sem]; simp [← mE, h, dC]
   ·omega
   ·omega
  ·simp only [decide_eq_false_iff_not] at h
   have e : k = l.length := by omega
   subst e
   refine aK ?_
   exact aA ⟨⟨_, rfl, by simp only [go_sem, mF]⟩, trivial⟩
theorem a4a (l : List TAttr) (hl : dV l ≤ 67108864) : FnC Tryz.prog 110 [.o (.d (.sl (l.map dC))), .o (.d (.sl (l.map dC)))] (ob true) := by
 unfold dV at hl
 refine ent Tryz.func110 rfl Tryz.call110 rfl (fun C => ?_); simp only [go_sem, st0, Tryz.ntmps110]
 refine aK ?_
 refine bC (α := Nat) (fun k => [(5, oi k)]) (fun _ => []) (fun k => k ≤ l.length) (fun k => l.length - k) 0 (fun _ => ?_) ?_ ?_ (fun k hk => ?_)
 ·simp only [go_sem]
 ·simp only [go_sem]; simp
 ·simp
 ·simp only [go_sem]
  refine aK ?_
  refine cnd rfl (fun h => ?_) (fun h => ?_)
  ·simp only [decide_eq_true_eq, Int.ofNat_lt] at h
   have hw := bL wAttr l h
   have q0 := @h; refine gG (a5N l[k] (by omega)) ?_
   refine aG (k + 1) ?_ ?_ ?_
   ·simp only [go_sem]; simp
   ·omega
   ·omega
  ·simp only [decide_eq_false_iff_not] at h
   refine aK ?_
   exact aA ⟨⟨_, rfl, by simp only [go_sem]⟩, trivial⟩
theorem zA (l : List TAttr) (n : Int) (h0 : 0 ≤ n ∧ n ≤ 1048576) (hw : uE l) : FnC Tryz.prog 95 [.o (.d (.sl (l.map dC))), oi n] (oi (bK n (dV l))) := by
 unfold uE at hw
 refine ent Tryz.func95 rfl Tryz.call95 rfl (fun C => ?_); simp only [go_sem, st0, Tryz.ntmps95]
 by_cases hc : n - (l.length : Nat) < 0
 ·have e : bK n (dV l) = -1 := by rw [aQ (by unfold dV; omega)]
  have q0 := @hc; refine jT ?_
  exact aA ⟨⟨_, rfl, by simp only [go_sem, e]⟩, trivial⟩
 have q0 := @hc; refine jT ?_
 refine bC (α := Nat) (fun k => [(5, oi k), (1, oi (n - (l.length : Nat) - (wsum wAttr (l.take k) : Nat)))]) (fun _ => []) (fun k => k ≤ l.length ∧ 0 ≤ n - (l.length : Nat) - (wsum wAttr (l.take k) : Nat)) (fun k => l.length - k) 0 (fun _ => ?_) ?_ ?_ (fun k hk => ?_)
 ·simp only [go_sem]
 ·simp only [go_sem]; simp [wsum]
 ·simp [wsum]; omega
 ·obtain ⟨hk, hn⟩ := hk
  simp only [go_sem]
  refine aK ?_
  refine cnd rfl (fun h => ?_) (fun h => ?_)
  ·simp only [decide_eq_true_eq, Int.ofNat_lt] at h
   have hs := jF wAttr l h
   have ht := qE wAttr l (k + 1)
   by_cases h2 : n - (l.length : Nat) - (wsum wAttr (l.take k) : Nat) - (wAttr l[k] : Nat) < 0
   ·have e : bK n (dV l) = -1 := by rw [aQ (by unfold dV; omega)]
    have q0 := @h; have q1 := aQ h2; refine yR (a0I l[k] _ ⟨hn, by omega⟩ (hw.2 _ (List.getElem_mem h))) ?_
    exact aA ⟨⟨_, rfl, by simp only [go_sem, e]⟩, trivial⟩
   ·have q0 := @h; have q1 := bE h2; have q2 := @h2; refine fG (a0I l[k] _ ⟨hn, by omega⟩ (hw.2 _ (List.getElem_mem h))) ?_
    refine aG (k + 1) ?_ ?_ ?_
    ·simp only [go_sem]; simp; omega
    ·omega
    ·omega
  ·simp only [decide_eq_false_iff_not] at h
   have e0 : k = l.length := by omega
   subst e0
   rw [List.take_length] at hn
   have e : bK n (dV l) = n - (l.length : Nat) - (wsum wAttr l : Nat) := by rw [bE (by unfold dV; omega)]; unfold dV; omega
   refine aK ?_
   exact aA ⟨⟨_, rfl, by simp only [go_sem, e, List.take_length]⟩, trivial⟩
end Go.Proofs.YtdjgfffnaakehaaGreatDoor
end
section
set_option linter.all false
set_option maxHeartbeats 1000000
namespace Go.Proofs.YtdjgfffnaakehaaGreatDoor
open Go Go.Sx Go.RowKit Go.Proofs
structure TFile where
 fID : Int
 fOwner : Int
 fShared : Bool
 fLink : Int
 fAttrs : List TAttr
@[go_sem] def cB (x : TFile) : List D := [iv x.fID, iv x.fOwner, bv x.fShared, iv x.fLink, .sl (x.fAttrs.map dC)]
@[go_sem] def qX (x : TFile) : SV := .g [.d (iv x.fID), .d (iv x.fOwner), .d (bv x.fShared), .d (iv x.fLink), .d (.sl (x.fAttrs.map dC))]
@[go_sem] def b0d (x : TFile) : SV := .g [.d (iv x.fID), .d (iv x.fOwner), .d (bv x.fShared), .d (iv x.fLink), .w 90 4 (x.fAttrs.map dC)]
def wFile (x : TFile) : Nat := dV x.fAttrs
def jV (x : TFile) : Prop := inR .i64 x.fID ∧ inR .i64 x.fOwner ∧ True ∧ inR .i64 x.fLink ∧ uE x.fAttrs
def eZ (l : List TFile) : Nat := l.length + wsum wFile l
def xL (l : List TFile) : Prop := l.length ≤ 9223372036854775807 ∧ ∀ x ∈ l, jV x
theorem a8s {n : Nat} {r : List D} (h : ShD tt n 103 r) : ∃ x : TFile, r = cB x ∧ jV x := by
 match n, h with
 | n + 1, ⟨a0, b0, e0, h0, a1, b1, e1, h1, a2, b2, e2, h2, a3, b3, e3, h3, a4, b4, e4, h4, ee⟩ =>
  obtain ⟨x0, rfl, p0⟩ := yU h0
  obtain ⟨x1, rfl, p1⟩ := yU h1
  obtain ⟨x2, rfl⟩ := b0V h2
  obtain ⟨x3, rfl, p3⟩ := yU h3
  obtain ⟨x4, rfl, p4⟩ := a7b h4
  have ee' : b4 = [] := ee
  subst ee' e4 e3 e2 e1 e0
  exact ⟨⟨x0, x1, x2, x3, x4⟩, rfl, p0, p1, trivial, p3, p4⟩
theorem a7c {n : Nat} {r : List D} (h : ShD tt n 23 r) : ∃ l : List TFile, r = [.sl (l.map cB)] ∧ xL l := by
 match n, h with
 | n + 1, ⟨rows, h, hm, hr⟩ =>
  obtain ⟨l, rfl, hl⟩ := mQ cB jV (fun r h => a8s (hr r h))
  exact ⟨l, h, by unfold maxLen at hm; simpa using hm, hl⟩
theorem a0J (x : TFile) (n : Int) (h0 : 0 ≤ n ∧ n ≤ 1048576) (hw : jV x) : FnC Tryz.prog 67 [qX x, oi n] (oi (bK n (wFile x))) := by
 refine ent Tryz.func67 rfl Tryz.call67 rfl (fun C => ?_); simp only [go_sem, st0, Tryz.ntmps67]
 unfold jV at hw
 by_cases hc0 : n - (dV x.fAttrs : Nat) < 0
 ·have e : bK n (wFile x) = -1 := by rw [aQ (by unfold wFile; omega)]
  have q0 := aQ hc0; have q1 := @hc0; refine yR (zA x.fAttrs (n) (by omega) hw.2.2.2.2) ?_
  exact aA ⟨⟨_, rfl, by simp only [go_sem, e]⟩, trivial⟩
 have e : bK n (wFile x) = n - (dV x.fAttrs : Nat) := by rw [bE (by unfold wFile; omega)]; unfold wFile; omega
 have q0 := bE hc0; have q1 := @hc0; refine yR (zA x.fAttrs (n) (by omega) hw.2.2.2.2) ?_
 exact aA ⟨⟨_, rfl, by simp only [go_sem, e]⟩, trivial⟩
theorem a5O (x : TFile) (hx : wFile x ≤ 1048576) : FnC Tryz.prog 73 [qX x] (b0d x) := by
 unfold wFile at hx
 refine ent Tryz.func73 rfl Tryz.call73 rfl (fun C => ?_); simp only [go_sem, st0, Tryz.ntmps73]
 refine jA (a3Z x.fAttrs (by omega)) ?_
 exact aA ⟨⟨_, rfl, by simp only [go_sem]⟩, trivial⟩
theorem a5P (x : TFile) (hx : wFile x ≤ 67108864) : FnC Tryz.prog 80 [qX x, qX x] (ob true) := by
 unfold wFile at hx
 refine ent Tryz.func80 rfl Tryz.call80 rfl (fun C => ?_); simp only [go_sem, st0, Tryz.ntmps80]
 refine jA (a4a x.fAttrs (by omega)) ?_
 exact aA ⟨⟨_, rfl, by simp only [go_sem]⟩, trivial⟩
theorem a4b (l : List TFile) (hl : eZ l ≤ 1048576) : FnC Tryz.prog 46 [.o (.d (.sl (l.map cB)))] (.o (.w 63 5 (l.map cB))) := by
 unfold eZ at hl
 refine ent Tryz.func46 rfl Tryz.call46 rfl (fun C => ?_); simp only [go_sem, st0, Tryz.ntmps46]
 refine aK ?_
 refine bC (α := Nat) (fun k => [(4, oi k)]) (fun k => [(0, .row 63 5 (kC cB [iv 0, iv 0, bv false, iv 0, .sl []] l k) true)]) (fun k => k ≤ l.length) (fun k => l.length - k) 0 (fun _ => ?_) ?_ ?_ (fun k hk => ?_)
 ·simp only [go_sem]
 ·simp only [go_sem]; simp [kS]
 ·simp
 ·simp only [go_sem]
  refine aK ?_
  refine cnd rfl (fun h => ?_) (fun h => ?_)
  ·simp only [decide_eq_true_eq, Int.ofNat_lt] at h
   have hw := bL wFile l h
   have q0 := @h; refine gG (a5O l[k] (by omega)) ?_
   refine aG (k + 1) ?_ ?_ ?_
   ·simp only [go_sem]; simp [← mE, h, cB]
   ·omega
   ·omega
  ·simp only [decide_eq_false_iff_not] at h
   have e : k = l.length := by omega
   subst e
   refine aK ?_
   exact aA ⟨⟨_, rfl, by simp only [go_sem, mF]⟩, trivial⟩
theorem a4c (l : List TFile) (hl : eZ l ≤ 67108864) : FnC Tryz.prog 52 [.o (.d (.sl (l.map cB))), .o (.d (.sl (l.map cB)))] (ob true) := by
 unfold eZ at hl
 refine ent Tryz.func52 rfl Tryz.call52 rfl (fun C => ?_); simp only [go_sem, st0, Tryz.ntmps52]
 refine aK ?_
 refine bC (α := Nat) (fun k => [(5, oi k)]) (fun _ => []) (fun k => k ≤ l.length) (fun k => l.length - k) 0 (fun _ => ?_) ?_ ?_ (fun k hk => ?_)
 ·simp only [go_sem]
 ·simp only [go_sem]; simp
 ·simp
 ·simp only [go_sem]
  refine aK ?_
  refine cnd rfl (fun h => ?_) (fun h => ?_)
  ·simp only [decide_eq_true_eq, Int.ofNat_lt] at h
   have hw := bL wFile l h
   have q0 := @h; refine gG (a5P l[k] (by omega)) ?_
   refine aG (k + 1) ?_ ?_ ?_
   ·simp only [go_sem]; simp
   ·omega
   ·omega
  ·simp only [decide_eq_false_iff_not] at h
   refine aK ?_
   exact aA ⟨⟨_, rfl, by simp only [go_sem]⟩, trivial⟩
theorem zB (l : List TFile) (n : Int) (h0 : 0 ≤ n ∧ n ≤ 1048576) (hw : xL l) : FnC Tryz.prog 40 [.o (.d (.sl (l.map cB))), oi n] (oi (bK n (eZ l))) := by
 unfold xL at hw
 refine ent Tryz.func40 rfl Tryz.call40 rfl (fun C => ?_); simp only [go_sem, st0, Tryz.ntmps40]
 by_cases hc : n - (l.length : Nat) < 0
 ·have e : bK n (eZ l) = -1 := by rw [aQ (by unfold eZ; omega)]
  have q0 := @hc; refine jT ?_
  exact aA ⟨⟨_, rfl, by simp only [go_sem, e]⟩, trivial⟩
 have q0 := @hc; refine jT ?_
 refine bC (α := Nat) (fun k => [(5, oi k), (1, oi (n - (l.length : Nat) - (wsum wFile (l.take k) : Nat)))]) (fun _ => []) (fun k => k ≤ l.length ∧ 0 ≤ n - (l.length : Nat) - (wsum wFile (l.take k) : Nat)) (fun k => l.length - k) 0 (fun _ => ?_) ?_ ?_ (fun k hk => ?_)
 ·simp only [go_sem]
 ·simp only [go_sem]; simp [wsum]
 ·simp [wsum]; omega
 ·obtain ⟨hk, hn⟩ := hk
  simp only [go_sem]
  refine aK ?_
  refine cnd rfl (fun h => ?_) (fun h => ?_)
  ·simp only [decide_eq_true_eq, Int.ofNat_lt] at h
   have hs := jF wFile l h
   have ht := qE wFile l (k + 1)
   by_cases h2 : n - (l.length : Nat) - (wsum wFile (l.take k) : Nat) - (wFile l[k] : Nat) < 0
   ·have e : bK n (eZ l) = -1 := by rw [aQ (by unfold eZ; omega)]
    have q0 := @h; have q1 := aQ h2; refine yR (a0J l[k] _ ⟨hn, by omega⟩ (hw.2 _ (List.getElem_mem h))) ?_
    exact aA ⟨⟨_, rfl, by simp only [go_sem, e]⟩, trivial⟩
   ·have q0 := @h; have q1 := bE h2; have q2 := @h2; refine fG (a0J l[k] _ ⟨hn, by omega⟩ (hw.2 _ (List.getElem_mem h))) ?_
    refine aG (k + 1) ?_ ?_ ?_
    ·simp only [go_sem]; simp; omega
    ·omega
    ·omega
  ·simp only [decide_eq_false_iff_not] at h
   have e0 : k = l.length := by omega
   subst e0
   rw [List.take_length] at hn
   have e : bK n (eZ l) = n - (l.length : Nat) - (wsum wFile l : Nat) := by rw [bE (by unfold eZ; omega)]; unfold eZ; omega
   refine aK ?_
   exact aA ⟨⟨_, rfl, by simp only [go_sem, e, List.take_length]⟩, trivial⟩
end Go.Proofs.YtdjgfffnaakehaaGreatDoor
end
section
set_option linter.all false
set_option maxHeartbeats 1000000
namespace Go.Proofs.YtdjgfffnaakehaaGreatDoor
open Go Go.Sx Go.RowKit Go.Proofs
structure TStore where
 fSchema : List TField
 fFiles : List TFile
 fNextID : Int
@[go_sem] def a7d (x : TStore) : List D := [.sl (x.fSchema.map aZ), .sl (x.fFiles.map cB), iv x.fNextID]
@[go_sem] def vB (x : TStore) : SV := .g [.d (.sl (x.fSchema.map aZ)), .d (.sl (x.fFiles.map cB)), .d (iv x.fNextID)]
@[go_sem] def a9o (x : TStore) : SV := .g [.w 59 2 (x.fSchema.map aZ), .w 63 5 (x.fFiles.map cB), .d (iv x.fNextID)]
def dE (x : TStore) : Nat := aM x.fSchema + eZ x.fFiles
def qF (x : TStore) : Prop := uC x.fSchema ∧ xL x.fFiles ∧ inR .i64 x.fNextID
def b0A (l : List TStore) : Nat := l.length + wsum dE l
def b0e (l : List TStore) : Prop := l.length ≤ 9223372036854775807 ∧ ∀ x ∈ l, qF x
theorem a7e {n : Nat} {r : List D} (h : ShD tt n 25 r) : ∃ x : TStore, r = a7d x ∧ qF x := by
 match n, h with
 | n + 1, ⟨a0, b0, e0, h0, a1, b1, e1, h1, a2, b2, e2, h2, ee⟩ =>
  obtain ⟨x0, rfl, p0⟩ := a5L h0
  obtain ⟨x1, rfl, p1⟩ := a7c h1
  obtain ⟨x2, rfl, p2⟩ := yU h2
  have ee' : b2 = [] := ee
  subst ee' e2 e1 e0
  exact ⟨⟨x0, x1, x2⟩, rfl, p0, p1, p2⟩
theorem rZ (x : TStore) (n : Int) (h0 : 0 ≤ n ∧ n ≤ 1048576) (hw : qF x) : FnC Tryz.prog 16 [vB x, oi n] (oi (bK n (dE x))) := by
 refine ent Tryz.func16 rfl Tryz.call16 rfl (fun C => ?_); simp only [go_sem, st0, Tryz.ntmps16]
 unfold qF at hw
 by_cases hc0 : n - (aM x.fSchema : Nat) < 0
 ·have e : bK n (dE x) = -1 := by rw [aQ (by unfold dE; omega)]
  have q0 := aQ hc0; have q1 := @hc0; refine yR (pK x.fSchema (n) (by omega) hw.1) ?_
  exact aA ⟨⟨_, rfl, by simp only [go_sem, e]⟩, trivial⟩
 by_cases hc1 : n - (aM x.fSchema : Nat) - (eZ x.fFiles : Nat) < 0
 ·have e : bK n (dE x) = -1 := by rw [aQ (by unfold dE; omega)]
  have q0 := bE hc0; have q1 := @hc0; have q2 := aQ hc1; have q3 := @hc1; refine rY (pK x.fSchema (n) (by omega) hw.1) (zB x.fFiles (n - (aM x.fSchema : Nat)) (by omega) hw.2.1) ?_
  exact aA ⟨⟨_, rfl, by simp only [go_sem, e]⟩, trivial⟩
 have e : bK n (dE x) = n - (aM x.fSchema : Nat) - (eZ x.fFiles : Nat) := by rw [bE (by unfold dE; omega)]; unfold dE; omega
 have q0 := bE hc0; have q1 := @hc0; have q2 := bE hc1; have q3 := @hc1; refine rY (pK x.fSchema (n) (by omega) hw.1) (zB x.fFiles (n - (aM x.fSchema : Nat)) (by omega) hw.2.1) ?_
 exact aA ⟨⟨_, rfl, by simp only [go_sem, e]⟩, trivial⟩
theorem a4d (x : TStore) (hx : dE x ≤ 1048576) : FnC Tryz.prog 22 [vB x] (a9o x) := by
 unfold dE at hx
 refine ent Tryz.func22 rfl Tryz.call22 rfl (fun C => ?_); simp only [go_sem, st0, Tryz.ntmps22]
 refine a8k (a2H x.fSchema (by omega)) (a4b x.fFiles (by omega)) ?_
 exact aA ⟨⟨_, rfl, by simp only [go_sem]⟩, trivial⟩
theorem a4e (x : TStore) (hx : dE x ≤ 67108864) : FnC Tryz.prog 28 [vB x, vB x] (ob true) := by
 unfold dE at hx
 refine ent Tryz.func28 rfl Tryz.call28 rfl (fun C => ?_); simp only [go_sem, st0, Tryz.ntmps28]
 refine a8k (a2I x.fSchema (by omega)) (a4c x.fFiles (by omega)) ?_
 exact aA ⟨⟨_, rfl, by simp only [go_sem]⟩, trivial⟩
end Go.Proofs.YtdjgfffnaakehaaGreatDoor
end
section
set_option linter.all false
set_option maxHeartbeats 1000000
namespace Go.Proofs.YtdjgfffnaakehaaGreatDoor
open Go Go.Sx Go.RowKit Go.Proofs
structure TNode where
 fOp : Int
 fLeft : Int
 fRight : Int
 fName : ByteArray
 fValue : TValue
@[go_sem] def aV (x : TNode) : List D := [iv x.fOp, iv x.fLeft, iv x.fRight, sv x.fName, iv x.fValue.fKind, iv x.fValue.fInt, sv x.fValue.fStr]
@[go_sem] def wG (x : TNode) : SV := .g [.d (iv x.fOp), .d (iv x.fLeft), .d (iv x.fRight), .d (sv x.fName), .d (iv x.fValue.fKind), .d (iv x.fValue.fInt), .d (sv x.fValue.fStr)]
def wNode (x : TNode) : Nat := x.fName.size + eB x.fValue
def zC (x : TNode) : Prop := inR .i64 x.fOp ∧ inR .i64 x.fLeft ∧ inR .i64 x.fRight ∧ x.fName.size ≤ 9223372036854775807 ∧ nP x.fValue
def bN (l : List TNode) : Nat := l.length + wsum wNode l
def xM (l : List TNode) : Prop := l.length ≤ 9223372036854775807 ∧ ∀ x ∈ l, zC x
theorem a8t {n : Nat} {r : List D} (h : ShD tt n 135 r) : ∃ x : TNode, r = aV x ∧ zC x := by
 match n, h with
 | n + 1, ⟨a0, b0, e0, h0, a1, b1, e1, h1, a2, b2, e2, h2, a3, b3, e3, h3, a4, b4, e4, h4, ee⟩ =>
  obtain ⟨x0, rfl, p0⟩ := yU h0
  obtain ⟨x1, rfl, p1⟩ := yU h1
  obtain ⟨x2, rfl, p2⟩ := yU h2
  obtain ⟨x3, rfl, p3⟩ := a6Y h3
  obtain ⟨x4, rfl, p4⟩ := a2G h4
  have ee' : b4 = [] := ee
  subst ee' e4 e3 e2 e1 e0
  exact ⟨⟨x0, x1, x2, x3, x4⟩, rfl, p0, p1, p2, p3, p4⟩
theorem a7f {n : Nat} {r : List D} (h : ShD tt n 73 r) : ∃ l : List TNode, r = [.sl (l.map aV)] ∧ xM l := by
 match n, h with
 | n + 1, ⟨rows, h, hm, hr⟩ =>
  obtain ⟨l, rfl, hl⟩ := mQ aV zC (fun r h => a8t (hr r h))
  exact ⟨l, h, by unfold maxLen at hm; simpa using hm, hl⟩
theorem a0K (x : TNode) (n : Int) (h0 : 0 ≤ n ∧ n ≤ 1048576) (hw : zC x) : FnC Tryz.prog 96 [wG x, oi n] (oi (bK n (wNode x))) := by
 refine ent Tryz.func96 rfl Tryz.call96 rfl (fun C => ?_); simp only [go_sem, st0, Tryz.ntmps96]
 unfold zC at hw
 by_cases hc0 : n - (x.fName.size : Nat) < 0
 ·have e : bK n (wNode x) = -1 := by rw [aQ (by unfold wNode; omega)]
  have q0 := @hc0; refine jT ?_
  exact aA ⟨⟨_, rfl, by simp only [go_sem, e]⟩, trivial⟩
 by_cases hc1 : n - (x.fName.size : Nat) - (eB x.fValue : Nat) < 0
 ·have e : bK n (wNode x) = -1 := by rw [aQ (by unfold wNode; omega)]
  have q0 := @hc0; have q1 := aQ hc1; have q2 := @hc1; refine fG (nQ x.fValue (n - (x.fName.size : Nat)) (by omega) hw.2.2.2.2) ?_
  exact aA ⟨⟨_, rfl, by simp only [go_sem, e]⟩, trivial⟩
 have e : bK n (wNode x) = n - (x.fName.size : Nat) - (eB x.fValue : Nat) := by rw [bE (by unfold wNode; omega)]; unfold wNode; omega
 have q0 := @hc0; have q1 := bE hc1; have q2 := @hc1; refine fG (nQ x.fValue (n - (x.fName.size : Nat)) (by omega) hw.2.2.2.2) ?_
 exact aA ⟨⟨_, rfl, by simp only [go_sem, e]⟩, trivial⟩
theorem a5Q (x : TNode) (hx : wNode x ≤ 1048576) : FnC Tryz.prog 102 [wG x] (wG x) := by
 unfold wNode at hx
 refine ent Tryz.func102 rfl Tryz.call102 rfl (fun C => ?_); simp only [go_sem, st0, Tryz.ntmps102]
 refine jA (yV x.fValue (by omega)) ?_
 exact aA ⟨⟨_, rfl, by simp only [go_sem]⟩, trivial⟩
theorem a5R (x : TNode) (hx : wNode x ≤ 67108864) : FnC Tryz.prog 111 [wG x, wG x] (ob true) := by
 unfold wNode at hx
 refine ent Tryz.func111 rfl Tryz.call111 rfl (fun C => ?_); simp only [go_sem, st0, Tryz.ntmps111]
 refine jA (yX x.fValue (by omega)) ?_
 exact aA ⟨⟨_, rfl, by simp only [go_sem]⟩, trivial⟩
theorem a4f (l : List TNode) (hl : bN l ≤ 1048576) : FnC Tryz.prog 74 [.o (.d (.sl (l.map aV)))] (.o (.w 120 7 (l.map aV))) := by
 unfold bN at hl
 refine ent Tryz.func74 rfl Tryz.call74 rfl (fun C => ?_); simp only [go_sem, st0, Tryz.ntmps74]
 refine aK ?_
 refine bC (α := Nat) (fun k => [(4, oi k)]) (fun k => [(0, .row 120 7 (kC aV [iv 0, iv 0, iv 0, sv ⟨#[]⟩, iv 0, iv 0, sv ⟨#[]⟩] l k) true)]) (fun k => k ≤ l.length) (fun k => l.length - k) 0 (fun _ => ?_) ?_ ?_ (fun k hk => ?_)
 ·simp only [go_sem]
 ·simp only [go_sem]; simp [kS]
 ·simp
 ·simp only [go_sem]
  refine aK ?_
  refine cnd rfl (fun h => ?_) (fun h => ?_)
  ·simp only [decide_eq_true_eq, Int.ofNat_lt] at h
   have hw := bL wNode l h
   have q0 := @h; refine gG (a5Q l[k] (by omega)) ?_
   refine aG (k + 1) ?_ ?_ ?_
   ·simp only [go_sem]; simp [← mE, h, aV]
   ·omega
   ·omega
  ·simp only [decide_eq_false_iff_not] at h
   have e : k = l.length := by omega
   subst e
   refine aK ?_
   exact aA ⟨⟨_, rfl, by simp only [go_sem, mF]⟩, trivial⟩
theorem a4g (l : List TNode) (hl : bN l ≤ 67108864) : FnC Tryz.prog 81 [.o (.d (.sl (l.map aV))), .o (.d (.sl (l.map aV)))] (ob true) := by
 unfold bN at hl
 refine ent Tryz.func81 rfl Tryz.call81 rfl (fun C => ?_); simp only [go_sem, st0, Tryz.ntmps81]
 refine aK ?_
 refine bC (α := Nat) (fun k => [(5, oi k)]) (fun _ => []) (fun k => k ≤ l.length) (fun k => l.length - k) 0 (fun _ => ?_) ?_ ?_ (fun k hk => ?_)
 ·simp only [go_sem]
 ·simp only [go_sem]; simp
 ·simp
 ·simp only [go_sem]
  refine aK ?_
  refine cnd rfl (fun h => ?_) (fun h => ?_)
  ·simp only [decide_eq_true_eq, Int.ofNat_lt] at h
   have hw := bL wNode l h
   have q0 := @h; refine gG (a5R l[k] (by omega)) ?_
   refine aG (k + 1) ?_ ?_ ?_
   ·simp only [go_sem]; simp
   ·omega
   ·omega
  ·simp only [decide_eq_false_iff_not] at h
   refine aK ?_
   exact aA ⟨⟨_, rfl, by simp only [go_sem]⟩, trivial⟩
theorem zD (l : List TNode) (n : Int) (h0 : 0 ≤ n ∧ n ≤ 1048576) (hw : xM l) : FnC Tryz.prog 68 [.o (.d (.sl (l.map aV))), oi n] (oi (bK n (bN l))) := by
 unfold xM at hw
 refine ent Tryz.func68 rfl Tryz.call68 rfl (fun C => ?_); simp only [go_sem, st0, Tryz.ntmps68]
 by_cases hc : n - (l.length : Nat) < 0
 ·have e : bK n (bN l) = -1 := by rw [aQ (by unfold bN; omega)]
  have q0 := @hc; refine jT ?_
  exact aA ⟨⟨_, rfl, by simp only [go_sem, e]⟩, trivial⟩
 have q0 := @hc; refine jT ?_
 refine bC (α := Nat) (fun k => [(5, oi k), (1, oi (n - (l.length : Nat) - (wsum wNode (l.take k) : Nat)))]) (fun _ => []) (fun k => k ≤ l.length ∧ 0 ≤ n - (l.length : Nat) - (wsum wNode (l.take k) : Nat)) (fun k => l.length - k) 0 (fun _ => ?_) ?_ ?_ (fun k hk => ?_)
 ·simp only [go_sem]
 ·simp only [go_sem]; simp [wsum]
 ·simp [wsum]; omega
 ·obtain ⟨hk, hn⟩ := hk
  simp only [go_sem]
  refine aK ?_
  refine cnd rfl (fun h => ?_) (fun h => ?_)
  ·simp only [decide_eq_true_eq, Int.ofNat_lt] at h
   have hs := jF wNode l h
   have ht := qE wNode l (k + 1)
   by_cases h2 : n - (l.length : Nat) - (wsum wNode (l.take k) : Nat) - (wNode l[k] : Nat) < 0
   ·have e : bK n (bN l) = -1 := by rw [aQ (by unfold bN; omega)]
    have q0 := @h; have q1 := aQ h2; refine yR (a0K l[k] _ ⟨hn, by omega⟩ (hw.2 _ (List.getElem_mem h))) ?_
    exact aA ⟨⟨_, rfl, by simp only [go_sem, e]⟩, trivial⟩
   ·have q0 := @h; have q1 := bE h2; have q2 := @h2; refine fG (a0K l[k] _ ⟨hn, by omega⟩ (hw.2 _ (List.getElem_mem h))) ?_
    refine aG (k + 1) ?_ ?_ ?_
    ·simp only [go_sem]; simp; omega
    ·omega
    ·omega
  ·simp only [decide_eq_false_iff_not] at h
   have e0 : k = l.length := by omega
   subst e0
   rw [List.take_length] at hn
   have e : bK n (bN l) = n - (l.length : Nat) - (wsum wNode l : Nat) := by rw [bE (by unfold bN; omega)]; unfold bN; omega
   refine aK ?_
   exact aA ⟨⟨_, rfl, by simp only [go_sem, e, List.take_length]⟩, trivial⟩
end Go.Proofs.YtdjgfffnaakehaaGreatDoor
end
section
set_option linter.all false
set_option maxHeartbeats 1000000
namespace Go.Proofs.YtdjgfffnaakehaaGreatDoor
open Go Go.Sx Go.RowKit Go.Proofs
structure TDir where
 fName : ByteArray
 fQuery : List TNode
@[go_sem] def bW (x : TDir) : List D := [sv x.fName, .sl (x.fQuery.map aV)]
@[go_sem] def a5S (x : TDir) : SV := .g [.d (sv x.fName), .d (.sl (x.fQuery.map aV))]
@[go_sem] def b0W (x : TDir) : SV := .g [.d (sv x.fName), .w 120 7 (x.fQuery.map aV)]
def wDir (x : TDir) : Nat := x.fName.size + bN x.fQuery
def a0L (x : TDir) : Prop := x.fName.size ≤ 9223372036854775807 ∧ xM x.fQuery
def eX (l : List TDir) : Nat := l.length + wsum wDir l
def zF (l : List TDir) : Prop := l.length ≤ 9223372036854775807 ∧ ∀ x ∈ l, a0L x
theorem a9p {n : Nat} {r : List D} (h : ShD tt n 75 r) : ∃ x : TDir, r = bW x ∧ a0L x := by
 match n, h with
 | n + 1, ⟨a0, b0, e0, h0, a1, b1, e1, h1, ee⟩ =>
  obtain ⟨x0, rfl, p0⟩ := a6Y h0
  obtain ⟨x1, rfl, p1⟩ := a7f h1
  have ee' : b1 = [] := ee
  subst ee' e1 e0
  exact ⟨⟨x0, x1⟩, rfl, p0, p1⟩
theorem a8u {n : Nat} {r : List D} (h : ShD tt n 26 r) : ∃ l : List TDir, r = [.sl (l.map bW)] ∧ zF l := by
 match n, h with
 | n + 1, ⟨rows, h, hm, hr⟩ =>
  obtain ⟨l, rfl, hl⟩ := mQ bW a0L (fun r h => a9p (hr r h))
  exact ⟨l, h, by unfold maxLen at hm; simpa using hm, hl⟩
theorem a2K (x : TDir) (n : Int) (h0 : 0 ≤ n ∧ n ≤ 1048576) (hw : a0L x) : FnC Tryz.prog 41 [a5S x, oi n] (oi (bK n (wDir x))) := by
 refine ent Tryz.func41 rfl Tryz.call41 rfl (fun C => ?_); simp only [go_sem, st0, Tryz.ntmps41]
 unfold a0L at hw
 by_cases hc0 : n - (x.fName.size : Nat) < 0
 ·have e : bK n (wDir x) = -1 := by rw [aQ (by unfold wDir; omega)]
  have q0 := @hc0; refine jT ?_
  exact aA ⟨⟨_, rfl, by simp only [go_sem, e]⟩, trivial⟩
 by_cases hc1 : n - (x.fName.size : Nat) - (bN x.fQuery : Nat) < 0
 ·have e : bK n (wDir x) = -1 := by rw [aQ (by unfold wDir; omega)]
  have q0 := @hc0; have q1 := aQ hc1; have q2 := @hc1; refine fG (zD x.fQuery (n - (x.fName.size : Nat)) (by omega) hw.2) ?_
  exact aA ⟨⟨_, rfl, by simp only [go_sem, e]⟩, trivial⟩
 have e : bK n (wDir x) = n - (x.fName.size : Nat) - (bN x.fQuery : Nat) := by rw [bE (by unfold wDir; omega)]; unfold wDir; omega
 have q0 := @hc0; have q1 := bE hc1; have q2 := @hc1; refine fG (zD x.fQuery (n - (x.fName.size : Nat)) (by omega) hw.2) ?_
 exact aA ⟨⟨_, rfl, by simp only [go_sem, e]⟩, trivial⟩
theorem a7g (x : TDir) (hx : wDir x ≤ 1048576) : FnC Tryz.prog 47 [a5S x] (b0W x) := by
 unfold wDir at hx
 refine ent Tryz.func47 rfl Tryz.call47 rfl (fun C => ?_); simp only [go_sem, st0, Tryz.ntmps47]
 refine jA (a4f x.fQuery (by omega)) ?_
 exact aA ⟨⟨_, rfl, by simp only [go_sem]⟩, trivial⟩
theorem a7h (x : TDir) (hx : wDir x ≤ 67108864) : FnC Tryz.prog 53 [a5S x, a5S x] (ob true) := by
 unfold wDir at hx
 refine ent Tryz.func53 rfl Tryz.call53 rfl (fun C => ?_); simp only [go_sem, st0, Tryz.ntmps53]
 refine jA (a4g x.fQuery (by omega)) ?_
 exact aA ⟨⟨_, rfl, by simp only [go_sem]⟩, trivial⟩
theorem a5T (l : List TDir) (hl : eX l ≤ 1048576) : FnC Tryz.prog 23 [.o (.d (.sl (l.map bW)))] (.o (.w 66 2 (l.map bW))) := by
 unfold eX at hl
 refine ent Tryz.func23 rfl Tryz.call23 rfl (fun C => ?_); simp only [go_sem, st0, Tryz.ntmps23]
 refine aK ?_
 refine bC (α := Nat) (fun k => [(4, oi k)]) (fun k => [(0, .row 66 2 (kC bW [sv ⟨#[]⟩, .sl []] l k) true)]) (fun k => k ≤ l.length) (fun k => l.length - k) 0 (fun _ => ?_) ?_ ?_ (fun k hk => ?_)
 ·simp only [go_sem]
 ·simp only [go_sem]; simp [kS]
 ·simp
 ·simp only [go_sem]
  refine aK ?_
  refine cnd rfl (fun h => ?_) (fun h => ?_)
  ·simp only [decide_eq_true_eq, Int.ofNat_lt] at h
   have hw := bL wDir l h
   have q0 := @h; refine gG (a7g l[k] (by omega)) ?_
   refine aG (k + 1) ?_ ?_ ?_
   ·simp only [go_sem]; simp [← mE, h, bW]
   ·omega
   ·omega
  ·simp only [decide_eq_false_iff_not] at h
   have e : k = l.length := by omega
   subst e
   refine aK ?_
   exact aA ⟨⟨_, rfl, by simp only [go_sem, mF]⟩, trivial⟩
theorem a5U (l : List TDir) (hl : eX l ≤ 67108864) : FnC Tryz.prog 29 [.o (.d (.sl (l.map bW))), .o (.d (.sl (l.map bW)))] (ob true) := by
 unfold eX at hl
 refine ent Tryz.func29 rfl Tryz.call29 rfl (fun C => ?_); simp only [go_sem, st0, Tryz.ntmps29]
 refine aK ?_
 refine bC (α := Nat) (fun k => [(5, oi k)]) (fun _ => []) (fun k => k ≤ l.length) (fun k => l.length - k) 0 (fun _ => ?_) ?_ ?_ (fun k hk => ?_)
 ·simp only [go_sem]
 ·simp only [go_sem]; simp
 ·simp
 ·simp only [go_sem]
  refine aK ?_
  refine cnd rfl (fun h => ?_) (fun h => ?_)
  ·simp only [decide_eq_true_eq, Int.ofNat_lt] at h
   have hw := bL wDir l h
   have q0 := @h; refine gG (a7h l[k] (by omega)) ?_
   refine aG (k + 1) ?_ ?_ ?_
   ·simp only [go_sem]; simp
   ·omega
   ·omega
  ·simp only [decide_eq_false_iff_not] at h
   refine aK ?_
   exact aA ⟨⟨_, rfl, by simp only [go_sem]⟩, trivial⟩
theorem a0M (l : List TDir) (n : Int) (h0 : 0 ≤ n ∧ n ≤ 1048576) (hw : zF l) : FnC Tryz.prog 17 [.o (.d (.sl (l.map bW))), oi n] (oi (bK n (eX l))) := by
 unfold zF at hw
 refine ent Tryz.func17 rfl Tryz.call17 rfl (fun C => ?_); simp only [go_sem, st0, Tryz.ntmps17]
 by_cases hc : n - (l.length : Nat) < 0
 ·have e : bK n (eX l) = -1 := by rw [aQ (by unfold eX; omega)]
  have q0 := @hc; refine jT ?_
  exact aA ⟨⟨_, rfl, by simp only [go_sem, e]⟩, trivial⟩
 have q0 := @hc; refine jT ?_
 refine bC (α := Nat) (fun k => [(5, oi k), (1, oi (n - (l.length : Nat) - (wsum wDir (l.take k) : Nat)))]) (fun _ => []) (fun k => k ≤ l.length ∧ 0 ≤ n - (l.length : Nat) - (wsum wDir (l.take k) : Nat)) (fun k => l.length - k) 0 (fun _ => ?_) ?_ ?_ (fun k hk => ?_)
 ·simp only [go_sem]
 ·simp only [go_sem]; simp [wsum]
 ·simp [wsum]; omega
 ·obtain ⟨hk, hn⟩ := hk
  simp only [go_sem]
  refine aK ?_
  refine cnd rfl (fun h => ?_) (fun h => ?_)
  ·simp only [decide_eq_true_eq, Int.ofNat_lt] at h
   have hs := jF wDir l h
   have ht := qE wDir l (k + 1)
   by_cases h2 : n - (l.length : Nat) - (wsum wDir (l.take k) : Nat) - (wDir l[k] : Nat) < 0
   ·have e : bK n (eX l) = -1 := by rw [aQ (by unfold eX; omega)]
    have q0 := @h; have q1 := aQ h2; refine yR (a2K l[k] _ ⟨hn, by omega⟩ (hw.2 _ (List.getElem_mem h))) ?_
    exact aA ⟨⟨_, rfl, by simp only [go_sem, e]⟩, trivial⟩
   ·have q0 := @h; have q1 := bE h2; have q2 := @h2; refine fG (a2K l[k] _ ⟨hn, by omega⟩ (hw.2 _ (List.getElem_mem h))) ?_
    refine aG (k + 1) ?_ ?_ ?_
    ·simp only [go_sem]; simp; omega
    ·omega
    ·omega
  ·simp only [decide_eq_false_iff_not] at h
   have e0 : k = l.length := by omega
   subst e0
   rw [List.take_length] at hn
   have e : bK n (eX l) = n - (l.length : Nat) - (wsum wDir l : Nat) := by rw [bE (by unfold eX; omega)]; unfold eX; omega
   refine aK ?_
   exact aA ⟨⟨_, rfl, by simp only [go_sem, e, List.take_length]⟩, trivial⟩
end Go.Proofs.YtdjgfffnaakehaaGreatDoor
end
end
section
section
set_option linter.all false
set_option maxHeartbeats 1000000
namespace Go.Proofs.YtdjgfffnaakehaaGreatDoor
open Go Go.Sx Go.RowKit Go.Proofs
structure TResult where
 fName : ByteArray
 fIDs : List Int
@[go_sem] def a0G (x : TResult) : List D := [sv x.fName, .sl (x.fIDs.map tY)]
@[go_sem] def b0o (x : TResult) : SV := .g [.d (sv x.fName), .d (.sl (x.fIDs.map tY))]
@[go_sem] def b0p (x : TResult) : SV := .g [.d (sv x.fName), .w 3 1 (x.fIDs.map tY)]
def a8o (x : TResult) : Nat := x.fName.size + x.fIDs.length
def a6U (x : TResult) : Prop := x.fName.size ≤ 9223372036854775807 ∧ a1F x.fIDs
def a6V (l : List TResult) : Nat := l.length + wsum a8o l
def a5I (l : List TResult) : Prop := l.length ≤ 9223372036854775807 ∧ ∀ x ∈ l, a6U x
end Go.Proofs.YtdjgfffnaakehaaGreatDoor
end
section
set_option linter.all false
set_option maxHeartbeats 1000000
namespace Go.Proofs.YtdjgfffnaakehaaGreatDoor
open Go Go.Sx Go.RowKit Go.Proofs
structure TDiff where
 fName : ByteArray
 fAdded : List Int
 fRemoved : List Int
@[go_sem] def b0q (x : TDiff) : List D := [sv x.fName, .sl (x.fAdded.map tY), .sl (x.fRemoved.map tY)]
@[go_sem] def b1e (x : TDiff) : SV := .g [.d (sv x.fName), .d (.sl (x.fAdded.map tY)), .d (.sl (x.fRemoved.map tY))]
@[go_sem] def b1f (x : TDiff) : SV := .g [.d (sv x.fName), .w 3 1 (x.fAdded.map tY), .w 3 1 (x.fRemoved.map tY)]
def a9U (x : TDiff) : Nat := x.fName.size + x.fAdded.length + x.fRemoved.length
def a9h (x : TDiff) : Prop := x.fName.size ≤ 9223372036854775807 ∧ a1F x.fAdded ∧ a1F x.fRemoved
def b0Q (l : List TDiff) : Nat := l.length + wsum a9U l
def b0r (l : List TDiff) : Prop := l.length ≤ 9223372036854775807 ∧ ∀ x ∈ l, a9h x
end Go.Proofs.YtdjgfffnaakehaaGreatDoor
end
section
set_option linter.all false
set_option maxHeartbeats 1000000
namespace Go.Proofs.YtdjgfffnaakehaaGreatDoor
open Go Go.Sx Go.RowKit Go.Proofs
structure TCatalog where
 fStore : TStore
 fDirs : List TDir
 fResults : List TResult
@[go_sem] def a9i (x : TCatalog) : List D := [.sl (x.fStore.fSchema.map aZ), .sl (x.fStore.fFiles.map cB), iv x.fStore.fNextID, .sl (x.fDirs.map bW), .sl (x.fResults.map a0G)]
@[go_sem] def a9V (x : TCatalog) : SV := .g [.d (.sl (x.fStore.fSchema.map aZ)), .d (.sl (x.fStore.fFiles.map cB)), .d (iv x.fStore.fNextID), .d (.sl (x.fDirs.map bW)), .d (.sl (x.fResults.map a0G))]
def a6W (x : TCatalog) : Nat := dE x.fStore + eX x.fDirs + a6V x.fResults
def a5J (x : TCatalog) : Prop := qF x.fStore ∧ zF x.fDirs ∧ a5I x.fResults
def a9w (l : List TCatalog) : Nat := l.length + wsum a6W l
def a9j (l : List TCatalog) : Prop := l.length ≤ 9223372036854775807 ∧ ∀ x ∈ l, a5J x
end Go.Proofs.YtdjgfffnaakehaaGreatDoor
end
section
set_option linter.all false
set_option maxHeartbeats 1000000
namespace Go.Proofs.YtdjgfffnaakehaaGreatDoor
open Go Go.Sx Go.RowKit Go.Proofs
structure TGroup where
 fValue : TValue
 fIDs : List Int
@[go_sem] def a9W (x : TGroup) : List D := [iv x.fValue.fKind, iv x.fValue.fInt, sv x.fValue.fStr, .sl (x.fIDs.map tY)]
@[go_sem] def b0R (x : TGroup) : SV := .g [.d (iv x.fValue.fKind), .d (iv x.fValue.fInt), .d (sv x.fValue.fStr), .d (.sl (x.fIDs.map tY))]
@[go_sem] def b0S (x : TGroup) : SV := .g [.d (iv x.fValue.fKind), .d (iv x.fValue.fInt), .d (sv x.fValue.fStr), .w 3 1 (x.fIDs.map tY)]
def a9k (x : TGroup) : Nat := eB x.fValue + x.fIDs.length
def a8p (x : TGroup) : Prop := nP x.fValue ∧ a1F x.fIDs
def b0s (l : List TGroup) : Nat := l.length + wsum a9k l
def a9X (l : List TGroup) : Prop := l.length ≤ 9223372036854775807 ∧ ∀ x ∈ l, a8p x
end Go.Proofs.YtdjgfffnaakehaaGreatDoor
end
section
set_option linter.all false
set_option maxHeartbeats 1000000
namespace Go.Proofs.YtdjgfffnaakehaaGreatDoor
open Go Go.Sx Go.RowKit Go.Proofs
structure TEdit where
 fOK : Bool
 fSet : List TAttr
@[go_sem] def b0t (x : TEdit) : List D := [bv x.fOK, .sl (x.fSet.map dC)]
@[go_sem] def b1g (x : TEdit) : SV := .g [.d (bv x.fOK), .d (.sl (x.fSet.map dC))]
@[go_sem] def b1h (x : TEdit) : SV := .g [.d (bv x.fOK), .w 90 4 (x.fSet.map dC)]
def a9Y (x : TEdit) : Nat := dV x.fSet
def a9l (x : TEdit) : Prop := True ∧ uE x.fSet
def b0T (l : List TEdit) : Nat := l.length + wsum a9Y l
def b0u (l : List TEdit) : Prop := l.length ≤ 9223372036854775807 ∧ ∀ x ∈ l, a9l x
end Go.Proofs.YtdjgfffnaakehaaGreatDoor
end
section
set_option linter.all false
set_option maxHeartbeats 1000000
namespace Go.Proofs.YtdjgfffnaakehaaGreatDoor
open Go Go.Sx Go.RowKit Go.Proofs
structure TChange where
 fKind : Int
 fFile : TFile
 fID : Int
 fDir : TDir
@[go_sem] def a9x (x : TChange) : List D := [iv x.fKind, iv x.fFile.fID, iv x.fFile.fOwner, bv x.fFile.fShared, iv x.fFile.fLink, .sl (x.fFile.fAttrs.map dC), iv x.fID, sv x.fDir.fName, .sl (x.fDir.fQuery.map aV)]
@[go_sem] def b0v (x : TChange) : SV := .g [.d (iv x.fKind), .d (iv x.fFile.fID), .d (iv x.fFile.fOwner), .d (bv x.fFile.fShared), .d (iv x.fFile.fLink), .d (.sl (x.fFile.fAttrs.map dC)), .d (iv x.fID), .d (sv x.fDir.fName), .d (.sl (x.fDir.fQuery.map aV))]
@[go_sem] def b0w (x : TChange) : SV := .g [.d (iv x.fKind), .d (iv x.fFile.fID), .d (iv x.fFile.fOwner), .d (bv x.fFile.fShared), .d (iv x.fFile.fLink), .w 90 4 (x.fFile.fAttrs.map dC), .d (iv x.fID), .d (sv x.fDir.fName), .w 120 7 (x.fDir.fQuery.map aV)]
def a8q (x : TChange) : Nat := wFile x.fFile + wDir x.fDir
def a6X (x : TChange) : Prop := inR .i64 x.fKind ∧ jV x.fFile ∧ inR .i64 x.fID ∧ a0L x.fDir
def a9Z (l : List TChange) : Nat := l.length + wsum a8q l
def a9y (l : List TChange) : Prop := l.length ≤ 9223372036854775807 ∧ ∀ x ∈ l, a6X x
end Go.Proofs.YtdjgfffnaakehaaGreatDoor
end
section
set_option linter.all false
set_option maxHeartbeats 1000000
namespace Go.Proofs.YtdjgfffnaakehaaGreatDoor
open Go Go.Sx Go.RowKit Go.Proofs
structure TSnapshot where
 fStore : TStore
 fDirs : List TDir
@[go_sem] def a2E (x : TSnapshot) : List D := [.sl (x.fStore.fSchema.map aZ), .sl (x.fStore.fFiles.map cB), iv x.fStore.fNextID, .sl (x.fDirs.map bW)]
@[go_sem] def dD (x : TSnapshot) : SV := .g [.d (.sl (x.fStore.fSchema.map aZ)), .d (.sl (x.fStore.fFiles.map cB)), .d (iv x.fStore.fNextID), .d (.sl (x.fDirs.map bW))]
@[go_sem] def a5K (x : TSnapshot) : SV := .g [.w 59 2 (x.fStore.fSchema.map aZ), .w 63 5 (x.fStore.fFiles.map cB), .d (iv x.fStore.fNextID), .w 66 2 (x.fDirs.map bW)]
def bD (x : TSnapshot) : Nat := dE x.fStore + eX x.fDirs
def iK (x : TSnapshot) : Prop := qF x.fStore ∧ zF x.fDirs
def a9m (l : List TSnapshot) : Nat := l.length + wsum bD l
def a8G (l : List TSnapshot) : Prop := l.length ≤ 9223372036854775807 ∧ ∀ x ∈ l, iK x
theorem wF {n : Nat} {r : List D} (h : ShD tt n 28 r) : ∃ x : TSnapshot, r = a2E x ∧ iK x := by
 match n, h with
 | n + 1, ⟨a0, b0, e0, h0, a1, b1, e1, h1, ee⟩ =>
  obtain ⟨x0, rfl, p0⟩ := a7e h0
  obtain ⟨x1, rfl, p1⟩ := a8u h1
  have ee' : b1 = [] := ee
  subst ee' e1 e0
  exact ⟨⟨x0, x1⟩, rfl, p0, p1⟩
theorem qW (x : TSnapshot) (n : Int) (h0 : 0 ≤ n ∧ n ≤ 1048576) (hw : iK x) : FnC Tryz.prog 5 [dD x, oi n] (oi (bK n (bD x))) := by
 refine ent Tryz.func5 rfl Tryz.call5 rfl (fun C => ?_); simp only [go_sem, st0, Tryz.ntmps5]
 unfold iK at hw
 by_cases hc0 : n - (dE x.fStore : Nat) < 0
 ·have e : bK n (bD x) = -1 := by rw [aQ (by unfold bD; omega)]
  have q0 := aQ hc0; have q1 := @hc0; refine yR (rZ x.fStore (n) (by omega) hw.1) ?_
  exact aA ⟨⟨_, rfl, by simp only [go_sem, e]⟩, trivial⟩
 by_cases hc1 : n - (dE x.fStore : Nat) - (eX x.fDirs : Nat) < 0
 ·have e : bK n (bD x) = -1 := by rw [aQ (by unfold bD; omega)]
  have q0 := bE hc0; have q1 := @hc0; have q2 := aQ hc1; have q3 := @hc1; refine rY (rZ x.fStore (n) (by omega) hw.1) (a0M x.fDirs (n - (dE x.fStore : Nat)) (by omega) hw.2) ?_
  exact aA ⟨⟨_, rfl, by simp only [go_sem, e]⟩, trivial⟩
 have e : bK n (bD x) = n - (dE x.fStore : Nat) - (eX x.fDirs : Nat) := by rw [bE (by unfold bD; omega)]; unfold bD; omega
 have q0 := bE hc0; have q1 := @hc0; have q2 := bE hc1; have q3 := @hc1; refine rY (rZ x.fStore (n) (by omega) hw.1) (a0M x.fDirs (n - (dE x.fStore : Nat)) (by omega) hw.2) ?_
 exact aA ⟨⟨_, rfl, by simp only [go_sem, e]⟩, trivial⟩
theorem jM (x : TSnapshot) (hx : bD x ≤ 1048576) : FnC Tryz.prog 7 [dD x] (a5K x) := by
 unfold bD at hx
 refine ent Tryz.func7 rfl Tryz.call7 rfl (fun C => ?_); simp only [go_sem, st0, Tryz.ntmps7]
 refine a8k (a4d x.fStore (by omega)) (a5T x.fDirs (by omega)) ?_
 exact aA ⟨⟨_, rfl, by simp only [go_sem]⟩, trivial⟩
theorem pJ (x : TSnapshot) (hx : bD x ≤ 1048576) : FnC Tryz.prog 7 [dD x] (dD x) := (jM x hx).pu (by simp only [go_sem, and_self])
theorem lU (x : TSnapshot) (hx : bD x ≤ 67108864) : FnC Tryz.prog 9 [dD x, dD x] (ob true) := by
 unfold bD at hx
 refine ent Tryz.func9 rfl Tryz.call9 rfl (fun C => ?_); simp only [go_sem, st0, Tryz.ntmps9]
 refine a8k (a4e x.fStore (by omega)) (a5U x.fDirs (by omega)) ?_
 exact aA ⟨⟨_, rfl, by simp only [go_sem]⟩, trivial⟩
end Go.Proofs.YtdjgfffnaakehaaGreatDoor
end
section
set_option linter.all false
set_option maxHeartbeats 1000000
namespace Go.Proofs.YtdjgfffnaakehaaGreatDoor
open Go Go.Sx Go.RowKit Go.Proofs
structure TDisk where
 fSlotA : ByteArray
 fSlotB : ByteArray
@[go_sem] def b0x (x : TDisk) : List D := [sv x.fSlotA, sv x.fSlotB]
@[go_sem] def b1i (x : TDisk) : SV := .g [.d (sv x.fSlotA), .d (sv x.fSlotB)]
def b0a (x : TDisk) : Nat := x.fSlotA.size + x.fSlotB.size
def a9n (x : TDisk) : Prop := x.fSlotA.size ≤ 9223372036854775807 ∧ x.fSlotB.size ≤ 9223372036854775807
def b0U (l : List TDisk) : Nat := l.length + wsum b0a l
def b0y (l : List TDisk) : Prop := l.length ≤ 9223372036854775807 ∧ ∀ x ∈ l, a9n x
end Go.Proofs.YtdjgfffnaakehaaGreatDoor
end
section
set_option linter.all false
namespace Go.Proofs.YtdjgfffnaakehaaGreatDoor
open Go Go.Sx Go.RowKit Go.Proofs
def inB (n a b : Int) : Bool := decide (a ≤ n) && decide (n ≤ b)
theorem aF (n a b : Int) : FnC Tryz.prog 25 [oi n, oi a, oi b] (ob (inB n a b)) := by
 refine ent Tryz.func25 rfl Tryz.call25 rfl (fun C => ?_); simp only [go_sem, st0, Tryz.ntmps25]
 by_cases h0 : a ≤ n <;> by_cases h1 : n ≤ b
 all_goals
  have q0 := @h0; have q1 := @h1; have q2 := @decide_false; refine kZ ?_
  refine aA ⟨⟨_, rfl, ?_⟩, ?_⟩
  ·simp only [go_sem]; simp [inB, h0, h1]
  ·trivial
theorem aR (n a b : Int) : FnC Tryz.prog 19 [oi n, oi a, oi b] (ob (inB n a b)) := by
 refine ent Tryz.func19 rfl Tryz.call19 rfl (fun C => ?_); simp only [go_sem, st0, Tryz.ntmps19]
 by_cases h0 : a ≤ n <;> by_cases h1 : n ≤ b
 all_goals
  have q0 := @h0; have q1 := @h1; have q2 := @decide_false; refine kZ ?_
  refine aA ⟨⟨_, rfl, ?_⟩, ?_⟩
  ·simp only [go_sem]; simp [inB, h0, h1]
  ·trivial
end Go.Proofs.YtdjgfffnaakehaaGreatDoor
end
section
set_option linter.all false
set_option maxHeartbeats 1000000
namespace Go.Proofs.YtdjgfffnaakehaaGreatDoor
open Go Go.Sx Go.RowKit Go.Proofs
theorem a0H (l : List ByteArray) (hl : l.length ≤ 67108864) : FnC Tryz.prog 12 [.o (.d (.sl (l.map dA))), .o (.d (.sl (l.map dA)))] (ob true) := by
 refine ent Tryz.func12 rfl Tryz.call12 rfl (fun C => ?_); simp only [go_sem, st0, Tryz.ntmps12]
 refine aK ?_
 refine bC (α := Nat) (fun k => [(5, oi k)]) (fun _ => []) (fun k => k ≤ l.length) (fun k => l.length - k) 0 (fun _ => ?_) ?_ ?_ (fun k hk => ?_)
 ·simp only [go_sem]
 ·simp only [go_sem]; simp
 ·simp
 ·simp only [go_sem]
  refine aK ?_
  refine cnd rfl (fun h => ?_) (fun h => ?_)
  ·simp only [decide_eq_true_eq, Int.ofNat_lt] at h
   have q0 := @h; refine jT ?_
   refine aG (k + 1) ?_ ?_ ?_
   ·simp only [go_sem]; simp
   ·omega
   ·omega
  ·simp only [decide_eq_false_iff_not] at h
   refine aK ?_
   exact aA ⟨⟨_, rfl, by simp only [go_sem]⟩, trivial⟩
end Go.Proofs.YtdjgfffnaakehaaGreatDoor
end
end
section
set_option maxRecDepth 100000
set_option maxHeartbeats 4000000
namespace Go.Proofs.YtdjgfffnaakehaaGreatDoor
open Go Go.Sx Go.RowKit Go.Proofs
def low (s : ByteArray) (k : Nat) : Bool := inB (iG s k) 97 122
def jU (s : ByteArray) : Bool := (List.range s.size).all (low s)
def aY (s : ByteArray) (n : Int) : Bool := jU s && inB s.size 1 n
theorem yT (s : ByteArray) (n : Int) (hs : s.size ≤ 4300000) : FnC Tryz.prog 82 [os s, oi n] (ob (aY s n)) := by
 refine ent Tryz.func82 rfl Tryz.call82 rfl (fun C => ?_); simp only [go_sem, st0, Tryz.ntmps82]
 refine aK ?_
 refine bC (α := Nat) (fun k => [(5, oi k)]) (fun _ => []) (fun k => k ≤ s.size ∧ jU s = ((List.range s.size).drop k).all (low s)) (fun k => s.size - k) 0 (fun _ => ?_) ?_ ?_ (fun k hk => ?_)
 ·simp only [go_sem]
 ·simp only [go_sem]; simp
 ·simp [jU]
 ·obtain ⟨hk, hq⟩ := hk
  simp only [go_sem]
  refine aK ?_
  refine cnd rfl (fun h => ?_) (fun h => ?_)
  ·simp only [decide_eq_true_eq, Int.ofNat_lt] at h
   have h' : k < (List.range s.size).length := by simpa using h
   have hd := List.drop_eq_getElem_cons h'
   rw [hd, List.all_cons, List.getElem_range] at hq
   have hb := mG s k
   by_cases h1 : iG s k < 97
   ·have hf : jU s = false := by rw [hq]; simp [low, inB]; omega
    have q0 := @h; have q1 := @h1; refine tV ?_
    exact aA ⟨⟨_, rfl, by simp only [go_sem, aY, hf, Bool.false_and]⟩, trivial⟩
   by_cases h2 : 122 < iG s k
   ·have hf : jU s = false := by rw [hq]; simp [low, inB]; omega
    have q0 := @h; have q1 := @h1; have q2 := @h2; have q3 := @decide_false; refine jE ?_
    exact aA ⟨⟨_, rfl, by simp only [go_sem, aY, hf, Bool.false_and]⟩, trivial⟩
   ·have q0 := @h; have q1 := @h1; have q2 := @h2; have q3 := @decide_false; refine jE ?_
    refine aG (k + 1) ?_ ?_ ?_
    ·simp only [go_sem]; simp
    ·refine ⟨h, ?_⟩
     have hl : low s k = true := by simp [low, inB]; omega
     rw [hq, hl]; simp
    ·omega
  ·simp only [decide_eq_false_iff_not] at h
   have e : k = s.size := by omega
   have hq' : jU s = true := by
    rw [hq, List.drop_of_length_le (by simp [e])]; rfl
   refine jA (aR s.size 1 n) ?_
   refine aA ⟨⟨_, rfl, ?_⟩, ?_⟩
   ·simp only [go_sem, aY, hq']
   ·trivial
theorem aD (s : ByteArray) (hs : s.size ≤ 4300000) : FnC Tryz.prog 54 [os s] (ob (aY s 1)) := by
 refine ent Tryz.func54 rfl Tryz.call54 rfl (fun C => ?_); simp only [go_sem, st0, Tryz.ntmps54]
 refine jA (yT s 1 hs) ?_
 refine aA ⟨⟨_, rfl, ?_⟩, ?_⟩
 ·simp only [go_sem]
 ·trivial
theorem a8n (s : ByteArray) : aY s 1 = (decide ((s.size : Int) = 1) && low s 0) := by
 unfold aY jU inB
 rcases Nat.lt_trichotomy s.size 1 with h | h | h
 ·have : s.size = 0 := by omega
  simp [this]
 ·simp [h, List.range_succ]
 ·have h1 : ¬ ((s.size : Int) ≤ 1) := by omega
  have h2 : ¬ ((s.size : Int) = 1) := by omega
  simp [h1, h2]
theorem aB (s : ByteArray) : FnC Tryz.prog 58 [os s] (ob (aY s 1)) := by
 rw [a8n]
 refine ent Tryz.func58 rfl Tryz.call58 rfl (fun C => ?_); simp only [go_sem, st0, Tryz.ntmps58]
 by_cases h0 : (s.size : Int) = 1
 ·have h0' : 0 < s.size := by omega
  by_cases h1 : 97 ≤ iG s 0 <;> by_cases h2 : iG s 0 ≤ 122
  all_goals
   have q0 := @h0; have q1 := @h0'; have q2 := @h1; have q3 := @h2; have q4 := @decide_false; have q5 := @Int.toNat_zero; have q6 := @Int.le_refl; refine a6S ?_
   refine aA ⟨⟨_, rfl, ?_⟩, ?_⟩
   ·simp only [go_sem]; simp [h0, h1, h2, low, inB]
   ·trivial
 ·have q0 := @h0; have q1 := @decide_false; refine tV ?_
  refine aA ⟨⟨_, rfl, ?_⟩, ?_⟩
  ·simp only [go_sem]; simp [h0]
  ·trivial
theorem aT (s : ByteArray) (hs : s.size ≤ 4300000) : FnC Tryz.prog 112 [os s] (ob (aY s 6)) := by
 refine ent Tryz.func112 rfl Tryz.call112 rfl (fun C => ?_); simp only [go_sem, st0, Tryz.ntmps112]
 refine jA (yT s 6 hs) ?_
 exact aA ⟨⟨_, rfl, by simp only [go_sem]⟩, trivial⟩
theorem aN (s : ByteArray) (hs : s.size ≤ 4300000) : FnC Tryz.prog 113 [os s] (ob (aY s 6)) := by
 refine ent Tryz.func113 rfl Tryz.call113 rfl (fun C => ?_); simp only [go_sem, st0, Tryz.ntmps113]
 refine aK ?_
 refine bC (α := Nat) (fun k => [(6, oi k)]) (fun _ => []) (fun k => k ≤ s.size ∧ jU s = ((List.range s.size).drop k).all (low s)) (fun k => s.size - k) 0 (fun _ => ?_) ?_ ?_ (fun k hk => ?_)
 ·simp only [go_sem]
 ·simp only [go_sem]; simp
 ·simp [jU]
 ·obtain ⟨hk, hq⟩ := hk
  simp only [go_sem]
  refine aK ?_
  refine cnd rfl (fun h => ?_) (fun h => ?_)
  ·simp only [decide_eq_true_eq, Int.ofNat_lt] at h
   have h' : k < (List.range s.size).length := by simpa using h
   have hd := List.drop_eq_getElem_cons h'
   rw [hd, List.all_cons, List.getElem_range] at hq
   have hb := mG s k
   by_cases h1 : iG s k < 97
   ·have hf : jU s = false := by rw [hq]; simp [low, inB]; omega
    have q0 := @h; have q1 := @h1; refine tV ?_
    exact aA ⟨⟨_, rfl, by simp only [go_sem, aY, hf, Bool.false_and]⟩, trivial⟩
   by_cases h2 : 122 < iG s k
   ·have hf : jU s = false := by rw [hq]; simp [low, inB]; omega
    have q0 := @h; have q1 := @h1; have q2 := @h2; have q3 := @decide_false; refine jE ?_
    exact aA ⟨⟨_, rfl, by simp only [go_sem, aY, hf, Bool.false_and]⟩, trivial⟩
   ·have q0 := @h; have q1 := @h1; have q2 := @h2; have q3 := @decide_false; refine jE ?_
    refine aG (k + 1) ?_ ?_ ?_
    ·simp only [go_sem]; simp
    ·refine ⟨h, ?_⟩
     have hl : low s k = true := by simp [low, inB]; omega
     rw [hq, hl]; simp
    ·omega
  ·simp only [decide_eq_false_iff_not] at h
   have e : k = s.size := by omega
   have hq' : jU s = true := by
    rw [hq, List.drop_of_length_le (by simp [e])]; rfl
   refine jA (aF s.size 1 6) ?_
   refine aA ⟨⟨_, rfl, ?_⟩, ?_⟩
   ·simp only [go_sem, aY, hq']
   ·trivial
def dN (v : TValue) : Bool :=
 if v.fKind = 0 then decide (v.fInt = 0) && decide (v.fStr = ⟨#[]⟩)
 else if v.fKind = 1 then inB v.fInt 0 999 && decide (v.fStr = ⟨#[]⟩)
 else if v.fKind = 2 then aY v.fStr 6 && decide (v.fInt = 0) else false
theorem aC (v : TValue) (hs : v.fStr.size ≤ 4300000) : FnC Tryz.prog 87 [jG v] (ob (dN v)) := by
 refine ent Tryz.func87 rfl Tryz.call87 rfl (fun C => ?_); simp only [go_sem, st0, Tryz.ntmps87]
 by_cases h0 : v.fKind = 0
 ·have q0 := @h0; have q1 := @decide_true; refine tV ?_
  exact aA ⟨⟨_, rfl, by simp only [go_sem, dN, h0, if_true, decide_true, Bool.true_and]⟩, trivial⟩
 by_cases h1 : v.fKind = 1
 ·cases hb : inB v.fInt 0 999
  ·have q0 := @h0; have q1 := @h1; have q2 := @decide_true; have q3 := @decide_false; have q4 := @hb; refine qP (aF v.fInt 0 999) ?_
   exact aA ⟨⟨_, rfl, by simp only [go_sem, dN, h0, h1, hb, if_true, if_false, Bool.false_and]⟩, trivial⟩
  ·have q0 := @h0; have q1 := @h1; have q2 := @decide_true; have q3 := @decide_false; have q4 := @hb; refine qP (aF v.fInt 0 999) ?_
   exact aA ⟨⟨_, rfl, by simp only [go_sem, dN, h0, h1, hb, if_true, if_false, Bool.true_and]⟩, trivial⟩
 by_cases h2 : v.fKind = 2
 ·cases hb : aY v.fStr 6
  ·have q0 := @h0; have q1 := @h1; have q2 := @h2; have q3 := @decide_true; have q4 := @decide_false; have q5 := @hb; refine qQ (aN v.fStr hs) ?_
   exact aA ⟨⟨_, rfl, by simp only [go_sem, dN, h0, h1, h2, hb, if_true, if_false, Bool.false_and]⟩, trivial⟩
  ·have q0 := @h0; have q1 := @h1; have q2 := @h2; have q3 := @decide_true; have q4 := @decide_false; have q5 := @hb; refine qQ (aN v.fStr hs) ?_
   exact aA ⟨⟨_, rfl, by simp only [go_sem, dN, h0, h1, h2, hb, if_true, if_false, Bool.true_and]⟩, trivial⟩
 ·have q0 := @h0; have q1 := @h1; have q2 := @h2; have q3 := @decide_false; refine jE ?_
  exact aA ⟨⟨_, rfl, by simp only [go_sem, dN, h0, h1, h2, if_false]⟩, trivial⟩
theorem aL (v : TValue) (hs : v.fStr.size ≤ 4300000) : FnC Tryz.prog 83 [jG v] (ob (dN v)) := by
 refine ent Tryz.func83 rfl Tryz.call83 rfl (fun C => ?_); simp only [go_sem, st0, Tryz.ntmps83]
 by_cases h0 : v.fKind = 0
 ·have q0 := @h0; have q1 := @decide_true; refine tV ?_
  exact aA ⟨⟨_, rfl, by simp only [go_sem, dN, h0, if_true, decide_true, Bool.true_and]⟩, trivial⟩
 by_cases h1 : v.fKind = 1
 ·cases hb : inB v.fInt 0 999
  ·have q0 := @h0; have q1 := @h1; have q2 := @decide_true; have q3 := @decide_false; have q4 := @hb; refine qP (aR v.fInt 0 999) ?_
   exact aA ⟨⟨_, rfl, by simp only [go_sem, dN, h0, h1, hb, if_true, if_false, Bool.false_and]⟩, trivial⟩
  ·have q0 := @h0; have q1 := @h1; have q2 := @decide_true; have q3 := @decide_false; have q4 := @hb; refine qP (aR v.fInt 0 999) ?_
   exact aA ⟨⟨_, rfl, by simp only [go_sem, dN, h0, h1, hb, if_true, if_false, Bool.true_and]⟩, trivial⟩
 by_cases h2 : v.fKind = 2
 ·cases hb : aY v.fStr 6
  ·have q0 := @h0; have q1 := @h1; have q2 := @h2; have q3 := @decide_true; have q4 := @decide_false; have q5 := @hb; refine qQ (aT v.fStr hs) ?_
   exact aA ⟨⟨_, rfl, by simp only [go_sem, dN, h0, h1, h2, hb, if_true, if_false, Bool.false_and]⟩, trivial⟩
  ·have q0 := @h0; have q1 := @h1; have q2 := @h2; have q3 := @decide_true; have q4 := @decide_false; have q5 := @hb; refine qQ (aT v.fStr hs) ?_
   exact aA ⟨⟨_, rfl, by simp only [go_sem, dN, h0, h1, h2, hb, if_true, if_false, Bool.true_and]⟩, trivial⟩
 ·have q0 := @h0; have q1 := @h1; have q2 := @h2; have q3 := @decide_false; refine jE ?_
  exact aA ⟨⟨_, rfl, by simp only [go_sem, dN, h0, h1, h2, if_false]⟩, trivial⟩
end Go.Proofs.YtdjgfffnaakehaaGreatDoor
end
