/- Joined texts. -/
import Derived.Test.YtddimbdeggomaaaGreatZ05
set_option linter.all false
section
section
set_option linter.all false
namespace Go.Proofs.YtddimbdeggomaaaGreat
open Go Go.Sx Go.RowKit Go.Proofs
def szOut (n : Int) (w : Nat) : Int := if n - w < 0 then -1 else n - w
theorem szOut_neg {n : Int} {w : Nat} (h : n - w < 0) : szOut n w = -1 := if_pos h
theorem szOut_pos {n : Int} {w : Nat} (h : ¬ n - w < 0) : szOut n w = n - w := if_neg h
theorem szOut_le {n : Int} {w : Nat} (h : ¬ szOut n w < 0) : w ≤ n := by
 unfold szOut at h
 split at h <;> omega
def wsum {α : Type} (w : α → Nat) : List α → Nat
 | [] => 0
 | x :: l => w x + wsum w l
theorem wsum_get {α : Type} (w : α → Nat) : ∀ (l : List α) {k : Nat} (h : k < l.length), w l[k] ≤ wsum w l
 | [], _, h => by simp at h
 | x :: l, 0, _ => by simp [wsum]
 | x :: l, k + 1, h => by
  have := wsum_get w l (k := k) (by simpa using h)
  simp only [List.getElem_cons_succ, wsum]; omega
theorem wsum_take {α : Type} (w : α → Nat) : ∀ (l : List α) {k : Nat} (h : k < l.length), wsum w (l.take (k + 1)) = wsum w (l.take k) + w l[k]
 | [], _, h => by simp at h
 | x :: l, 0, _ => by simp [wsum]
 | x :: l, k + 1, h => by
  have := wsum_take w l (k := k) (by simpa using h)
  simp only [List.take_succ_cons, List.getElem_cons_succ, wsum]; omega
theorem wsum_le {α : Type} (w : α → Nat) : ∀ (l : List α) (k : Nat), wsum w (l.take k) ≤ wsum w l
 | [], k => by simp
 | x :: l, 0 => by simp [wsum]
 | x :: l, k + 1 => by
  have := wsum_le w l k
  simp only [List.take_succ_cons, wsum]; omega
@[go_sem] def encI (n : Int) : List D := [iv n]
@[go_sem] def encS (s : ByteArray) : List D := [sv s]
abbrev slI (l : List Int) : D := .sl (l.map encI)
abbrev slS (l : List ByteArray) : D := .sl (l.map encS)
def wStringS (l : List ByteArray) : Nat := l.length + wsum ByteArray.size l
def wfIntS (l : List Int) : Prop := l.length ≤ 9223372036854775807 ∧ ∀ i ∈ l, inR .i64 i
def wfStringS (l : List ByteArray) : Prop := l.length ≤ 9223372036854775807 ∧ ∀ s ∈ l, s.size ≤ 9223372036854775807
theorem decI {n : Nat} {r : List D} (h : ShD tt n 3 r) : ∃ i, r = encI i ∧ inR .i64 i := by
 match n, h with
 | n + 1, ⟨i, h, hi⟩ => exact ⟨i, h, hi⟩
theorem decS {n : Nat} {r : List D} (h : ShD tt n 9 r) : ∃ s : ByteArray, r = encS s ∧ s.size ≤ 9223372036854775807 := by
 match n, h with
 | n + 1, ⟨s, h, hs⟩ => exact ⟨s, h, hs⟩
theorem decB {n : Nat} {r : List D} (h : ShD tt n 4 r) : ∃ b : Bool, r = [bv b] := by
 match n, h with
 | n + 1, ⟨b, h⟩ => exact ⟨b, h⟩
theorem decIntS {n : Nat} {r : List D} (h : ShD tt n 118 r) : ∃ l : List Int, r = [slI l] ∧ wfIntS l := by
 match n, h with
 | n + 1, ⟨rows, h, hm, hr⟩ =>
  obtain ⟨l, rfl, hl⟩ := rows_map encI (inR .i64) (fun r h => decI (hr r h))
  exact ⟨l, h, by unfold maxLen at hm; simpa using hm, hl⟩
theorem toIntS_ok (l : List Int) (hl : l.length ≤ 1048576) : FnC Tryz.prog 161 [.o (.d (slI l))] (.o (.w 3 1 (l.map encI))) := by
 refine ent Tryz.func161 rfl Tryz.call161 rfl (fun C => ?_); simp only [go_sem, st0, Tryz.ntmps161]
 refine w0_0 ?_
 refine WP_lp (α := Nat) (fun k => [(4, oi k)]) (fun k => [(0, .row 3 1 (fillR encI [iv 0] l k) true)]) (fun k => k ≤ l.length) (fun k => l.length - k) 0 (fun _ => ?_) ?_ ?_ (fun k hk => ?_)
 ·simp only [go_sem]
 ·simp only [go_sem]; simp [fillR_zero]
 ·simp
 ·simp only [go_sem]
  refine w0_0 ?_
  refine cnd rfl (fun h => ?_) (fun h => ?_)
  ·simp only [decide_eq_true_eq, Int.ofNat_lt] at h
   have q0 := @h; refine w1_0 ?_
   refine L_next (k + 1) ?_ ?_ ?_
   ·simp only [go_sem]; simp [← fillR_set, h, encI]
   ·omega
   ·omega
  ·simp only [decide_eq_false_iff_not] at h
   have e : k = l.length := by omega
   subst e
   refine w0_0 ?_
   exact retK_ret ⟨⟨_, rfl, by simp only [go_sem, fillR_all]⟩, trivial⟩
theorem eqIntS_ok (l : List Int) (hl : l.length ≤ 67108864) : FnC Tryz.prog 169 [.o (.d (slI l)), .o (.d (slI l))] (ob true) := by
 refine ent Tryz.func169 rfl Tryz.call169 rfl (fun C => ?_); simp only [go_sem, st0, Tryz.ntmps169]
 refine w0_0 ?_
 refine WP_lp (α := Nat) (fun k => [(5, oi k)]) (fun _ => []) (fun k => k ≤ l.length) (fun k => l.length - k) 0 (fun _ => ?_) ?_ ?_ (fun k hk => ?_)
 ·simp only [go_sem]
 ·simp only [go_sem]; simp
 ·simp
 ·simp only [go_sem]
  refine w0_0 ?_
  refine cnd rfl (fun h => ?_) (fun h => ?_)
  ·simp only [decide_eq_true_eq, Int.ofNat_lt] at h
   have q0 := @h; refine w1_0 ?_
   refine L_next (k + 1) ?_ ?_ ?_
   ·simp only [go_sem]; simp
   ·omega
   ·omega
  ·simp only [decide_eq_false_iff_not] at h
   refine w0_0 ?_
   exact retK_ret ⟨⟨_, rfl, by simp only [go_sem]⟩, trivial⟩
theorem szIntS_ok (l : List Int) (n : Int) (h0 : 0 ≤ n ∧ n ≤ 1048576) (hw : wfIntS l) : FnC Tryz.prog 154 [.o (.d (slI l)), oi n] (oi (szOut n l.length)) := by
 have h1 := hw.1
 refine ent Tryz.func154 rfl Tryz.call154 rfl (fun C => ?_); simp only [go_sem, st0, Tryz.ntmps154]
 by_cases hc : n - (l.length : Nat) < 0
 ·have q0 := @hc; refine w1_0 ?_
  exact retK_ret ⟨⟨_, rfl, by simp only [go_sem, szOut_neg hc]⟩, trivial⟩
 ·have q0 := @hc; refine w1_0 ?_
  exact retK_ret ⟨⟨_, rfl, by simp only [go_sem, szOut_pos hc]⟩, trivial⟩
end Go.Proofs.YtddimbdeggomaaaGreat
end
section
set_option linter.all false
set_option maxHeartbeats 1000000
namespace Go.Proofs.YtddimbdeggomaaaGreat
open Go Go.Sx Go.RowKit Go.Proofs
structure TValue where
 fKind : Int
 fInt : Int
 fStr : ByteArray
@[go_sem] def encValue (x : TValue) : List D := [iv x.fKind, iv x.fInt, sv x.fStr]
@[go_sem] def gValue (x : TValue) : SV := .g [.d (iv x.fKind), .d (iv x.fInt), .d (sv x.fStr)]
def wValue (x : TValue) : Nat := x.fStr.size
def wfValue (x : TValue) : Prop := inR .i64 x.fKind ∧ inR .i64 x.fInt ∧ x.fStr.size ≤ 9223372036854775807
def wValueS (l : List TValue) : Nat := l.length + wsum wValue l
def wfValueS (l : List TValue) : Prop := l.length ≤ 9223372036854775807 ∧ ∀ x ∈ l, wfValue x
theorem decValue {n : Nat} {r : List D} (h : ShD tt n 206 r) : ∃ x : TValue, r = encValue x ∧ wfValue x := by
 match n, h with
 | n + 1, ⟨a0, b0, e0, h0, a1, b1, e1, h1, a2, b2, e2, h2, ee⟩ =>
  obtain ⟨x0, rfl, p0⟩ := decI h0
  obtain ⟨x1, rfl, p1⟩ := decI h1
  obtain ⟨x2, rfl, p2⟩ := decS h2
  have ee' : b2 = [] := ee
  subst ee' e2 e1 e0
  exact ⟨⟨x0, x1, x2⟩, rfl, p0, p1, p2⟩
theorem szValue_ok (x : TValue) (n : Int) (h0 : 0 ≤ n ∧ n ≤ 1048576) (hw : wfValue x) : FnC Tryz.prog 249 [gValue x, oi n] (oi (szOut n (wValue x))) := by
 refine ent Tryz.func249 rfl Tryz.call249 rfl (fun C => ?_); simp only [go_sem, st0, Tryz.ntmps249]
 unfold wfValue at hw
 by_cases hc0 : n - (x.fStr.size : Nat) < 0
 ·have e : szOut n (wValue x) = -1 := by rw [szOut_neg (by unfold wValue; omega)]
  have q0 := @hc0; refine w1_0 ?_
  exact retK_ret ⟨⟨_, rfl, by simp only [go_sem, e]⟩, trivial⟩
 have e : szOut n (wValue x) = n - (x.fStr.size : Nat) := by rw [szOut_pos (by unfold wValue; omega)]; unfold wValue; omega
 have q0 := @hc0; refine w1_0 ?_
 exact retK_ret ⟨⟨_, rfl, by simp only [go_sem, e]⟩, trivial⟩
theorem toValue_ok (x : TValue) (hx : wValue x ≤ 1048576) : FnC Tryz.prog 251 [gValue x] (gValue x) := by
 unfold wValue at hx
 refine ent Tryz.func251 rfl Tryz.call251 rfl (fun C => ?_); simp only [go_sem, st0, Tryz.ntmps251]
 refine w0_0 ?_
 exact retK_ret ⟨⟨_, rfl, by simp only [go_sem]⟩, trivial⟩
theorem eqValue_ok (x : TValue) (hx : wValue x ≤ 67108864) : FnC Tryz.prog 228 [gValue x, gValue x] (ob true) := by
 unfold wValue at hx
 refine ent Tryz.func228 rfl Tryz.call228 rfl (fun C => ?_); simp only [go_sem, st0, Tryz.ntmps228]
 refine w0_0 ?_
 exact retK_ret ⟨⟨_, rfl, by simp only [go_sem]⟩, trivial⟩
end Go.Proofs.YtddimbdeggomaaaGreat
end
section
set_option linter.all false
set_option maxHeartbeats 1000000
namespace Go.Proofs.YtddimbdeggomaaaGreat
open Go Go.Sx Go.RowKit Go.Proofs
structure TField where
 fName : ByteArray
 fKind : Int
@[go_sem] def encField (x : TField) : List D := [sv x.fName, iv x.fKind]
@[go_sem] def gField (x : TField) : SV := .g [.d (sv x.fName), .d (iv x.fKind)]
def wField (x : TField) : Nat := x.fName.size
def wfField (x : TField) : Prop := x.fName.size ≤ 9223372036854775807 ∧ inR .i64 x.fKind
def wFieldS (l : List TField) : Nat := l.length + wsum wField l
def wfFieldS (l : List TField) : Prop := l.length ≤ 9223372036854775807 ∧ ∀ x ∈ l, wfField x
theorem decField {n : Nat} {r : List D} (h : ShD tt n 188 r) : ∃ x : TField, r = encField x ∧ wfField x := by
 match n, h with
 | n + 1, ⟨a0, b0, e0, h0, a1, b1, e1, h1, ee⟩ =>
  obtain ⟨x0, rfl, p0⟩ := decS h0
  obtain ⟨x1, rfl, p1⟩ := decI h1
  have ee' : b1 = [] := ee
  subst ee' e1 e0
  exact ⟨⟨x0, x1⟩, rfl, p0, p1⟩
theorem decFieldS {n : Nat} {r : List D} (h : ShD tt n 22 r) : ∃ l : List TField, r = [.sl (l.map encField)] ∧ wfFieldS l := by
 match n, h with
 | n + 1, ⟨rows, h, hm, hr⟩ =>
  obtain ⟨l, rfl, hl⟩ := rows_map encField wfField (fun r h => decField (hr r h))
  exact ⟨l, h, by unfold maxLen at hm; simpa using hm, hl⟩
theorem szField_ok (x : TField) (n : Int) (h0 : 0 ≤ n ∧ n ≤ 1048576) (hw : wfField x) : FnC Tryz.prog 153 [gField x, oi n] (oi (szOut n (wField x))) := by
 refine ent Tryz.func153 rfl Tryz.call153 rfl (fun C => ?_); simp only [go_sem, st0, Tryz.ntmps153]
 unfold wfField at hw
 by_cases hc0 : n - (x.fName.size : Nat) < 0
 ·have e : szOut n (wField x) = -1 := by rw [szOut_neg (by unfold wField; omega)]
  have q0 := @hc0; refine w1_0 ?_
  exact retK_ret ⟨⟨_, rfl, by simp only [go_sem, e]⟩, trivial⟩
 have e : szOut n (wField x) = n - (x.fName.size : Nat) := by rw [szOut_pos (by unfold wField; omega)]; unfold wField; omega
 have q0 := @hc0; refine w1_0 ?_
 exact retK_ret ⟨⟨_, rfl, by simp only [go_sem, e]⟩, trivial⟩
theorem toField_ok (x : TField) (hx : wField x ≤ 1048576) : FnC Tryz.prog 160 [gField x] (gField x) := by
 unfold wField at hx
 refine ent Tryz.func160 rfl Tryz.call160 rfl (fun C => ?_); simp only [go_sem, st0, Tryz.ntmps160]
 refine w0_0 ?_
 exact retK_ret ⟨⟨_, rfl, by simp only [go_sem]⟩, trivial⟩
theorem eqField_ok (x : TField) (hx : wField x ≤ 67108864) : FnC Tryz.prog 170 [gField x, gField x] (ob true) := by
 unfold wField at hx
 refine ent Tryz.func170 rfl Tryz.call170 rfl (fun C => ?_); simp only [go_sem, st0, Tryz.ntmps170]
 refine w0_0 ?_
 exact retK_ret ⟨⟨_, rfl, by simp only [go_sem]⟩, trivial⟩
theorem toFieldS_ok (l : List TField) (hl : wFieldS l ≤ 1048576) : FnC Tryz.prog 86 [.o (.d (.sl (l.map encField)))] (.o (.w 193 2 (l.map encField))) := by
 unfold wFieldS at hl
 refine ent Tryz.func86 rfl Tryz.call86 rfl (fun C => ?_); simp only [go_sem, st0, Tryz.ntmps86]
 refine w0_0 ?_
 refine WP_lp (α := Nat) (fun k => [(4, oi k)]) (fun k => [(0, .row 193 2 (fillR encField [sv ⟨#[]⟩, iv 0] l k) true)]) (fun k => k ≤ l.length) (fun k => l.length - k) 0 (fun _ => ?_) ?_ ?_ (fun k hk => ?_)
 ·simp only [go_sem]
 ·simp only [go_sem]; simp [fillR_zero]
 ·simp
 ·simp only [go_sem]
  refine w0_0 ?_
  refine cnd rfl (fun h => ?_) (fun h => ?_)
  ·simp only [decide_eq_true_eq, Int.ofNat_lt] at h
   have hw := wsum_get wField l h
   have q0 := @h; refine w1_1 (toField_ok l[k] (by omega)) ?_
   refine L_next (k + 1) ?_ ?_ ?_
   ·simp only [go_sem]; simp [← fillR_set, h, encField]
   ·omega
   ·omega
  ·simp only [decide_eq_false_iff_not] at h
   have e : k = l.length := by omega
   subst e
   refine w0_0 ?_
   exact retK_ret ⟨⟨_, rfl, by simp only [go_sem, fillR_all]⟩, trivial⟩
theorem eqFieldS_ok (l : List TField) (hl : wFieldS l ≤ 67108864) : FnC Tryz.prog 91 [.o (.d (.sl (l.map encField))), .o (.d (.sl (l.map encField)))] (ob true) := by
 unfold wFieldS at hl
 refine ent Tryz.func91 rfl Tryz.call91 rfl (fun C => ?_); simp only [go_sem, st0, Tryz.ntmps91]
 refine w0_0 ?_
 refine WP_lp (α := Nat) (fun k => [(5, oi k)]) (fun _ => []) (fun k => k ≤ l.length) (fun k => l.length - k) 0 (fun _ => ?_) ?_ ?_ (fun k hk => ?_)
 ·simp only [go_sem]
 ·simp only [go_sem]; simp
 ·simp
 ·simp only [go_sem]
  refine w0_0 ?_
  refine cnd rfl (fun h => ?_) (fun h => ?_)
  ·simp only [decide_eq_true_eq, Int.ofNat_lt] at h
   have hw := wsum_get wField l h
   have q0 := @h; refine w1_1 (eqField_ok l[k] (by omega)) ?_
   refine L_next (k + 1) ?_ ?_ ?_
   ·simp only [go_sem]; simp
   ·omega
   ·omega
  ·simp only [decide_eq_false_iff_not] at h
   refine w0_0 ?_
   exact retK_ret ⟨⟨_, rfl, by simp only [go_sem]⟩, trivial⟩
theorem szFieldS_ok (l : List TField) (n : Int) (h0 : 0 ≤ n ∧ n ≤ 1048576) (hw : wfFieldS l) : FnC Tryz.prog 76 [.o (.d (.sl (l.map encField))), oi n] (oi (szOut n (wFieldS l))) := by
 unfold wfFieldS at hw
 refine ent Tryz.func76 rfl Tryz.call76 rfl (fun C => ?_); simp only [go_sem, st0, Tryz.ntmps76]
 by_cases hc : n - (l.length : Nat) < 0
 ·have e : szOut n (wFieldS l) = -1 := by rw [szOut_neg (by unfold wFieldS; omega)]
  have q0 := @hc; refine w1_0 ?_
  exact retK_ret ⟨⟨_, rfl, by simp only [go_sem, e]⟩, trivial⟩
 have q0 := @hc; refine w1_0 ?_
 refine WP_lp (α := Nat) (fun k => [(5, oi k), (1, oi (n - (l.length : Nat) - (wsum wField (l.take k) : Nat)))]) (fun _ => []) (fun k => k ≤ l.length ∧ 0 ≤ n - (l.length : Nat) - (wsum wField (l.take k) : Nat)) (fun k => l.length - k) 0 (fun _ => ?_) ?_ ?_ (fun k hk => ?_)
 ·simp only [go_sem]
 ·simp only [go_sem]; simp [wsum]
 ·simp [wsum]; omega
 ·obtain ⟨hk, hn⟩ := hk
  simp only [go_sem]
  refine w0_0 ?_
  refine cnd rfl (fun h => ?_) (fun h => ?_)
  ·simp only [decide_eq_true_eq, Int.ofNat_lt] at h
   have hs := wsum_take wField l h
   have ht := wsum_le wField l (k + 1)
   by_cases h2 : n - (l.length : Nat) - (wsum wField (l.take k) : Nat) - (wField l[k] : Nat) < 0
   ·have e : szOut n (wFieldS l) = -1 := by rw [szOut_neg (by unfold wFieldS; omega)]
    have q0 := @h; have q1 := szOut_neg h2; refine w2_1 (szField_ok l[k] _ ⟨hn, by omega⟩ (hw.2 _ (List.getElem_mem h))) ?_
    exact retK_ret ⟨⟨_, rfl, by simp only [go_sem, e]⟩, trivial⟩
   ·have q0 := @h; have q1 := szOut_pos h2; have q2 := @h2; refine w3_1 (szField_ok l[k] _ ⟨hn, by omega⟩ (hw.2 _ (List.getElem_mem h))) ?_
    refine L_next (k + 1) ?_ ?_ ?_
    ·simp only [go_sem]; simp; omega
    ·omega
    ·omega
  ·simp only [decide_eq_false_iff_not] at h
   have e0 : k = l.length := by omega
   subst e0
   rw [List.take_length] at hn
   have e : szOut n (wFieldS l) = n - (l.length : Nat) - (wsum wField l : Nat) := by rw [szOut_pos (by unfold wFieldS; omega)]; unfold wFieldS; omega
   refine w0_0 ?_
   exact retK_ret ⟨⟨_, rfl, by simp only [go_sem, e, List.take_length]⟩, trivial⟩
end Go.Proofs.YtddimbdeggomaaaGreat
end
section
set_option linter.all false
set_option maxHeartbeats 1000000
namespace Go.Proofs.YtddimbdeggomaaaGreat
open Go Go.Sx Go.RowKit Go.Proofs
structure TAttr where
 fName : ByteArray
 fValue : TValue
@[go_sem] def encAttr (x : TAttr) : List D := [sv x.fName, iv x.fValue.fKind, iv x.fValue.fInt, sv x.fValue.fStr]
@[go_sem] def gAttr (x : TAttr) : SV := .g [.d (sv x.fName), .d (iv x.fValue.fKind), .d (iv x.fValue.fInt), .d (sv x.fValue.fStr)]
def wAttr (x : TAttr) : Nat := x.fName.size + wValue x.fValue
def wfAttr (x : TAttr) : Prop := x.fName.size ≤ 9223372036854775807 ∧ wfValue x.fValue
def wAttrS (l : List TAttr) : Nat := l.length + wsum wAttr l
def wfAttrS (l : List TAttr) : Prop := l.length ≤ 9223372036854775807 ∧ ∀ x ∈ l, wfAttr x
theorem decAttr {n : Nat} {r : List D} (h : ShD tt n 208 r) : ∃ x : TAttr, r = encAttr x ∧ wfAttr x := by
 match n, h with
 | n + 1, ⟨a0, b0, e0, h0, a1, b1, e1, h1, ee⟩ =>
  obtain ⟨x0, rfl, p0⟩ := decS h0
  obtain ⟨x1, rfl, p1⟩ := decValue h1
  have ee' : b1 = [] := ee
  subst ee' e1 e0
  exact ⟨⟨x0, x1⟩, rfl, p0, p1⟩
theorem decAttrS {n : Nat} {r : List D} (h : ShD tt n 62 r) : ∃ l : List TAttr, r = [.sl (l.map encAttr)] ∧ wfAttrS l := by
 match n, h with
 | n + 1, ⟨rows, h, hm, hr⟩ =>
  obtain ⟨l, rfl, hl⟩ := rows_map encAttr wfAttr (fun r h => decAttr (hr r h))
  exact ⟨l, h, by unfold maxLen at hm; simpa using hm, hl⟩
theorem szAttr_ok (x : TAttr) (n : Int) (h0 : 0 ≤ n ∧ n ≤ 1048576) (hw : wfAttr x) : FnC Tryz.prog 179 [gAttr x, oi n] (oi (szOut n (wAttr x))) := by
 refine ent Tryz.func179 rfl Tryz.call179 rfl (fun C => ?_); simp only [go_sem, st0, Tryz.ntmps179]
 unfold wfAttr at hw
 by_cases hc0 : n - (x.fName.size : Nat) < 0
 ·have e : szOut n (wAttr x) = -1 := by rw [szOut_neg (by unfold wAttr; omega)]
  have q0 := @hc0; refine w1_0 ?_
  exact retK_ret ⟨⟨_, rfl, by simp only [go_sem, e]⟩, trivial⟩
 by_cases hc1 : n - (x.fName.size : Nat) - (wValue x.fValue : Nat) < 0
 ·have e : szOut n (wAttr x) = -1 := by rw [szOut_neg (by unfold wAttr; omega)]
  have q0 := @hc0; have q1 := szOut_neg hc1; have q2 := @hc1; refine w3_1 (szValue_ok x.fValue (n - (x.fName.size : Nat)) (by omega) hw.2) ?_
  exact retK_ret ⟨⟨_, rfl, by simp only [go_sem, e]⟩, trivial⟩
 have e : szOut n (wAttr x) = n - (x.fName.size : Nat) - (wValue x.fValue : Nat) := by rw [szOut_pos (by unfold wAttr; omega)]; unfold wAttr; omega
 have q0 := @hc0; have q1 := szOut_pos hc1; have q2 := @hc1; refine w3_1 (szValue_ok x.fValue (n - (x.fName.size : Nat)) (by omega) hw.2) ?_
 exact retK_ret ⟨⟨_, rfl, by simp only [go_sem, e]⟩, trivial⟩
theorem toAttr_ok (x : TAttr) (hx : wAttr x ≤ 1048576) : FnC Tryz.prog 183 [gAttr x] (gAttr x) := by
 unfold wAttr at hx
 refine ent Tryz.func183 rfl Tryz.call183 rfl (fun C => ?_); simp only [go_sem, st0, Tryz.ntmps183]
 refine w0_1 (toValue_ok x.fValue (by omega)) ?_
 exact retK_ret ⟨⟨_, rfl, by simp only [go_sem]⟩, trivial⟩
theorem eqAttr_ok (x : TAttr) (hx : wAttr x ≤ 67108864) : FnC Tryz.prog 147 [gAttr x, gAttr x] (ob true) := by
 unfold wAttr at hx
 refine ent Tryz.func147 rfl Tryz.call147 rfl (fun C => ?_); simp only [go_sem, st0, Tryz.ntmps147]
 refine w0_1 (eqValue_ok x.fValue (by omega)) ?_
 exact retK_ret ⟨⟨_, rfl, by simp only [go_sem]⟩, trivial⟩
theorem toAttrS_ok (l : List TAttr) (hl : wAttrS l ≤ 1048576) : FnC Tryz.prog 113 [.o (.d (.sl (l.map encAttr)))] (.o (.w 181 4 (l.map encAttr))) := by
 unfold wAttrS at hl
 refine ent Tryz.func113 rfl Tryz.call113 rfl (fun C => ?_); simp only [go_sem, st0, Tryz.ntmps113]
 refine w0_0 ?_
 refine WP_lp (α := Nat) (fun k => [(4, oi k)]) (fun k => [(0, .row 181 4 (fillR encAttr [sv ⟨#[]⟩, iv 0, iv 0, sv ⟨#[]⟩] l k) true)]) (fun k => k ≤ l.length) (fun k => l.length - k) 0 (fun _ => ?_) ?_ ?_ (fun k hk => ?_)
 ·simp only [go_sem]
 ·simp only [go_sem]; simp [fillR_zero]
 ·simp
 ·simp only [go_sem]
  refine w0_0 ?_
  refine cnd rfl (fun h => ?_) (fun h => ?_)
  ·simp only [decide_eq_true_eq, Int.ofNat_lt] at h
   have hw := wsum_get wAttr l h
   have q0 := @h; refine w1_1 (toAttr_ok l[k] (by omega)) ?_
   refine L_next (k + 1) ?_ ?_ ?_
   ·simp only [go_sem]; simp [← fillR_set, h, encAttr]
   ·omega
   ·omega
  ·simp only [decide_eq_false_iff_not] at h
   have e : k = l.length := by omega
   subst e
   refine w0_0 ?_
   exact retK_ret ⟨⟨_, rfl, by simp only [go_sem, fillR_all]⟩, trivial⟩
theorem eqAttrS_ok (l : List TAttr) (hl : wAttrS l ≤ 67108864) : FnC Tryz.prog 65 [.o (.d (.sl (l.map encAttr))), .o (.d (.sl (l.map encAttr)))] (ob true) := by
 unfold wAttrS at hl
 refine ent Tryz.func65 rfl Tryz.call65 rfl (fun C => ?_); simp only [go_sem, st0, Tryz.ntmps65]
 refine w0_0 ?_
 refine WP_lp (α := Nat) (fun k => [(5, oi k)]) (fun _ => []) (fun k => k ≤ l.length) (fun k => l.length - k) 0 (fun _ => ?_) ?_ ?_ (fun k hk => ?_)
 ·simp only [go_sem]
 ·simp only [go_sem]; simp
 ·simp
 ·simp only [go_sem]
  refine w0_0 ?_
  refine cnd rfl (fun h => ?_) (fun h => ?_)
  ·simp only [decide_eq_true_eq, Int.ofNat_lt] at h
   have hw := wsum_get wAttr l h
   have q0 := @h; refine w1_1 (eqAttr_ok l[k] (by omega)) ?_
   refine L_next (k + 1) ?_ ?_ ?_
   ·simp only [go_sem]; simp
   ·omega
   ·omega
  ·simp only [decide_eq_false_iff_not] at h
   refine w0_0 ?_
   exact retK_ret ⟨⟨_, rfl, by simp only [go_sem]⟩, trivial⟩
theorem szAttrS_ok (l : List TAttr) (n : Int) (h0 : 0 ≤ n ∧ n ≤ 1048576) (hw : wfAttrS l) : FnC Tryz.prog 107 [.o (.d (.sl (l.map encAttr))), oi n] (oi (szOut n (wAttrS l))) := by
 unfold wfAttrS at hw
 refine ent Tryz.func107 rfl Tryz.call107 rfl (fun C => ?_); simp only [go_sem, st0, Tryz.ntmps107]
 by_cases hc : n - (l.length : Nat) < 0
 ·have e : szOut n (wAttrS l) = -1 := by rw [szOut_neg (by unfold wAttrS; omega)]
  have q0 := @hc; refine w1_0 ?_
  exact retK_ret ⟨⟨_, rfl, by simp only [go_sem, e]⟩, trivial⟩
 have q0 := @hc; refine w1_0 ?_
 refine WP_lp (α := Nat) (fun k => [(5, oi k), (1, oi (n - (l.length : Nat) - (wsum wAttr (l.take k) : Nat)))]) (fun _ => []) (fun k => k ≤ l.length ∧ 0 ≤ n - (l.length : Nat) - (wsum wAttr (l.take k) : Nat)) (fun k => l.length - k) 0 (fun _ => ?_) ?_ ?_ (fun k hk => ?_)
 ·simp only [go_sem]
 ·simp only [go_sem]; simp [wsum]
 ·simp [wsum]; omega
 ·obtain ⟨hk, hn⟩ := hk
  simp only [go_sem]
  refine w0_0 ?_
  refine cnd rfl (fun h => ?_) (fun h => ?_)
  ·simp only [decide_eq_true_eq, Int.ofNat_lt] at h
   have hs := wsum_take wAttr l h
   have ht := wsum_le wAttr l (k + 1)
   by_cases h2 : n - (l.length : Nat) - (wsum wAttr (l.take k) : Nat) - (wAttr l[k] : Nat) < 0
   ·have e : szOut n (wAttrS l) = -1 := by rw [szOut_neg (by unfold wAttrS; omega)]
    have q0 := @h; have q1 := szOut_neg h2; refine w2_1 (szAttr_ok l[k] _ ⟨hn, by omega⟩ (hw.2 _ (List.getElem_mem h))) ?_
    exact retK_ret ⟨⟨_, rfl, by simp only [go_sem, e]⟩, trivial⟩
   ·have q0 := @h; have q1 := szOut_pos h2; have q2 := @h2; refine w3_1 (szAttr_ok l[k] _ ⟨hn, by omega⟩ (hw.2 _ (List.getElem_mem h))) ?_
    refine L_next (k + 1) ?_ ?_ ?_
    ·simp only [go_sem]; simp; omega
    ·omega
    ·omega
  ·simp only [decide_eq_false_iff_not] at h
   have e0 : k = l.length := by omega
   subst e0
   rw [List.take_length] at hn
   have e : szOut n (wAttrS l) = n - (l.length : Nat) - (wsum wAttr l : Nat) := by rw [szOut_pos (by unfold wAttrS; omega)]; unfold wAttrS; omega
   refine w0_0 ?_
   exact retK_ret ⟨⟨_, rfl, by simp only [go_sem, e, List.take_length]⟩, trivial⟩
end Go.Proofs.YtddimbdeggomaaaGreat
end
section
set_option linter.all false
set_option maxHeartbeats 1000000
namespace Go.Proofs.YtddimbdeggomaaaGreat
open Go Go.Sx Go.RowKit Go.Proofs
structure TFile where
 fID : Int
 fOwner : Int
 fShared : Bool
 fLink : Int
 fAttrs : List TAttr
@[go_sem] def encFile (x : TFile) : List D := [iv x.fID, iv x.fOwner, bv x.fShared, iv x.fLink, .sl (x.fAttrs.map encAttr)]
@[go_sem] def gFile (x : TFile) : SV := .g [.d (iv x.fID), .d (iv x.fOwner), .d (bv x.fShared), .d (iv x.fLink), .d (.sl (x.fAttrs.map encAttr))]
@[go_sem] def rFile (x : TFile) : SV := .g [.d (iv x.fID), .d (iv x.fOwner), .d (bv x.fShared), .d (iv x.fLink), .w 181 4 (x.fAttrs.map encAttr)]
def wFile (x : TFile) : Nat := wAttrS x.fAttrs
def wfFile (x : TFile) : Prop := inR .i64 x.fID ∧ inR .i64 x.fOwner ∧ True ∧ inR .i64 x.fLink ∧ wfAttrS x.fAttrs
def wFileS (l : List TFile) : Nat := l.length + wsum wFile l
def wfFileS (l : List TFile) : Prop := l.length ≤ 9223372036854775807 ∧ ∀ x ∈ l, wfFile x
theorem decFile {n : Nat} {r : List D} (h : ShD tt n 64 r) : ∃ x : TFile, r = encFile x ∧ wfFile x := by
 match n, h with
 | n + 1, ⟨a0, b0, e0, h0, a1, b1, e1, h1, a2, b2, e2, h2, a3, b3, e3, h3, a4, b4, e4, h4, ee⟩ =>
  obtain ⟨x0, rfl, p0⟩ := decI h0
  obtain ⟨x1, rfl, p1⟩ := decI h1
  obtain ⟨x2, rfl⟩ := decB h2
  obtain ⟨x3, rfl, p3⟩ := decI h3
  obtain ⟨x4, rfl, p4⟩ := decAttrS h4
  have ee' : b4 = [] := ee
  subst ee' e4 e3 e2 e1 e0
  exact ⟨⟨x0, x1, x2, x3, x4⟩, rfl, p0, p1, trivial, p3, p4⟩
theorem decFileS {n : Nat} {r : List D} (h : ShD tt n 23 r) : ∃ l : List TFile, r = [.sl (l.map encFile)] ∧ wfFileS l := by
 match n, h with
 | n + 1, ⟨rows, h, hm, hr⟩ =>
  obtain ⟨l, rfl, hl⟩ := rows_map encFile wfFile (fun r h => decFile (hr r h))
  exact ⟨l, h, by unfold maxLen at hm; simpa using hm, hl⟩
theorem szFile_ok (x : TFile) (n : Int) (h0 : 0 ≤ n ∧ n ≤ 1048576) (hw : wfFile x) : FnC Tryz.prog 39 [gFile x, oi n] (oi (szOut n (wFile x))) := by
 refine ent Tryz.func39 rfl Tryz.call39 rfl (fun C => ?_); simp only [go_sem, st0, Tryz.ntmps39]
 unfold wfFile at hw
 by_cases hc0 : n - (wAttrS x.fAttrs : Nat) < 0
 ·have e : szOut n (wFile x) = -1 := by rw [szOut_neg (by unfold wFile; omega)]
  have q0 := szOut_neg hc0; have q1 := @hc0; refine w2_1 (szAttrS_ok x.fAttrs (n) (by omega) hw.2.2.2.2) ?_
  exact retK_ret ⟨⟨_, rfl, by simp only [go_sem, e]⟩, trivial⟩
 have e : szOut n (wFile x) = n - (wAttrS x.fAttrs : Nat) := by rw [szOut_pos (by unfold wFile; omega)]; unfold wFile; omega
 have q0 := szOut_pos hc0; have q1 := @hc0; refine w2_1 (szAttrS_ok x.fAttrs (n) (by omega) hw.2.2.2.2) ?_
 exact retK_ret ⟨⟨_, rfl, by simp only [go_sem, e]⟩, trivial⟩
theorem toFile_ok (x : TFile) (hx : wFile x ≤ 1048576) : FnC Tryz.prog 42 [gFile x] (rFile x) := by
 unfold wFile at hx
 refine ent Tryz.func42 rfl Tryz.call42 rfl (fun C => ?_); simp only [go_sem, st0, Tryz.ntmps42]
 refine w0_1 (toAttrS_ok x.fAttrs (by omega)) ?_
 exact retK_ret ⟨⟨_, rfl, by simp only [go_sem]⟩, trivial⟩
theorem toFiled_ok (x : TFile) (hx : wFile x ≤ 1048576) : FnC Tryz.prog 42 [gFile x] (gFile x) := (toFile_ok x hx).pu (by simp only [go_sem, and_self])
theorem eqFile_ok (x : TFile) (hx : wFile x ≤ 67108864) : FnC Tryz.prog 45 [gFile x, gFile x] (ob true) := by
 unfold wFile at hx
 refine ent Tryz.func45 rfl Tryz.call45 rfl (fun C => ?_); simp only [go_sem, st0, Tryz.ntmps45]
 refine w0_1 (eqAttrS_ok x.fAttrs (by omega)) ?_
 exact retK_ret ⟨⟨_, rfl, by simp only [go_sem]⟩, trivial⟩
theorem toFileS_ok (l : List TFile) (hl : wFileS l ≤ 1048576) : FnC Tryz.prog 87 [.o (.d (.sl (l.map encFile)))] (.o (.w 73 5 (l.map encFile))) := by
 unfold wFileS at hl
 refine ent Tryz.func87 rfl Tryz.call87 rfl (fun C => ?_); simp only [go_sem, st0, Tryz.ntmps87]
 refine w0_0 ?_
 refine WP_lp (α := Nat) (fun k => [(4, oi k)]) (fun k => [(0, .row 73 5 (fillR encFile [iv 0, iv 0, bv false, iv 0, .sl []] l k) true)]) (fun k => k ≤ l.length) (fun k => l.length - k) 0 (fun _ => ?_) ?_ ?_ (fun k hk => ?_)
 ·simp only [go_sem]
 ·simp only [go_sem]; simp [fillR_zero]
 ·simp
 ·simp only [go_sem]
  refine w0_0 ?_
  refine cnd rfl (fun h => ?_) (fun h => ?_)
  ·simp only [decide_eq_true_eq, Int.ofNat_lt] at h
   have hw := wsum_get wFile l h
   have q0 := @h; refine w1_1 (toFile_ok l[k] (by omega)) ?_
   refine L_next (k + 1) ?_ ?_ ?_
   ·simp only [go_sem]; simp [← fillR_set, h, encFile]
   ·omega
   ·omega
  ·simp only [decide_eq_false_iff_not] at h
   have e : k = l.length := by omega
   subst e
   refine w0_0 ?_
   exact retK_ret ⟨⟨_, rfl, by simp only [go_sem, fillR_all]⟩, trivial⟩
theorem eqFileS_ok (l : List TFile) (hl : wFileS l ≤ 67108864) : FnC Tryz.prog 92 [.o (.d (.sl (l.map encFile))), .o (.d (.sl (l.map encFile)))] (ob true) := by
 unfold wFileS at hl
 refine ent Tryz.func92 rfl Tryz.call92 rfl (fun C => ?_); simp only [go_sem, st0, Tryz.ntmps92]
 refine w0_0 ?_
 refine WP_lp (α := Nat) (fun k => [(5, oi k)]) (fun _ => []) (fun k => k ≤ l.length) (fun k => l.length - k) 0 (fun _ => ?_) ?_ ?_ (fun k hk => ?_)
 ·simp only [go_sem]
 ·simp only [go_sem]; simp
 ·simp
 ·simp only [go_sem]
  refine w0_0 ?_
  refine cnd rfl (fun h => ?_) (fun h => ?_)
  ·simp only [decide_eq_true_eq, Int.ofNat_lt] at h
   have hw := wsum_get wFile l h
   have q0 := @h; refine w1_1 (eqFile_ok l[k] (by omega)) ?_
   refine L_next (k + 1) ?_ ?_ ?_
   ·simp only [go_sem]; simp
   ·omega
   ·omega
  ·simp only [decide_eq_false_iff_not] at h
   refine w0_0 ?_
   exact retK_ret ⟨⟨_, rfl, by simp only [go_sem]⟩, trivial⟩
theorem szFileS_ok (l : List TFile) (n : Int) (h0 : 0 ≤ n ∧ n ≤ 1048576) (hw : wfFileS l) : FnC Tryz.prog 77 [.o (.d (.sl (l.map encFile))), oi n] (oi (szOut n (wFileS l))) := by
 unfold wfFileS at hw
 refine ent Tryz.func77 rfl Tryz.call77 rfl (fun C => ?_); simp only [go_sem, st0, Tryz.ntmps77]
 by_cases hc : n - (l.length : Nat) < 0
 ·have e : szOut n (wFileS l) = -1 := by rw [szOut_neg (by unfold wFileS; omega)]
  have q0 := @hc; refine w1_0 ?_
  exact retK_ret ⟨⟨_, rfl, by simp only [go_sem, e]⟩, trivial⟩
 have q0 := @hc; refine w1_0 ?_
 refine WP_lp (α := Nat) (fun k => [(5, oi k), (1, oi (n - (l.length : Nat) - (wsum wFile (l.take k) : Nat)))]) (fun _ => []) (fun k => k ≤ l.length ∧ 0 ≤ n - (l.length : Nat) - (wsum wFile (l.take k) : Nat)) (fun k => l.length - k) 0 (fun _ => ?_) ?_ ?_ (fun k hk => ?_)
 ·simp only [go_sem]
 ·simp only [go_sem]; simp [wsum]
 ·simp [wsum]; omega
 ·obtain ⟨hk, hn⟩ := hk
  simp only [go_sem]
  refine w0_0 ?_
  refine cnd rfl (fun h => ?_) (fun h => ?_)
  ·simp only [decide_eq_true_eq, Int.ofNat_lt] at h
   have hs := wsum_take wFile l h
   have ht := wsum_le wFile l (k + 1)
   by_cases h2 : n - (l.length : Nat) - (wsum wFile (l.take k) : Nat) - (wFile l[k] : Nat) < 0
   ·have e : szOut n (wFileS l) = -1 := by rw [szOut_neg (by unfold wFileS; omega)]
    have q0 := @h; have q1 := szOut_neg h2; refine w2_1 (szFile_ok l[k] _ ⟨hn, by omega⟩ (hw.2 _ (List.getElem_mem h))) ?_
    exact retK_ret ⟨⟨_, rfl, by simp only [go_sem, e]⟩, trivial⟩
   ·have q0 := @h; have q1 := szOut_pos h2; have q2 := @h2; refine w3_1 (szFile_ok l[k] _ ⟨hn, by omega⟩ (hw.2 _ (List.getElem_mem h))) ?_
    refine L_next (k + 1) ?_ ?_ ?_
    ·simp only [go_sem]; simp; omega
    ·omega
    ·omega
  ·simp only [decide_eq_false_iff_not] at h
   have e0 : k = l.length := by omega
   subst e0
   rw [List.take_length] at hn
   have e : szOut n (wFileS l) = n - (l.length : Nat) - (wsum wFile l : Nat) := by rw [szOut_pos (by unfold wFileS; omega)]; unfold wFileS; omega
   refine w0_0 ?_
   exact retK_ret ⟨⟨_, rfl, by simp only [go_sem, e, List.take_length]⟩, trivial⟩
end Go.Proofs.YtddimbdeggomaaaGreat
end
section
set_option linter.all false
set_option maxHeartbeats 1000000
namespace Go.Proofs.YtddimbdeggomaaaGreat
open Go Go.Sx Go.RowKit Go.Proofs
structure TStore where
 fSchema : List TField
 fFiles : List TFile
 fNextID : Int
@[go_sem] def encStore (x : TStore) : List D := [.sl (x.fSchema.map encField), .sl (x.fFiles.map encFile), iv x.fNextID]
@[go_sem] def gStore (x : TStore) : SV := .g [.d (.sl (x.fSchema.map encField)), .d (.sl (x.fFiles.map encFile)), .d (iv x.fNextID)]
@[go_sem] def rStore (x : TStore) : SV := .g [.w 193 2 (x.fSchema.map encField), .w 73 5 (x.fFiles.map encFile), .d (iv x.fNextID)]
def wStore (x : TStore) : Nat := wFieldS x.fSchema + wFileS x.fFiles
def wfStore (x : TStore) : Prop := wfFieldS x.fSchema ∧ wfFileS x.fFiles ∧ inR .i64 x.fNextID
def wStoreS (l : List TStore) : Nat := l.length + wsum wStore l
def wfStoreS (l : List TStore) : Prop := l.length ≤ 9223372036854775807 ∧ ∀ x ∈ l, wfStore x
theorem decStore {n : Nat} {r : List D} (h : ShD tt n 25 r) : ∃ x : TStore, r = encStore x ∧ wfStore x := by
 match n, h with
 | n + 1, ⟨a0, b0, e0, h0, a1, b1, e1, h1, a2, b2, e2, h2, ee⟩ =>
  obtain ⟨x0, rfl, p0⟩ := decFieldS h0
  obtain ⟨x1, rfl, p1⟩ := decFileS h1
  obtain ⟨x2, rfl, p2⟩ := decI h2
  have ee' : b2 = [] := ee
  subst ee' e2 e1 e0
  exact ⟨⟨x0, x1, x2⟩, rfl, p0, p1, p2⟩
theorem szStore_ok (x : TStore) (n : Int) (h0 : 0 ≤ n ∧ n ≤ 1048576) (hw : wfStore x) : FnC Tryz.prog 14 [gStore x, oi n] (oi (szOut n (wStore x))) := by
 refine ent Tryz.func14 rfl Tryz.call14 rfl (fun C => ?_); simp only [go_sem, st0, Tryz.ntmps14]
 unfold wfStore at hw
 by_cases hc0 : n - (wFieldS x.fSchema : Nat) < 0
 ·have e : szOut n (wStore x) = -1 := by rw [szOut_neg (by unfold wStore; omega)]
  have q0 := szOut_neg hc0; have q1 := @hc0; refine w2_1 (szFieldS_ok x.fSchema (n) (by omega) hw.1) ?_
  exact retK_ret ⟨⟨_, rfl, by simp only [go_sem, e]⟩, trivial⟩
 by_cases hc1 : n - (wFieldS x.fSchema : Nat) - (wFileS x.fFiles : Nat) < 0
 ·have e : szOut n (wStore x) = -1 := by rw [szOut_neg (by unfold wStore; omega)]
  have q0 := szOut_pos hc0; have q1 := @hc0; have q2 := szOut_neg hc1; have q3 := @hc1; refine w4_2 (szFieldS_ok x.fSchema (n) (by omega) hw.1) (szFileS_ok x.fFiles (n - (wFieldS x.fSchema : Nat)) (by omega) hw.2.1) ?_
  exact retK_ret ⟨⟨_, rfl, by simp only [go_sem, e]⟩, trivial⟩
 have e : szOut n (wStore x) = n - (wFieldS x.fSchema : Nat) - (wFileS x.fFiles : Nat) := by rw [szOut_pos (by unfold wStore; omega)]; unfold wStore; omega
 have q0 := szOut_pos hc0; have q1 := @hc0; have q2 := szOut_pos hc1; have q3 := @hc1; refine w4_2 (szFieldS_ok x.fSchema (n) (by omega) hw.1) (szFileS_ok x.fFiles (n - (wFieldS x.fSchema : Nat)) (by omega) hw.2.1) ?_
 exact retK_ret ⟨⟨_, rfl, by simp only [go_sem, e]⟩, trivial⟩
theorem toStore_ok (x : TStore) (hx : wStore x ≤ 1048576) : FnC Tryz.prog 19 [gStore x] (rStore x) := by
 unfold wStore at hx
 refine ent Tryz.func19 rfl Tryz.call19 rfl (fun C => ?_); simp only [go_sem, st0, Tryz.ntmps19]
 refine w0_2 (toFieldS_ok x.fSchema (by omega)) (toFileS_ok x.fFiles (by omega)) ?_
 exact retK_ret ⟨⟨_, rfl, by simp only [go_sem]⟩, trivial⟩
theorem eqStore_ok (x : TStore) (hx : wStore x ≤ 67108864) : FnC Tryz.prog 25 [gStore x, gStore x] (ob true) := by
 unfold wStore at hx
 refine ent Tryz.func25 rfl Tryz.call25 rfl (fun C => ?_); simp only [go_sem, st0, Tryz.ntmps25]
 refine w0_2 (eqFieldS_ok x.fSchema (by omega)) (eqFileS_ok x.fFiles (by omega)) ?_
 exact retK_ret ⟨⟨_, rfl, by simp only [go_sem]⟩, trivial⟩
end Go.Proofs.YtddimbdeggomaaaGreat
end
section
set_option linter.all false
set_option maxHeartbeats 1000000
namespace Go.Proofs.YtddimbdeggomaaaGreat
open Go Go.Sx Go.RowKit Go.Proofs
structure TNode where
 fOp : Int
 fLeft : Int
 fRight : Int
 fName : ByteArray
 fValue : TValue
@[go_sem] def encNode (x : TNode) : List D := [iv x.fOp, iv x.fLeft, iv x.fRight, sv x.fName, iv x.fValue.fKind, iv x.fValue.fInt, sv x.fValue.fStr]
@[go_sem] def gNode (x : TNode) : SV := .g [.d (iv x.fOp), .d (iv x.fLeft), .d (iv x.fRight), .d (sv x.fName), .d (iv x.fValue.fKind), .d (iv x.fValue.fInt), .d (sv x.fValue.fStr)]
def wNode (x : TNode) : Nat := x.fName.size + wValue x.fValue
def wfNode (x : TNode) : Prop := inR .i64 x.fOp ∧ inR .i64 x.fLeft ∧ inR .i64 x.fRight ∧ x.fName.size ≤ 9223372036854775807 ∧ wfValue x.fValue
def wNodeS (l : List TNode) : Nat := l.length + wsum wNode l
def wfNodeS (l : List TNode) : Prop := l.length ≤ 9223372036854775807 ∧ ∀ x ∈ l, wfNode x
theorem decNode {n : Nat} {r : List D} (h : ShD tt n 215 r) : ∃ x : TNode, r = encNode x ∧ wfNode x := by
 match n, h with
 | n + 1, ⟨a0, b0, e0, h0, a1, b1, e1, h1, a2, b2, e2, h2, a3, b3, e3, h3, a4, b4, e4, h4, ee⟩ =>
  obtain ⟨x0, rfl, p0⟩ := decI h0
  obtain ⟨x1, rfl, p1⟩ := decI h1
  obtain ⟨x2, rfl, p2⟩ := decI h2
  obtain ⟨x3, rfl, p3⟩ := decS h3
  obtain ⟨x4, rfl, p4⟩ := decValue h4
  have ee' : b4 = [] := ee
  subst ee' e4 e3 e2 e1 e0
  exact ⟨⟨x0, x1, x2, x3, x4⟩, rfl, p0, p1, p2, p3, p4⟩
theorem decNodeS {n : Nat} {r : List D} (h : ShD tt n 86 r) : ∃ l : List TNode, r = [.sl (l.map encNode)] ∧ wfNodeS l := by
 match n, h with
 | n + 1, ⟨rows, h, hm, hr⟩ =>
  obtain ⟨l, rfl, hl⟩ := rows_map encNode wfNode (fun r h => decNode (hr r h))
  exact ⟨l, h, by unfold maxLen at hm; simpa using hm, hl⟩
theorem szNode_ok (x : TNode) (n : Int) (h0 : 0 ≤ n ∧ n ≤ 1048576) (hw : wfNode x) : FnC Tryz.prog 194 [gNode x, oi n] (oi (szOut n (wNode x))) := by
 refine ent Tryz.func194 rfl Tryz.call194 rfl (fun C => ?_); simp only [go_sem, st0, Tryz.ntmps194]
 unfold wfNode at hw
 by_cases hc0 : n - (x.fName.size : Nat) < 0
 ·have e : szOut n (wNode x) = -1 := by rw [szOut_neg (by unfold wNode; omega)]
  have q0 := @hc0; refine w1_0 ?_
  exact retK_ret ⟨⟨_, rfl, by simp only [go_sem, e]⟩, trivial⟩
 by_cases hc1 : n - (x.fName.size : Nat) - (wValue x.fValue : Nat) < 0
 ·have e : szOut n (wNode x) = -1 := by rw [szOut_neg (by unfold wNode; omega)]
  have q0 := @hc0; have q1 := szOut_neg hc1; have q2 := @hc1; refine w3_1 (szValue_ok x.fValue (n - (x.fName.size : Nat)) (by omega) hw.2.2.2.2) ?_
  exact retK_ret ⟨⟨_, rfl, by simp only [go_sem, e]⟩, trivial⟩
 have e : szOut n (wNode x) = n - (x.fName.size : Nat) - (wValue x.fValue : Nat) := by rw [szOut_pos (by unfold wNode; omega)]; unfold wNode; omega
 have q0 := @hc0; have q1 := szOut_pos hc1; have q2 := @hc1; refine w3_1 (szValue_ok x.fValue (n - (x.fName.size : Nat)) (by omega) hw.2.2.2.2) ?_
 exact retK_ret ⟨⟨_, rfl, by simp only [go_sem, e]⟩, trivial⟩
theorem toNode_ok (x : TNode) (hx : wNode x ≤ 1048576) : FnC Tryz.prog 197 [gNode x] (gNode x) := by
 unfold wNode at hx
 refine ent Tryz.func197 rfl Tryz.call197 rfl (fun C => ?_); simp only [go_sem, st0, Tryz.ntmps197]
 refine w0_1 (toValue_ok x.fValue (by omega)) ?_
 exact retK_ret ⟨⟨_, rfl, by simp only [go_sem]⟩, trivial⟩
theorem eqNode_ok (x : TNode) (hx : wNode x ≤ 67108864) : FnC Tryz.prog 206 [gNode x, gNode x] (ob true) := by
 unfold wNode at hx
 refine ent Tryz.func206 rfl Tryz.call206 rfl (fun C => ?_); simp only [go_sem, st0, Tryz.ntmps206]
 refine w0_1 (eqValue_ok x.fValue (by omega)) ?_
 exact retK_ret ⟨⟨_, rfl, by simp only [go_sem]⟩, trivial⟩
theorem toNodeS_ok (l : List TNode) (hl : wNodeS l ≤ 1048576) : FnC Tryz.prog 136 [.o (.d (.sl (l.map encNode)))] (.o (.w 199 7 (l.map encNode))) := by
 unfold wNodeS at hl
 refine ent Tryz.func136 rfl Tryz.call136 rfl (fun C => ?_); simp only [go_sem, st0, Tryz.ntmps136]
 refine w0_0 ?_
 refine WP_lp (α := Nat) (fun k => [(4, oi k)]) (fun k => [(0, .row 199 7 (fillR encNode [iv 0, iv 0, iv 0, sv ⟨#[]⟩, iv 0, iv 0, sv ⟨#[]⟩] l k) true)]) (fun k => k ≤ l.length) (fun k => l.length - k) 0 (fun _ => ?_) ?_ ?_ (fun k hk => ?_)
 ·simp only [go_sem]
 ·simp only [go_sem]; simp [fillR_zero]
 ·simp
 ·simp only [go_sem]
  refine w0_0 ?_
  refine cnd rfl (fun h => ?_) (fun h => ?_)
  ·simp only [decide_eq_true_eq, Int.ofNat_lt] at h
   have hw := wsum_get wNode l h
   have q0 := @h; refine w1_1 (toNode_ok l[k] (by omega)) ?_
   refine L_next (k + 1) ?_ ?_ ?_
   ·simp only [go_sem]; simp [← fillR_set, h, encNode]
   ·omega
   ·omega
  ·simp only [decide_eq_false_iff_not] at h
   have e : k = l.length := by omega
   subst e
   refine w0_0 ?_
   exact retK_ret ⟨⟨_, rfl, by simp only [go_sem, fillR_all]⟩, trivial⟩
theorem eqNodeS_ok (l : List TNode) (hl : wNodeS l ≤ 67108864) : FnC Tryz.prog 140 [.o (.d (.sl (l.map encNode))), .o (.d (.sl (l.map encNode)))] (ob true) := by
 unfold wNodeS at hl
 refine ent Tryz.func140 rfl Tryz.call140 rfl (fun C => ?_); simp only [go_sem, st0, Tryz.ntmps140]
 refine w0_0 ?_
 refine WP_lp (α := Nat) (fun k => [(5, oi k)]) (fun _ => []) (fun k => k ≤ l.length) (fun k => l.length - k) 0 (fun _ => ?_) ?_ ?_ (fun k hk => ?_)
 ·simp only [go_sem]
 ·simp only [go_sem]; simp
 ·simp
 ·simp only [go_sem]
  refine w0_0 ?_
  refine cnd rfl (fun h => ?_) (fun h => ?_)
  ·simp only [decide_eq_true_eq, Int.ofNat_lt] at h
   have hw := wsum_get wNode l h
   have q0 := @h; refine w1_1 (eqNode_ok l[k] (by omega)) ?_
   refine L_next (k + 1) ?_ ?_ ?_
   ·simp only [go_sem]; simp
   ·omega
   ·omega
  ·simp only [decide_eq_false_iff_not] at h
   refine w0_0 ?_
   exact retK_ret ⟨⟨_, rfl, by simp only [go_sem]⟩, trivial⟩
theorem szNodeS_ok (l : List TNode) (n : Int) (h0 : 0 ≤ n ∧ n ≤ 1048576) (hw : wfNodeS l) : FnC Tryz.prog 132 [.o (.d (.sl (l.map encNode))), oi n] (oi (szOut n (wNodeS l))) := by
 unfold wfNodeS at hw
 refine ent Tryz.func132 rfl Tryz.call132 rfl (fun C => ?_); simp only [go_sem, st0, Tryz.ntmps132]
 by_cases hc : n - (l.length : Nat) < 0
 ·have e : szOut n (wNodeS l) = -1 := by rw [szOut_neg (by unfold wNodeS; omega)]
  have q0 := @hc; refine w1_0 ?_
  exact retK_ret ⟨⟨_, rfl, by simp only [go_sem, e]⟩, trivial⟩
 have q0 := @hc; refine w1_0 ?_
 refine WP_lp (α := Nat) (fun k => [(5, oi k), (1, oi (n - (l.length : Nat) - (wsum wNode (l.take k) : Nat)))]) (fun _ => []) (fun k => k ≤ l.length ∧ 0 ≤ n - (l.length : Nat) - (wsum wNode (l.take k) : Nat)) (fun k => l.length - k) 0 (fun _ => ?_) ?_ ?_ (fun k hk => ?_)
 ·simp only [go_sem]
 ·simp only [go_sem]; simp [wsum]
 ·simp [wsum]; omega
 ·obtain ⟨hk, hn⟩ := hk
  simp only [go_sem]
  refine w0_0 ?_
  refine cnd rfl (fun h => ?_) (fun h => ?_)
  ·simp only [decide_eq_true_eq, Int.ofNat_lt] at h
   have hs := wsum_take wNode l h
   have ht := wsum_le wNode l (k + 1)
   by_cases h2 : n - (l.length : Nat) - (wsum wNode (l.take k) : Nat) - (wNode l[k] : Nat) < 0
   ·have e : szOut n (wNodeS l) = -1 := by rw [szOut_neg (by unfold wNodeS; omega)]
    have q0 := @h; have q1 := szOut_neg h2; refine w2_1 (szNode_ok l[k] _ ⟨hn, by omega⟩ (hw.2 _ (List.getElem_mem h))) ?_
    exact retK_ret ⟨⟨_, rfl, by simp only [go_sem, e]⟩, trivial⟩
   ·have q0 := @h; have q1 := szOut_pos h2; have q2 := @h2; refine w3_1 (szNode_ok l[k] _ ⟨hn, by omega⟩ (hw.2 _ (List.getElem_mem h))) ?_
    refine L_next (k + 1) ?_ ?_ ?_
    ·simp only [go_sem]; simp; omega
    ·omega
    ·omega
  ·simp only [decide_eq_false_iff_not] at h
   have e0 : k = l.length := by omega
   subst e0
   rw [List.take_length] at hn
   have e : szOut n (wNodeS l) = n - (l.length : Nat) - (wsum wNode l : Nat) := by rw [szOut_pos (by unfold wNodeS; omega)]; unfold wNodeS; omega
   refine w0_0 ?_
   exact retK_ret ⟨⟨_, rfl, by simp only [go_sem, e, List.take_length]⟩, trivial⟩
end Go.Proofs.YtddimbdeggomaaaGreat
end
section
set_option linter.all false
set_option maxHeartbeats 1000000
namespace Go.Proofs.YtddimbdeggomaaaGreat
open Go Go.Sx Go.RowKit Go.Proofs
structure TDir where
 fName : ByteArray
 fQuery : List TNode
@[go_sem] def encDir (x : TDir) : List D := [sv x.fName, .sl (x.fQuery.map encNode)]
@[go_sem] def gDir (x : TDir) : SV := .g [.d (sv x.fName), .d (.sl (x.fQuery.map encNode))]
@[go_sem] def rDir (x : TDir) : SV := .g [.d (sv x.fName), .w 199 7 (x.fQuery.map encNode)]
def wDir (x : TDir) : Nat := x.fName.size + wNodeS x.fQuery
def wfDir (x : TDir) : Prop := x.fName.size ≤ 9223372036854775807 ∧ wfNodeS x.fQuery
def wDirS (l : List TDir) : Nat := l.length + wsum wDir l
def wfDirS (l : List TDir) : Prop := l.length ≤ 9223372036854775807 ∧ ∀ x ∈ l, wfDir x
theorem decDir {n : Nat} {r : List D} (h : ShD tt n 88 r) : ∃ x : TDir, r = encDir x ∧ wfDir x := by
 match n, h with
 | n + 1, ⟨a0, b0, e0, h0, a1, b1, e1, h1, ee⟩ =>
  obtain ⟨x0, rfl, p0⟩ := decS h0
  obtain ⟨x1, rfl, p1⟩ := decNodeS h1
  have ee' : b1 = [] := ee
  subst ee' e1 e0
  exact ⟨⟨x0, x1⟩, rfl, p0, p1⟩
theorem decDirS {n : Nat} {r : List D} (h : ShD tt n 26 r) : ∃ l : List TDir, r = [.sl (l.map encDir)] ∧ wfDirS l := by
 match n, h with
 | n + 1, ⟨rows, h, hm, hr⟩ =>
  obtain ⟨l, rfl, hl⟩ := rows_map encDir wfDir (fun r h => decDir (hr r h))
  exact ⟨l, h, by unfold maxLen at hm; simpa using hm, hl⟩
theorem szDir_ok (x : TDir) (n : Int) (h0 : 0 ≤ n ∧ n ≤ 1048576) (hw : wfDir x) : FnC Tryz.prog 55 [gDir x, oi n] (oi (szOut n (wDir x))) := by
 refine ent Tryz.func55 rfl Tryz.call55 rfl (fun C => ?_); simp only [go_sem, st0, Tryz.ntmps55]
 unfold wfDir at hw
 by_cases hc0 : n - (x.fName.size : Nat) < 0
 ·have e : szOut n (wDir x) = -1 := by rw [szOut_neg (by unfold wDir; omega)]
  have q0 := @hc0; refine w1_0 ?_
  exact retK_ret ⟨⟨_, rfl, by simp only [go_sem, e]⟩, trivial⟩
 by_cases hc1 : n - (x.fName.size : Nat) - (wNodeS x.fQuery : Nat) < 0
 ·have e : szOut n (wDir x) = -1 := by rw [szOut_neg (by unfold wDir; omega)]
  have q0 := @hc0; have q1 := szOut_neg hc1; have q2 := @hc1; refine w3_1 (szNodeS_ok x.fQuery (n - (x.fName.size : Nat)) (by omega) hw.2) ?_
  exact retK_ret ⟨⟨_, rfl, by simp only [go_sem, e]⟩, trivial⟩
 have e : szOut n (wDir x) = n - (x.fName.size : Nat) - (wNodeS x.fQuery : Nat) := by rw [szOut_pos (by unfold wDir; omega)]; unfold wDir; omega
 have q0 := @hc0; have q1 := szOut_pos hc1; have q2 := @hc1; refine w3_1 (szNodeS_ok x.fQuery (n - (x.fName.size : Nat)) (by omega) hw.2) ?_
 exact retK_ret ⟨⟨_, rfl, by simp only [go_sem, e]⟩, trivial⟩
theorem toDir_ok (x : TDir) (hx : wDir x ≤ 1048576) : FnC Tryz.prog 57 [gDir x] (rDir x) := by
 unfold wDir at hx
 refine ent Tryz.func57 rfl Tryz.call57 rfl (fun C => ?_); simp only [go_sem, st0, Tryz.ntmps57]
 refine w0_1 (toNodeS_ok x.fQuery (by omega)) ?_
 exact retK_ret ⟨⟨_, rfl, by simp only [go_sem]⟩, trivial⟩
theorem eqDir_ok (x : TDir) (hx : wDir x ≤ 67108864) : FnC Tryz.prog 59 [gDir x, gDir x] (ob true) := by
 unfold wDir at hx
 refine ent Tryz.func59 rfl Tryz.call59 rfl (fun C => ?_); simp only [go_sem, st0, Tryz.ntmps59]
 refine w0_1 (eqNodeS_ok x.fQuery (by omega)) ?_
 exact retK_ret ⟨⟨_, rfl, by simp only [go_sem]⟩, trivial⟩
theorem toDirS_ok (l : List TDir) (hl : wDirS l ≤ 1048576) : FnC Tryz.prog 20 [.o (.d (.sl (l.map encDir)))] (.o (.w 93 2 (l.map encDir))) := by
 unfold wDirS at hl
 refine ent Tryz.func20 rfl Tryz.call20 rfl (fun C => ?_); simp only [go_sem, st0, Tryz.ntmps20]
 refine w0_0 ?_
 refine WP_lp (α := Nat) (fun k => [(4, oi k)]) (fun k => [(0, .row 93 2 (fillR encDir [sv ⟨#[]⟩, .sl []] l k) true)]) (fun k => k ≤ l.length) (fun k => l.length - k) 0 (fun _ => ?_) ?_ ?_ (fun k hk => ?_)
 ·simp only [go_sem]
 ·simp only [go_sem]; simp [fillR_zero]
 ·simp
 ·simp only [go_sem]
  refine w0_0 ?_
  refine cnd rfl (fun h => ?_) (fun h => ?_)
  ·simp only [decide_eq_true_eq, Int.ofNat_lt] at h
   have hw := wsum_get wDir l h
   have q0 := @h; refine w1_1 (toDir_ok l[k] (by omega)) ?_
   refine L_next (k + 1) ?_ ?_ ?_
   ·simp only [go_sem]; simp [← fillR_set, h, encDir]
   ·omega
   ·omega
  ·simp only [decide_eq_false_iff_not] at h
   have e : k = l.length := by omega
   subst e
   refine w0_0 ?_
   exact retK_ret ⟨⟨_, rfl, by simp only [go_sem, fillR_all]⟩, trivial⟩
theorem eqDirS_ok (l : List TDir) (hl : wDirS l ≤ 67108864) : FnC Tryz.prog 26 [.o (.d (.sl (l.map encDir))), .o (.d (.sl (l.map encDir)))] (ob true) := by
 unfold wDirS at hl
 refine ent Tryz.func26 rfl Tryz.call26 rfl (fun C => ?_); simp only [go_sem, st0, Tryz.ntmps26]
 refine w0_0 ?_
 refine WP_lp (α := Nat) (fun k => [(5, oi k)]) (fun _ => []) (fun k => k ≤ l.length) (fun k => l.length - k) 0 (fun _ => ?_) ?_ ?_ (fun k hk => ?_)
 ·simp only [go_sem]
 ·simp only [go_sem]; simp
 ·simp
 ·simp only [go_sem]
  refine w0_0 ?_
  refine cnd rfl (fun h => ?_) (fun h => ?_)
  ·simp only [decide_eq_true_eq, Int.ofNat_lt] at h
   have hw := wsum_get wDir l h
   have q0 := @h; refine w1_1 (eqDir_ok l[k] (by omega)) ?_
   refine L_next (k + 1) ?_ ?_ ?_
   ·simp only [go_sem]; simp
   ·omega
   ·omega
  ·simp only [decide_eq_false_iff_not] at h
   refine w0_0 ?_
   exact retK_ret ⟨⟨_, rfl, by simp only [go_sem]⟩, trivial⟩
theorem szDirS_ok (l : List TDir) (n : Int) (h0 : 0 ≤ n ∧ n ≤ 1048576) (hw : wfDirS l) : FnC Tryz.prog 15 [.o (.d (.sl (l.map encDir))), oi n] (oi (szOut n (wDirS l))) := by
 unfold wfDirS at hw
 refine ent Tryz.func15 rfl Tryz.call15 rfl (fun C => ?_); simp only [go_sem, st0, Tryz.ntmps15]
 by_cases hc : n - (l.length : Nat) < 0
 ·have e : szOut n (wDirS l) = -1 := by rw [szOut_neg (by unfold wDirS; omega)]
  have q0 := @hc; refine w1_0 ?_
  exact retK_ret ⟨⟨_, rfl, by simp only [go_sem, e]⟩, trivial⟩
 have q0 := @hc; refine w1_0 ?_
 refine WP_lp (α := Nat) (fun k => [(5, oi k), (1, oi (n - (l.length : Nat) - (wsum wDir (l.take k) : Nat)))]) (fun _ => []) (fun k => k ≤ l.length ∧ 0 ≤ n - (l.length : Nat) - (wsum wDir (l.take k) : Nat)) (fun k => l.length - k) 0 (fun _ => ?_) ?_ ?_ (fun k hk => ?_)
 ·simp only [go_sem]
 ·simp only [go_sem]; simp [wsum]
 ·simp [wsum]; omega
 ·obtain ⟨hk, hn⟩ := hk
  simp only [go_sem]
  refine w0_0 ?_
  refine cnd rfl (fun h => ?_) (fun h => ?_)
  ·simp only [decide_eq_true_eq, Int.ofNat_lt] at h
   have hs := wsum_take wDir l h
   have ht := wsum_le wDir l (k + 1)
   by_cases h2 : n - (l.length : Nat) - (wsum wDir (l.take k) : Nat) - (wDir l[k] : Nat) < 0
   ·have e : szOut n (wDirS l) = -1 := by rw [szOut_neg (by unfold wDirS; omega)]
    have q0 := @h; have q1 := szOut_neg h2; refine w2_1 (szDir_ok l[k] _ ⟨hn, by omega⟩ (hw.2 _ (List.getElem_mem h))) ?_
    exact retK_ret ⟨⟨_, rfl, by simp only [go_sem, e]⟩, trivial⟩
   ·have q0 := @h; have q1 := szOut_pos h2; have q2 := @h2; refine w3_1 (szDir_ok l[k] _ ⟨hn, by omega⟩ (hw.2 _ (List.getElem_mem h))) ?_
    refine L_next (k + 1) ?_ ?_ ?_
    ·simp only [go_sem]; simp; omega
    ·omega
    ·omega
  ·simp only [decide_eq_false_iff_not] at h
   have e0 : k = l.length := by omega
   subst e0
   rw [List.take_length] at hn
   have e : szOut n (wDirS l) = n - (l.length : Nat) - (wsum wDir l : Nat) := by rw [szOut_pos (by unfold wDirS; omega)]; unfold wDirS; omega
   refine w0_0 ?_
   exact retK_ret ⟨⟨_, rfl, by simp only [go_sem, e, List.take_length]⟩, trivial⟩
end Go.Proofs.YtddimbdeggomaaaGreat
end
end
