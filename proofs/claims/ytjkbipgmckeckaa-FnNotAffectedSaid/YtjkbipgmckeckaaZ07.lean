/- Joined texts. -/
import Derived.Test.YtjkbipgmckeckaaZ06
set_option linter.all false
section
set_option maxRecDepth 100000
set_option maxHeartbeats 4000000
namespace Go.Proofs.Ytjkbipgmckeckaa
open Go Go.Sx Go.RowKit Go.Proofs
def low (s : ByteArray) (k : Nat) : Bool := inB (gH s k) 97 122
def iI (s : ByteArray) : Bool := (List.range s.size).all (low s)
def bC (s : ByteArray) (n : Int) : Bool := iI s && inB s.size 1 n
theorem wZ (s : ByteArray) (n : Int) (hs : s.size ≤ 4300000) : FnC Try.prog 109 [os s, oi n] (ob (bC s n)) := by
 refine ent Try.func109 rfl Try.call109 rfl (fun C => ?_); simp only [go_sem, st0, Try.ntmps109]
 refine aP ?_
 refine dD (α := Nat) (fun k => [(5, oi k)]) (fun _ => []) (fun k => k ≤ s.size ∧ iI s = ((List.range s.size).drop k).all (low s)) (fun k => s.size - k) 0 (fun _ => ?_) ?_ ?_ (fun k hk => ?_)
 ·simp only [go_sem]
 ·simp only [go_sem]; simp
 ·simp [iI]
 ·obtain ⟨hk, hq⟩ := hk
  simp only [go_sem]
  refine aP ?_
  refine cnd rfl (fun h => ?_) (fun h => ?_)
  ·simp only [decide_eq_true_eq, Int.ofNat_lt] at h
   have h' : k < (List.range s.size).length := by simpa using h
   have hd := List.drop_eq_getElem_cons h'
   rw [hd, List.all_cons, List.getElem_range] at hq
   have hb := zB s k
   by_cases h1 : gH s k < 97
   ·have hf : iI s = false := by rw [hq]; simp [low, inB]; omega
    have q0 := @h; have q1 := @h1; refine jR ?_
    exact aA ⟨⟨_, rfl, by simp only [go_sem, bC, hf, Bool.false_and]⟩, trivial⟩
   by_cases h2 : 122 < gH s k
   ·have hf : iI s = false := by rw [hq]; simp [low, inB]; omega
    have q0 := @h; have q1 := @h1; have q2 := @h2; have q3 := @decide_false; refine rX ?_
    exact aA ⟨⟨_, rfl, by simp only [go_sem, bC, hf, Bool.false_and]⟩, trivial⟩
   ·have q0 := @h; have q1 := @h1; have q2 := @h2; have q3 := @decide_false; refine rX ?_
    refine aR (k + 1) ?_ ?_ ?_
    ·simp only [go_sem]; simp
    ·refine ⟨h, ?_⟩
     have hl : low s k = true := by simp [low, inB]; omega
     rw [hq, hl]; simp
    ·omega
  ·simp only [decide_eq_false_iff_not] at h
   have e : k = s.size := by omega
   have hq' : iI s = true := by
    rw [hq, List.drop_of_length_le (by simp [e])]; rfl
   refine kY (lD s.size 1 n) ?_
   refine aA ⟨⟨_, rfl, ?_⟩, ?_⟩
   ·simp only [go_sem, bC, hq']
   ·trivial
theorem aJ (s : ByteArray) (hs : s.size ≤ 4300000) : FnC Try.prog 92 [os s] (ob (bC s 1)) := by
 refine ent Try.func92 rfl Try.call92 rfl (fun C => ?_); simp only [go_sem, st0, Try.ntmps92]
 refine kY (wZ s 1 hs) ?_
 refine aA ⟨⟨_, rfl, ?_⟩, ?_⟩
 ·simp only [go_sem]
 ·trivial
theorem a6M (s : ByteArray) : bC s 1 = (decide ((s.size : Int) = 1) && low s 0) := by
 unfold bC iI inB
 rcases Nat.lt_trichotomy s.size 1 with h | h | h
 ·have : s.size = 0 := by omega
  simp [this]
 ·simp [h, List.range_succ]
 ·have h1 : ¬ ((s.size : Int) ≤ 1) := by omega
  have h2 : ¬ ((s.size : Int) = 1) := by omega
  simp [h1, h2]
theorem aB (s : ByteArray) : FnC Try.prog 96 [os s] (ob (bC s 1)) := by
 rw [a6M]
 refine ent Try.func96 rfl Try.call96 rfl (fun C => ?_); simp only [go_sem, st0, Try.ntmps96]
 by_cases h0 : (s.size : Int) = 1
 ·have h0' : 0 < s.size := by omega
  by_cases h1 : 97 ≤ gH s 0 <;> by_cases h2 : gH s 0 ≤ 122
  all_goals
   have q0 := @h0; have q1 := @h0'; have q2 := @h1; have q3 := @h2; have q4 := @decide_false; have q5 := @Int.toNat_zero; have q6 := @Int.le_refl; refine a6E ?_
   refine aA ⟨⟨_, rfl, ?_⟩, ?_⟩
   ·simp only [go_sem]; simp [h0, h1, h2, low, inB]
   ·trivial
 ·have q0 := @h0; have q1 := @decide_false; refine jR ?_
  refine aA ⟨⟨_, rfl, ?_⟩, ?_⟩
  ·simp only [go_sem]; simp [h0]
  ·trivial
theorem bP (s : ByteArray) (hs : s.size ≤ 4300000) : FnC Try.prog 94 [os s] (ob (bC s 6)) := by
 refine ent Try.func94 rfl Try.call94 rfl (fun C => ?_); simp only [go_sem, st0, Try.ntmps94]
 refine kY (wZ s 6 hs) ?_
 exact aA ⟨⟨_, rfl, by simp only [go_sem]⟩, trivial⟩
theorem bD (s : ByteArray) (hs : s.size ≤ 4300000) : FnC Try.prog 98 [os s] (ob (bC s 6)) := by
 refine ent Try.func98 rfl Try.call98 rfl (fun C => ?_); simp only [go_sem, st0, Try.ntmps98]
 refine aP ?_
 refine dD (α := Nat) (fun k => [(6, oi k)]) (fun _ => []) (fun k => k ≤ s.size ∧ iI s = ((List.range s.size).drop k).all (low s)) (fun k => s.size - k) 0 (fun _ => ?_) ?_ ?_ (fun k hk => ?_)
 ·simp only [go_sem]
 ·simp only [go_sem]; simp
 ·simp [iI]
 ·obtain ⟨hk, hq⟩ := hk
  simp only [go_sem]
  refine aP ?_
  refine cnd rfl (fun h => ?_) (fun h => ?_)
  ·simp only [decide_eq_true_eq, Int.ofNat_lt] at h
   have h' : k < (List.range s.size).length := by simpa using h
   have hd := List.drop_eq_getElem_cons h'
   rw [hd, List.all_cons, List.getElem_range] at hq
   have hb := zB s k
   by_cases h1 : gH s k < 97
   ·have hf : iI s = false := by rw [hq]; simp [low, inB]; omega
    have q0 := @h; have q1 := @h1; refine jR ?_
    exact aA ⟨⟨_, rfl, by simp only [go_sem, bC, hf, Bool.false_and]⟩, trivial⟩
   by_cases h2 : 122 < gH s k
   ·have hf : iI s = false := by rw [hq]; simp [low, inB]; omega
    have q0 := @h; have q1 := @h1; have q2 := @h2; have q3 := @decide_false; refine rX ?_
    exact aA ⟨⟨_, rfl, by simp only [go_sem, bC, hf, Bool.false_and]⟩, trivial⟩
   ·have q0 := @h; have q1 := @h1; have q2 := @h2; have q3 := @decide_false; refine rX ?_
    refine aR (k + 1) ?_ ?_ ?_
    ·simp only [go_sem]; simp
    ·refine ⟨h, ?_⟩
     have hl : low s k = true := by simp [low, inB]; omega
     rw [hq, hl]; simp
    ·omega
  ·simp only [decide_eq_false_iff_not] at h
   have e : k = s.size := by omega
   have hq' : iI s = true := by
    rw [hq, List.drop_of_length_le (by simp [e])]; rfl
   refine kY (aG s.size 1 6) ?_
   refine aA ⟨⟨_, rfl, ?_⟩, ?_⟩
   ·simp only [go_sem, bC, hq']
   ·trivial
def dY (v : TValue) : Bool :=
 if v.fKind = 0 then decide (v.fInt = 0) && decide (v.fStr = ⟨#[]⟩)
 else if v.fKind = 1 then inB v.fInt 0 999 && decide (v.fStr = ⟨#[]⟩)
 else if v.fKind = 2 then bC v.fStr 6 && decide (v.fInt = 0) else false
theorem aC (v : TValue) (hs : v.fStr.size ≤ 4300000) : FnC Try.prog 97 [mI v] (ob (dY v)) := by
 refine ent Try.func97 rfl Try.call97 rfl (fun C => ?_); simp only [go_sem, st0, Try.ntmps97]
 by_cases h0 : v.fKind = 0
 ·have q0 := @h0; have q1 := @decide_true; refine jR ?_
  exact aA ⟨⟨_, rfl, by simp only [go_sem, dY, h0, if_true, decide_true, Bool.true_and]⟩, trivial⟩
 by_cases h1 : v.fKind = 1
 ·cases hb : inB v.fInt 0 999
  ·have q0 := @h0; have q1 := @h1; have q2 := @decide_true; have q3 := @decide_false; have q4 := @hb; refine a2D (aG v.fInt 0 999) ?_
   exact aA ⟨⟨_, rfl, by simp only [go_sem, dY, h0, h1, hb, if_true, if_false, Bool.false_and]⟩, trivial⟩
  ·have q0 := @h0; have q1 := @h1; have q2 := @decide_true; have q3 := @decide_false; have q4 := @hb; refine a2D (aG v.fInt 0 999) ?_
   exact aA ⟨⟨_, rfl, by simp only [go_sem, dY, h0, h1, hb, if_true, if_false, Bool.true_and]⟩, trivial⟩
 by_cases h2 : v.fKind = 2
 ·cases hb : bC v.fStr 6
  ·have q0 := @h0; have q1 := @h1; have q2 := @h2; have q3 := @decide_true; have q4 := @decide_false; have q5 := @hb; refine a1A (bD v.fStr hs) ?_
   exact aA ⟨⟨_, rfl, by simp only [go_sem, dY, h0, h1, h2, hb, if_true, if_false, Bool.false_and]⟩, trivial⟩
  ·have q0 := @h0; have q1 := @h1; have q2 := @h2; have q3 := @decide_true; have q4 := @decide_false; have q5 := @hb; refine a1A (bD v.fStr hs) ?_
   exact aA ⟨⟨_, rfl, by simp only [go_sem, dY, h0, h1, h2, hb, if_true, if_false, Bool.true_and]⟩, trivial⟩
 ·have q0 := @h0; have q1 := @h1; have q2 := @h2; have q3 := @decide_false; refine rX ?_
  exact aA ⟨⟨_, rfl, by simp only [go_sem, dY, h0, h1, h2, if_false]⟩, trivial⟩
theorem aU (v : TValue) (hs : v.fStr.size ≤ 4300000) : FnC Try.prog 93 [mI v] (ob (dY v)) := by
 refine ent Try.func93 rfl Try.call93 rfl (fun C => ?_); simp only [go_sem, st0, Try.ntmps93]
 by_cases h0 : v.fKind = 0
 ·have q0 := @h0; have q1 := @decide_true; refine jR ?_
  exact aA ⟨⟨_, rfl, by simp only [go_sem, dY, h0, if_true, decide_true, Bool.true_and]⟩, trivial⟩
 by_cases h1 : v.fKind = 1
 ·cases hb : inB v.fInt 0 999
  ·have q0 := @h0; have q1 := @h1; have q2 := @decide_true; have q3 := @decide_false; have q4 := @hb; refine a2D (lD v.fInt 0 999) ?_
   exact aA ⟨⟨_, rfl, by simp only [go_sem, dY, h0, h1, hb, if_true, if_false, Bool.false_and]⟩, trivial⟩
  ·have q0 := @h0; have q1 := @h1; have q2 := @decide_true; have q3 := @decide_false; have q4 := @hb; refine a2D (lD v.fInt 0 999) ?_
   exact aA ⟨⟨_, rfl, by simp only [go_sem, dY, h0, h1, hb, if_true, if_false, Bool.true_and]⟩, trivial⟩
 by_cases h2 : v.fKind = 2
 ·cases hb : bC v.fStr 6
  ·have q0 := @h0; have q1 := @h1; have q2 := @h2; have q3 := @decide_true; have q4 := @decide_false; have q5 := @hb; refine a1A (bP v.fStr hs) ?_
   exact aA ⟨⟨_, rfl, by simp only [go_sem, dY, h0, h1, h2, hb, if_true, if_false, Bool.false_and]⟩, trivial⟩
  ·have q0 := @h0; have q1 := @h1; have q2 := @h2; have q3 := @decide_true; have q4 := @decide_false; have q5 := @hb; refine a1A (bP v.fStr hs) ?_
   exact aA ⟨⟨_, rfl, by simp only [go_sem, dY, h0, h1, h2, hb, if_true, if_false, Bool.true_and]⟩, trivial⟩
 ·have q0 := @h0; have q1 := @h1; have q2 := @h2; have q3 := @decide_false; refine rX ?_
  exact aA ⟨⟨_, rfl, by simp only [go_sem, dY, h0, h1, h2, if_false]⟩, trivial⟩
theorem bT : (∀ b : Bool, (b && true) = b) ∧ (∀ b : Bool, (b && false) = false) ∧ (∀ b : Bool, (true && b) = b) ∧ (∀ b : Bool, (false && b) = false) ∧ (!true) = false ∧ (!false) = true := ⟨Bool.and_true, Bool.and_false, Bool.true_and, Bool.false_and, rfl, rfl⟩
def two (n : TNode) : Bool := decide (n.fOp = 6) || decide (n.fOp = 7)
def a5v (n : TNode) (i : Int) : Nat := (if (two n || decide (n.fOp = 5)) && decide (n.fLeft = i) then 1 else 0) + (if two n && decide (n.fRight = i) then 1 else 0)
def refs (q : List TNode) (i : Int) : Nat := match q with
 | [] => 0
 | n :: q => a5v n i + refs q i
theorem a5w (q r : List TNode) (i : Int) : refs (q ++ r) i = refs q i + refs r i := by
 induction q with
 | nil => simp [refs]
 | cons n q ih => simp only [List.cons_append, refs, ih]; omega
theorem zO (q : List TNode) (i : Int) (k : Nat) (h : k < q.length) : refs (q.take (k + 1)) i = refs (q.take k) i + a5v q[k] i := by
 rw [List.take_succ_eq_append_getElem h, a5w]; simp [refs]
theorem a3p (q : List TNode) (i : Int) : refs q i ≤ 2 * q.length := by
 induction q with
 | nil => simp [refs]
 | cons n q ih => simp only [refs, List.length_cons]; unfold a5v; split <;> split <;> omega
theorem mJ (q : List TNode) (i : Int) (hl : q.length ≤ 4300000) : FnC Try.prog 69 [.o (.d (.sl (q.map bQ))), oi i] (oi (refs q i)) := by
 refine ent Try.func69 rfl Try.call69 rfl (fun C => ?_); simp only [go_sem, st0, Try.ntmps69]
 refine aP ?_
 refine dD (α := Nat) (fun k => [(5, oi (refs (q.take k) i)), (11, oi k)]) (fun _ => []) (fun k => k ≤ q.length) (fun k => q.length - k) 0 (fun _ => ?_) ?_ ?_ (fun k hk => ?_)
 ·simp only [go_sem]
 ·simp only [go_sem]; simp [refs]
 ·simp
 ·simp only [go_sem]
  refine aP ?_
  refine cnd rfl (fun h1 => ?_) (fun h1 => ?_)
  ·simp only [decide_eq_true_eq, Int.ofNat_lt] at h1
   have ht := zO q i k h1
   have hle := a3p (q.take k) i
   simp only [List.length_take] at hle
   by_cases c6 : q[k].fOp = 6 <;> by_cases c7 : q[k].fOp = 7 <;> by_cases c5 : q[k].fOp = 5 <;> by_cases cl : q[k].fLeft = i <;> by_cases cr : q[k].fRight = i
   all_goals (try omega)
   all_goals
    simp only [a5v, two, c5, c6, c7, cl, cr, decide_true, decide_false, Bool.true_or, Bool.or_true, Bool.false_or, Bool.or_false, Bool.and_true, Bool.and_false, Bool.true_and, Bool.false_and, if_true, if_false, Bool.false_eq_true] at ht
    have d5 : decide (q[k].fOp = 5) = decide (q[k].fOp = 5) := rfl
    have q0 := @h1; have q1 := @c5; have q2 := @c6; have q3 := @c7; have q4 := @cl; have q5 := @cr; have q6 := @decide_true; have q7 := @decide_false; refine a2E ?_
    refine aR (k + 1) ?_ ?_ ?_
    ·simp only [go_sem, ht]; simp <;> omega
    ·omega
    ·omega
  ·simp only [decide_eq_false_iff_not] at h1
   have e : k = q.length := by omega
   subst e
   rw [List.take_length]
   refine aP ?_
   exact aA ⟨⟨_, rfl, by simp only [go_sem, List.take_length]⟩, trivial⟩
theorem mK (q : List TNode) (i : Int) (hl : q.length ≤ 4300000) : FnC Try.prog 61 [.o (.d (.sl (q.map bQ))), oi i] (oi (refs q i)) := by
 refine ent Try.func61 rfl Try.call61 rfl (fun C => ?_); simp only [go_sem, st0, Try.ntmps61]
 refine aP ?_
 refine dD (α := Nat) (fun k => [(5, oi (refs (q.take k) i)), (6, oi k)]) (fun _ => []) (fun k => k ≤ q.length) (fun k => q.length - k) 0 (fun _ => ?_) ?_ ?_ (fun k hk => ?_)
 ·simp only [go_sem]
 ·simp only [go_sem]; simp [refs]
 ·simp
 ·simp only [go_sem]
  refine aP ?_
  refine cnd rfl (fun h1 => ?_) (fun h1 => ?_)
  ·simp only [decide_eq_true_eq, Int.ofNat_lt] at h1
   have ht := zO q i k h1
   have hle := a3p (q.take k) i
   simp only [List.length_take] at hle
   by_cases c6 : q[k].fOp = 6 <;> by_cases c7 : q[k].fOp = 7 <;> by_cases c5 : q[k].fOp = 5 <;> by_cases cl : q[k].fLeft = i <;> by_cases cr : q[k].fRight = i
   all_goals (try omega)
   all_goals
    simp only [a5v, two, c5, c6, c7, cl, cr, decide_true, decide_false, Bool.true_or, Bool.or_true, Bool.false_or, Bool.or_false, Bool.and_true, Bool.and_false, Bool.true_and, Bool.false_and, if_true, if_false, Bool.false_eq_true] at ht
    have d5 : decide (q[k].fOp = 5) = decide (q[k].fOp = 5) := rfl
    have q0 := @h1; have q1 := @c5; have q2 := @c6; have q3 := @c7; have q4 := @cl; have q5 := @cr; have q6 := @decide_true; have q7 := @decide_false; refine a2E ?_
    refine aR (k + 1) ?_ ?_ ?_
    ·simp only [go_sem, ht]; simp <;> omega
    ·omega
    ·omega
  ·simp only [decide_eq_false_iff_not] at h1
   have e : k = q.length := by omega
   subst e
   rw [List.take_length]
   refine aP ?_
   exact aA ⟨⟨_, rfl, by simp only [go_sem, List.take_length]⟩, trivial⟩
def eV (v : TValue) : Bool := decide (v.fKind = 0) && (decide (v.fInt = 0) && decide (v.fStr = ⟨#[]⟩))
def nD (n : TNode) (i : Nat) : Bool := inB n.fLeft 0 ((i : Int) - 1) && decide (0 < (i : Int))
def wY (n : TNode) (i : Nat) : Bool := inB n.fRight 0 ((i : Int) - 1)
def eY (n : TNode) : Bool := decide (n.fLeft = 0) && decide (n.fRight = 0)
def iH (n : TNode) : Bool := decide (n.fName = ⟨#[]⟩) && eV n.fValue
def aQ (n : TNode) (i : Nat) : Bool :=
 if n.fOp = 1 then eY n && iH n
 else if n.fOp = 2 then bC n.fName 1 && (eY n && eV n.fValue)
 else if n.fOp = 3 then bC n.fName 1 && (dY n.fValue && (!decide (n.fValue.fKind = 0) && eY n))
 else if n.fOp = 4 then bC n.fName 1 && (dY n.fValue && (decide (n.fValue.fKind = 1) && eY n))
 else if n.fOp = 5 then nD n i && (decide (n.fRight = 0) && iH n)
 else if n.fOp = 6 ∨ n.fOp = 7 then nD n i && (wY n i && iH n)
 else if n.fOp = 8 ∨ n.fOp = 9 then bC n.fName 6 && (eY n && eV n.fValue)
 else false
def yF (q : List TNode) (i : Nat) : Bool := match q[i]? with
 | none => true
 | some n => aQ n i && (decide (q.length ≤ i + 1) || decide (refs q i = 1))
def okQ (q : List TNode) : Bool := (List.range q.length).all (yF q) && inB (q.length : Int) 1 9
theorem a0H {q : List TNode} (h : okQ q = true) {i : Nat} {n : TNode} (hi : q[i]? = some n) : aQ n i = true := by
 unfold okQ at h
 simp only [Bool.and_eq_true, List.all_eq_true, List.mem_range] at h
 have hl : i < q.length := by
  rcases Nat.lt_or_ge i q.length with hl | hl
  ·exact hl
  ·rw [List.getElem?_eq_none hl] at hi; cases hi
 have := h.1 i hl
 unfold yF at this
 rw [hi] at this
 simp only [Bool.and_eq_true] at this
 exact this.1
theorem sD {q : List TNode} (h : okQ q = true) : 1 ≤ q.length ∧ q.length ≤ 9 := by
 unfold okQ inB at h
 simp only [Bool.and_eq_true, decide_eq_true_eq] at h
 omega
theorem tN {s : ByteArray} {n : Int} (h : bC s n = true) : (s.size : Int) ≤ n := by
 unfold bC inB at h
 simp only [Bool.and_eq_true, decide_eq_true_eq] at h
 omega
theorem a5u {v : TValue} (h : dY v = true) : v.fStr.size ≤ 6 := by
 unfold dY at h
 have e0 : (⟨#[]⟩ : ByteArray).size = 0 := rfl
 split at h
 ·simp only [Bool.and_eq_true, decide_eq_true_eq] at h; rw [h.2]; omega
 split at h
 ·simp only [Bool.and_eq_true, decide_eq_true_eq] at h; rw [h.2]; omega
 split at h
 ·simp only [Bool.and_eq_true, decide_eq_true_eq] at h; have := tN h.1; omega
 ·cases h
theorem dX {n : TNode} {i : Nat} (h : aQ n i = true) (ho : n.fOp = 5 ∨ n.fOp = 6 ∨ n.fOp = 7) : ∃ l : Nat, n.fLeft = (l : Int) ∧ l < i := by
 have hk : nD n i = true := by
  unfold aQ at h
  rcases ho with ho | ho | ho <;> simp [ho] at h <;> exact h.1
 unfold nD inB at hk
 simp only [Bool.and_eq_true, decide_eq_true_eq] at hk
 exact ⟨n.fLeft.toNat, by omega, by omega⟩
theorem gL {n : TNode} {i : Nat} (h : aQ n i = true) (ho : n.fOp = 6 ∨ n.fOp = 7) : ∃ l : Nat, n.fRight = (l : Int) ∧ l < i := by
 have hk : wY n i = true ∧ nD n i = true := by
  unfold aQ at h
  rcases ho with ho | ho <;> simp [ho] at h <;> exact ⟨h.2.1, h.1⟩
 unfold nD wY inB at hk
 simp only [Bool.and_eq_true, decide_eq_true_eq] at hk
 exact ⟨n.fRight.toNat, by omega, by omega⟩
theorem tO {n : TNode} {i : Nat} (h : aQ n i = true) : n.fOp = 1 ∨ n.fOp = 2 ∨ n.fOp = 3 ∨ n.fOp = 4 ∨ n.fOp = 5 ∨ n.fOp = 6 ∨ n.fOp = 7 ∨ n.fOp = 8 ∨ n.fOp = 9 := by
 unfold aQ at h
 repeat' split at h
 all_goals first | omega | cases h
theorem a1E {n : TNode} {i : Nat} (h : aQ n i = true) (ho : n.fOp = 2 ∨ n.fOp = 3) : n.fName.size ≤ 1 ∧ (n.fOp = 3 → n.fValue.fStr.size ≤ 6) := by
 unfold aQ at h
 rcases ho with ho | ho
 ·simp [ho] at h
  have := tN h.1
  exact ⟨by omega, fun e => by omega⟩
 ·simp [ho] at h
  have h1 := tN h.1
  have h2 := a5u h.2.1
  exact ⟨by omega, fun _ => h2⟩
theorem eB (n : TNode) (i : Nat) (hi : i ≤ 4300000) (hs : n.fValue.fStr.size ≤ 4300000) (hn : n.fName.size ≤ 4300000) : FnC Try.prog 68 [zN n, oi i] (ob (aQ n i)) := by
 refine ent Try.func68 rfl Try.call68 rfl (fun C => ?_); simp only [go_sem, st0, Try.ntmps68]
 by_cases h1 : n.fOp = 1
 ·cases hz : (decide (n.fLeft = 0) && (decide (n.fRight = 0) && (decide (n.fName = ⟨#[]⟩) && (decide (n.fValue.fKind = 0) && (decide (n.fValue.fInt = 0) && decide (n.fValue.fStr = ⟨#[]⟩))))))
  all_goals
   have hr : aQ n i = (decide (n.fLeft = 0) && (decide (n.fRight = 0) && (decide (n.fName = ⟨#[]⟩) && (decide (n.fValue.fKind = 0) && (decide (n.fValue.fInt = 0) && decide (n.fValue.fStr = ⟨#[]⟩)))))) := by simp [aQ, h1, eY, iH, eV, Bool.and_assoc]
   rw [hz] at hr
   have q0 := @h1; have q1 := @decide_true; have q2 := @hz; refine a0B ?_
   exact aA ⟨⟨_, rfl, by simp only [go_sem, hr]⟩, trivial⟩
 by_cases h2 : n.fOp = 2
 ·cases hz : (decide (n.fLeft = 0) && (decide (n.fRight = 0) && (decide (n.fValue.fKind = 0) && (decide (n.fValue.fInt = 0) && decide (n.fValue.fStr = ⟨#[]⟩))))) <;> cases ht : bC n.fName 1
  all_goals
   have hr : aQ n i = (bC n.fName 1 && (decide (n.fLeft = 0) && (decide (n.fRight = 0) && (decide (n.fValue.fKind = 0) && (decide (n.fValue.fInt = 0) && decide (n.fValue.fStr = ⟨#[]⟩)))))) := by simp [aQ, h2, eY, iH, eV, Bool.and_assoc]
   rw [hz, ht] at hr
   have q0 := @h1; have q1 := @h2; have q2 := @decide_true; have q3 := @decide_false; have q4 := @hz; have q5 := @ht; refine a1A (aB n.fName) ?_
   exact aA ⟨⟨_, rfl, by simp only [go_sem, hr, Bool.and_true, Bool.and_false]⟩, trivial⟩
 by_cases h3 : n.fOp = 3
 ·have hr : aQ n i = (bC n.fName 1 && (dY n.fValue && (!decide (n.fValue.fKind = 0) && (decide (n.fLeft = 0) && decide (n.fRight = 0))))) := by simp [aQ, h3, eY]
  have qH := aI @h1 (aI @h2 (aI @h3 (aI @decide_true @decide_false))); repeat' (with_reducible first | refine nY ?_ | (refine mX ?_; try simp only [go_sem, qH]) | refine kD ?_ | refine rT [5, 7] [] ?_ | refine bU (aX ?_) (uX ?_) | refine dI (aX ?_) ?_ | (refine uA ?_; simp only [go_sem, qH]; (repeat' first | omega | refine And.intro ?_ ?_ | refine cP (aB n.fName) ?_ | refine cP (aC n.fValue hs) ?_ | (refine mX ?_; simp only [go_sem, qH] <;> fail)); done) | refine cP (aB n.fName) ?_ | refine cP (aC n.fValue hs) ?_ | refine aO ?_ | fail)
  cases hz : (decide (n.fLeft = 0) && decide (n.fRight = 0))
  ·rw [hz] at hr
   simp only [go_sem, hz]
   have qH := aI @h1 (aI @h2 (aI @h3 (aI @decide_true (aI @decide_false @hz)))); repeat' (with_reducible first | refine nY ?_ | (refine mX ?_; try simp only [go_sem, qH]) | refine kD ?_ | refine rT [5, 7] [] ?_ | refine bU (aX ?_) (uX ?_) | refine dI (aX ?_) ?_ | (refine uA ?_; simp only [go_sem, qH]; (repeat' first | omega | refine And.intro ?_ ?_ | refine cP (aB n.fName) ?_ | refine cP (aC n.fValue hs) ?_ | (refine mX ?_; simp only [go_sem, qH] <;> fail)); done) | refine cP (aB n.fName) ?_ | refine cP (aC n.fValue hs) ?_ | refine aO ?_ | fail)
   exact aA ⟨⟨_, rfl, by simp only [go_sem, hr, bT]⟩, trivial⟩
  rw [hz] at hr
  simp only [go_sem, hz]
  have qH := aI @h1 (aI @h2 (aI @h3 (aI @decide_true (aI @decide_false @hz)))); repeat' (with_reducible first | refine nY ?_ | (refine mX ?_; try simp only [go_sem, qH]) | refine kD ?_ | refine rT [5, 7] [] ?_ | refine bU (aX ?_) (uX ?_) | refine dI (aX ?_) ?_ | (refine uA ?_; simp only [go_sem, qH]; (repeat' first | omega | refine And.intro ?_ ?_ | refine cP (aB n.fName) ?_ | refine cP (aC n.fValue hs) ?_ | (refine mX ?_; simp only [go_sem, qH] <;> fail)); done) | refine cP (aB n.fName) ?_ | refine cP (aC n.fValue hs) ?_ | refine aO ?_ | fail)
  cases ht : bC n.fName 1
  ·rw [ht] at hr
   simp only [go_sem, ht]
   have qH := aI @h1 (aI @h2 (aI @h3 (aI @decide_true (aI @decide_false (aI @hz @ht))))); repeat' (with_reducible first | refine nY ?_ | (refine mX ?_; try simp only [go_sem, qH]) | refine kD ?_ | refine rT [5, 7] [] ?_ | refine bU (aX ?_) (uX ?_) | refine dI (aX ?_) ?_ | (refine uA ?_; simp only [go_sem, qH]; (repeat' first | omega | refine And.intro ?_ ?_ | refine cP (aB n.fName) ?_ | refine cP (aC n.fValue hs) ?_ | (refine mX ?_; simp only [go_sem, qH] <;> fail)); done) | refine cP (aB n.fName) ?_ | refine cP (aC n.fValue hs) ?_ | refine aO ?_ | fail)
   exact aA ⟨⟨_, rfl, by simp only [go_sem, hr, bT]⟩, trivial⟩
  rw [ht] at hr
  simp only [go_sem, ht]
  have qH := aI @h1 (aI @h2 (aI @h3 (aI @decide_true (aI @decide_false (aI @hz @ht))))); repeat' (with_reducible first | refine nY ?_ | (refine mX ?_; try simp only [go_sem, qH]) | refine kD ?_ | refine rT [5, 7] [] ?_ | refine bU (aX ?_) (uX ?_) | refine dI (aX ?_) ?_ | (refine uA ?_; simp only [go_sem, qH]; (repeat' first | omega | refine And.intro ?_ ?_ | refine cP (aB n.fName) ?_ | refine cP (aC n.fValue hs) ?_ | (refine mX ?_; simp only [go_sem, qH] <;> fail)); done) | refine cP (aB n.fName) ?_ | refine cP (aC n.fValue hs) ?_ | refine aO ?_ | fail)
  cases hv : dY n.fValue
  ·rw [hv] at hr
   simp only [go_sem, hv]
   have qH := aI @h1 (aI @h2 (aI @h3 (aI @decide_true (aI @decide_false (aI @hz (aI @ht @hv)))))); repeat' (with_reducible first | refine nY ?_ | (refine mX ?_; try simp only [go_sem, qH]) | refine kD ?_ | refine rT [5, 7] [] ?_ | refine bU (aX ?_) (uX ?_) | refine dI (aX ?_) ?_ | (refine uA ?_; simp only [go_sem, qH]; (repeat' first | omega | refine And.intro ?_ ?_ | refine cP (aB n.fName) ?_ | refine cP (aC n.fValue hs) ?_ | (refine mX ?_; simp only [go_sem, qH] <;> fail)); done) | refine cP (aB n.fName) ?_ | refine cP (aC n.fValue hs) ?_ | refine aO ?_ | fail)
   exact aA ⟨⟨_, rfl, by simp only [go_sem, hr, bT]⟩, trivial⟩
  rw [hv] at hr
  simp only [go_sem, hv]
  have qH := aI @h1 (aI @h2 (aI @h3 (aI @decide_true (aI @decide_false (aI @hz (aI @ht @hv)))))); repeat' (with_reducible first | refine nY ?_ | (refine mX ?_; try simp only [go_sem, qH]) | refine kD ?_ | refine rT [5, 7] [] ?_ | refine bU (aX ?_) (uX ?_) | refine dI (aX ?_) ?_ | (refine uA ?_; simp only [go_sem, qH]; (repeat' first | omega | refine And.intro ?_ ?_ | refine cP (aB n.fName) ?_ | refine cP (aC n.fValue hs) ?_ | (refine mX ?_; simp only [go_sem, qH] <;> fail)); done) | refine cP (aB n.fName) ?_ | refine cP (aC n.fValue hs) ?_ | refine aO ?_ | fail)
  by_cases hk : n.fValue.fKind = 0
  ·simp only [hk, decide_true] at hr
   simp only [go_sem, hk, decide_true]
   have qH := aI @h1 (aI @h2 (aI @h3 (aI @decide_true (aI @decide_false (aI @hz (aI @ht (aI @hv @hk))))))); repeat' (with_reducible first | refine nY ?_ | (refine mX ?_; try simp only [go_sem, qH]) | refine kD ?_ | refine rT [5, 7] [] ?_ | refine bU (aX ?_) (uX ?_) | refine dI (aX ?_) ?_ | (refine uA ?_; simp only [go_sem, qH]; (repeat' first | omega | refine And.intro ?_ ?_ | refine cP (aB n.fName) ?_ | refine cP (aC n.fValue hs) ?_ | (refine mX ?_; simp only [go_sem, qH] <;> fail)); done) | refine cP (aB n.fName) ?_ | refine cP (aC n.fValue hs) ?_ | refine aO ?_ | fail)
   exact aA ⟨⟨_, rfl, by simp only [go_sem, hr, bT]⟩, trivial⟩
  simp only [hk, decide_false] at hr
  simp only [go_sem, hk, decide_false]
  have qH := aI @h1 (aI @h2 (aI @h3 (aI @decide_true (aI @decide_false (aI @hz (aI @ht (aI @hv @hk))))))); repeat' (with_reducible first | refine nY ?_ | (refine mX ?_; try simp only [go_sem, qH]) | refine kD ?_ | refine rT [5, 7] [] ?_ | refine bU (aX ?_) (uX ?_) | refine dI (aX ?_) ?_ | (refine uA ?_; simp only [go_sem, qH]; (repeat' first | omega | refine And.intro ?_ ?_ | refine cP (aB n.fName) ?_ | refine cP (aC n.fValue hs) ?_ | (refine mX ?_; simp only [go_sem, qH] <;> fail)); done) | refine cP (aB n.fName) ?_ | refine cP (aC n.fValue hs) ?_ | refine aO ?_ | fail)
  exact aA ⟨⟨_, rfl, by simp only [go_sem, hr, bT]⟩, trivial⟩
 by_cases h4 : n.fOp = 4
 ·have hr : aQ n i = (bC n.fName 1 && (dY n.fValue && (!decide (n.fValue.fKind = 0) && (decide (n.fValue.fKind = 1) && (decide (n.fLeft = 0) && decide (n.fRight = 0)))))) := by
   simp only [aQ, h4, eY]
   by_cases hk : n.fValue.fKind = 1 <;> simp [hk]
  have qH := aI @h1 (aI @h2 (aI @h3 (aI @h4 (aI @decide_true @decide_false)))); repeat' (with_reducible first | refine nY ?_ | (refine mX ?_; try simp only [go_sem, qH]) | refine kD ?_ | refine rT [5, 7] [] ?_ | refine bU (aX ?_) (uX ?_) | refine dI (aX ?_) ?_ | (refine uA ?_; simp only [go_sem, qH]; (repeat' first | omega | refine And.intro ?_ ?_ | refine cP (aB n.fName) ?_ | refine cP (aC n.fValue hs) ?_ | (refine mX ?_; simp only [go_sem, qH] <;> fail)); done) | refine cP (aB n.fName) ?_ | refine cP (aC n.fValue hs) ?_ | refine aO ?_ | fail)
  cases hz : (decide (n.fLeft = 0) && decide (n.fRight = 0))
  ·rw [hz] at hr
   simp only [go_sem, hz]
   have qH := aI @h1 (aI @h2 (aI @h3 (aI @h4 (aI @decide_true (aI @decide_false @hz))))); repeat' (with_reducible first | refine nY ?_ | (refine mX ?_; try simp only [go_sem, qH]) | refine kD ?_ | refine rT [5, 7] [] ?_ | refine bU (aX ?_) (uX ?_) | refine dI (aX ?_) ?_ | (refine uA ?_; simp only [go_sem, qH]; (repeat' first | omega | refine And.intro ?_ ?_ | refine cP (aB n.fName) ?_ | refine cP (aC n.fValue hs) ?_ | (refine mX ?_; simp only [go_sem, qH] <;> fail)); done) | refine cP (aB n.fName) ?_ | refine cP (aC n.fValue hs) ?_ | refine aO ?_ | fail)
   exact aA ⟨⟨_, rfl, by simp only [go_sem, hr, bT]⟩, trivial⟩
  rw [hz] at hr
  simp only [go_sem, hz]
  have qH := aI @h1 (aI @h2 (aI @h3 (aI @h4 (aI @decide_true (aI @decide_false @hz))))); repeat' (with_reducible first | refine nY ?_ | (refine mX ?_; try simp only [go_sem, qH]) | refine kD ?_ | refine rT [5, 7] [] ?_ | refine bU (aX ?_) (uX ?_) | refine dI (aX ?_) ?_ | (refine uA ?_; simp only [go_sem, qH]; (repeat' first | omega | refine And.intro ?_ ?_ | refine cP (aB n.fName) ?_ | refine cP (aC n.fValue hs) ?_ | (refine mX ?_; simp only [go_sem, qH] <;> fail)); done) | refine cP (aB n.fName) ?_ | refine cP (aC n.fValue hs) ?_ | refine aO ?_ | fail)
  cases ht : bC n.fName 1
  ·rw [ht] at hr
   simp only [go_sem, ht]
   have qH := aI @h1 (aI @h2 (aI @h3 (aI @h4 (aI @decide_true (aI @decide_false (aI @hz @ht)))))); repeat' (with_reducible first | refine nY ?_ | (refine mX ?_; try simp only [go_sem, qH]) | refine kD ?_ | refine rT [5, 7] [] ?_ | refine bU (aX ?_) (uX ?_) | refine dI (aX ?_) ?_ | (refine uA ?_; simp only [go_sem, qH]; (repeat' first | omega | refine And.intro ?_ ?_ | refine cP (aB n.fName) ?_ | refine cP (aC n.fValue hs) ?_ | (refine mX ?_; simp only [go_sem, qH] <;> fail)); done) | refine cP (aB n.fName) ?_ | refine cP (aC n.fValue hs) ?_ | refine aO ?_ | fail)
   exact aA ⟨⟨_, rfl, by simp only [go_sem, hr, bT]⟩, trivial⟩
  rw [ht] at hr
  simp only [go_sem, ht]
  have qH := aI @h1 (aI @h2 (aI @h3 (aI @h4 (aI @decide_true (aI @decide_false (aI @hz @ht)))))); repeat' (with_reducible first | refine nY ?_ | (refine mX ?_; try simp only [go_sem, qH]) | refine kD ?_ | refine rT [5, 7] [] ?_ | refine bU (aX ?_) (uX ?_) | refine dI (aX ?_) ?_ | (refine uA ?_; simp only [go_sem, qH]; (repeat' first | omega | refine And.intro ?_ ?_ | refine cP (aB n.fName) ?_ | refine cP (aC n.fValue hs) ?_ | (refine mX ?_; simp only [go_sem, qH] <;> fail)); done) | refine cP (aB n.fName) ?_ | refine cP (aC n.fValue hs) ?_ | refine aO ?_ | fail)
  cases hv : dY n.fValue
  ·rw [hv] at hr
   simp only [go_sem, hv]
   have qH := aI @h1 (aI @h2 (aI @h3 (aI @h4 (aI @decide_true (aI @decide_false (aI @hz (aI @ht @hv))))))); repeat' (with_reducible first | refine nY ?_ | (refine mX ?_; try simp only [go_sem, qH]) | refine kD ?_ | refine rT [5, 7] [] ?_ | refine bU (aX ?_) (uX ?_) | refine dI (aX ?_) ?_ | (refine uA ?_; simp only [go_sem, qH]; (repeat' first | omega | refine And.intro ?_ ?_ | refine cP (aB n.fName) ?_ | refine cP (aC n.fValue hs) ?_ | (refine mX ?_; simp only [go_sem, qH] <;> fail)); done) | refine cP (aB n.fName) ?_ | refine cP (aC n.fValue hs) ?_ | refine aO ?_ | fail)
   exact aA ⟨⟨_, rfl, by simp only [go_sem, hr, bT]⟩, trivial⟩
  rw [hv] at hr
  simp only [go_sem, hv]
  have qH := aI @h1 (aI @h2 (aI @h3 (aI @h4 (aI @decide_true (aI @decide_false (aI @hz (aI @ht @hv))))))); repeat' (with_reducible first | refine nY ?_ | (refine mX ?_; try simp only [go_sem, qH]) | refine kD ?_ | refine rT [5, 7] [] ?_ | refine bU (aX ?_) (uX ?_) | refine dI (aX ?_) ?_ | (refine uA ?_; simp only [go_sem, qH]; (repeat' first | omega | refine And.intro ?_ ?_ | refine cP (aB n.fName) ?_ | refine cP (aC n.fValue hs) ?_ | (refine mX ?_; simp only [go_sem, qH] <;> fail)); done) | refine cP (aB n.fName) ?_ | refine cP (aC n.fValue hs) ?_ | refine aO ?_ | fail)
  by_cases hk : n.fValue.fKind = 0
  ·simp only [hk, decide_true] at hr
   simp only [go_sem, hk, decide_true]
   have qH := aI @h1 (aI @h2 (aI @h3 (aI @h4 (aI @decide_true (aI @decide_false (aI @hz (aI @ht (aI @hv @hk)))))))); repeat' (with_reducible first | refine nY ?_ | (refine mX ?_; try simp only [go_sem, qH]) | refine kD ?_ | refine rT [5, 7] [] ?_ | refine bU (aX ?_) (uX ?_) | refine dI (aX ?_) ?_ | (refine uA ?_; simp only [go_sem, qH]; (repeat' first | omega | refine And.intro ?_ ?_ | refine cP (aB n.fName) ?_ | refine cP (aC n.fValue hs) ?_ | (refine mX ?_; simp only [go_sem, qH] <;> fail)); done) | refine cP (aB n.fName) ?_ | refine cP (aC n.fValue hs) ?_ | refine aO ?_ | fail)
   exact aA ⟨⟨_, rfl, by simp only [go_sem, hr, bT]⟩, trivial⟩
  simp only [hk, decide_false] at hr
  simp only [go_sem, hk, decide_false]
  have qH := aI @h1 (aI @h2 (aI @h3 (aI @h4 (aI @decide_true (aI @decide_false (aI @hz (aI @ht (aI @hv @hk)))))))); repeat' (with_reducible first | refine nY ?_ | (refine mX ?_; try simp only [go_sem, qH]) | refine kD ?_ | refine rT [5, 7] [] ?_ | refine bU (aX ?_) (uX ?_) | refine dI (aX ?_) ?_ | (refine uA ?_; simp only [go_sem, qH]; (repeat' first | omega | refine And.intro ?_ ?_ | refine cP (aB n.fName) ?_ | refine cP (aC n.fValue hs) ?_ | (refine mX ?_; simp only [go_sem, qH] <;> fail)); done) | refine cP (aB n.fName) ?_ | refine cP (aC n.fValue hs) ?_ | refine aO ?_ | fail)
  by_cases hj : n.fValue.fKind = 1
  rotate_left
  ·simp only [hj, decide_false] at hr
   simp only [go_sem, hj, decide_false]
   have qH := aI @h1 (aI @h2 (aI @h3 (aI @h4 (aI @decide_true (aI @decide_false (aI @hz (aI @ht (aI @hv (aI @hk @hj))))))))); repeat' (with_reducible first | refine nY ?_ | (refine mX ?_; try simp only [go_sem, qH]) | refine kD ?_ | refine rT [5, 7] [] ?_ | refine bU (aX ?_) (uX ?_) | refine dI (aX ?_) ?_ | (refine uA ?_; simp only [go_sem, qH]; (repeat' first | omega | refine And.intro ?_ ?_ | refine cP (aB n.fName) ?_ | refine cP (aC n.fValue hs) ?_ | (refine mX ?_; simp only [go_sem, qH] <;> fail)); done) | refine cP (aB n.fName) ?_ | refine cP (aC n.fValue hs) ?_ | refine aO ?_ | fail)
   exact aA ⟨⟨_, rfl, by simp only [go_sem, hr, bT]⟩, trivial⟩
  simp only [hj, decide_true] at hr
  simp only [go_sem, hj, decide_true]
  have qH := aI @h1 (aI @h2 (aI @h3 (aI @h4 (aI @decide_true (aI @decide_false (aI @hz (aI @ht (aI @hv (aI @hk @hj))))))))); repeat' (with_reducible first | refine nY ?_ | (refine mX ?_; try simp only [go_sem, qH]) | refine kD ?_ | refine rT [5, 7] [] ?_ | refine bU (aX ?_) (uX ?_) | refine dI (aX ?_) ?_ | (refine uA ?_; simp only [go_sem, qH]; (repeat' first | omega | refine And.intro ?_ ?_ | refine cP (aB n.fName) ?_ | refine cP (aC n.fValue hs) ?_ | (refine mX ?_; simp only [go_sem, qH] <;> fail)); done) | refine cP (aB n.fName) ?_ | refine cP (aC n.fValue hs) ?_ | refine aO ?_ | fail)
  exact aA ⟨⟨_, rfl, by simp only [go_sem, hr, bT]⟩, trivial⟩
 by_cases h5 : n.fOp = 5
 ·have hr : aQ n i = ((decide (n.fRight = 0) && (decide (n.fName = ⟨#[]⟩) && (decide (n.fValue.fKind = 0) && (decide (n.fValue.fInt = 0) && decide (n.fValue.fStr = ⟨#[]⟩))))) && (decide (0 < (i : Int)) && inB n.fLeft 0 ((i : Int) - 1))) := by simp [aQ, h5, nD, iH, eV, Bool.and_assoc, Bool.and_comm, Bool.and_left_comm]
  have q0 := @h1; have q1 := @h2; have q2 := @h3; have q3 := @h4; have q4 := @h5; have q5 := @decide_true; have q6 := @decide_false; refine a7N (aG n.fLeft 0 ((i : Int) - 1)) ?_
  cases hz : (decide (n.fRight = 0) && (decide (n.fName = ⟨#[]⟩) && (decide (n.fValue.fKind = 0) && (decide (n.fValue.fInt = 0) && decide (n.fValue.fStr = ⟨#[]⟩)))))
  ·rw [hz] at hr
   simp only [go_sem, hz]
   have q0 := @h1; have q1 := @h2; have q2 := @h3; have q3 := @h4; have q4 := @h5; have q5 := @decide_true; have q6 := @decide_false; have q7 := @hz; refine a5g (aG n.fLeft 0 ((i : Int) - 1)) ?_
   exact aA ⟨⟨_, rfl, by simp only [go_sem, hr, bT]⟩, trivial⟩
  rw [hz] at hr
  simp only [go_sem, hz]
  have q0 := @h1; have q1 := @h2; have q2 := @h3; have q3 := @h4; have q4 := @h5; have q5 := @decide_true; have q6 := @decide_false; have q7 := @hz; refine a5g (aG n.fLeft 0 ((i : Int) - 1)) ?_
  by_cases hp : 0 < (i : Int)
  rotate_left
  ·simp only [hp, decide_false] at hr
   simp only [go_sem, hp, decide_false]
   have q0 := @h1; have q1 := @h2; have q2 := @h3; have q3 := @h4; have q4 := @h5; have q5 := @decide_true; have q6 := @decide_false; have q7 := @hz; have q8 := @hp; refine a7O (aG n.fLeft 0 ((i : Int) - 1)) ?_
   exact aA ⟨⟨_, rfl, by simp only [go_sem, hr, bT]⟩, trivial⟩
  simp only [hp, decide_true] at hr
  simp only [go_sem, hp, decide_true]
  have q0 := @h1; have q1 := @h2; have q2 := @h3; have q3 := @h4; have q4 := @h5; have q5 := @decide_true; have q6 := @decide_false; have q7 := @hz; have q8 := @hp; refine a7O (aG n.fLeft 0 ((i : Int) - 1)) ?_
  exact aA ⟨⟨_, rfl, by simp only [go_sem, hr, bT]⟩, trivial⟩
 by_cases h67 : n.fOp = 6 ∨ n.fOp = 7
 ·have hr : aQ n i = ((decide (n.fName = ⟨#[]⟩) && (decide (n.fValue.fKind = 0) && (decide (n.fValue.fInt = 0) && decide (n.fValue.fStr = ⟨#[]⟩)))) && (decide (0 < (i : Int)) && (inB n.fLeft 0 ((i : Int) - 1) && inB n.fRight 0 ((i : Int) - 1)))) := by
   rcases h67 with h67 | h67 <;> simp [aQ, h67, nD, wY, iH, eV, Bool.and_assoc, Bool.and_comm, Bool.and_left_comm]
  by_cases h6 : n.fOp = 6
  ·skip
   have qH := aI @h1 (aI @h2 (aI @h3 (aI @h4 (aI @h5 (aI @h6 (aI @decide_true @decide_false)))))); repeat' (with_reducible first | refine nY ?_ | (refine mX ?_; try simp only [go_sem, qH]) | refine kD ?_ | refine rT [5, 7] [] ?_ | refine bU (aX ?_) (uX ?_) | refine dI (aX ?_) ?_ | (refine uA ?_; simp only [go_sem, qH]; (repeat' first | omega | refine And.intro ?_ ?_ | refine cP (aG n.fLeft 0 ((i : Int) - 1)) ?_ | refine cP (aG n.fRight 0 ((i : Int) - 1)) ?_ | (refine mX ?_; simp only [go_sem, qH] <;> fail)); done) | refine cP (aG n.fLeft 0 ((i : Int) - 1)) ?_ | refine cP (aG n.fRight 0 ((i : Int) - 1)) ?_ | refine aO ?_ | fail)
   cases hz : (decide (n.fName = ⟨#[]⟩) && (decide (n.fValue.fKind = 0) && (decide (n.fValue.fInt = 0) && decide (n.fValue.fStr = ⟨#[]⟩))))
   ·rw [hz] at hr
    simp only [go_sem, hz]
    have q0 := @h1; have q1 := @h2; have q2 := @h3; have q3 := @h4; have q4 := @h5; have q5 := @h6; have q6 := @decide_true; have q7 := @decide_false; have q8 := @hz; refine a2G (aG n.fLeft 0 ((i : Int) - 1)) (aG n.fRight 0 ((i : Int) - 1)) ?_
    exact aA ⟨⟨_, rfl, by simp only [go_sem, hr, bT]⟩, trivial⟩
   rw [hz] at hr
   simp only [go_sem, hz]
   have q0 := @h1; have q1 := @h2; have q2 := @h3; have q3 := @h4; have q4 := @h5; have q5 := @h6; have q6 := @decide_true; have q7 := @decide_false; have q8 := @hz; refine a2G (aG n.fLeft 0 ((i : Int) - 1)) (aG n.fRight 0 ((i : Int) - 1)) ?_
   by_cases hp : 0 < (i : Int)
   rotate_left
   ·simp only [hp, decide_false] at hr
    simp only [go_sem, hp, decide_false]
    have q0 := @h1; have q1 := @h2; have q2 := @h3; have q3 := @h4; have q4 := @h5; have q5 := @h6; have q6 := @decide_true; have q7 := @decide_false; have q8 := @hz; have q9 := @hp; refine zK (aG n.fLeft 0 ((i : Int) - 1)) (aG n.fRight 0 ((i : Int) - 1)) ?_
    exact aA ⟨⟨_, rfl, by simp only [go_sem, hr, bT]⟩, trivial⟩
   simp only [hp, decide_true] at hr
   simp only [go_sem, hp, decide_true]
   have q0 := @h1; have q1 := @h2; have q2 := @h3; have q3 := @h4; have q4 := @h5; have q5 := @h6; have q6 := @decide_true; have q7 := @decide_false; have q8 := @hz; have q9 := @hp; refine zK (aG n.fLeft 0 ((i : Int) - 1)) (aG n.fRight 0 ((i : Int) - 1)) ?_
   cases hl : inB n.fLeft 0 ((i : Int) - 1)
   ·rw [hl] at hr
    simp only [go_sem, hl]
    have qH := aI @h1 (aI @h2 (aI @h3 (aI @h4 (aI @h5 (aI @h6 (aI @decide_true (aI @decide_false (aI @hz (aI @hp @hl))))))))); repeat' (with_reducible first | refine nY ?_ | (refine mX ?_; try simp only [go_sem, qH]) | refine kD ?_ | refine cP (aG n.fLeft 0 ((i : Int) - 1)) ?_ | refine cP (aG n.fRight 0 ((i : Int) - 1)) ?_ | refine aO ?_ | fail)
    exact aA ⟨⟨_, rfl, by simp only [go_sem, hr, bT]⟩, trivial⟩
   rw [hl] at hr
   simp only [go_sem, hl]
   have qH := aI @h1 (aI @h2 (aI @h3 (aI @h4 (aI @h5 (aI @h6 (aI @decide_true (aI @decide_false (aI @hz (aI @hp @hl))))))))); repeat' (with_reducible first | refine nY ?_ | (refine mX ?_; try simp only [go_sem, qH]) | refine kD ?_ | refine cP (aG n.fLeft 0 ((i : Int) - 1)) ?_ | refine cP (aG n.fRight 0 ((i : Int) - 1)) ?_ | refine aO ?_ | fail)
   exact aA ⟨⟨_, rfl, by simp only [go_sem, hr, bT]⟩, trivial⟩
  ·have h7 : n.fOp = 7 := by omega
   have qH := aI @h1 (aI @h2 (aI @h3 (aI @h4 (aI @h5 (aI @h6 (aI @h7 (aI @decide_true @decide_false))))))); repeat' (with_reducible first | refine nY ?_ | (refine mX ?_; try simp only [go_sem, qH]) | refine kD ?_ | refine rT [5, 7] [] ?_ | refine bU (aX ?_) (uX ?_) | refine dI (aX ?_) ?_ | (refine uA ?_; simp only [go_sem, qH]; (repeat' first | omega | refine And.intro ?_ ?_ | refine cP (aG n.fLeft 0 ((i : Int) - 1)) ?_ | refine cP (aG n.fRight 0 ((i : Int) - 1)) ?_ | (refine mX ?_; simp only [go_sem, qH] <;> fail)); done) | refine cP (aG n.fLeft 0 ((i : Int) - 1)) ?_ | refine cP (aG n.fRight 0 ((i : Int) - 1)) ?_ | refine aO ?_ | fail)
   cases hz : (decide (n.fName = ⟨#[]⟩) && (decide (n.fValue.fKind = 0) && (decide (n.fValue.fInt = 0) && decide (n.fValue.fStr = ⟨#[]⟩))))
   ·rw [hz] at hr
    simp only [go_sem, hz]
    have q0 := @h1; have q1 := @h2; have q2 := @h3; have q3 := @h4; have q4 := @h5; have q5 := @h6; have q6 := @h7; have q7 := @decide_true; have q8 := @decide_false; have q9 := @hz; refine zK (aG n.fLeft 0 ((i : Int) - 1)) (aG n.fRight 0 ((i : Int) - 1)) ?_
    exact aA ⟨⟨_, rfl, by simp only [go_sem, hr, bT]⟩, trivial⟩
   rw [hz] at hr
   simp only [go_sem, hz]
   have q0 := @h1; have q1 := @h2; have q2 := @h3; have q3 := @h4; have q4 := @h5; have q5 := @h6; have q6 := @h7; have q7 := @decide_true; have q8 := @decide_false; have q9 := @hz; refine zK (aG n.fLeft 0 ((i : Int) - 1)) (aG n.fRight 0 ((i : Int) - 1)) ?_
   by_cases hp : 0 < (i : Int)
   rotate_left
   ·simp only [hp, decide_false] at hr
    simp only [go_sem, hp, decide_false]
    have qH := aI @h1 (aI @h2 (aI @h3 (aI @h4 (aI @h5 (aI @h6 (aI @h7 (aI @decide_true (aI @decide_false (aI @hz @hp))))))))); repeat' (with_reducible first | refine nY ?_ | (refine mX ?_; try simp only [go_sem, qH]) | refine kD ?_ | refine cP (aG n.fLeft 0 ((i : Int) - 1)) ?_ | refine cP (aG n.fRight 0 ((i : Int) - 1)) ?_ | refine aO ?_ | fail)
    exact aA ⟨⟨_, rfl, by simp only [go_sem, hr, bT]⟩, trivial⟩
   simp only [hp, decide_true] at hr
   simp only [go_sem, hp, decide_true]
   have qH := aI @h1 (aI @h2 (aI @h3 (aI @h4 (aI @h5 (aI @h6 (aI @h7 (aI @decide_true (aI @decide_false (aI @hz @hp))))))))); repeat' (with_reducible first | refine nY ?_ | (refine mX ?_; try simp only [go_sem, qH]) | refine kD ?_ | refine cP (aG n.fLeft 0 ((i : Int) - 1)) ?_ | refine cP (aG n.fRight 0 ((i : Int) - 1)) ?_ | refine aO ?_ | fail)
   cases hl : inB n.fLeft 0 ((i : Int) - 1)
   ·rw [hl] at hr
    simp only [go_sem, hl]
    have qH := aI @h1 (aI @h2 (aI @h3 (aI @h4 (aI @h5 (aI @h6 (aI @h7 (aI @decide_true (aI @decide_false (aI @hz (aI @hp @hl)))))))))); repeat' (with_reducible first | refine nY ?_ | (refine mX ?_; try simp only [go_sem, qH]) | refine kD ?_ | refine cP (aG n.fLeft 0 ((i : Int) - 1)) ?_ | refine cP (aG n.fRight 0 ((i : Int) - 1)) ?_ | refine aO ?_ | fail)
    exact aA ⟨⟨_, rfl, by simp only [go_sem, hr, bT]⟩, trivial⟩
   rw [hl] at hr
   simp only [go_sem, hl]
   have qH := aI @h1 (aI @h2 (aI @h3 (aI @h4 (aI @h5 (aI @h6 (aI @h7 (aI @decide_true (aI @decide_false (aI @hz (aI @hp @hl)))))))))); repeat' (with_reducible first | refine nY ?_ | (refine mX ?_; try simp only [go_sem, qH]) | refine kD ?_ | refine cP (aG n.fLeft 0 ((i : Int) - 1)) ?_ | refine cP (aG n.fRight 0 ((i : Int) - 1)) ?_ | refine aO ?_ | fail)
   exact aA ⟨⟨_, rfl, by simp only [go_sem, hr, bT]⟩, trivial⟩
 have h6 : ¬ n.fOp = 6 := by omega
 have h7 : ¬ n.fOp = 7 := by omega
 by_cases h8 : n.fOp = 8
 ·have hr : aQ n i = (bC n.fName 6 && (decide (n.fLeft = 0) && (decide (n.fRight = 0) && (decide (n.fValue.fKind = 0) && (decide (n.fValue.fInt = 0) && decide (n.fValue.fStr = ⟨#[]⟩)))))) := by simp [aQ, h8, eY, eV, Bool.and_assoc]
  have q0 := @h1; have q1 := @h2; have q2 := @h3; have q3 := @h4; have q4 := @h5; have q5 := @h6; have q6 := @h7; have q7 := @h8; have q8 := @decide_true; have q9 := @decide_false; refine a7h (bD n.fName hn) ?_
  cases hz : (decide (n.fLeft = 0) && (decide (n.fRight = 0) && (decide (n.fValue.fKind = 0) && (decide (n.fValue.fInt = 0) && decide (n.fValue.fStr = ⟨#[]⟩)))))
  ·rw [hz] at hr
   simp only [go_sem, hz]
   have qH := aI @h1 (aI @h2 (aI @h3 (aI @h4 (aI @h5 (aI @h6 (aI @h7 (aI @h8 (aI @decide_true (aI @decide_false @hz))))))))); repeat' (with_reducible first | refine nY ?_ | (refine mX ?_; try simp only [go_sem, qH]) | refine kD ?_ | refine cP (bD n.fName hn) ?_ | refine aO ?_ | fail)
   exact aA ⟨⟨_, rfl, by simp only [go_sem, hr, bT]⟩, trivial⟩
  rw [hz] at hr
  simp only [go_sem, hz]
  have qH := aI @h1 (aI @h2 (aI @h3 (aI @h4 (aI @h5 (aI @h6 (aI @h7 (aI @h8 (aI @decide_true (aI @decide_false @hz))))))))); repeat' (with_reducible first | refine nY ?_ | (refine mX ?_; try simp only [go_sem, qH]) | refine kD ?_ | refine cP (bD n.fName hn) ?_ | refine aO ?_ | fail)
  exact aA ⟨⟨_, rfl, by simp only [go_sem, hr, bT]⟩, trivial⟩
 by_cases h9 : n.fOp = 9
 ·have hr : aQ n i = (bC n.fName 6 && (decide (n.fLeft = 0) && (decide (n.fRight = 0) && (decide (n.fValue.fKind = 0) && (decide (n.fValue.fInt = 0) && decide (n.fValue.fStr = ⟨#[]⟩)))))) := by simp [aQ, h9, eY, eV, Bool.and_assoc]
  have qH := aI @h1 (aI @h2 (aI @h3 (aI @h4 (aI @h5 (aI @h6 (aI @h7 (aI @h8 (aI @h9 (aI @decide_true @decide_false))))))))); repeat' (with_reducible first | refine nY ?_ | (refine mX ?_; try simp only [go_sem, qH]) | refine kD ?_ | refine cP (bD n.fName hn) ?_ | refine aO ?_ | fail)
  cases hz : (decide (n.fLeft = 0) && (decide (n.fRight = 0) && (decide (n.fValue.fKind = 0) && (decide (n.fValue.fInt = 0) && decide (n.fValue.fStr = ⟨#[]⟩)))))
  ·rw [hz] at hr
   simp only [go_sem, hz]
   have qH := aI @h1 (aI @h2 (aI @h3 (aI @h4 (aI @h5 (aI @h6 (aI @h7 (aI @h8 (aI @h9 (aI @decide_true (aI @decide_false @hz)))))))))); repeat' (with_reducible first | refine nY ?_ | (refine mX ?_; try simp only [go_sem, qH]) | refine kD ?_ | refine cP (bD n.fName hn) ?_ | refine aO ?_ | fail)
   exact aA ⟨⟨_, rfl, by simp only [go_sem, hr, bT]⟩, trivial⟩
  rw [hz] at hr
  simp only [go_sem, hz]
  have qH := aI @h1 (aI @h2 (aI @h3 (aI @h4 (aI @h5 (aI @h6 (aI @h7 (aI @h8 (aI @h9 (aI @decide_true (aI @decide_false @hz)))))))))); repeat' (with_reducible first | refine nY ?_ | (refine mX ?_; try simp only [go_sem, qH]) | refine kD ?_ | refine cP (bD n.fName hn) ?_ | refine aO ?_ | fail)
  exact aA ⟨⟨_, rfl, by simp only [go_sem, hr, bT]⟩, trivial⟩
 have hr : aQ n i = false := by simp [aQ, h1, h2, h3, h4, h5, h6, h7, h8, h9]
 have q0 := @h1; have q1 := @h2; have q2 := @h3; have q3 := @h4; have q4 := @h5; have q5 := @h6; have q6 := @h7; have q7 := @h8; have q8 := @h9; have q9 := @decide_false; refine uN ?_
 exact aA ⟨⟨_, rfl, by simp only [go_sem, hr]⟩, trivial⟩
end Go.Proofs.Ytjkbipgmckeckaa
end
section
namespace Go.Proofs.Ytjkbipgmckeckaa
open Go Go.Sx Go.RowKit Go.Proofs
def bB (name : ByteArray) : List TAttr → TValue
 | [] => ⟨0, 0, ⟨#[]⟩⟩
 | a :: r => if a.fName = name then a.fValue else bB name r
theorem dV (x : TFile) (name : ByteArray) (h : bK x ≤ 4300000) : FnC Try.prog 81 [cK x, os name] (mI (bB name x.fAttrs)) := by
 unfold bK aW at h
 generalize hg : bB name x.fAttrs = res
 refine ent Try.func81 rfl Try.call81 rfl (fun C => ?_); simp only [go_sem, st0, Try.ntmps81]
 refine aP ?_
 refine dD (α := Nat) (fun k => [(10, oi k)]) (fun _ => []) (fun k => k ≤ x.fAttrs.length ∧ bB name (x.fAttrs.drop k) = res) (fun k => x.fAttrs.length - k) 0 (fun _ => ?_) ?_ ?_ (fun k hk => ?_)
 ·simp only [go_sem]
 ·simp only [go_sem]; simp
 ·simp [hg]
 ·obtain ⟨hk, hq⟩ := hk
  simp only [go_sem]
  refine aP ?_
  refine cnd rfl (fun h => ?_) (fun h => ?_)
  ·simp only [decide_eq_true_eq, Int.ofNat_lt] at h
   have hd := List.drop_eq_getElem_cons h
   rw [hd, bB] at hq
   by_cases h1 : x.fAttrs[k].fName = name
   ·rw [if_pos h1] at hq
    subst hq
    have q0 := @h; have q1 := @h1; refine jR ?_
    exact aA ⟨⟨_, rfl, by simp only [go_sem]⟩, trivial⟩
   ·rw [if_neg h1] at hq
    have q0 := @h; have q1 := @h1; refine jR ?_
    refine aR (k + 1) ?_ ?_ ?_
    ·simp only [go_sem]; simp
    ·exact ⟨h, hq⟩
    ·omega
  ·simp only [decide_eq_false_iff_not] at h
   have e : k = x.fAttrs.length := by omega
   rw [e, List.drop_length, bB] at hq
   subst hq
   refine aP ?_
   exact aA ⟨⟨_, rfl, by simp only [go_sem]⟩, trivial⟩
theorem bA (x : TFile) (name : ByteArray) (h : bK x ≤ 4300000) : FnC Try.prog 19 [cK x, os name] (mI (bB name x.fAttrs)) := by
 unfold bK aW at h
 generalize hg : bB name x.fAttrs = res
 refine ent Try.func19 rfl Try.call19 rfl (fun C => ?_); simp only [go_sem, st0, Try.ntmps19]
 refine aP ?_
 refine dD (α := Nat) (fun k => [(5, oi k)]) (fun _ => []) (fun k => k ≤ x.fAttrs.length ∧ bB name (x.fAttrs.drop k) = res) (fun k => x.fAttrs.length - k) 0 (fun _ => ?_) ?_ ?_ (fun k hk => ?_)
 ·simp only [go_sem]
 ·simp only [go_sem]; simp
 ·simp [hg]
 ·obtain ⟨hk, hq⟩ := hk
  simp only [go_sem]
  refine aP ?_
  refine cnd rfl (fun h => ?_) (fun h => ?_)
  ·simp only [decide_eq_true_eq, Int.ofNat_lt] at h
   have hd := List.drop_eq_getElem_cons h
   rw [hd, bB] at hq
   by_cases h1 : x.fAttrs[k].fName = name
   ·rw [if_pos h1] at hq
    subst hq
    have q0 := @h; have q1 := @h1; refine jR ?_
    exact aA ⟨⟨_, rfl, by simp only [go_sem]⟩, trivial⟩
   ·rw [if_neg h1] at hq
    have q0 := @h; have q1 := @h1; refine jR ?_
    refine aR (k + 1) ?_ ?_ ?_
    ·simp only [go_sem]; simp
    ·exact ⟨h, hq⟩
    ·omega
  ·simp only [decide_eq_false_iff_not] at h
   have e : k = x.fAttrs.length := by omega
   rw [e, List.drop_length, bB] at hq
   subst hq
   refine aP ?_
   exact aA ⟨⟨_, rfl, by simp only [go_sem]⟩, trivial⟩
end Go.Proofs.Ytjkbipgmckeckaa
end
section
set_option maxRecDepth 100000
set_option maxHeartbeats 4000000
namespace Go.Proofs.Ytjkbipgmckeckaa
def uO (x v : TValue) : Bool := decide (x.fKind = v.fKind) && (decide (x.fInt = v.fInt) && decide (x.fStr = v.fStr))
def pO (l : List Int) (i : Int) : Bool := l.any fun x => decide (x = i)
def bY (s : ByteArray) : List TResult → List Int
 | [] => []
 | x :: r => if x.fName = s then x.fIDs else bY s r
def wX (v : TValue) (n : Int) : Bool := decide (v.fKind = 1) && decide (v.fInt < n)
def mt (q : List TNode) (f : TFile) (r : List TResult) : Nat → Nat → Bool
 | 0, _ => false
 | k + 1, i => match q[i]? with
  | none => false
  | some n =>
   if n.fOp = 1 then true
   else if n.fOp = 2 then !decide ((bB n.fName f.fAttrs).fKind = 0)
   else if n.fOp = 3 then uO (bB n.fName f.fAttrs) n.fValue
   else if n.fOp = 4 then wX (bB n.fName f.fAttrs) n.fValue.fInt
   else if n.fOp = 5 then !mt q f r k n.fLeft.toNat
   else if n.fOp = 6 then mt q f r k n.fLeft.toNat && mt q f r k n.fRight.toNat
   else if n.fOp = 7 then mt q f r k n.fLeft.toNat || mt q f r k n.fRight.toNat
   else if n.fOp = 8 then pO (bY n.fName r) f.fID
   else !decide (f.fLink = 0) && pO (bY n.fName r) f.fLink
end Go.Proofs.Ytjkbipgmckeckaa
end
section
section
set_option linter.all false
set_option maxRecDepth 100000
set_option maxHeartbeats 4000000
namespace Go.Proofs.Ytjkbipgmckeckaa
open Go Go.Sx Go.RowKit Go.Proofs
def a8W (k : Nat) (out : ByteArray) : ByteArray :=
 if h : k = 0 then out else a8W (k / 10) (zG [(48 : Int) + ((k % 10 : Nat) : Int)] ++ out)
decreasing_by omega
def nV (k : Int) : ByteArray := ⟨#[109]⟩ ++ a8W k.toNat ⟨#[]⟩
def sF (x : Int) : Nat := 1
def a3q (x : Int) (k : Int) : Int := k
def b0h (x : ByteArray) : Nat := 1
def b0i (x : ByteArray) (k : Int) : ByteArray := (nV k)
def a9V (x : Bool) : Nat := 1
def a9W (x : Bool) (k : Int) : Bool := (decide (Int.tmod k 3 = 0))
end Go.Proofs.Ytjkbipgmckeckaa
end
section
set_option linter.all false
set_option maxRecDepth 100000
set_option maxHeartbeats 4000000
namespace Go.Proofs.Ytjkbipgmckeckaa
open Go Go.Sx Go.RowKit Go.Proofs
def a9r (x : TField) : Nat := 2
def a9s (x : TField) (k : Int) : TField := ⟨(nV k), (k + 1)⟩
def qV (x : TAttr) : Nat := 4
def a5C (x : TAttr) (k : Int) : TAttr := ⟨(nV k), ⟨(k + 1), ((k + 1) + 1), (nV (((k + 1) + 1) + 1))⟩⟩
def a0K (x : TNode) : Nat := 7
def a5D (x : TNode) (k : Int) : TNode := ⟨k, (k + 1), ((k + 1) + 1), (nV (((k + 1) + 1) + 1)), ⟨((((k + 1) + 1) + 1) + 1), (((((k + 1) + 1) + 1) + 1) + 1), (nV ((((((k + 1) + 1) + 1) + 1) + 1) + 1))⟩⟩
end Go.Proofs.Ytjkbipgmckeckaa
end
section
set_option linter.all false
set_option maxRecDepth 100000
set_option maxHeartbeats 4000000
namespace Go.Proofs.Ytjkbipgmckeckaa
open Go Go.Sx Go.RowKit Go.Proofs
def a9X (x : TFile) : Nat := 4 + pJ qV x.fAttrs
def a9Y (x : TFile) (k : Int) : TFile := ⟨k, (k + 1), (decide (Int.tmod ((k + 1) + 1) 3 = 0)), (((k + 1) + 1) + 1), (mkL a5C qV x.fAttrs ((((k + 1) + 1) + 1) + 1))⟩
def b0j (x : TDir) : Nat := 1 + pJ a0K x.fQuery
def b0k (x : TDir) (k : Int) : TDir := ⟨(nV k), (mkL a5D a0K x.fQuery (k + 1))⟩
def a8X (x : TResult) : Nat := 1 + pJ sF x.fIDs
def a8Y (x : TResult) (k : Int) : TResult := ⟨(nV k), (mkL a3q sF x.fIDs (k + 1))⟩
def a9Z (x : TDiff) : Nat := 1 + pJ sF x.fAdded + pJ sF x.fRemoved
def b0a (x : TDiff) (k : Int) : TDiff := ⟨(nV k), (mkL a3q sF x.fAdded (k + 1)), (mkL a3q sF x.fRemoved ((k + 1) + (pJ sF x.fAdded : Nat)))⟩
def a9t (x : TGroup) : Nat := 3 + pJ sF x.fIDs
def a9u (x : TGroup) (k : Int) : TGroup := ⟨⟨k, (k + 1), (nV ((k + 1) + 1))⟩, (mkL a3q sF x.fIDs (((k + 1) + 1) + 1))⟩
def a8Z (x : TChange) : Nat := 7 + pJ qV x.fFile.fAttrs + pJ a0K x.fDir.fQuery
def a9a (x : TChange) (k : Int) : TChange := ⟨k, ⟨(k + 1), ((k + 1) + 1), (decide (Int.tmod (((k + 1) + 1) + 1) 3 = 0)), ((((k + 1) + 1) + 1) + 1), (mkL a5C qV x.fFile.fAttrs (((((k + 1) + 1) + 1) + 1) + 1))⟩, ((((((k + 1) + 1) + 1) + 1) + 1) + (pJ qV x.fFile.fAttrs : Nat)), ⟨(nV (((((((k + 1) + 1) + 1) + 1) + 1) + (pJ qV x.fFile.fAttrs : Nat)) + 1)), (mkL a5D a0K x.fDir.fQuery ((((((((k + 1) + 1) + 1) + 1) + 1) + (pJ qV x.fFile.fAttrs : Nat)) + 1) + 1))⟩⟩
end Go.Proofs.Ytjkbipgmckeckaa
end
section
set_option linter.all false
set_option maxRecDepth 100000
set_option maxHeartbeats 4000000
namespace Go.Proofs.Ytjkbipgmckeckaa
open Go Go.Sx Go.RowKit Go.Proofs
end Go.Proofs.Ytjkbipgmckeckaa
end
section
set_option linter.all false
namespace Go.Proofs.Ytjkbipgmckeckaa
open Go Go.Sx Go.RowKit Go.Proofs
end Go.Proofs.Ytjkbipgmckeckaa
end
end
