/- Joined texts. -/
import Derived.Test.YtgpoopjfkplilaaGreatDoorZ08
import Derived.Test.YtgpoopjfkplilaaGreatDoorZ05
set_option linter.all false
section
set_option maxRecDepth 100000
set_option maxHeartbeats 4000000
namespace Go.Proofs.YtgpoopjfkplilaaGreatDoor
open Go Go.Sx Go.RowKit Go.Proofs
def eV (v : TValue) : Bool := decide (v.fKind = 0) && (decide (v.fInt = 0) && decide (v.fStr = ⟨#[]⟩))
def sQ (n : TNode) (i : Nat) : Bool := inB n.fLeft 0 ((i : Int) - 1) && decide (0 < (i : Int))
def a2e (n : TNode) (i : Nat) : Bool := inB n.fRight 0 ((i : Int) - 1)
def iH (n : TNode) : Bool := decide (n.fLeft = 0) && decide (n.fRight = 0)
def jX (n : TNode) : Bool := decide (n.fName = ⟨#[]⟩) && eV n.fValue
def bF (n : TNode) (i : Nat) : Bool :=
 if n.fOp = 1 then iH n && jX n
 else if n.fOp = 2 then aV n.fName 1 && (iH n && eV n.fValue)
 else if n.fOp = 3 then aV n.fName 1 && (dA n.fValue && (!decide (n.fValue.fKind = 0) && iH n))
 else if n.fOp = 4 then aV n.fName 1 && (dA n.fValue && (decide (n.fValue.fKind = 1) && iH n))
 else if n.fOp = 5 then sQ n i && (decide (n.fRight = 0) && jX n)
 else if n.fOp = 6 ∨ n.fOp = 7 then sQ n i && (a2e n i && jX n)
 else if n.fOp = 8 ∨ n.fOp = 9 then aV n.fName 6 && (iH n && eV n.fValue)
 else false
def a2M (q : List TNode) (i : Nat) : Bool := match q[i]? with
 | none => true
 | some n => bF n i && (decide (q.length ≤ i + 1) || decide (refs q i = 1))
def okQ (q : List TNode) : Bool := (List.range q.length).all (a2M q) && inB (q.length : Int) 1 9
theorem uH {q : List TNode} (h : okQ q = true) {i : Nat} {n : TNode} (hi : q[i]? = some n) : bF n i = true := by
 unfold okQ at h
 simp only [Bool.and_eq_true, List.all_eq_true, List.mem_range] at h
 have hl : i < q.length := by
  rcases Nat.lt_or_ge i q.length with hl | hl
  ·exact hl
  ·rw [List.getElem?_eq_none hl] at hi; cases hi
 have := h.1 i hl
 unfold a2M at this
 rw [hi] at this
 simp only [Bool.and_eq_true] at this
 exact this.1
theorem iI {q : List TNode} (h : okQ q = true) : 1 ≤ q.length ∧ q.length ≤ 9 := by
 unfold okQ inB at h
 simp only [Bool.and_eq_true, decide_eq_true_eq] at h
 omega
theorem jD {s : ByteArray} {n : Int} (h : aV s n = true) : (s.size : Int) ≤ n := by
 unfold aV inB at h
 simp only [Bool.and_eq_true, decide_eq_true_eq] at h
 omega
theorem a6k {v : TValue} (h : dA v = true) : v.fStr.size ≤ 6 := by
 unfold dA at h
 have e0 : (⟨#[]⟩ : ByteArray).size = 0 := rfl
 split at h
 ·simp only [Bool.and_eq_true, decide_eq_true_eq] at h; rw [h.2]; omega
 split at h
 ·simp only [Bool.and_eq_true, decide_eq_true_eq] at h; rw [h.2]; omega
 split at h
 ·simp only [Bool.and_eq_true, decide_eq_true_eq] at h; have := jD h.1; omega
 ·cases h
theorem fM {n : TNode} {i : Nat} (h : bF n i = true) (ho : n.fOp = 5 ∨ n.fOp = 6 ∨ n.fOp = 7) : ∃ l : Nat, n.fLeft = (l : Int) ∧ l < i := by
 have hk : sQ n i = true := by
  unfold bF at h
  rcases ho with ho | ho | ho <;> simp [ho] at h <;> exact h.1
 unfold sQ inB at hk
 simp only [Bool.and_eq_true, decide_eq_true_eq] at hk
 exact ⟨n.fLeft.toNat, by omega, by omega⟩
theorem jE {n : TNode} {i : Nat} (h : bF n i = true) (ho : n.fOp = 6 ∨ n.fOp = 7) : ∃ l : Nat, n.fRight = (l : Int) ∧ l < i := by
 have hk : a2e n i = true ∧ sQ n i = true := by
  unfold bF at h
  rcases ho with ho | ho <;> simp [ho] at h <;> exact ⟨h.2.1, h.1⟩
 unfold sQ a2e inB at hk
 simp only [Bool.and_eq_true, decide_eq_true_eq] at hk
 exact ⟨n.fRight.toNat, by omega, by omega⟩
theorem qB {n : TNode} {i : Nat} (h : bF n i = true) : n.fOp = 1 ∨ n.fOp = 2 ∨ n.fOp = 3 ∨ n.fOp = 4 ∨ n.fOp = 5 ∨ n.fOp = 6 ∨ n.fOp = 7 ∨ n.fOp = 8 ∨ n.fOp = 9 := by
 unfold bF at h
 repeat' split at h
 all_goals first | omega | cases h
theorem iJ (n : TNode) (i : Nat) (hi : i ≤ 4300000) (hs : n.fValue.fStr.size ≤ 4300000) (hn : n.fName.size ≤ 4300000) : FnC Tryz.prog 145 [a8Q n, oi i] (ob (bF n i)) := by
 refine ent Tryz.func145 rfl Tryz.call145 rfl (fun C => ?_); simp only [go_sem, st0, Tryz.ntmps145]
 by_cases h1 : n.fOp = 1
 ·cases hz : (decide (n.fLeft = 0) && (decide (n.fRight = 0) && (decide (n.fName = ⟨#[]⟩) && (decide (n.fValue.fKind = 0) && (decide (n.fValue.fInt = 0) && decide (n.fValue.fStr = ⟨#[]⟩))))))
  all_goals
   have hr : bF n i = (decide (n.fLeft = 0) && (decide (n.fRight = 0) && (decide (n.fName = ⟨#[]⟩) && (decide (n.fValue.fKind = 0) && (decide (n.fValue.fInt = 0) && decide (n.fValue.fStr = ⟨#[]⟩)))))) := by simp [bF, h1, iH, jX, eV, Bool.and_assoc]
   rw [hz] at hr
   have q0 := @h1; have q1 := @decide_true; have q2 := @hz; refine kI ?_
   exact aA ⟨⟨_, rfl, by simp only [go_sem, hr]⟩, trivial⟩
 by_cases h2 : n.fOp = 2
 ·cases hz : (decide (n.fLeft = 0) && (decide (n.fRight = 0) && (decide (n.fValue.fKind = 0) && (decide (n.fValue.fInt = 0) && decide (n.fValue.fStr = ⟨#[]⟩))))) <;> cases ht : aV n.fName 1
  all_goals
   have hr : bF n i = (aV n.fName 1 && (decide (n.fLeft = 0) && (decide (n.fRight = 0) && (decide (n.fValue.fKind = 0) && (decide (n.fValue.fInt = 0) && decide (n.fValue.fStr = ⟨#[]⟩)))))) := by simp [bF, h2, iH, jX, eV, Bool.and_assoc]
   rw [hz, ht] at hr
   have q0 := @h1; have q1 := @h2; have q2 := @decide_true; have q3 := @decide_false; have q4 := @hz; have q5 := @ht; refine a0Y (aB n.fName) ?_
   exact aA ⟨⟨_, rfl, by simp only [go_sem, hr, Bool.and_true, Bool.and_false]⟩, trivial⟩
 by_cases h3 : n.fOp = 3
 ·have hr : bF n i = (aV n.fName 1 && (dA n.fValue && (!decide (n.fValue.fKind = 0) && (decide (n.fLeft = 0) && decide (n.fRight = 0))))) := by simp [bF, h3, iH]
  have qH := aI @h1 (aI @h2 (aI @h3 (aI @decide_true @decide_false))); repeat' (with_reducible first | refine nY ?_ | (refine mX ?_; try simp only [go_sem, qH]) | refine kD ?_ | refine rT [5, 7] [] ?_ | refine dP (aX ?_) (uX ?_) | refine fA (aX ?_) ?_ | (refine uA ?_; simp only [go_sem, qH]; (repeat' first | omega | refine And.intro ?_ ?_ | refine cP (aB n.fName) ?_ | refine cP (aC n.fValue hs) ?_ | (refine mX ?_; simp only [go_sem, qH] <;> fail)); done) | refine cP (aB n.fName) ?_ | refine cP (aC n.fValue hs) ?_ | refine aO ?_ | fail)
  cases hz : (decide (n.fLeft = 0) && decide (n.fRight = 0))
  ·rw [hz] at hr
   simp only [go_sem, hz]
   have qH := aI @h1 (aI @h2 (aI @h3 (aI @decide_true (aI @decide_false @hz)))); repeat' (with_reducible first | refine nY ?_ | (refine mX ?_; try simp only [go_sem, qH]) | refine kD ?_ | refine rT [5, 7] [] ?_ | refine dP (aX ?_) (uX ?_) | refine fA (aX ?_) ?_ | (refine uA ?_; simp only [go_sem, qH]; (repeat' first | omega | refine And.intro ?_ ?_ | refine cP (aB n.fName) ?_ | refine cP (aC n.fValue hs) ?_ | (refine mX ?_; simp only [go_sem, qH] <;> fail)); done) | refine cP (aB n.fName) ?_ | refine cP (aC n.fValue hs) ?_ | refine aO ?_ | fail)
   exact aA ⟨⟨_, rfl, by simp only [go_sem, hr, bT]⟩, trivial⟩
  rw [hz] at hr
  simp only [go_sem, hz]
  have qH := aI @h1 (aI @h2 (aI @h3 (aI @decide_true (aI @decide_false @hz)))); repeat' (with_reducible first | refine nY ?_ | (refine mX ?_; try simp only [go_sem, qH]) | refine kD ?_ | refine rT [5, 7] [] ?_ | refine dP (aX ?_) (uX ?_) | refine fA (aX ?_) ?_ | (refine uA ?_; simp only [go_sem, qH]; (repeat' first | omega | refine And.intro ?_ ?_ | refine cP (aB n.fName) ?_ | refine cP (aC n.fValue hs) ?_ | (refine mX ?_; simp only [go_sem, qH] <;> fail)); done) | refine cP (aB n.fName) ?_ | refine cP (aC n.fValue hs) ?_ | refine aO ?_ | fail)
  cases ht : aV n.fName 1
  ·rw [ht] at hr
   simp only [go_sem, ht]
   have qH := aI @h1 (aI @h2 (aI @h3 (aI @decide_true (aI @decide_false (aI @hz @ht))))); repeat' (with_reducible first | refine nY ?_ | (refine mX ?_; try simp only [go_sem, qH]) | refine kD ?_ | refine rT [5, 7] [] ?_ | refine dP (aX ?_) (uX ?_) | refine fA (aX ?_) ?_ | (refine uA ?_; simp only [go_sem, qH]; (repeat' first | omega | refine And.intro ?_ ?_ | refine cP (aB n.fName) ?_ | refine cP (aC n.fValue hs) ?_ | (refine mX ?_; simp only [go_sem, qH] <;> fail)); done) | refine cP (aB n.fName) ?_ | refine cP (aC n.fValue hs) ?_ | refine aO ?_ | fail)
   exact aA ⟨⟨_, rfl, by simp only [go_sem, hr, bT]⟩, trivial⟩
  rw [ht] at hr
  simp only [go_sem, ht]
  have qH := aI @h1 (aI @h2 (aI @h3 (aI @decide_true (aI @decide_false (aI @hz @ht))))); repeat' (with_reducible first | refine nY ?_ | (refine mX ?_; try simp only [go_sem, qH]) | refine kD ?_ | refine rT [5, 7] [] ?_ | refine dP (aX ?_) (uX ?_) | refine fA (aX ?_) ?_ | (refine uA ?_; simp only [go_sem, qH]; (repeat' first | omega | refine And.intro ?_ ?_ | refine cP (aB n.fName) ?_ | refine cP (aC n.fValue hs) ?_ | (refine mX ?_; simp only [go_sem, qH] <;> fail)); done) | refine cP (aB n.fName) ?_ | refine cP (aC n.fValue hs) ?_ | refine aO ?_ | fail)
  cases hv : dA n.fValue
  ·rw [hv] at hr
   simp only [go_sem, hv]
   have qH := aI @h1 (aI @h2 (aI @h3 (aI @decide_true (aI @decide_false (aI @hz (aI @ht @hv)))))); repeat' (with_reducible first | refine nY ?_ | (refine mX ?_; try simp only [go_sem, qH]) | refine kD ?_ | refine rT [5, 7] [] ?_ | refine dP (aX ?_) (uX ?_) | refine fA (aX ?_) ?_ | (refine uA ?_; simp only [go_sem, qH]; (repeat' first | omega | refine And.intro ?_ ?_ | refine cP (aB n.fName) ?_ | refine cP (aC n.fValue hs) ?_ | (refine mX ?_; simp only [go_sem, qH] <;> fail)); done) | refine cP (aB n.fName) ?_ | refine cP (aC n.fValue hs) ?_ | refine aO ?_ | fail)
   exact aA ⟨⟨_, rfl, by simp only [go_sem, hr, bT]⟩, trivial⟩
  rw [hv] at hr
  simp only [go_sem, hv]
  have qH := aI @h1 (aI @h2 (aI @h3 (aI @decide_true (aI @decide_false (aI @hz (aI @ht @hv)))))); repeat' (with_reducible first | refine nY ?_ | (refine mX ?_; try simp only [go_sem, qH]) | refine kD ?_ | refine rT [5, 7] [] ?_ | refine dP (aX ?_) (uX ?_) | refine fA (aX ?_) ?_ | (refine uA ?_; simp only [go_sem, qH]; (repeat' first | omega | refine And.intro ?_ ?_ | refine cP (aB n.fName) ?_ | refine cP (aC n.fValue hs) ?_ | (refine mX ?_; simp only [go_sem, qH] <;> fail)); done) | refine cP (aB n.fName) ?_ | refine cP (aC n.fValue hs) ?_ | refine aO ?_ | fail)
  by_cases hk : n.fValue.fKind = 0
  ·simp only [hk, decide_true] at hr
   simp only [go_sem, hk, decide_true]
   have qH := aI @h1 (aI @h2 (aI @h3 (aI @decide_true (aI @decide_false (aI @hz (aI @ht (aI @hv @hk))))))); repeat' (with_reducible first | refine nY ?_ | (refine mX ?_; try simp only [go_sem, qH]) | refine kD ?_ | refine rT [5, 7] [] ?_ | refine dP (aX ?_) (uX ?_) | refine fA (aX ?_) ?_ | (refine uA ?_; simp only [go_sem, qH]; (repeat' first | omega | refine And.intro ?_ ?_ | refine cP (aB n.fName) ?_ | refine cP (aC n.fValue hs) ?_ | (refine mX ?_; simp only [go_sem, qH] <;> fail)); done) | refine cP (aB n.fName) ?_ | refine cP (aC n.fValue hs) ?_ | refine aO ?_ | fail)
   exact aA ⟨⟨_, rfl, by simp only [go_sem, hr, bT]⟩, trivial⟩
  simp only [hk, decide_false] at hr
  simp only [go_sem, hk, decide_false]
  have qH := aI @h1 (aI @h2 (aI @h3 (aI @decide_true (aI @decide_false (aI @hz (aI @ht (aI @hv @hk))))))); repeat' (with_reducible first | refine nY ?_ | (refine mX ?_; try simp only [go_sem, qH]) | refine kD ?_ | refine rT [5, 7] [] ?_ | refine dP (aX ?_) (uX ?_) | refine fA (aX ?_) ?_ | (refine uA ?_; simp only [go_sem, qH]; (repeat' first | omega | refine And.intro ?_ ?_ | refine cP (aB n.fName) ?_ | refine cP (aC n.fValue hs) ?_ | (refine mX ?_; simp only [go_sem, qH] <;> fail)); done) | refine cP (aB n.fName) ?_ | refine cP (aC n.fValue hs) ?_ | refine aO ?_ | fail)
  exact aA ⟨⟨_, rfl, by simp only [go_sem, hr, bT]⟩, trivial⟩
 by_cases h4 : n.fOp = 4
 ·have hr : bF n i = (aV n.fName 1 && (dA n.fValue && (!decide (n.fValue.fKind = 0) && (decide (n.fValue.fKind = 1) && (decide (n.fLeft = 0) && decide (n.fRight = 0)))))) := by
   simp only [bF, h4, iH]
   by_cases hk : n.fValue.fKind = 1 <;> simp [hk]
  have qH := aI @h1 (aI @h2 (aI @h3 (aI @h4 (aI @decide_true @decide_false)))); repeat' (with_reducible first | refine nY ?_ | (refine mX ?_; try simp only [go_sem, qH]) | refine kD ?_ | refine rT [5, 7] [] ?_ | refine dP (aX ?_) (uX ?_) | refine fA (aX ?_) ?_ | (refine uA ?_; simp only [go_sem, qH]; (repeat' first | omega | refine And.intro ?_ ?_ | refine cP (aB n.fName) ?_ | refine cP (aC n.fValue hs) ?_ | (refine mX ?_; simp only [go_sem, qH] <;> fail)); done) | refine cP (aB n.fName) ?_ | refine cP (aC n.fValue hs) ?_ | refine aO ?_ | fail)
  cases hz : (decide (n.fLeft = 0) && decide (n.fRight = 0))
  ·rw [hz] at hr
   simp only [go_sem, hz]
   have qH := aI @h1 (aI @h2 (aI @h3 (aI @h4 (aI @decide_true (aI @decide_false @hz))))); repeat' (with_reducible first | refine nY ?_ | (refine mX ?_; try simp only [go_sem, qH]) | refine kD ?_ | refine rT [5, 7] [] ?_ | refine dP (aX ?_) (uX ?_) | refine fA (aX ?_) ?_ | (refine uA ?_; simp only [go_sem, qH]; (repeat' first | omega | refine And.intro ?_ ?_ | refine cP (aB n.fName) ?_ | refine cP (aC n.fValue hs) ?_ | (refine mX ?_; simp only [go_sem, qH] <;> fail)); done) | refine cP (aB n.fName) ?_ | refine cP (aC n.fValue hs) ?_ | refine aO ?_ | fail)
   exact aA ⟨⟨_, rfl, by simp only [go_sem, hr, bT]⟩, trivial⟩
  rw [hz] at hr
  simp only [go_sem, hz]
  have qH := aI @h1 (aI @h2 (aI @h3 (aI @h4 (aI @decide_true (aI @decide_false @hz))))); repeat' (with_reducible first | refine nY ?_ | (refine mX ?_; try simp only [go_sem, qH]) | refine kD ?_ | refine rT [5, 7] [] ?_ | refine dP (aX ?_) (uX ?_) | refine fA (aX ?_) ?_ | (refine uA ?_; simp only [go_sem, qH]; (repeat' first | omega | refine And.intro ?_ ?_ | refine cP (aB n.fName) ?_ | refine cP (aC n.fValue hs) ?_ | (refine mX ?_; simp only [go_sem, qH] <;> fail)); done) | refine cP (aB n.fName) ?_ | refine cP (aC n.fValue hs) ?_ | refine aO ?_ | fail)
  cases ht : aV n.fName 1
  ·rw [ht] at hr
   simp only [go_sem, ht]
   have qH := aI @h1 (aI @h2 (aI @h3 (aI @h4 (aI @decide_true (aI @decide_false (aI @hz @ht)))))); repeat' (with_reducible first | refine nY ?_ | (refine mX ?_; try simp only [go_sem, qH]) | refine kD ?_ | refine rT [5, 7] [] ?_ | refine dP (aX ?_) (uX ?_) | refine fA (aX ?_) ?_ | (refine uA ?_; simp only [go_sem, qH]; (repeat' first | omega | refine And.intro ?_ ?_ | refine cP (aB n.fName) ?_ | refine cP (aC n.fValue hs) ?_ | (refine mX ?_; simp only [go_sem, qH] <;> fail)); done) | refine cP (aB n.fName) ?_ | refine cP (aC n.fValue hs) ?_ | refine aO ?_ | fail)
   exact aA ⟨⟨_, rfl, by simp only [go_sem, hr, bT]⟩, trivial⟩
  rw [ht] at hr
  simp only [go_sem, ht]
  have qH := aI @h1 (aI @h2 (aI @h3 (aI @h4 (aI @decide_true (aI @decide_false (aI @hz @ht)))))); repeat' (with_reducible first | refine nY ?_ | (refine mX ?_; try simp only [go_sem, qH]) | refine kD ?_ | refine rT [5, 7] [] ?_ | refine dP (aX ?_) (uX ?_) | refine fA (aX ?_) ?_ | (refine uA ?_; simp only [go_sem, qH]; (repeat' first | omega | refine And.intro ?_ ?_ | refine cP (aB n.fName) ?_ | refine cP (aC n.fValue hs) ?_ | (refine mX ?_; simp only [go_sem, qH] <;> fail)); done) | refine cP (aB n.fName) ?_ | refine cP (aC n.fValue hs) ?_ | refine aO ?_ | fail)
  cases hv : dA n.fValue
  ·rw [hv] at hr
   simp only [go_sem, hv]
   have qH := aI @h1 (aI @h2 (aI @h3 (aI @h4 (aI @decide_true (aI @decide_false (aI @hz (aI @ht @hv))))))); repeat' (with_reducible first | refine nY ?_ | (refine mX ?_; try simp only [go_sem, qH]) | refine kD ?_ | refine rT [5, 7] [] ?_ | refine dP (aX ?_) (uX ?_) | refine fA (aX ?_) ?_ | (refine uA ?_; simp only [go_sem, qH]; (repeat' first | omega | refine And.intro ?_ ?_ | refine cP (aB n.fName) ?_ | refine cP (aC n.fValue hs) ?_ | (refine mX ?_; simp only [go_sem, qH] <;> fail)); done) | refine cP (aB n.fName) ?_ | refine cP (aC n.fValue hs) ?_ | refine aO ?_ | fail)
   exact aA ⟨⟨_, rfl, by simp only [go_sem, hr, bT]⟩, trivial⟩
  rw [hv] at hr
  simp only [go_sem, hv]
  have qH := aI @h1 (aI @h2 (aI @h3 (aI @h4 (aI @decide_true (aI @decide_false (aI @hz (aI @ht @hv))))))); repeat' (with_reducible first | refine nY ?_ | (refine mX ?_; try simp only [go_sem, qH]) | refine kD ?_ | refine rT [5, 7] [] ?_ | refine dP (aX ?_) (uX ?_) | refine fA (aX ?_) ?_ | (refine uA ?_; simp only [go_sem, qH]; (repeat' first | omega | refine And.intro ?_ ?_ | refine cP (aB n.fName) ?_ | refine cP (aC n.fValue hs) ?_ | (refine mX ?_; simp only [go_sem, qH] <;> fail)); done) | refine cP (aB n.fName) ?_ | refine cP (aC n.fValue hs) ?_ | refine aO ?_ | fail)
  by_cases hk : n.fValue.fKind = 0
  ·simp only [hk, decide_true] at hr
   simp only [go_sem, hk, decide_true]
   have qH := aI @h1 (aI @h2 (aI @h3 (aI @h4 (aI @decide_true (aI @decide_false (aI @hz (aI @ht (aI @hv @hk)))))))); repeat' (with_reducible first | refine nY ?_ | (refine mX ?_; try simp only [go_sem, qH]) | refine kD ?_ | refine rT [5, 7] [] ?_ | refine dP (aX ?_) (uX ?_) | refine fA (aX ?_) ?_ | (refine uA ?_; simp only [go_sem, qH]; (repeat' first | omega | refine And.intro ?_ ?_ | refine cP (aB n.fName) ?_ | refine cP (aC n.fValue hs) ?_ | (refine mX ?_; simp only [go_sem, qH] <;> fail)); done) | refine cP (aB n.fName) ?_ | refine cP (aC n.fValue hs) ?_ | refine aO ?_ | fail)
   exact aA ⟨⟨_, rfl, by simp only [go_sem, hr, bT]⟩, trivial⟩
  simp only [hk, decide_false] at hr
  simp only [go_sem, hk, decide_false]
  have qH := aI @h1 (aI @h2 (aI @h3 (aI @h4 (aI @decide_true (aI @decide_false (aI @hz (aI @ht (aI @hv @hk)))))))); repeat' (with_reducible first | refine nY ?_ | (refine mX ?_; try simp only [go_sem, qH]) | refine kD ?_ | refine rT [5, 7] [] ?_ | refine dP (aX ?_) (uX ?_) | refine fA (aX ?_) ?_ | (refine uA ?_; simp only [go_sem, qH]; (repeat' first | omega | refine And.intro ?_ ?_ | refine cP (aB n.fName) ?_ | refine cP (aC n.fValue hs) ?_ | (refine mX ?_; simp only [go_sem, qH] <;> fail)); done) | refine cP (aB n.fName) ?_ | refine cP (aC n.fValue hs) ?_ | refine aO ?_ | fail)
  by_cases hj : n.fValue.fKind = 1
  rotate_left
  ·simp only [hj, decide_false] at hr
   simp only [go_sem, hj, decide_false]
   have qH := aI @h1 (aI @h2 (aI @h3 (aI @h4 (aI @decide_true (aI @decide_false (aI @hz (aI @ht (aI @hv (aI @hk @hj))))))))); repeat' (with_reducible first | refine nY ?_ | (refine mX ?_; try simp only [go_sem, qH]) | refine kD ?_ | refine rT [5, 7] [] ?_ | refine dP (aX ?_) (uX ?_) | refine fA (aX ?_) ?_ | (refine uA ?_; simp only [go_sem, qH]; (repeat' first | omega | refine And.intro ?_ ?_ | refine cP (aB n.fName) ?_ | refine cP (aC n.fValue hs) ?_ | (refine mX ?_; simp only [go_sem, qH] <;> fail)); done) | refine cP (aB n.fName) ?_ | refine cP (aC n.fValue hs) ?_ | refine aO ?_ | fail)
   exact aA ⟨⟨_, rfl, by simp only [go_sem, hr, bT]⟩, trivial⟩
  simp only [hj, decide_true] at hr
  simp only [go_sem, hj, decide_true]
  have qH := aI @h1 (aI @h2 (aI @h3 (aI @h4 (aI @decide_true (aI @decide_false (aI @hz (aI @ht (aI @hv (aI @hk @hj))))))))); repeat' (with_reducible first | refine nY ?_ | (refine mX ?_; try simp only [go_sem, qH]) | refine kD ?_ | refine rT [5, 7] [] ?_ | refine dP (aX ?_) (uX ?_) | refine fA (aX ?_) ?_ | (refine uA ?_; simp only [go_sem, qH]; (repeat' first | omega | refine And.intro ?_ ?_ | refine cP (aB n.fName) ?_ | refine cP (aC n.fValue hs) ?_ | (refine mX ?_; simp only [go_sem, qH] <;> fail)); done) | refine cP (aB n.fName) ?_ | refine cP (aC n.fValue hs) ?_ | refine aO ?_ | fail)
  exact aA ⟨⟨_, rfl, by simp only [go_sem, hr, bT]⟩, trivial⟩
 by_cases h5 : n.fOp = 5
 ·have hr : bF n i = ((decide (n.fRight = 0) && (decide (n.fName = ⟨#[]⟩) && (decide (n.fValue.fKind = 0) && (decide (n.fValue.fInt = 0) && decide (n.fValue.fStr = ⟨#[]⟩))))) && (decide (0 < (i : Int)) && inB n.fLeft 0 ((i : Int) - 1))) := by simp [bF, h5, sQ, jX, eV, Bool.and_assoc, Bool.and_comm, Bool.and_left_comm]
  have q0 := @h1; have q1 := @h2; have q2 := @h3; have q3 := @h4; have q4 := @h5; have q5 := @decide_true; have q6 := @decide_false; refine a6d (aG n.fLeft 0 ((i : Int) - 1)) ?_
  cases hz : (decide (n.fRight = 0) && (decide (n.fName = ⟨#[]⟩) && (decide (n.fValue.fKind = 0) && (decide (n.fValue.fInt = 0) && decide (n.fValue.fStr = ⟨#[]⟩)))))
  ·rw [hz] at hr
   simp only [go_sem, hz]
   have q0 := @h1; have q1 := @h2; have q2 := @h3; have q3 := @h4; have q4 := @h5; have q5 := @decide_true; have q6 := @decide_false; have q7 := @hz; refine a7M (aG n.fLeft 0 ((i : Int) - 1)) ?_
   exact aA ⟨⟨_, rfl, by simp only [go_sem, hr, bT]⟩, trivial⟩
  rw [hz] at hr
  simp only [go_sem, hz]
  have q0 := @h1; have q1 := @h2; have q2 := @h3; have q3 := @h4; have q4 := @h5; have q5 := @decide_true; have q6 := @decide_false; have q7 := @hz; refine a7M (aG n.fLeft 0 ((i : Int) - 1)) ?_
  by_cases hp : 0 < (i : Int)
  rotate_left
  ·simp only [hp, decide_false] at hr
   simp only [go_sem, hp, decide_false]
   have q0 := @h1; have q1 := @h2; have q2 := @h3; have q3 := @h4; have q4 := @h5; have q5 := @decide_true; have q6 := @decide_false; have q7 := @hz; have q8 := @hp; refine b0v (aG n.fLeft 0 ((i : Int) - 1)) ?_
   exact aA ⟨⟨_, rfl, by simp only [go_sem, hr, bT]⟩, trivial⟩
  simp only [hp, decide_true] at hr
  simp only [go_sem, hp, decide_true]
  have q0 := @h1; have q1 := @h2; have q2 := @h3; have q3 := @h4; have q4 := @h5; have q5 := @decide_true; have q6 := @decide_false; have q7 := @hz; have q8 := @hp; refine b0v (aG n.fLeft 0 ((i : Int) - 1)) ?_
  exact aA ⟨⟨_, rfl, by simp only [go_sem, hr, bT]⟩, trivial⟩
 by_cases h67 : n.fOp = 6 ∨ n.fOp = 7
 ·have hr : bF n i = ((decide (n.fName = ⟨#[]⟩) && (decide (n.fValue.fKind = 0) && (decide (n.fValue.fInt = 0) && decide (n.fValue.fStr = ⟨#[]⟩)))) && (decide (0 < (i : Int)) && (inB n.fLeft 0 ((i : Int) - 1) && inB n.fRight 0 ((i : Int) - 1)))) := by
   rcases h67 with h67 | h67 <;> simp [bF, h67, sQ, a2e, jX, eV, Bool.and_assoc, Bool.and_comm, Bool.and_left_comm]
  by_cases h6 : n.fOp = 6
  ·skip
   have qH := aI @h1 (aI @h2 (aI @h3 (aI @h4 (aI @h5 (aI @h6 (aI @decide_true @decide_false)))))); repeat' (with_reducible first | refine nY ?_ | (refine mX ?_; try simp only [go_sem, qH]) | refine kD ?_ | refine rT [5, 7] [] ?_ | refine dP (aX ?_) (uX ?_) | refine fA (aX ?_) ?_ | (refine uA ?_; simp only [go_sem, qH]; (repeat' first | omega | refine And.intro ?_ ?_ | refine cP (aG n.fLeft 0 ((i : Int) - 1)) ?_ | refine cP (aG n.fRight 0 ((i : Int) - 1)) ?_ | (refine mX ?_; simp only [go_sem, qH] <;> fail)); done) | refine cP (aG n.fLeft 0 ((i : Int) - 1)) ?_ | refine cP (aG n.fRight 0 ((i : Int) - 1)) ?_ | refine aO ?_ | fail)
   cases hz : (decide (n.fName = ⟨#[]⟩) && (decide (n.fValue.fKind = 0) && (decide (n.fValue.fInt = 0) && decide (n.fValue.fStr = ⟨#[]⟩))))
   ·rw [hz] at hr
    simp only [go_sem, hz]
    have q0 := @h1; have q1 := @h2; have q2 := @h3; have q3 := @h4; have q4 := @h5; have q5 := @h6; have q6 := @decide_true; have q7 := @decide_false; have q8 := @hz; refine a7N (aG n.fLeft 0 ((i : Int) - 1)) (aG n.fRight 0 ((i : Int) - 1)) ?_
    exact aA ⟨⟨_, rfl, by simp only [go_sem, hr, bT]⟩, trivial⟩
   rw [hz] at hr
   simp only [go_sem, hz]
   have q0 := @h1; have q1 := @h2; have q2 := @h3; have q3 := @h4; have q4 := @h5; have q5 := @h6; have q6 := @decide_true; have q7 := @decide_false; have q8 := @hz; refine a7N (aG n.fLeft 0 ((i : Int) - 1)) (aG n.fRight 0 ((i : Int) - 1)) ?_
   by_cases hp : 0 < (i : Int)
   rotate_left
   ·simp only [hp, decide_false] at hr
    simp only [go_sem, hp, decide_false]
    have q0 := @h1; have q1 := @h2; have q2 := @h3; have q3 := @h4; have q4 := @h5; have q5 := @h6; have q6 := @decide_true; have q7 := @decide_false; have q8 := @hz; have q9 := @hp; refine a6e (aG n.fLeft 0 ((i : Int) - 1)) (aG n.fRight 0 ((i : Int) - 1)) ?_
    exact aA ⟨⟨_, rfl, by simp only [go_sem, hr, bT]⟩, trivial⟩
   simp only [hp, decide_true] at hr
   simp only [go_sem, hp, decide_true]
   have q0 := @h1; have q1 := @h2; have q2 := @h3; have q3 := @h4; have q4 := @h5; have q5 := @h6; have q6 := @decide_true; have q7 := @decide_false; have q8 := @hz; have q9 := @hp; refine a6e (aG n.fLeft 0 ((i : Int) - 1)) (aG n.fRight 0 ((i : Int) - 1)) ?_
   cases hl : inB n.fLeft 0 ((i : Int) - 1)
   ·rw [hl] at hr
    simp only [go_sem, hl]
    have qH := aI @h1 (aI @h2 (aI @h3 (aI @h4 (aI @h5 (aI @h6 (aI @decide_true (aI @decide_false (aI @hz (aI @hp @hl))))))))); repeat' (with_reducible first | refine nY ?_ | (refine mX ?_; try simp only [go_sem, qH]) | refine kD ?_ | refine cP (aG n.fLeft 0 ((i : Int) - 1)) ?_ | refine cP (aG n.fRight 0 ((i : Int) - 1)) ?_ | refine aO ?_ | fail)
    exact aA ⟨⟨_, rfl, by simp only [go_sem, hr, bT]⟩, trivial⟩
   rw [hl] at hr
   simp only [go_sem, hl]
   have qH := aI @h1 (aI @h2 (aI @h3 (aI @h4 (aI @h5 (aI @h6 (aI @decide_true (aI @decide_false (aI @hz (aI @hp @hl))))))))); repeat' (with_reducible first | refine nY ?_ | (refine mX ?_; try simp only [go_sem, qH]) | refine kD ?_ | refine cP (aG n.fLeft 0 ((i : Int) - 1)) ?_ | refine cP (aG n.fRight 0 ((i : Int) - 1)) ?_ | refine aO ?_ | fail)
   exact aA ⟨⟨_, rfl, by simp only [go_sem, hr, bT]⟩, trivial⟩
  ·have h7 : n.fOp = 7 := by omega
   have qH := aI @h1 (aI @h2 (aI @h3 (aI @h4 (aI @h5 (aI @h6 (aI @h7 (aI @decide_true @decide_false))))))); repeat' (with_reducible first | refine nY ?_ | (refine mX ?_; try simp only [go_sem, qH]) | refine kD ?_ | refine rT [5, 7] [] ?_ | refine dP (aX ?_) (uX ?_) | refine fA (aX ?_) ?_ | (refine uA ?_; simp only [go_sem, qH]; (repeat' first | omega | refine And.intro ?_ ?_ | refine cP (aG n.fLeft 0 ((i : Int) - 1)) ?_ | refine cP (aG n.fRight 0 ((i : Int) - 1)) ?_ | (refine mX ?_; simp only [go_sem, qH] <;> fail)); done) | refine cP (aG n.fLeft 0 ((i : Int) - 1)) ?_ | refine cP (aG n.fRight 0 ((i : Int) - 1)) ?_ | refine aO ?_ | fail)
   cases hz : (decide (n.fName = ⟨#[]⟩) && (decide (n.fValue.fKind = 0) && (decide (n.fValue.fInt = 0) && decide (n.fValue.fStr = ⟨#[]⟩))))
   ·rw [hz] at hr
    simp only [go_sem, hz]
    have q0 := @h1; have q1 := @h2; have q2 := @h3; have q3 := @h4; have q4 := @h5; have q5 := @h6; have q6 := @h7; have q7 := @decide_true; have q8 := @decide_false; have q9 := @hz; refine a6e (aG n.fLeft 0 ((i : Int) - 1)) (aG n.fRight 0 ((i : Int) - 1)) ?_
    exact aA ⟨⟨_, rfl, by simp only [go_sem, hr, bT]⟩, trivial⟩
   rw [hz] at hr
   simp only [go_sem, hz]
   have q0 := @h1; have q1 := @h2; have q2 := @h3; have q3 := @h4; have q4 := @h5; have q5 := @h6; have q6 := @h7; have q7 := @decide_true; have q8 := @decide_false; have q9 := @hz; refine a6e (aG n.fLeft 0 ((i : Int) - 1)) (aG n.fRight 0 ((i : Int) - 1)) ?_
   by_cases hp : 0 < (i : Int)
   rotate_left
   ·simp only [hp, decide_false] at hr
    simp only [go_sem, hp, decide_false]
    have qH := aI @h1 (aI @h2 (aI @h3 (aI @h4 (aI @h5 (aI @h6 (aI @h7 (aI @decide_true (aI @decide_false (aI @hz @hp))))))))); repeat' (with_reducible first | refine nY ?_ | (refine mX ?_; try simp only [go_sem, qH]) | refine kD ?_ | refine cP (aG n.fLeft 0 ((i : Int) - 1)) ?_ | refine cP (aG n.fRight 0 ((i : Int) - 1)) ?_ | refine aO ?_ | fail)
    exact aA ⟨⟨_, rfl, by simp only [go_sem, hr, bT]⟩, trivial⟩
   simp only [hp, decide_true] at hr
   simp only [go_sem, hp, decide_true]
   have qH := aI @h1 (aI @h2 (aI @h3 (aI @h4 (aI @h5 (aI @h6 (aI @h7 (aI @decide_true (aI @decide_false (aI @hz @hp))))))))); repeat' (with_reducible first | refine nY ?_ | (refine mX ?_; try simp only [go_sem, qH]) | refine kD ?_ | refine cP (aG n.fLeft 0 ((i : Int) - 1)) ?_ | refine cP (aG n.fRight 0 ((i : Int) - 1)) ?_ | refine aO ?_ | fail)
   cases hl : inB n.fLeft 0 ((i : Int) - 1)
   ·rw [hl] at hr
    simp only [go_sem, hl]
    have qH := aI @h1 (aI @h2 (aI @h3 (aI @h4 (aI @h5 (aI @h6 (aI @h7 (aI @decide_true (aI @decide_false (aI @hz (aI @hp @hl)))))))))); repeat' (with_reducible first | refine nY ?_ | (refine mX ?_; try simp only [go_sem, qH]) | refine kD ?_ | refine cP (aG n.fLeft 0 ((i : Int) - 1)) ?_ | refine cP (aG n.fRight 0 ((i : Int) - 1)) ?_ | refine aO ?_ | fail)
    exact aA ⟨⟨_, rfl, by simp only [go_sem, hr, bT]⟩, trivial⟩
   rw [hl] at hr
   simp only [go_sem, hl]
   have qH := aI @h1 (aI @h2 (aI @h3 (aI @h4 (aI @h5 (aI @h6 (aI @h7 (aI @decide_true (aI @decide_false (aI @hz (aI @hp @hl)))))))))); repeat' (with_reducible first | refine nY ?_ | (refine mX ?_; try simp only [go_sem, qH]) | refine kD ?_ | refine cP (aG n.fLeft 0 ((i : Int) - 1)) ?_ | refine cP (aG n.fRight 0 ((i : Int) - 1)) ?_ | refine aO ?_ | fail)
   exact aA ⟨⟨_, rfl, by simp only [go_sem, hr, bT]⟩, trivial⟩
 have h6 : ¬ n.fOp = 6 := by omega
 have h7 : ¬ n.fOp = 7 := by omega
 by_cases h8 : n.fOp = 8
 ·have hr : bF n i = (aV n.fName 6 && (decide (n.fLeft = 0) && (decide (n.fRight = 0) && (decide (n.fValue.fKind = 0) && (decide (n.fValue.fInt = 0) && decide (n.fValue.fStr = ⟨#[]⟩)))))) := by simp [bF, h8, iH, eV, Bool.and_assoc]
  have q0 := @h1; have q1 := @h2; have q2 := @h3; have q3 := @h4; have q4 := @h5; have q5 := @h6; have q6 := @h7; have q7 := @h8; have q8 := @decide_true; have q9 := @decide_false; refine a8O (aT n.fName hn) ?_
  cases hz : (decide (n.fLeft = 0) && (decide (n.fRight = 0) && (decide (n.fValue.fKind = 0) && (decide (n.fValue.fInt = 0) && decide (n.fValue.fStr = ⟨#[]⟩)))))
  ·rw [hz] at hr
   simp only [go_sem, hz]
   have qH := aI @h1 (aI @h2 (aI @h3 (aI @h4 (aI @h5 (aI @h6 (aI @h7 (aI @h8 (aI @decide_true (aI @decide_false @hz))))))))); repeat' (with_reducible first | refine nY ?_ | (refine mX ?_; try simp only [go_sem, qH]) | refine kD ?_ | refine cP (aT n.fName hn) ?_ | refine aO ?_ | fail)
   exact aA ⟨⟨_, rfl, by simp only [go_sem, hr, bT]⟩, trivial⟩
  rw [hz] at hr
  simp only [go_sem, hz]
  have qH := aI @h1 (aI @h2 (aI @h3 (aI @h4 (aI @h5 (aI @h6 (aI @h7 (aI @h8 (aI @decide_true (aI @decide_false @hz))))))))); repeat' (with_reducible first | refine nY ?_ | (refine mX ?_; try simp only [go_sem, qH]) | refine kD ?_ | refine cP (aT n.fName hn) ?_ | refine aO ?_ | fail)
  exact aA ⟨⟨_, rfl, by simp only [go_sem, hr, bT]⟩, trivial⟩
 by_cases h9 : n.fOp = 9
 ·have hr : bF n i = (aV n.fName 6 && (decide (n.fLeft = 0) && (decide (n.fRight = 0) && (decide (n.fValue.fKind = 0) && (decide (n.fValue.fInt = 0) && decide (n.fValue.fStr = ⟨#[]⟩)))))) := by simp [bF, h9, iH, eV, Bool.and_assoc]
  have qH := aI @h1 (aI @h2 (aI @h3 (aI @h4 (aI @h5 (aI @h6 (aI @h7 (aI @h8 (aI @h9 (aI @decide_true @decide_false))))))))); repeat' (with_reducible first | refine nY ?_ | (refine mX ?_; try simp only [go_sem, qH]) | refine kD ?_ | refine cP (aT n.fName hn) ?_ | refine aO ?_ | fail)
  cases hz : (decide (n.fLeft = 0) && (decide (n.fRight = 0) && (decide (n.fValue.fKind = 0) && (decide (n.fValue.fInt = 0) && decide (n.fValue.fStr = ⟨#[]⟩)))))
  ·rw [hz] at hr
   simp only [go_sem, hz]
   have qH := aI @h1 (aI @h2 (aI @h3 (aI @h4 (aI @h5 (aI @h6 (aI @h7 (aI @h8 (aI @h9 (aI @decide_true (aI @decide_false @hz)))))))))); repeat' (with_reducible first | refine nY ?_ | (refine mX ?_; try simp only [go_sem, qH]) | refine kD ?_ | refine cP (aT n.fName hn) ?_ | refine aO ?_ | fail)
   exact aA ⟨⟨_, rfl, by simp only [go_sem, hr, bT]⟩, trivial⟩
  rw [hz] at hr
  simp only [go_sem, hz]
  have qH := aI @h1 (aI @h2 (aI @h3 (aI @h4 (aI @h5 (aI @h6 (aI @h7 (aI @h8 (aI @h9 (aI @decide_true (aI @decide_false @hz)))))))))); repeat' (with_reducible first | refine nY ?_ | (refine mX ?_; try simp only [go_sem, qH]) | refine kD ?_ | refine cP (aT n.fName hn) ?_ | refine aO ?_ | fail)
  exact aA ⟨⟨_, rfl, by simp only [go_sem, hr, bT]⟩, trivial⟩
 have hr : bF n i = false := by simp [bF, h1, h2, h3, h4, h5, h6, h7, h8, h9]
 have q0 := @h1; have q1 := @h2; have q2 := @h3; have q3 := @h4; have q4 := @h5; have q5 := @h6; have q6 := @h7; have q7 := @h8; have q8 := @h9; have q9 := @decide_false; refine pY ?_
 exact aA ⟨⟨_, rfl, by simp only [go_sem, hr]⟩, trivial⟩
theorem iG (n : TNode) (i : Nat) (hi : i ≤ 4300000) (hs : n.fValue.fStr.size ≤ 4300000) (hn : n.fName.size ≤ 4300000) : FnC Tryz.prog 206 [a8Q n, oi i] (ob (bF n i)) := by
 refine ent Tryz.func206 rfl Tryz.call206 rfl (fun C => ?_); simp only [go_sem, st0, Tryz.ntmps206]
 repeat' (with_reducible first | refine nX ?_ | (refine mX ?_; try simp only [go_sem]) | refine kD ?_ | refine aO ?_ | fail)
 refine reg ?_
 repeat' (with_reducible first | refine nX ?_ | (refine mX ?_; try simp only [go_sem]) | refine kD ?_ | refine aO ?_ | fail)
 refine a7K [(5, ob (sQ n i))] [] ?_ ?_
 ·cases hl : inB n.fLeft 0 ((i : Int) - 1) <;> by_cases hp : 0 < (i : Int)
  all_goals
   refine reg ?_
   have qH := aI @hl (aI @hp (aI @decide_true @decide_false)); repeat' (with_reducible first | refine nX ?_ | (refine mX ?_; try simp only [go_sem, qH]) | refine kD ?_ | refine cP (bS n.fLeft 0 ((i : Int) - 1)) ?_ | refine aO ?_ | fail)
   exact a1V (by simp only [go_sem, sQ, hl, hp, decide_true, decide_false, Bool.and_true, Bool.and_false]; simp) (by simp only [go_sem])
 simp only [go_sem]
 repeat' (with_reducible first | refine nX ?_ | (refine mX ?_; try simp only [go_sem]) | refine kD ?_ | refine aO ?_ | fail)
 refine a7K [(6, ob (sQ n i && a2e n i))] [] ?_ ?_
 ·cases hl : sQ n i <;> cases hq : a2e n i
  all_goals
   refine reg ?_
   have qH := aI @hl @hq; repeat' (with_reducible first | refine nX ?_ | (refine mX ?_; try simp only [go_sem, qH]) | refine kD ?_ | refine cP ((bS n.fRight 0 ((i : Int) - 1) : FnC Tryz.prog _ _ (ob (a2e n i)))) ?_ | refine aO ?_ | fail)
   exact a1V (by simp only [go_sem, hl, hq, Bool.and_true, Bool.and_false]; simp) (by simp only [go_sem])
 simp only [go_sem]
 by_cases h1 : n.fOp = 1
 ·have hr : bF n i = (decide (n.fLeft = 0) && (decide (n.fRight = 0) && (decide (n.fName = ⟨#[]⟩) && (decide (n.fValue.fKind = 0) && (decide (n.fValue.fInt = 0) && decide (n.fValue.fStr = ⟨#[]⟩)))))) := by simp [bF, h1, iH, jX, eV, Bool.and_assoc]
  have q0 := @h1; have q1 := @decide_true; have q2 := @decide_false; refine kI ?_
  exact aA ⟨⟨_, rfl, by simp only [go_sem, hr, bT]⟩, trivial⟩
 by_cases h2 : n.fOp = 2
 ·have hr : bF n i = (aV n.fName 1 && (decide (n.fLeft = 0) && (decide (n.fRight = 0) && (decide (n.fValue.fKind = 0) && (decide (n.fValue.fInt = 0) && decide (n.fValue.fStr = ⟨#[]⟩)))))) := by simp [bF, h2, iH, jX, eV, Bool.and_assoc]
  have q0 := @h1; have q1 := @h2; have q2 := @decide_true; have q3 := @decide_false; refine a0X (aK n.fName hn) ?_
  cases ht : aV n.fName 1
  ·rw [ht] at hr
   simp only [go_sem, ht]
   have q0 := @h1; have q1 := @h2; have q2 := @decide_true; have q3 := @decide_false; have q4 := @ht; refine vW ?_
   exact aA ⟨⟨_, rfl, by simp only [go_sem, hr, bT]⟩, trivial⟩
  rw [ht] at hr
  simp only [go_sem, ht]
  have q0 := @h1; have q1 := @h2; have q2 := @decide_true; have q3 := @decide_false; have q4 := @ht; refine a0h (aK n.fName hn) ?_
  exact aA ⟨⟨_, rfl, by simp only [go_sem, hr, bT]⟩, trivial⟩
 by_cases h3 : n.fOp = 3
 ·have hr : bF n i = (aV n.fName 1 && (dA n.fValue && (!decide (n.fValue.fKind = 0) && (decide (n.fLeft = 0) && decide (n.fRight = 0))))) := by simp [bF, h3, iH]
  have q0 := @h1; have q1 := @h2; have q2 := @h3; have q3 := @decide_true; have q4 := @decide_false; refine b0t (aK n.fName hn) (bE n.fValue hs) ?_
  cases ht : aV n.fName 1
  ·rw [ht] at hr
   simp only [go_sem, ht]
   have q0 := @h1; have q1 := @h2; have q2 := @h3; have q3 := @decide_true; have q4 := @decide_false; have q5 := @ht; refine b1Q ?_
   exact aA ⟨⟨_, rfl, by simp only [go_sem, hr, bT]⟩, trivial⟩
  rw [ht] at hr
  simp only [go_sem, ht]
  have q0 := @h1; have q1 := @h2; have q2 := @h3; have q3 := @decide_true; have q4 := @decide_false; have q5 := @ht; refine a1X (aK n.fName hn) (bE n.fValue hs) ?_
  cases hv : dA n.fValue
  ·rw [hv] at hr
   simp only [go_sem, hv]
   have q0 := @h1; have q1 := @h2; have q2 := @h3; have q3 := @decide_true; have q4 := @decide_false; have q5 := @ht; have q6 := @hv; refine b0u ?_
   exact aA ⟨⟨_, rfl, by simp only [go_sem, hr, bT]⟩, trivial⟩
  rw [hv] at hr
  simp only [go_sem, hv]
  have q0 := @h1; have q1 := @h2; have q2 := @h3; have q3 := @decide_true; have q4 := @decide_false; have q5 := @ht; have q6 := @hv; refine b5o (aK n.fName hn) (bE n.fValue hs) ?_
  by_cases hk : n.fValue.fKind = 0
  ·simp only [hk, decide_true] at hr
   simp only [go_sem, hk, decide_true]
   have q0 := @h1; have q1 := @h2; have q2 := @h3; have q3 := @decide_true; have q4 := @decide_false; have q5 := @ht; have q6 := @hv; have q7 := @hk; refine a1Y ?_
   exact aA ⟨⟨_, rfl, by simp only [go_sem, hr, bT]⟩, trivial⟩
  simp only [hk, decide_false] at hr
  simp only [go_sem, hk, decide_false]
  have q0 := @h1; have q1 := @h2; have q2 := @h3; have q3 := @decide_true; have q4 := @decide_false; have q5 := @ht; have q6 := @hv; have q7 := @hk; refine b1R (aK n.fName hn) (bE n.fValue hs) ?_
  by_cases hL : n.fLeft = 0
  rotate_left
  ·simp only [hL, decide_false] at hr
   simp only [go_sem, hL, decide_false]
   have q0 := @h1; have q1 := @h2; have q2 := @h3; have q3 := @decide_true; have q4 := @decide_false; have q5 := @ht; have q6 := @hv; have q7 := @hk; have q8 := @hL; refine a0i ?_
   exact aA ⟨⟨_, rfl, by simp only [go_sem, hr, bT]⟩, trivial⟩
  simp only [hL, decide_true] at hr
  simp only [go_sem, hL, decide_true]
  have q0 := @h1; have q1 := @h2; have q2 := @h3; have q3 := @decide_true; have q4 := @decide_false; have q5 := @ht; have q6 := @hv; have q7 := @hk; have q8 := @hL; refine a7N (aK n.fName hn) (bE n.fValue hs) ?_
  exact aA ⟨⟨_, rfl, by simp only [go_sem, hr, bT]⟩, trivial⟩
 by_cases h4 : n.fOp = 4
 ·have hr : bF n i = (aV n.fName 1 && (dA n.fValue && (decide (n.fValue.fKind = 1) && (decide (n.fLeft = 0) && decide (n.fRight = 0))))) := by simp [bF, h4, iH]
  have q0 := @h1; have q1 := @h2; have q2 := @h3; have q3 := @h4; have q4 := @decide_true; have q5 := @decide_false; refine a1X (aK n.fName hn) (bE n.fValue hs) ?_
  cases ht : aV n.fName 1
  ·rw [ht] at hr
   simp only [go_sem, ht]
   have q0 := @h1; have q1 := @h2; have q2 := @h3; have q3 := @h4; have q4 := @decide_true; have q5 := @decide_false; have q6 := @ht; refine b0u ?_
   exact aA ⟨⟨_, rfl, by simp only [go_sem, hr, bT]⟩, trivial⟩
  rw [ht] at hr
  simp only [go_sem, ht]
  have q0 := @h1; have q1 := @h2; have q2 := @h3; have q3 := @h4; have q4 := @decide_true; have q5 := @decide_false; have q6 := @ht; refine b5o (aK n.fName hn) (bE n.fValue hs) ?_
  cases hv : dA n.fValue
  ·rw [hv] at hr
   simp only [go_sem, hv]
   have q0 := @h1; have q1 := @h2; have q2 := @h3; have q3 := @h4; have q4 := @decide_true; have q5 := @decide_false; have q6 := @ht; have q7 := @hv; refine a1Y ?_
   exact aA ⟨⟨_, rfl, by simp only [go_sem, hr, bT]⟩, trivial⟩
  rw [hv] at hr
  simp only [go_sem, hv]
  have q0 := @h1; have q1 := @h2; have q2 := @h3; have q3 := @h4; have q4 := @decide_true; have q5 := @decide_false; have q6 := @ht; have q7 := @hv; refine b1R (aK n.fName hn) (bE n.fValue hs) ?_
  by_cases hk : n.fValue.fKind = 1
  rotate_left
  ·simp only [hk, decide_false] at hr
   simp only [go_sem, hk, decide_false]
   have q0 := @h1; have q1 := @h2; have q2 := @h3; have q3 := @h4; have q4 := @decide_true; have q5 := @decide_false; have q6 := @ht; have q7 := @hv; have q8 := @hk; refine a0i ?_
   exact aA ⟨⟨_, rfl, by simp only [go_sem, hr, bT]⟩, trivial⟩
  simp only [hk, decide_true] at hr
  simp only [go_sem, hk, decide_true]
  have q0 := @h1; have q1 := @h2; have q2 := @h3; have q3 := @h4; have q4 := @decide_true; have q5 := @decide_false; have q6 := @ht; have q7 := @hv; have q8 := @hk; refine a7N (aK n.fName hn) (bE n.fValue hs) ?_
  by_cases hL : n.fLeft = 0
  rotate_left
  ·simp only [hL, decide_false] at hr
   simp only [go_sem, hL, decide_false]
   have q0 := @h1; have q1 := @h2; have q2 := @h3; have q3 := @h4; have q4 := @decide_true; have q5 := @decide_false; have q6 := @ht; have q7 := @hv; have q8 := @hk; have q9 := @hL; refine pY ?_
   exact aA ⟨⟨_, rfl, by simp only [go_sem, hr, bT]⟩, trivial⟩
  simp only [hL, decide_true] at hr
  simp only [go_sem, hL, decide_true]
  have q0 := @h1; have q1 := @h2; have q2 := @h3; have q3 := @h4; have q4 := @decide_true; have q5 := @decide_false; have q6 := @ht; have q7 := @hv; have q8 := @hk; have q9 := @hL; refine a6e (aK n.fName hn) (bE n.fValue hs) ?_
  exact aA ⟨⟨_, rfl, by simp only [go_sem, hr, bT]⟩, trivial⟩
 by_cases h5 : n.fOp = 5
 ·have hr : bF n i = (sQ n i && (decide (n.fRight = 0) && (decide (n.fName = ⟨#[]⟩) && (decide (n.fValue.fKind = 0) && (decide (n.fValue.fInt = 0) && decide (n.fValue.fStr = ⟨#[]⟩)))))) := by simp [bF, h5, jX, eV]
  have q0 := @h1; have q1 := @h2; have q2 := @h3; have q3 := @h4; have q4 := @h5; have q5 := @decide_true; have q6 := @decide_false; refine b0u ?_
  cases hk : sQ n i
  ·rw [hk] at hr
   simp only [go_sem, hk]
   have q0 := @h1; have q1 := @h2; have q2 := @h3; have q3 := @h4; have q4 := @h5; have q5 := @decide_true; have q6 := @decide_false; have q7 := @hk; refine a1Y ?_
   exact aA ⟨⟨_, rfl, by simp only [go_sem, hr, bT]⟩, trivial⟩
  rw [hk] at hr
  simp only [go_sem, hk]
  have q0 := @h1; have q1 := @h2; have q2 := @h3; have q3 := @h4; have q4 := @h5; have q5 := @decide_true; have q6 := @decide_false; have q7 := @hk; refine a1Y ?_
  by_cases hR : n.fRight = 0
  rotate_left
  ·simp only [hR, decide_false] at hr
   simp only [go_sem, hR, decide_false]
   have q0 := @h1; have q1 := @h2; have q2 := @h3; have q3 := @h4; have q4 := @h5; have q5 := @decide_true; have q6 := @decide_false; have q7 := @hk; have q8 := @hR; refine a0i ?_
   exact aA ⟨⟨_, rfl, by simp only [go_sem, hr, bT]⟩, trivial⟩
  simp only [hR, decide_true] at hr
  simp only [go_sem, hR, decide_true]
  have q0 := @h1; have q1 := @h2; have q2 := @h3; have q3 := @h4; have q4 := @h5; have q5 := @decide_true; have q6 := @decide_false; have q7 := @hk; have q8 := @hR; refine a0i ?_
  by_cases hN : n.fName = ⟨#[]⟩
  rotate_left
  ·simp only [hN, decide_false] at hr
   simp only [go_sem, hN, decide_false]
   have q0 := @h1; have q1 := @h2; have q2 := @h3; have q3 := @h4; have q4 := @h5; have q5 := @decide_true; have q6 := @decide_false; have q7 := @hk; have q8 := @hR; have q9 := @hN; refine pY ?_
   exact aA ⟨⟨_, rfl, by simp only [go_sem, hr, bT]⟩, trivial⟩
  simp only [hN, decide_true] at hr
  simp only [go_sem, hN, decide_true]
  have q0 := @h1; have q1 := @h2; have q2 := @h3; have q3 := @h4; have q4 := @h5; have q5 := @decide_true; have q6 := @decide_false; have q7 := @hk; have q8 := @hR; have q9 := @hN; refine pY ?_
  exact aA ⟨⟨_, rfl, by simp only [go_sem, hr, bT]⟩, trivial⟩
 by_cases h6 : n.fOp = 6
 ·have hr : bF n i = ((sQ n i && a2e n i) && (decide (n.fName = ⟨#[]⟩) && (decide (n.fValue.fKind = 0) && (decide (n.fValue.fInt = 0) && decide (n.fValue.fStr = ⟨#[]⟩))))) := by simp [bF, h6, jX, eV, Bool.and_assoc]
  have q0 := @h1; have q1 := @h2; have q2 := @h3; have q3 := @h4; have q4 := @h5; have q5 := @h6; have q6 := @decide_true; have q7 := @decide_false; refine a1Y ?_
  cases hk : (sQ n i && a2e n i)
  ·rw [hk] at hr
   simp only [go_sem, hk]
   have q0 := @h1; have q1 := @h2; have q2 := @h3; have q3 := @h4; have q4 := @h5; have q5 := @h6; have q6 := @decide_true; have q7 := @decide_false; have q8 := @hk; refine a0i ?_
   exact aA ⟨⟨_, rfl, by simp only [go_sem, hr, bT]⟩, trivial⟩
  rw [hk] at hr
  simp only [go_sem, hk]
  have q0 := @h1; have q1 := @h2; have q2 := @h3; have q3 := @h4; have q4 := @h5; have q5 := @h6; have q6 := @decide_true; have q7 := @decide_false; have q8 := @hk; refine a0i ?_
  by_cases hN : n.fName = ⟨#[]⟩
  rotate_left
  ·simp only [hN, decide_false] at hr
   simp only [go_sem, hN, decide_false]
   have q0 := @h1; have q1 := @h2; have q2 := @h3; have q3 := @h4; have q4 := @h5; have q5 := @h6; have q6 := @decide_true; have q7 := @decide_false; have q8 := @hk; have q9 := @hN; refine pY ?_
   exact aA ⟨⟨_, rfl, by simp only [go_sem, hr, bT]⟩, trivial⟩
  simp only [hN, decide_true] at hr
  simp only [go_sem, hN, decide_true]
  have q0 := @h1; have q1 := @h2; have q2 := @h3; have q3 := @h4; have q4 := @h5; have q5 := @h6; have q6 := @decide_true; have q7 := @decide_false; have q8 := @hk; have q9 := @hN; refine pY ?_
  exact aA ⟨⟨_, rfl, by simp only [go_sem, hr, bT]⟩, trivial⟩
 by_cases h7 : n.fOp = 7
 ·have hr : bF n i = ((sQ n i && a2e n i) && (decide (n.fName = ⟨#[]⟩) && (decide (n.fValue.fKind = 0) && (decide (n.fValue.fInt = 0) && decide (n.fValue.fStr = ⟨#[]⟩))))) := by simp [bF, h7, jX, eV, Bool.and_assoc]
  have q0 := @h1; have q1 := @h2; have q2 := @h3; have q3 := @h4; have q4 := @h5; have q5 := @h6; have q6 := @h7; have q7 := @decide_true; have q8 := @decide_false; refine a0i ?_
  cases hk : (sQ n i && a2e n i)
  ·rw [hk] at hr
   simp only [go_sem, hk]
   have q0 := @h1; have q1 := @h2; have q2 := @h3; have q3 := @h4; have q4 := @h5; have q5 := @h6; have q6 := @h7; have q7 := @decide_true; have q8 := @decide_false; have q9 := @hk; refine pY ?_
   exact aA ⟨⟨_, rfl, by simp only [go_sem, hr, bT]⟩, trivial⟩
  rw [hk] at hr
  simp only [go_sem, hk]
  have q0 := @h1; have q1 := @h2; have q2 := @h3; have q3 := @h4; have q4 := @h5; have q5 := @h6; have q6 := @h7; have q7 := @decide_true; have q8 := @decide_false; have q9 := @hk; refine pY ?_
  by_cases hN : n.fName = ⟨#[]⟩
  rotate_left
  ·simp only [hN, decide_false] at hr
   simp only [go_sem, hN, decide_false]
   have qH := aI @h1 (aI @h2 (aI @h3 (aI @h4 (aI @h5 (aI @h6 (aI @h7 (aI @decide_true (aI @decide_false (aI @hk @hN))))))))); repeat' (with_reducible first | refine nY ?_ | (refine mX ?_; try simp only [go_sem, qH]) | refine kD ?_ | refine aO ?_ | fail)
   exact aA ⟨⟨_, rfl, by simp only [go_sem, hr, bT]⟩, trivial⟩
  simp only [hN, decide_true] at hr
  simp only [go_sem, hN, decide_true]
  have qH := aI @h1 (aI @h2 (aI @h3 (aI @h4 (aI @h5 (aI @h6 (aI @h7 (aI @decide_true (aI @decide_false (aI @hk @hN))))))))); repeat' (with_reducible first | refine nY ?_ | (refine mX ?_; try simp only [go_sem, qH]) | refine kD ?_ | refine aO ?_ | fail)
  exact aA ⟨⟨_, rfl, by simp only [go_sem, hr, bT]⟩, trivial⟩
 by_cases h8 : n.fOp = 8
 ·have hr : bF n i = (aV n.fName 6 && (decide (n.fLeft = 0) && (decide (n.fRight = 0) && (decide (n.fValue.fKind = 0) && (decide (n.fValue.fInt = 0) && decide (n.fValue.fStr = ⟨#[]⟩)))))) := by simp [bF, h8, iH, eV, Bool.and_assoc]
  have q0 := @h1; have q1 := @h2; have q2 := @h3; have q3 := @h4; have q4 := @h5; have q5 := @h6; have q6 := @h7; have q7 := @h8; have q8 := @decide_true; have q9 := @decide_false; refine a8O (bG n.fName hn) ?_
  cases ht : aV n.fName 6
  ·rw [ht] at hr
   simp only [go_sem, ht]
   have qH := aI @h1 (aI @h2 (aI @h3 (aI @h4 (aI @h5 (aI @h6 (aI @h7 (aI @h8 (aI @decide_true (aI @decide_false @ht))))))))); repeat' (with_reducible first | refine nY ?_ | (refine mX ?_; try simp only [go_sem, qH]) | refine kD ?_ | refine aO ?_ | fail)
   exact aA ⟨⟨_, rfl, by simp only [go_sem, hr, bT]⟩, trivial⟩
  rw [ht] at hr
  simp only [go_sem, ht]
  have qH := aI @h1 (aI @h2 (aI @h3 (aI @h4 (aI @h5 (aI @h6 (aI @h7 (aI @h8 (aI @decide_true (aI @decide_false @ht))))))))); repeat' (with_reducible first | refine nY ?_ | (refine mX ?_; try simp only [go_sem, qH]) | refine kD ?_ | refine cP (bG n.fName hn) ?_ | refine aO ?_ | fail)
  exact aA ⟨⟨_, rfl, by simp only [go_sem, hr, bT]⟩, trivial⟩
 by_cases h9 : n.fOp = 9
 ·have hr : bF n i = (aV n.fName 6 && (decide (n.fLeft = 0) && (decide (n.fRight = 0) && (decide (n.fValue.fKind = 0) && (decide (n.fValue.fInt = 0) && decide (n.fValue.fStr = ⟨#[]⟩)))))) := by simp [bF, h9, iH, eV, Bool.and_assoc]
  have qH := aI @h1 (aI @h2 (aI @h3 (aI @h4 (aI @h5 (aI @h6 (aI @h7 (aI @h8 (aI @h9 (aI @decide_true @decide_false))))))))); repeat' (with_reducible first | refine nY ?_ | (refine mX ?_; try simp only [go_sem, qH]) | refine kD ?_ | refine cP (bG n.fName hn) ?_ | refine aO ?_ | fail)
  cases ht : aV n.fName 6
  ·rw [ht] at hr
   simp only [go_sem, ht]
   have qH := aI @h1 (aI @h2 (aI @h3 (aI @h4 (aI @h5 (aI @h6 (aI @h7 (aI @h8 (aI @h9 (aI @decide_true (aI @decide_false @ht)))))))))); repeat' (with_reducible first | refine nY ?_ | (refine mX ?_; try simp only [go_sem, qH]) | refine kD ?_ | refine aO ?_ | fail)
   exact aA ⟨⟨_, rfl, by simp only [go_sem, hr, bT]⟩, trivial⟩
  rw [ht] at hr
  simp only [go_sem, ht]
  have qH := aI @h1 (aI @h2 (aI @h3 (aI @h4 (aI @h5 (aI @h6 (aI @h7 (aI @h8 (aI @h9 (aI @decide_true (aI @decide_false @ht)))))))))); repeat' (with_reducible first | refine nY ?_ | (refine mX ?_; try simp only [go_sem, qH]) | refine kD ?_ | refine cP (bG n.fName hn) ?_ | refine aO ?_ | fail)
  exact aA ⟨⟨_, rfl, by simp only [go_sem, hr, bT]⟩, trivial⟩
 have hr : bF n i = false := by simp [bF, h1, h2, h3, h4, h5, h6, h7, h8, h9]
 have qH := aI @h1 (aI @h2 (aI @h3 (aI @h4 (aI @h5 (aI @h6 (aI @h7 (aI @h8 (aI @h9 (aI @decide_true @decide_false))))))))); repeat' (with_reducible first | refine nY ?_ | (refine mX ?_; try simp only [go_sem, qH]) | refine kD ?_ | refine aO ?_ | fail)
 exact aA ⟨⟨_, rfl, by simp only [go_sem, hr]⟩, trivial⟩
theorem a8Z (q : List TNode) (i : Nat) (h : i < q.length) : a2M q i = (bF q[i] i && (decide (q.length ≤ i + 1) || decide (refs q i = 1))) := by
 unfold a2M; rw [List.getElem?_eq_getElem h]
theorem bJ (q : List TNode) (hl : wNodeS q ≤ 4300000) : FnC Tryz.prog 93 [.o (.d (.sl (q.map bH)))] (ob (okQ q)) := by
 unfold wNodeS at hl
 refine ent Tryz.func93 rfl Tryz.call93 rfl (fun C => ?_); simp only [go_sem, st0, Tryz.ntmps93]
 refine aD ?_
 refine dB (α := Nat) (fun k => [(7, oi k)]) (fun _ => []) (fun k => k ≤ q.length ∧ (List.range q.length).all (a2M q) = ((List.range q.length).drop k).all (a2M q)) (fun k => q.length - k) 0 (fun _ => ?_) ?_ ?_ (fun k hk => ?_)
 ·simp only [go_sem]
 ·simp only [go_sem]; simp
 ·simp
 ·obtain ⟨hk, hq⟩ := hk
  simp only [go_sem]
  refine aD ?_
  refine cnd rfl (fun h => ?_) (fun h => ?_)
  ·simp only [decide_eq_true_eq, Int.ofNat_lt] at h
   have h' : k < (List.range q.length).length := by simpa using h
   have hd := List.drop_eq_getElem_cons h'
   rw [hd, List.all_cons, List.getElem_range, a8Z q k h] at hq
   have hw := eT wC q h
   have hw1 : q[k].fName.size + q[k].fValue.fStr.size ≤ wC q[k] := by unfold wC lD; omega
   cases hn : bF q[k] k
   ·rw [hn] at hq
    have hf : okQ q = false := by unfold okQ; rw [hq]; simp
    have q0 := @h; have q1 := @hn; refine b3K (iJ q[k] k (by omega) (by omega) (by omega)) ?_
    exact aA ⟨⟨_, rfl, by simp only [go_sem, hf]⟩, trivial⟩
   by_cases he : (k : Int) < (q.length : Int) - 1
   ·have he2 : ¬ q.length ≤ k + 1 := by omega
    by_cases hc : (refs q k : Int) = 1
    ·have hc2 : refs q k = 1 := by omega
     have q0 := @h; have q1 := @hn; have q2 := @he; have q3 := @hc; have q4 := @decide_true; have q5 := @decide_false; refine a1X (iJ q[k] k (by omega) (by omega) (by omega)) (rC q k (by omega)) ?_
     refine aQ (k + 1) ?_ ?_ ?_
     ·simp only [go_sem]; simp
     ·refine ⟨h, ?_⟩
      rw [hq, hn]; simp [hc2]
     ·omega
    ·have hc2 : ¬ refs q k = 1 := by omega
     have hf : okQ q = false := by unfold okQ; rw [hq, hn]; simp [hc2, he2]
     have q0 := @h; have q1 := @hn; have q2 := @he; have q3 := @hc; have q4 := @decide_true; have q5 := @decide_false; refine a1X (iJ q[k] k (by omega) (by omega) (by omega)) (rC q k (by omega)) ?_
     exact aA ⟨⟨_, rfl, by simp only [go_sem, hf]⟩, trivial⟩
   ·have he2 : q.length ≤ k + 1 := by omega
    have q0 := @h; have q1 := @hn; have q2 := @he; have q3 := @decide_true; have q4 := @decide_false; refine b0t (iJ q[k] k (by omega) (by omega) (by omega)) (rC q k (by omega)) ?_
    refine aQ (k + 1) ?_ ?_ ?_
    ·simp only [go_sem]; simp
    ·refine ⟨h, ?_⟩
     rw [hq, hn]; simp [he2]
    ·omega
  ·simp only [decide_eq_false_iff_not] at h
   have e : k = q.length := by omega
   have hq' : (List.range q.length).all (a2M q) = true := by
    rw [hq, List.drop_of_length_le (by simp [e])]; rfl
   refine kS (aG q.length 1 9) ?_
   exact aA ⟨⟨_, rfl, by simp only [go_sem, okQ, hq', Bool.true_and]⟩, trivial⟩
theorem dO (q : List TNode) (hl : wNodeS q ≤ 4300000) : FnC Tryz.prog 161 [.o (.d (.sl (q.map bH)))] (ob (okQ q)) := by
 unfold wNodeS at hl
 refine ent Tryz.func161 rfl Tryz.call161 rfl (fun C => ?_); simp only [go_sem, st0, Tryz.ntmps161]
 refine aD ?_
 refine dB (α := Nat) (fun k => [(3, oi k)]) (fun _ => []) (fun k => k ≤ q.length ∧ (List.range q.length).all (a2M q) = ((List.range q.length).drop k).all (a2M q)) (fun k => q.length - k) 0 (fun _ => ?_) ?_ ?_ (fun k hk => ?_)
 ·simp only [go_sem]
 ·simp only [go_sem]; simp
 ·simp
 ·obtain ⟨hk, hq⟩ := hk
  simp only [go_sem]
  refine aD ?_
  refine cnd rfl (fun h => ?_) (fun h => ?_)
  ·simp only [decide_eq_true_eq, Int.ofNat_lt] at h
   have h' : k < (List.range q.length).length := by simpa using h
   have hd := List.drop_eq_getElem_cons h'
   rw [hd, List.all_cons, List.getElem_range, a8Z q k h] at hq
   have hw := eT wC q h
   have hw1 : q[k].fName.size + q[k].fValue.fStr.size ≤ wC q[k] := by unfold wC lD; omega
   cases hn : bF q[k] k
   ·rw [hn] at hq
    have hf : okQ q = false := by unfold okQ; rw [hq]; simp
    have q0 := @h; have q1 := @hn; refine b3K (iG q[k] k (by omega) (by omega) (by omega)) ?_
    exact aA ⟨⟨_, rfl, by simp only [go_sem, hf]⟩, trivial⟩
   by_cases he : (k : Int) < (q.length : Int) - 1
   ·have he2 : ¬ q.length ≤ k + 1 := by omega
    by_cases hc : (refs q k : Int) = 1
    ·have hc2 : refs q k = 1 := by omega
     have q0 := @h; have q1 := @hn; have q2 := @he; have q3 := @hc; have q4 := @decide_true; have q5 := @decide_false; refine a1X (iG q[k] k (by omega) (by omega) (by omega)) (rG q k (by omega)) ?_
     refine aQ (k + 1) ?_ ?_ ?_
     ·simp only [go_sem]; simp
     ·refine ⟨h, ?_⟩
      rw [hq, hn]; simp [hc2]
     ·omega
    ·have hc2 : ¬ refs q k = 1 := by omega
     have hf : okQ q = false := by unfold okQ; rw [hq, hn]; simp [hc2, he2]
     have q0 := @h; have q1 := @hn; have q2 := @he; have q3 := @hc; have q4 := @decide_true; have q5 := @decide_false; refine a1X (iG q[k] k (by omega) (by omega) (by omega)) (rG q k (by omega)) ?_
     exact aA ⟨⟨_, rfl, by simp only [go_sem, hf]⟩, trivial⟩
   ·have he2 : q.length ≤ k + 1 := by omega
    have q0 := @h; have q1 := @hn; have q2 := @he; have q3 := @decide_true; have q4 := @decide_false; refine b0t (iG q[k] k (by omega) (by omega) (by omega)) (rG q k (by omega)) ?_
    refine aQ (k + 1) ?_ ?_ ?_
    ·simp only [go_sem]; simp
    ·refine ⟨h, ?_⟩
     rw [hq, hn]; simp [he2]
    ·omega
  ·simp only [decide_eq_false_iff_not] at h
   have e : k = q.length := by omega
   have hq' : (List.range q.length).all (a2M q) = true := by
    rw [hq, List.drop_of_length_le (by simp [e])]; rfl
   refine kS (bS q.length 1 9) ?_
   exact aA ⟨⟨_, rfl, by simp only [go_sem, okQ, hq', Bool.true_and]⟩, trivial⟩
end Go.Proofs.YtgpoopjfkplilaaGreatDoor
end
