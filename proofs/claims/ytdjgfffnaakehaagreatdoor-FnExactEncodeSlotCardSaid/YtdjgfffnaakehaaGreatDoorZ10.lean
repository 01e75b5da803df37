/- Joined texts. -/
import Derived.Test.YtdjgfffnaakehaaGreatDoorZ09
import Derived.Test.YtdjgfffnaakehaaGreatDoorZ05
set_option linter.all false
section
set_option maxRecDepth 100000
set_option maxHeartbeats 4000000
namespace Go.Proofs.YtdjgfffnaakehaaGreatDoor
open Go Go.Sx Go.RowKit Go.Proofs
def eV (v : TValue) : Bool := decide (v.fKind = 0) && (decide (v.fInt = 0) && decide (v.fStr = ⟨#[]⟩))
def oJ (n : TNode) (i : Nat) : Bool := inB n.fLeft 0 ((i : Int) - 1) && decide (0 < (i : Int))
def zP (n : TNode) (i : Nat) : Bool := inB n.fRight 0 ((i : Int) - 1)
def gI (n : TNode) : Bool := decide (n.fLeft = 0) && decide (n.fRight = 0)
def jX (n : TNode) : Bool := decide (n.fName = ⟨#[]⟩) && eV n.fValue
def bA (n : TNode) (i : Nat) : Bool :=
 if n.fOp = 1 then gI n && jX n
 else if n.fOp = 2 then aY n.fName 1 && (gI n && eV n.fValue)
 else if n.fOp = 3 then aY n.fName 1 && (dN n.fValue && (!decide (n.fValue.fKind = 0) && gI n))
 else if n.fOp = 4 then aY n.fName 1 && (dN n.fValue && (decide (n.fValue.fKind = 1) && gI n))
 else if n.fOp = 5 then oJ n i && (decide (n.fRight = 0) && jX n)
 else if n.fOp = 6 ∨ n.fOp = 7 then oJ n i && (zP n i && jX n)
 else if n.fOp = 8 ∨ n.fOp = 9 then aY n.fName 6 && (gI n && eV n.fValue)
 else false
def a0j (q : List TNode) (i : Nat) : Bool := match q[i]? with
 | none => true
 | some n => bA n i && (decide (q.length ≤ i + 1) || decide (refs q i = 1))
def okQ (q : List TNode) : Bool := (List.range q.length).all (a0j q) && inB (q.length : Int) 1 9
theorem vH {q : List TNode} (h : okQ q = true) {i : Nat} {n : TNode} (hi : q[i]? = some n) : bA n i = true := by
 unfold okQ at h
 simp only [Bool.and_eq_true, List.all_eq_true, List.mem_range] at h
 have hl : i < q.length := by
  rcases Nat.lt_or_ge i q.length with hl | hl
  ·exact hl
  ·rw [List.getElem?_eq_none hl] at hi; cases hi
 have := h.1 i hl
 unfold a0j at this
 rw [hi] at this
 simp only [Bool.and_eq_true] at this
 exact this.1
theorem iC {q : List TNode} (h : okQ q = true) : 1 ≤ q.length ∧ q.length ≤ 9 := by
 unfold okQ inB at h
 simp only [Bool.and_eq_true, decide_eq_true_eq] at h
 omega
theorem a0S {s : ByteArray} {n : Int} (h : aY s n = true) : (s.size : Int) ≤ n := by
 unfold aY inB at h
 simp only [Bool.and_eq_true, decide_eq_true_eq] at h
 omega
theorem a7p {v : TValue} (h : dN v = true) : v.fStr.size ≤ 6 := by
 unfold dN at h
 have e0 : (⟨#[]⟩ : ByteArray).size = 0 := rfl
 split at h
 ·simp only [Bool.and_eq_true, decide_eq_true_eq] at h; rw [h.2]; omega
 split at h
 ·simp only [Bool.and_eq_true, decide_eq_true_eq] at h; rw [h.2]; omega
 split at h
 ·simp only [Bool.and_eq_true, decide_eq_true_eq] at h; have := a0S h.1; omega
 ·cases h
theorem dR {n : TNode} {i : Nat} (h : bA n i = true) (ho : n.fOp = 5 ∨ n.fOp = 6 ∨ n.fOp = 7) : ∃ l : Nat, n.fLeft = (l : Int) ∧ l < i := by
 have hk : oJ n i = true := by
  unfold bA at h
  rcases ho with ho | ho | ho <;> simp [ho] at h <;> exact h.1
 unfold oJ inB at hk
 simp only [Bool.and_eq_true, decide_eq_true_eq] at hk
 exact ⟨n.fLeft.toNat, by omega, by omega⟩
theorem gT {n : TNode} {i : Nat} (h : bA n i = true) (ho : n.fOp = 6 ∨ n.fOp = 7) : ∃ l : Nat, n.fRight = (l : Int) ∧ l < i := by
 have hk : zP n i = true ∧ oJ n i = true := by
  unfold bA at h
  rcases ho with ho | ho <;> simp [ho] at h <;> exact ⟨h.2.1, h.1⟩
 unfold oJ zP inB at hk
 simp only [Bool.and_eq_true, decide_eq_true_eq] at hk
 exact ⟨n.fRight.toNat, by omega, by omega⟩
theorem mV {n : TNode} {i : Nat} (h : bA n i = true) : n.fOp = 1 ∨ n.fOp = 2 ∨ n.fOp = 3 ∨ n.fOp = 4 ∨ n.fOp = 5 ∨ n.fOp = 6 ∨ n.fOp = 7 ∨ n.fOp = 8 ∨ n.fOp = 9 := by
 unfold bA at h
 repeat' split at h
 all_goals first | omega | cases h
theorem fO (n : TNode) (i : Nat) (hi : i ≤ 4300000) (hs : n.fValue.fStr.size ≤ 4300000) (hn : n.fName.size ≤ 4300000) : FnC Tryz.prog 91 [wG n, oi i] (ob (bA n i)) := by
 refine ent Tryz.func91 rfl Tryz.call91 rfl (fun C => ?_); simp only [go_sem, st0, Tryz.ntmps91]
 by_cases h1 : n.fOp = 1
 ·cases hz : (decide (n.fLeft = 0) && (decide (n.fRight = 0) && (decide (n.fName = ⟨#[]⟩) && (decide (n.fValue.fKind = 0) && (decide (n.fValue.fInt = 0) && decide (n.fValue.fStr = ⟨#[]⟩))))))
  all_goals
   have hr : bA n i = (decide (n.fLeft = 0) && (decide (n.fRight = 0) && (decide (n.fName = ⟨#[]⟩) && (decide (n.fValue.fKind = 0) && (decide (n.fValue.fInt = 0) && decide (n.fValue.fStr = ⟨#[]⟩)))))) := by simp [bA, h1, gI, jX, eV, Bool.and_assoc]
   rw [hz] at hr
   have q0 := @h1; have q1 := @decide_true; have q2 := @hz; refine kZ ?_
   exact aA ⟨⟨_, rfl, by simp only [go_sem, hr]⟩, trivial⟩
 by_cases h2 : n.fOp = 2
 ·cases hz : (decide (n.fLeft = 0) && (decide (n.fRight = 0) && (decide (n.fValue.fKind = 0) && (decide (n.fValue.fInt = 0) && decide (n.fValue.fStr = ⟨#[]⟩))))) <;> cases ht : aY n.fName 1
  all_goals
   have hr : bA n i = (aY n.fName 1 && (decide (n.fLeft = 0) && (decide (n.fRight = 0) && (decide (n.fValue.fKind = 0) && (decide (n.fValue.fInt = 0) && decide (n.fValue.fStr = ⟨#[]⟩)))))) := by simp [bA, h2, gI, jX, eV, Bool.and_assoc]
   rw [hz, ht] at hr
   have q0 := @h1; have q1 := @h2; have q2 := @decide_true; have q3 := @decide_false; have q4 := @hz; have q5 := @ht; refine qQ (aB n.fName) ?_
   exact aA ⟨⟨_, rfl, by simp only [go_sem, hr, Bool.and_true, Bool.and_false]⟩, trivial⟩
 by_cases h3 : n.fOp = 3
 ·have hr : bA n i = (aY n.fName 1 && (dN n.fValue && (!decide (n.fValue.fKind = 0) && (decide (n.fLeft = 0) && decide (n.fRight = 0))))) := by simp [bA, h3, gI]
  have qH := aI @h1 (aI @h2 (aI @h3 (aI @decide_true @decide_false))); repeat' (with_reducible first | refine nY ?_ | (refine mX ?_; try simp only [go_sem, qH]) | refine kD ?_ | refine rT [5, 7] [] ?_ | refine cO (aX ?_) (uX ?_) | refine dL (aX ?_) ?_ | (refine uA ?_; simp only [go_sem, qH]; (repeat' first | omega | refine And.intro ?_ ?_ | refine cP (aB n.fName) ?_ | refine cP (aC n.fValue hs) ?_ | (refine mX ?_; simp only [go_sem, qH] <;> fail)); done) | refine cP (aB n.fName) ?_ | refine cP (aC n.fValue hs) ?_ | refine aO ?_ | fail)
  cases hz : (decide (n.fLeft = 0) && decide (n.fRight = 0))
  ·rw [hz] at hr
   simp only [go_sem, hz]
   have qH := aI @h1 (aI @h2 (aI @h3 (aI @decide_true (aI @decide_false @hz)))); repeat' (with_reducible first | refine nY ?_ | (refine mX ?_; try simp only [go_sem, qH]) | refine kD ?_ | refine rT [5, 7] [] ?_ | refine cO (aX ?_) (uX ?_) | refine dL (aX ?_) ?_ | (refine uA ?_; simp only [go_sem, qH]; (repeat' first | omega | refine And.intro ?_ ?_ | refine cP (aB n.fName) ?_ | refine cP (aC n.fValue hs) ?_ | (refine mX ?_; simp only [go_sem, qH] <;> fail)); done) | refine cP (aB n.fName) ?_ | refine cP (aC n.fValue hs) ?_ | refine aO ?_ | fail)
   exact aA ⟨⟨_, rfl, by simp only [go_sem, hr, bT]⟩, trivial⟩
  rw [hz] at hr
  simp only [go_sem, hz]
  have qH := aI @h1 (aI @h2 (aI @h3 (aI @decide_true (aI @decide_false @hz)))); repeat' (with_reducible first | refine nY ?_ | (refine mX ?_; try simp only [go_sem, qH]) | refine kD ?_ | refine rT [5, 7] [] ?_ | refine cO (aX ?_) (uX ?_) | refine dL (aX ?_) ?_ | (refine uA ?_; simp only [go_sem, qH]; (repeat' first | omega | refine And.intro ?_ ?_ | refine cP (aB n.fName) ?_ | refine cP (aC n.fValue hs) ?_ | (refine mX ?_; simp only [go_sem, qH] <;> fail)); done) | refine cP (aB n.fName) ?_ | refine cP (aC n.fValue hs) ?_ | refine aO ?_ | fail)
  cases ht : aY n.fName 1
  ·rw [ht] at hr
   simp only [go_sem, ht]
   have qH := aI @h1 (aI @h2 (aI @h3 (aI @decide_true (aI @decide_false (aI @hz @ht))))); repeat' (with_reducible first | refine nY ?_ | (refine mX ?_; try simp only [go_sem, qH]) | refine kD ?_ | refine rT [5, 7] [] ?_ | refine cO (aX ?_) (uX ?_) | refine dL (aX ?_) ?_ | (refine uA ?_; simp only [go_sem, qH]; (repeat' first | omega | refine And.intro ?_ ?_ | refine cP (aB n.fName) ?_ | refine cP (aC n.fValue hs) ?_ | (refine mX ?_; simp only [go_sem, qH] <;> fail)); done) | refine cP (aB n.fName) ?_ | refine cP (aC n.fValue hs) ?_ | refine aO ?_ | fail)
   exact aA ⟨⟨_, rfl, by simp only [go_sem, hr, bT]⟩, trivial⟩
  rw [ht] at hr
  simp only [go_sem, ht]
  have qH := aI @h1 (aI @h2 (aI @h3 (aI @decide_true (aI @decide_false (aI @hz @ht))))); repeat' (with_reducible first | refine nY ?_ | (refine mX ?_; try simp only [go_sem, qH]) | refine kD ?_ | refine rT [5, 7] [] ?_ | refine cO (aX ?_) (uX ?_) | refine dL (aX ?_) ?_ | (refine uA ?_; simp only [go_sem, qH]; (repeat' first | omega | refine And.intro ?_ ?_ | refine cP (aB n.fName) ?_ | refine cP (aC n.fValue hs) ?_ | (refine mX ?_; simp only [go_sem, qH] <;> fail)); done) | refine cP (aB n.fName) ?_ | refine cP (aC n.fValue hs) ?_ | refine aO ?_ | fail)
  cases hv : dN n.fValue
  ·rw [hv] at hr
   simp only [go_sem, hv]
   have qH := aI @h1 (aI @h2 (aI @h3 (aI @decide_true (aI @decide_false (aI @hz (aI @ht @hv)))))); repeat' (with_reducible first | refine nY ?_ | (refine mX ?_; try simp only [go_sem, qH]) | refine kD ?_ | refine rT [5, 7] [] ?_ | refine cO (aX ?_) (uX ?_) | refine dL (aX ?_) ?_ | (refine uA ?_; simp only [go_sem, qH]; (repeat' first | omega | refine And.intro ?_ ?_ | refine cP (aB n.fName) ?_ | refine cP (aC n.fValue hs) ?_ | (refine mX ?_; simp only [go_sem, qH] <;> fail)); done) | refine cP (aB n.fName) ?_ | refine cP (aC n.fValue hs) ?_ | refine aO ?_ | fail)
   exact aA ⟨⟨_, rfl, by simp only [go_sem, hr, bT]⟩, trivial⟩
  rw [hv] at hr
  simp only [go_sem, hv]
  have qH := aI @h1 (aI @h2 (aI @h3 (aI @decide_true (aI @decide_false (aI @hz (aI @ht @hv)))))); repeat' (with_reducible first | refine nY ?_ | (refine mX ?_; try simp only [go_sem, qH]) | refine kD ?_ | refine rT [5, 7] [] ?_ | refine cO (aX ?_) (uX ?_) | refine dL (aX ?_) ?_ | (refine uA ?_; simp only [go_sem, qH]; (repeat' first | omega | refine And.intro ?_ ?_ | refine cP (aB n.fName) ?_ | refine cP (aC n.fValue hs) ?_ | (refine mX ?_; simp only [go_sem, qH] <;> fail)); done) | refine cP (aB n.fName) ?_ | refine cP (aC n.fValue hs) ?_ | refine aO ?_ | fail)
  by_cases hk : n.fValue.fKind = 0
  ·simp only [hk, decide_true] at hr
   simp only [go_sem, hk, decide_true]
   have qH := aI @h1 (aI @h2 (aI @h3 (aI @decide_true (aI @decide_false (aI @hz (aI @ht (aI @hv @hk))))))); repeat' (with_reducible first | refine nY ?_ | (refine mX ?_; try simp only [go_sem, qH]) | refine kD ?_ | refine rT [5, 7] [] ?_ | refine cO (aX ?_) (uX ?_) | refine dL (aX ?_) ?_ | (refine uA ?_; simp only [go_sem, qH]; (repeat' first | omega | refine And.intro ?_ ?_ | refine cP (aB n.fName) ?_ | refine cP (aC n.fValue hs) ?_ | (refine mX ?_; simp only [go_sem, qH] <;> fail)); done) | refine cP (aB n.fName) ?_ | refine cP (aC n.fValue hs) ?_ | refine aO ?_ | fail)
   exact aA ⟨⟨_, rfl, by simp only [go_sem, hr, bT]⟩, trivial⟩
  simp only [hk, decide_false] at hr
  simp only [go_sem, hk, decide_false]
  have qH := aI @h1 (aI @h2 (aI @h3 (aI @decide_true (aI @decide_false (aI @hz (aI @ht (aI @hv @hk))))))); repeat' (with_reducible first | refine nY ?_ | (refine mX ?_; try simp only [go_sem, qH]) | refine kD ?_ | refine rT [5, 7] [] ?_ | refine cO (aX ?_) (uX ?_) | refine dL (aX ?_) ?_ | (refine uA ?_; simp only [go_sem, qH]; (repeat' first | omega | refine And.intro ?_ ?_ | refine cP (aB n.fName) ?_ | refine cP (aC n.fValue hs) ?_ | (refine mX ?_; simp only [go_sem, qH] <;> fail)); done) | refine cP (aB n.fName) ?_ | refine cP (aC n.fValue hs) ?_ | refine aO ?_ | fail)
  exact aA ⟨⟨_, rfl, by simp only [go_sem, hr, bT]⟩, trivial⟩
 by_cases h4 : n.fOp = 4
 ·have hr : bA n i = (aY n.fName 1 && (dN n.fValue && (!decide (n.fValue.fKind = 0) && (decide (n.fValue.fKind = 1) && (decide (n.fLeft = 0) && decide (n.fRight = 0)))))) := by
   simp only [bA, h4, gI]
   by_cases hk : n.fValue.fKind = 1 <;> simp [hk]
  have qH := aI @h1 (aI @h2 (aI @h3 (aI @h4 (aI @decide_true @decide_false)))); repeat' (with_reducible first | refine nY ?_ | (refine mX ?_; try simp only [go_sem, qH]) | refine kD ?_ | refine rT [5, 7] [] ?_ | refine cO (aX ?_) (uX ?_) | refine dL (aX ?_) ?_ | (refine uA ?_; simp only [go_sem, qH]; (repeat' first | omega | refine And.intro ?_ ?_ | refine cP (aB n.fName) ?_ | refine cP (aC n.fValue hs) ?_ | (refine mX ?_; simp only [go_sem, qH] <;> fail)); done) | refine cP (aB n.fName) ?_ | refine cP (aC n.fValue hs) ?_ | refine aO ?_ | fail)
  cases hz : (decide (n.fLeft = 0) && decide (n.fRight = 0))
  ·rw [hz] at hr
   simp only [go_sem, hz]
   have qH := aI @h1 (aI @h2 (aI @h3 (aI @h4 (aI @decide_true (aI @decide_false @hz))))); repeat' (with_reducible first | refine nY ?_ | (refine mX ?_; try simp only [go_sem, qH]) | refine kD ?_ | refine rT [5, 7] [] ?_ | refine cO (aX ?_) (uX ?_) | refine dL (aX ?_) ?_ | (refine uA ?_; simp only [go_sem, qH]; (repeat' first | omega | refine And.intro ?_ ?_ | refine cP (aB n.fName) ?_ | refine cP (aC n.fValue hs) ?_ | (refine mX ?_; simp only [go_sem, qH] <;> fail)); done) | refine cP (aB n.fName) ?_ | refine cP (aC n.fValue hs) ?_ | refine aO ?_ | fail)
   exact aA ⟨⟨_, rfl, by simp only [go_sem, hr, bT]⟩, trivial⟩
  rw [hz] at hr
  simp only [go_sem, hz]
  have qH := aI @h1 (aI @h2 (aI @h3 (aI @h4 (aI @decide_true (aI @decide_false @hz))))); repeat' (with_reducible first | refine nY ?_ | (refine mX ?_; try simp only [go_sem, qH]) | refine kD ?_ | refine rT [5, 7] [] ?_ | refine cO (aX ?_) (uX ?_) | refine dL (aX ?_) ?_ | (refine uA ?_; simp only [go_sem, qH]; (repeat' first | omega | refine And.intro ?_ ?_ | refine cP (aB n.fName) ?_ | refine cP (aC n.fValue hs) ?_ | (refine mX ?_; simp only [go_sem, qH] <;> fail)); done) | refine cP (aB n.fName) ?_ | refine cP (aC n.fValue hs) ?_ | refine aO ?_ | fail)
  cases ht : aY n.fName 1
  ·rw [ht] at hr
   simp only [go_sem, ht]
   have qH := aI @h1 (aI @h2 (aI @h3 (aI @h4 (aI @decide_true (aI @decide_false (aI @hz @ht)))))); repeat' (with_reducible first | refine nY ?_ | (refine mX ?_; try simp only [go_sem, qH]) | refine kD ?_ | refine rT [5, 7] [] ?_ | refine cO (aX ?_) (uX ?_) | refine dL (aX ?_) ?_ | (refine uA ?_; simp only [go_sem, qH]; (repeat' first | omega | refine And.intro ?_ ?_ | refine cP (aB n.fName) ?_ | refine cP (aC n.fValue hs) ?_ | (refine mX ?_; simp only [go_sem, qH] <;> fail)); done) | refine cP (aB n.fName) ?_ | refine cP (aC n.fValue hs) ?_ | refine aO ?_ | fail)
   exact aA ⟨⟨_, rfl, by simp only [go_sem, hr, bT]⟩, trivial⟩
  rw [ht] at hr
  simp only [go_sem, ht]
  have qH := aI @h1 (aI @h2 (aI @h3 (aI @h4 (aI @decide_true (aI @decide_false (aI @hz @ht)))))); repeat' (with_reducible first | refine nY ?_ | (refine mX ?_; try simp only [go_sem, qH]) | refine kD ?_ | refine rT [5, 7] [] ?_ | refine cO (aX ?_) (uX ?_) | refine dL (aX ?_) ?_ | (refine uA ?_; simp only [go_sem, qH]; (repeat' first | omega | refine And.intro ?_ ?_ | refine cP (aB n.fName) ?_ | refine cP (aC n.fValue hs) ?_ | (refine mX ?_; simp only [go_sem, qH] <;> fail)); done) | refine cP (aB n.fName) ?_ | refine cP (aC n.fValue hs) ?_ | refine aO ?_ | fail)
  cases hv : dN n.fValue
  ·rw [hv] at hr
   simp only [go_sem, hv]
   have qH := aI @h1 (aI @h2 (aI @h3 (aI @h4 (aI @decide_true (aI @decide_false (aI @hz (aI @ht @hv))))))); repeat' (with_reducible first | refine nY ?_ | (refine mX ?_; try simp only [go_sem, qH]) | refine kD ?_ | refine rT [5, 7] [] ?_ | refine cO (aX ?_) (uX ?_) | refine dL (aX ?_) ?_ | (refine uA ?_; simp only [go_sem, qH]; (repeat' first | omega | refine And.intro ?_ ?_ | refine cP (aB n.fName) ?_ | refine cP (aC n.fValue hs) ?_ | (refine mX ?_; simp only [go_sem, qH] <;> fail)); done) | refine cP (aB n.fName) ?_ | refine cP (aC n.fValue hs) ?_ | refine aO ?_ | fail)
   exact aA ⟨⟨_, rfl, by simp only [go_sem, hr, bT]⟩, trivial⟩
  rw [hv] at hr
  simp only [go_sem, hv]
  have qH := aI @h1 (aI @h2 (aI @h3 (aI @h4 (aI @decide_true (aI @decide_false (aI @hz (aI @ht @hv))))))); repeat' (with_reducible first | refine nY ?_ | (refine mX ?_; try simp only [go_sem, qH]) | refine kD ?_ | refine rT [5, 7] [] ?_ | refine cO (aX ?_) (uX ?_) | refine dL (aX ?_) ?_ | (refine uA ?_; simp only [go_sem, qH]; (repeat' first | omega | refine And.intro ?_ ?_ | refine cP (aB n.fName) ?_ | refine cP (aC n.fValue hs) ?_ | (refine mX ?_; simp only [go_sem, qH] <;> fail)); done) | refine cP (aB n.fName) ?_ | refine cP (aC n.fValue hs) ?_ | refine aO ?_ | fail)
  by_cases hk : n.fValue.fKind = 0
  ·simp only [hk, decide_true] at hr
   simp only [go_sem, hk, decide_true]
   have qH := aI @h1 (aI @h2 (aI @h3 (aI @h4 (aI @decide_true (aI @decide_false (aI @hz (aI @ht (aI @hv @hk)))))))); repeat' (with_reducible first | refine nY ?_ | (refine mX ?_; try simp only [go_sem, qH]) | refine kD ?_ | refine rT [5, 7] [] ?_ | refine cO (aX ?_) (uX ?_) | refine dL (aX ?_) ?_ | (refine uA ?_; simp only [go_sem, qH]; (repeat' first | omega | refine And.intro ?_ ?_ | refine cP (aB n.fName) ?_ | refine cP (aC n.fValue hs) ?_ | (refine mX ?_; simp only [go_sem, qH] <;> fail)); done) | refine cP (aB n.fName) ?_ | refine cP (aC n.fValue hs) ?_ | refine aO ?_ | fail)
   exact aA ⟨⟨_, rfl, by simp only [go_sem, hr, bT]⟩, trivial⟩
  simp only [hk, decide_false] at hr
  simp only [go_sem, hk, decide_false]
  have qH := aI @h1 (aI @h2 (aI @h3 (aI @h4 (aI @decide_true (aI @decide_false (aI @hz (aI @ht (aI @hv @hk)))))))); repeat' (with_reducible first | refine nY ?_ | (refine mX ?_; try simp only [go_sem, qH]) | refine kD ?_ | refine rT [5, 7] [] ?_ | refine cO (aX ?_) (uX ?_) | refine dL (aX ?_) ?_ | (refine uA ?_; simp only [go_sem, qH]; (repeat' first | omega | refine And.intro ?_ ?_ | refine cP (aB n.fName) ?_ | refine cP (aC n.fValue hs) ?_ | (refine mX ?_; simp only [go_sem, qH] <;> fail)); done) | refine cP (aB n.fName) ?_ | refine cP (aC n.fValue hs) ?_ | refine aO ?_ | fail)
  by_cases hj : n.fValue.fKind = 1
  rotate_left
  ·simp only [hj, decide_false] at hr
   simp only [go_sem, hj, decide_false]
   have qH := aI @h1 (aI @h2 (aI @h3 (aI @h4 (aI @decide_true (aI @decide_false (aI @hz (aI @ht (aI @hv (aI @hk @hj))))))))); repeat' (with_reducible first | refine nY ?_ | (refine mX ?_; try simp only [go_sem, qH]) | refine kD ?_ | refine rT [5, 7] [] ?_ | refine cO (aX ?_) (uX ?_) | refine dL (aX ?_) ?_ | (refine uA ?_; simp only [go_sem, qH]; (repeat' first | omega | refine And.intro ?_ ?_ | refine cP (aB n.fName) ?_ | refine cP (aC n.fValue hs) ?_ | (refine mX ?_; simp only [go_sem, qH] <;> fail)); done) | refine cP (aB n.fName) ?_ | refine cP (aC n.fValue hs) ?_ | refine aO ?_ | fail)
   exact aA ⟨⟨_, rfl, by simp only [go_sem, hr, bT]⟩, trivial⟩
  simp only [hj, decide_true] at hr
  simp only [go_sem, hj, decide_true]
  have qH := aI @h1 (aI @h2 (aI @h3 (aI @h4 (aI @decide_true (aI @decide_false (aI @hz (aI @ht (aI @hv (aI @hk @hj))))))))); repeat' (with_reducible first | refine nY ?_ | (refine mX ?_; try simp only [go_sem, qH]) | refine kD ?_ | refine rT [5, 7] [] ?_ | refine cO (aX ?_) (uX ?_) | refine dL (aX ?_) ?_ | (refine uA ?_; simp only [go_sem, qH]; (repeat' first | omega | refine And.intro ?_ ?_ | refine cP (aB n.fName) ?_ | refine cP (aC n.fValue hs) ?_ | (refine mX ?_; simp only [go_sem, qH] <;> fail)); done) | refine cP (aB n.fName) ?_ | refine cP (aC n.fValue hs) ?_ | refine aO ?_ | fail)
  exact aA ⟨⟨_, rfl, by simp only [go_sem, hr, bT]⟩, trivial⟩
 by_cases h5 : n.fOp = 5
 ·have hr : bA n i = ((decide (n.fRight = 0) && (decide (n.fName = ⟨#[]⟩) && (decide (n.fValue.fKind = 0) && (decide (n.fValue.fInt = 0) && decide (n.fValue.fStr = ⟨#[]⟩))))) && (decide (0 < (i : Int)) && inB n.fLeft 0 ((i : Int) - 1))) := by simp [bA, h5, oJ, jX, eV, Bool.and_assoc, Bool.and_comm, Bool.and_left_comm]
  have q0 := @h1; have q1 := @h2; have q2 := @h3; have q3 := @h4; have q4 := @h5; have q5 := @decide_true; have q6 := @decide_false; refine a5G (aF n.fLeft 0 ((i : Int) - 1)) ?_
  cases hz : (decide (n.fRight = 0) && (decide (n.fName = ⟨#[]⟩) && (decide (n.fValue.fKind = 0) && (decide (n.fValue.fInt = 0) && decide (n.fValue.fStr = ⟨#[]⟩)))))
  ·rw [hz] at hr
   simp only [go_sem, hz]
   have q0 := @h1; have q1 := @h2; have q2 := @h3; have q3 := @h4; have q4 := @h5; have q5 := @decide_true; have q6 := @decide_false; have q7 := @hz; refine a3V (aF n.fLeft 0 ((i : Int) - 1)) ?_
   exact aA ⟨⟨_, rfl, by simp only [go_sem, hr, bT]⟩, trivial⟩
  rw [hz] at hr
  simp only [go_sem, hz]
  have q0 := @h1; have q1 := @h2; have q2 := @h3; have q3 := @h4; have q4 := @h5; have q5 := @decide_true; have q6 := @decide_false; have q7 := @hz; refine a3V (aF n.fLeft 0 ((i : Int) - 1)) ?_
  by_cases hp : 0 < (i : Int)
  rotate_left
  ·simp only [hp, decide_false] at hr
   simp only [go_sem, hp, decide_false]
   have q0 := @h1; have q1 := @h2; have q2 := @h3; have q3 := @h4; have q4 := @h5; have q5 := @decide_true; have q6 := @decide_false; have q7 := @hz; have q8 := @hp; refine a5H (aF n.fLeft 0 ((i : Int) - 1)) ?_
   exact aA ⟨⟨_, rfl, by simp only [go_sem, hr, bT]⟩, trivial⟩
  simp only [hp, decide_true] at hr
  simp only [go_sem, hp, decide_true]
  have q0 := @h1; have q1 := @h2; have q2 := @h3; have q3 := @h4; have q4 := @h5; have q5 := @decide_true; have q6 := @decide_false; have q7 := @hz; have q8 := @hp; refine a5H (aF n.fLeft 0 ((i : Int) - 1)) ?_
  exact aA ⟨⟨_, rfl, by simp only [go_sem, hr, bT]⟩, trivial⟩
 by_cases h67 : n.fOp = 6 ∨ n.fOp = 7
 ·have hr : bA n i = ((decide (n.fName = ⟨#[]⟩) && (decide (n.fValue.fKind = 0) && (decide (n.fValue.fInt = 0) && decide (n.fValue.fStr = ⟨#[]⟩)))) && (decide (0 < (i : Int)) && (inB n.fLeft 0 ((i : Int) - 1) && inB n.fRight 0 ((i : Int) - 1)))) := by
   rcases h67 with h67 | h67 <;> simp [bA, h67, oJ, zP, jX, eV, Bool.and_assoc, Bool.and_comm, Bool.and_left_comm]
  by_cases h6 : n.fOp = 6
  ·skip
   have qH := aI @h1 (aI @h2 (aI @h3 (aI @h4 (aI @h5 (aI @h6 (aI @decide_true @decide_false)))))); repeat' (with_reducible first | refine nY ?_ | (refine mX ?_; try simp only [go_sem, qH]) | refine kD ?_ | refine rT [5, 7] [] ?_ | refine cO (aX ?_) (uX ?_) | refine dL (aX ?_) ?_ | (refine uA ?_; simp only [go_sem, qH]; (repeat' first | omega | refine And.intro ?_ ?_ | refine cP (aF n.fLeft 0 ((i : Int) - 1)) ?_ | refine cP (aF n.fRight 0 ((i : Int) - 1)) ?_ | (refine mX ?_; simp only [go_sem, qH] <;> fail)); done) | refine cP (aF n.fLeft 0 ((i : Int) - 1)) ?_ | refine cP (aF n.fRight 0 ((i : Int) - 1)) ?_ | refine aO ?_ | fail)
   cases hz : (decide (n.fName = ⟨#[]⟩) && (decide (n.fValue.fKind = 0) && (decide (n.fValue.fInt = 0) && decide (n.fValue.fStr = ⟨#[]⟩))))
   ·rw [hz] at hr
    simp only [go_sem, hz]
    have q0 := @h1; have q1 := @h2; have q2 := @h3; have q3 := @h4; have q4 := @h5; have q5 := @h6; have q6 := @decide_true; have q7 := @decide_false; have q8 := @hz; refine a3W (aF n.fLeft 0 ((i : Int) - 1)) (aF n.fRight 0 ((i : Int) - 1)) ?_
    exact aA ⟨⟨_, rfl, by simp only [go_sem, hr, bT]⟩, trivial⟩
   rw [hz] at hr
   simp only [go_sem, hz]
   have q0 := @h1; have q1 := @h2; have q2 := @h3; have q3 := @h4; have q4 := @h5; have q5 := @h6; have q6 := @decide_true; have q7 := @decide_false; have q8 := @hz; refine a3W (aF n.fLeft 0 ((i : Int) - 1)) (aF n.fRight 0 ((i : Int) - 1)) ?_
   by_cases hp : 0 < (i : Int)
   rotate_left
   ·simp only [hp, decide_false] at hr
    simp only [go_sem, hp, decide_false]
    have q0 := @h1; have q1 := @h2; have q2 := @h3; have q3 := @h4; have q4 := @h5; have q5 := @h6; have q6 := @decide_true; have q7 := @decide_false; have q8 := @hz; have q9 := @hp; refine a2D (aF n.fLeft 0 ((i : Int) - 1)) (aF n.fRight 0 ((i : Int) - 1)) ?_
    exact aA ⟨⟨_, rfl, by simp only [go_sem, hr, bT]⟩, trivial⟩
   simp only [hp, decide_true] at hr
   simp only [go_sem, hp, decide_true]
   have q0 := @h1; have q1 := @h2; have q2 := @h3; have q3 := @h4; have q4 := @h5; have q5 := @h6; have q6 := @decide_true; have q7 := @decide_false; have q8 := @hz; have q9 := @hp; refine a2D (aF n.fLeft 0 ((i : Int) - 1)) (aF n.fRight 0 ((i : Int) - 1)) ?_
   cases hl : inB n.fLeft 0 ((i : Int) - 1)
   ·rw [hl] at hr
    simp only [go_sem, hl]
    have qH := aI @h1 (aI @h2 (aI @h3 (aI @h4 (aI @h5 (aI @h6 (aI @decide_true (aI @decide_false (aI @hz (aI @hp @hl))))))))); repeat' (with_reducible first | refine nY ?_ | (refine mX ?_; try simp only [go_sem, qH]) | refine kD ?_ | refine cP (aF n.fLeft 0 ((i : Int) - 1)) ?_ | refine cP (aF n.fRight 0 ((i : Int) - 1)) ?_ | refine aO ?_ | fail)
    exact aA ⟨⟨_, rfl, by simp only [go_sem, hr, bT]⟩, trivial⟩
   rw [hl] at hr
   simp only [go_sem, hl]
   have qH := aI @h1 (aI @h2 (aI @h3 (aI @h4 (aI @h5 (aI @h6 (aI @decide_true (aI @decide_false (aI @hz (aI @hp @hl))))))))); repeat' (with_reducible first | refine nY ?_ | (refine mX ?_; try simp only [go_sem, qH]) | refine kD ?_ | refine cP (aF n.fLeft 0 ((i : Int) - 1)) ?_ | refine cP (aF n.fRight 0 ((i : Int) - 1)) ?_ | refine aO ?_ | fail)
   exact aA ⟨⟨_, rfl, by simp only [go_sem, hr, bT]⟩, trivial⟩
  ·have h7 : n.fOp = 7 := by omega
   have qH := aI @h1 (aI @h2 (aI @h3 (aI @h4 (aI @h5 (aI @h6 (aI @h7 (aI @decide_true @decide_false))))))); repeat' (with_reducible first | refine nY ?_ | (refine mX ?_; try simp only [go_sem, qH]) | refine kD ?_ | refine rT [5, 7] [] ?_ | refine cO (aX ?_) (uX ?_) | refine dL (aX ?_) ?_ | (refine uA ?_; simp only [go_sem, qH]; (repeat' first | omega | refine And.intro ?_ ?_ | refine cP (aF n.fLeft 0 ((i : Int) - 1)) ?_ | refine cP (aF n.fRight 0 ((i : Int) - 1)) ?_ | (refine mX ?_; simp only [go_sem, qH] <;> fail)); done) | refine cP (aF n.fLeft 0 ((i : Int) - 1)) ?_ | refine cP (aF n.fRight 0 ((i : Int) - 1)) ?_ | refine aO ?_ | fail)
   cases hz : (decide (n.fName = ⟨#[]⟩) && (decide (n.fValue.fKind = 0) && (decide (n.fValue.fInt = 0) && decide (n.fValue.fStr = ⟨#[]⟩))))
   ·rw [hz] at hr
    simp only [go_sem, hz]
    have q0 := @h1; have q1 := @h2; have q2 := @h3; have q3 := @h4; have q4 := @h5; have q5 := @h6; have q6 := @h7; have q7 := @decide_true; have q8 := @decide_false; have q9 := @hz; refine a2D (aF n.fLeft 0 ((i : Int) - 1)) (aF n.fRight 0 ((i : Int) - 1)) ?_
    exact aA ⟨⟨_, rfl, by simp only [go_sem, hr, bT]⟩, trivial⟩
   rw [hz] at hr
   simp only [go_sem, hz]
   have q0 := @h1; have q1 := @h2; have q2 := @h3; have q3 := @h4; have q4 := @h5; have q5 := @h6; have q6 := @h7; have q7 := @decide_true; have q8 := @decide_false; have q9 := @hz; refine a2D (aF n.fLeft 0 ((i : Int) - 1)) (aF n.fRight 0 ((i : Int) - 1)) ?_
   by_cases hp : 0 < (i : Int)
   rotate_left
   ·simp only [hp, decide_false] at hr
    simp only [go_sem, hp, decide_false]
    have qH := aI @h1 (aI @h2 (aI @h3 (aI @h4 (aI @h5 (aI @h6 (aI @h7 (aI @decide_true (aI @decide_false (aI @hz @hp))))))))); repeat' (with_reducible first | refine nY ?_ | (refine mX ?_; try simp only [go_sem, qH]) | refine kD ?_ | refine cP (aF n.fLeft 0 ((i : Int) - 1)) ?_ | refine cP (aF n.fRight 0 ((i : Int) - 1)) ?_ | refine aO ?_ | fail)
    exact aA ⟨⟨_, rfl, by simp only [go_sem, hr, bT]⟩, trivial⟩
   simp only [hp, decide_true] at hr
   simp only [go_sem, hp, decide_true]
   have qH := aI @h1 (aI @h2 (aI @h3 (aI @h4 (aI @h5 (aI @h6 (aI @h7 (aI @decide_true (aI @decide_false (aI @hz @hp))))))))); repeat' (with_reducible first | refine nY ?_ | (refine mX ?_; try simp only [go_sem, qH]) | refine kD ?_ | refine cP (aF n.fLeft 0 ((i : Int) - 1)) ?_ | refine cP (aF n.fRight 0 ((i : Int) - 1)) ?_ | refine aO ?_ | fail)
   cases hl : inB n.fLeft 0 ((i : Int) - 1)
   ·rw [hl] at hr
    simp only [go_sem, hl]
    have qH := aI @h1 (aI @h2 (aI @h3 (aI @h4 (aI @h5 (aI @h6 (aI @h7 (aI @decide_true (aI @decide_false (aI @hz (aI @hp @hl)))))))))); repeat' (with_reducible first | refine nY ?_ | (refine mX ?_; try simp only [go_sem, qH]) | refine kD ?_ | refine cP (aF n.fLeft 0 ((i : Int) - 1)) ?_ | refine cP (aF n.fRight 0 ((i : Int) - 1)) ?_ | refine aO ?_ | fail)
    exact aA ⟨⟨_, rfl, by simp only [go_sem, hr, bT]⟩, trivial⟩
   rw [hl] at hr
   simp only [go_sem, hl]
   have qH := aI @h1 (aI @h2 (aI @h3 (aI @h4 (aI @h5 (aI @h6 (aI @h7 (aI @decide_true (aI @decide_false (aI @hz (aI @hp @hl)))))))))); repeat' (with_reducible first | refine nY ?_ | (refine mX ?_; try simp only [go_sem, qH]) | refine kD ?_ | refine cP (aF n.fLeft 0 ((i : Int) - 1)) ?_ | refine cP (aF n.fRight 0 ((i : Int) - 1)) ?_ | refine aO ?_ | fail)
   exact aA ⟨⟨_, rfl, by simp only [go_sem, hr, bT]⟩, trivial⟩
 have h6 : ¬ n.fOp = 6 := by omega
 have h7 : ¬ n.fOp = 7 := by omega
 by_cases h8 : n.fOp = 8
 ·have hr : bA n i = (aY n.fName 6 && (decide (n.fLeft = 0) && (decide (n.fRight = 0) && (decide (n.fValue.fKind = 0) && (decide (n.fValue.fInt = 0) && decide (n.fValue.fStr = ⟨#[]⟩)))))) := by simp [bA, h8, gI, eV, Bool.and_assoc]
  have q0 := @h1; have q1 := @h2; have q2 := @h3; have q3 := @h4; have q4 := @h5; have q5 := @h6; have q6 := @h7; have q7 := @h8; have q8 := @decide_true; have q9 := @decide_false; refine a4K (aN n.fName hn) ?_
  cases hz : (decide (n.fLeft = 0) && (decide (n.fRight = 0) && (decide (n.fValue.fKind = 0) && (decide (n.fValue.fInt = 0) && decide (n.fValue.fStr = ⟨#[]⟩)))))
  ·rw [hz] at hr
   simp only [go_sem, hz]
   have qH := aI @h1 (aI @h2 (aI @h3 (aI @h4 (aI @h5 (aI @h6 (aI @h7 (aI @h8 (aI @decide_true (aI @decide_false @hz))))))))); repeat' (with_reducible first | refine nY ?_ | (refine mX ?_; try simp only [go_sem, qH]) | refine kD ?_ | refine cP (aN n.fName hn) ?_ | refine aO ?_ | fail)
   exact aA ⟨⟨_, rfl, by simp only [go_sem, hr, bT]⟩, trivial⟩
  rw [hz] at hr
  simp only [go_sem, hz]
  have qH := aI @h1 (aI @h2 (aI @h3 (aI @h4 (aI @h5 (aI @h6 (aI @h7 (aI @h8 (aI @decide_true (aI @decide_false @hz))))))))); repeat' (with_reducible first | refine nY ?_ | (refine mX ?_; try simp only [go_sem, qH]) | refine kD ?_ | refine cP (aN n.fName hn) ?_ | refine aO ?_ | fail)
  exact aA ⟨⟨_, rfl, by simp only [go_sem, hr, bT]⟩, trivial⟩
 by_cases h9 : n.fOp = 9
 ·have hr : bA n i = (aY n.fName 6 && (decide (n.fLeft = 0) && (decide (n.fRight = 0) && (decide (n.fValue.fKind = 0) && (decide (n.fValue.fInt = 0) && decide (n.fValue.fStr = ⟨#[]⟩)))))) := by simp [bA, h9, gI, eV, Bool.and_assoc]
  have qH := aI @h1 (aI @h2 (aI @h3 (aI @h4 (aI @h5 (aI @h6 (aI @h7 (aI @h8 (aI @h9 (aI @decide_true @decide_false))))))))); repeat' (with_reducible first | refine nY ?_ | (refine mX ?_; try simp only [go_sem, qH]) | refine kD ?_ | refine cP (aN n.fName hn) ?_ | refine aO ?_ | fail)
  cases hz : (decide (n.fLeft = 0) && (decide (n.fRight = 0) && (decide (n.fValue.fKind = 0) && (decide (n.fValue.fInt = 0) && decide (n.fValue.fStr = ⟨#[]⟩)))))
  ·rw [hz] at hr
   simp only [go_sem, hz]
   have qH := aI @h1 (aI @h2 (aI @h3 (aI @h4 (aI @h5 (aI @h6 (aI @h7 (aI @h8 (aI @h9 (aI @decide_true (aI @decide_false @hz)))))))))); repeat' (with_reducible first | refine nY ?_ | (refine mX ?_; try simp only [go_sem, qH]) | refine kD ?_ | refine cP (aN n.fName hn) ?_ | refine aO ?_ | fail)
   exact aA ⟨⟨_, rfl, by simp only [go_sem, hr, bT]⟩, trivial⟩
  rw [hz] at hr
  simp only [go_sem, hz]
  have qH := aI @h1 (aI @h2 (aI @h3 (aI @h4 (aI @h5 (aI @h6 (aI @h7 (aI @h8 (aI @h9 (aI @decide_true (aI @decide_false @hz)))))))))); repeat' (with_reducible first | refine nY ?_ | (refine mX ?_; try simp only [go_sem, qH]) | refine kD ?_ | refine cP (aN n.fName hn) ?_ | refine aO ?_ | fail)
  exact aA ⟨⟨_, rfl, by simp only [go_sem, hr, bT]⟩, trivial⟩
 have hr : bA n i = false := by simp [bA, h1, h2, h3, h4, h5, h6, h7, h8, h9]
 have q0 := @h1; have q1 := @h2; have q2 := @h3; have q3 := @h4; have q4 := @h5; have q5 := @h6; have q6 := @h7; have q7 := @h8; have q8 := @h9; have q9 := @decide_false; refine mP ?_
 exact aA ⟨⟨_, rfl, by simp only [go_sem, hr]⟩, trivial⟩
theorem fM (n : TNode) (i : Nat) (hi : i ≤ 4300000) (hs : n.fValue.fStr.size ≤ 4300000) (hn : n.fName.size ≤ 4300000) : FnC Tryz.prog 84 [wG n, oi i] (ob (bA n i)) := by
 refine ent Tryz.func84 rfl Tryz.call84 rfl (fun C => ?_); simp only [go_sem, st0, Tryz.ntmps84]
 repeat' (with_reducible first | refine nX ?_ | (refine mX ?_; try simp only [go_sem]) | refine kD ?_ | refine aO ?_ | fail)
 refine reg ?_
 repeat' (with_reducible first | refine nX ?_ | (refine mX ?_; try simp only [go_sem]) | refine kD ?_ | refine aO ?_ | fail)
 refine a6Q [(5, ob (oJ n i))] [] ?_ ?_
 ·cases hl : inB n.fLeft 0 ((i : Int) - 1) <;> by_cases hp : 0 < (i : Int)
  all_goals
   refine reg ?_
   have qH := aI @hl (aI @hp (aI @decide_true @decide_false)); repeat' (with_reducible first | refine nX ?_ | (refine mX ?_; try simp only [go_sem, qH]) | refine kD ?_ | refine cP (aR n.fLeft 0 ((i : Int) - 1)) ?_ | refine aO ?_ | fail)
   exact a2B (by simp only [go_sem, oJ, hl, hp, decide_true, decide_false, Bool.and_true, Bool.and_false]; simp) (by simp only [go_sem])
 simp only [go_sem]
 repeat' (with_reducible first | refine nX ?_ | (refine mX ?_; try simp only [go_sem]) | refine kD ?_ | refine aO ?_ | fail)
 refine a6Q [(6, ob (oJ n i && zP n i))] [] ?_ ?_
 ·cases hl : oJ n i <;> cases hq : zP n i
  all_goals
   refine reg ?_
   have qH := aI @hl @hq; repeat' (with_reducible first | refine nX ?_ | (refine mX ?_; try simp only [go_sem, qH]) | refine kD ?_ | refine cP ((aR n.fRight 0 ((i : Int) - 1) : FnC Tryz.prog _ _ (ob (zP n i)))) ?_ | refine aO ?_ | fail)
   exact a2B (by simp only [go_sem, hl, hq, Bool.and_true, Bool.and_false]; simp) (by simp only [go_sem])
 simp only [go_sem]
 by_cases h1 : n.fOp = 1
 ·have hr : bA n i = (decide (n.fLeft = 0) && (decide (n.fRight = 0) && (decide (n.fName = ⟨#[]⟩) && (decide (n.fValue.fKind = 0) && (decide (n.fValue.fInt = 0) && decide (n.fValue.fStr = ⟨#[]⟩)))))) := by simp [bA, h1, gI, jX, eV, Bool.and_assoc]
  have q0 := @h1; have q1 := @decide_true; have q2 := @decide_false; refine kZ ?_
  exact aA ⟨⟨_, rfl, by simp only [go_sem, hr, bT]⟩, trivial⟩
 by_cases h2 : n.fOp = 2
 ·have hr : bA n i = (aY n.fName 1 && (decide (n.fLeft = 0) && (decide (n.fRight = 0) && (decide (n.fValue.fKind = 0) && (decide (n.fValue.fInt = 0) && decide (n.fValue.fStr = ⟨#[]⟩)))))) := by simp [bA, h2, gI, jX, eV, Bool.and_assoc]
  have q0 := @h1; have q1 := @h2; have q2 := @decide_true; have q3 := @decide_false; refine tX (aD n.fName hn) ?_
  cases ht : aY n.fName 1
  ·rw [ht] at hr
   simp only [go_sem, ht]
   have q0 := @h1; have q1 := @h2; have q2 := @decide_true; have q3 := @decide_false; have q4 := @ht; refine wS ?_
   exact aA ⟨⟨_, rfl, by simp only [go_sem, hr, bT]⟩, trivial⟩
  rw [ht] at hr
  simp only [go_sem, ht]
  have q0 := @h1; have q1 := @h2; have q2 := @decide_true; have q3 := @decide_false; have q4 := @ht; refine qP (aD n.fName hn) ?_
  exact aA ⟨⟨_, rfl, by simp only [go_sem, hr, bT]⟩, trivial⟩
 by_cases h3 : n.fOp = 3
 ·have hr : bA n i = (aY n.fName 1 && (dN n.fValue && (!decide (n.fValue.fKind = 0) && (decide (n.fLeft = 0) && decide (n.fRight = 0))))) := by simp [bA, h3, gI]
  have q0 := @h1; have q1 := @h2; have q2 := @h3; have q3 := @decide_true; have q4 := @decide_false; refine a5F (aD n.fName hn) (aL n.fValue hs) ?_
  cases ht : aY n.fName 1
  ·rw [ht] at hr
   simp only [go_sem, ht]
   have q0 := @h1; have q1 := @h2; have q2 := @h3; have q3 := @decide_true; have q4 := @decide_false; have q5 := @ht; refine a9g ?_
   exact aA ⟨⟨_, rfl, by simp only [go_sem, hr, bT]⟩, trivial⟩
  rw [ht] at hr
  simp only [go_sem, ht]
  have q0 := @h1; have q1 := @h2; have q2 := @h3; have q3 := @decide_true; have q4 := @decide_false; have q5 := @ht; refine a0f (aD n.fName hn) (aL n.fValue hs) ?_
  cases hv : dN n.fValue
  ·rw [hv] at hr
   simp only [go_sem, hv]
   have q0 := @h1; have q1 := @h2; have q2 := @h3; have q3 := @decide_true; have q4 := @decide_false; have q5 := @ht; have q6 := @hv; refine a6S ?_
   exact aA ⟨⟨_, rfl, by simp only [go_sem, hr, bT]⟩, trivial⟩
  rw [hv] at hr
  simp only [go_sem, hv]
  have q0 := @h1; have q1 := @h2; have q2 := @h3; have q3 := @decide_true; have q4 := @decide_false; have q5 := @ht; have q6 := @hv; refine a8m (aD n.fName hn) (aL n.fValue hs) ?_
  by_cases hk : n.fValue.fKind = 0
  ·simp only [hk, decide_true] at hr
   simp only [go_sem, hk, decide_true]
   have q0 := @h1; have q1 := @h2; have q2 := @h3; have q3 := @decide_true; have q4 := @decide_false; have q5 := @ht; have q6 := @hv; have q7 := @hk; refine yS ?_
   exact aA ⟨⟨_, rfl, by simp only [go_sem, hr, bT]⟩, trivial⟩
  simp only [hk, decide_false] at hr
  simp only [go_sem, hk, decide_false]
  have q0 := @h1; have q1 := @h2; have q2 := @h3; have q3 := @decide_true; have q4 := @decide_false; have q5 := @ht; have q6 := @hv; have q7 := @hk; refine a6T (aD n.fName hn) (aL n.fValue hs) ?_
  by_cases hL : n.fLeft = 0
  rotate_left
  ·simp only [hL, decide_false] at hr
   simp only [go_sem, hL, decide_false]
   have q0 := @h1; have q1 := @h2; have q2 := @h3; have q3 := @decide_true; have q4 := @decide_false; have q5 := @ht; have q6 := @hv; have q7 := @hk; have q8 := @hL; refine uZ ?_
   exact aA ⟨⟨_, rfl, by simp only [go_sem, hr, bT]⟩, trivial⟩
  simp only [hL, decide_true] at hr
  simp only [go_sem, hL, decide_true]
  have q0 := @h1; have q1 := @h2; have q2 := @h3; have q3 := @decide_true; have q4 := @decide_false; have q5 := @ht; have q6 := @hv; have q7 := @hk; have q8 := @hL; refine a3W (aD n.fName hn) (aL n.fValue hs) ?_
  exact aA ⟨⟨_, rfl, by simp only [go_sem, hr, bT]⟩, trivial⟩
 by_cases h4 : n.fOp = 4
 ·have hr : bA n i = (aY n.fName 1 && (dN n.fValue && (decide (n.fValue.fKind = 1) && (decide (n.fLeft = 0) && decide (n.fRight = 0))))) := by simp [bA, h4, gI]
  have q0 := @h1; have q1 := @h2; have q2 := @h3; have q3 := @h4; have q4 := @decide_true; have q5 := @decide_false; refine a0f (aD n.fName hn) (aL n.fValue hs) ?_
  cases ht : aY n.fName 1
  ·rw [ht] at hr
   simp only [go_sem, ht]
   have q0 := @h1; have q1 := @h2; have q2 := @h3; have q3 := @h4; have q4 := @decide_true; have q5 := @decide_false; have q6 := @ht; refine a6S ?_
   exact aA ⟨⟨_, rfl, by simp only [go_sem, hr, bT]⟩, trivial⟩
  rw [ht] at hr
  simp only [go_sem, ht]
  have q0 := @h1; have q1 := @h2; have q2 := @h3; have q3 := @h4; have q4 := @decide_true; have q5 := @decide_false; have q6 := @ht; refine a8m (aD n.fName hn) (aL n.fValue hs) ?_
  cases hv : dN n.fValue
  ·rw [hv] at hr
   simp only [go_sem, hv]
   have q0 := @h1; have q1 := @h2; have q2 := @h3; have q3 := @h4; have q4 := @decide_true; have q5 := @decide_false; have q6 := @ht; have q7 := @hv; refine yS ?_
   exact aA ⟨⟨_, rfl, by simp only [go_sem, hr, bT]⟩, trivial⟩
  rw [hv] at hr
  simp only [go_sem, hv]
  have q0 := @h1; have q1 := @h2; have q2 := @h3; have q3 := @h4; have q4 := @decide_true; have q5 := @decide_false; have q6 := @ht; have q7 := @hv; refine a6T (aD n.fName hn) (aL n.fValue hs) ?_
  by_cases hk : n.fValue.fKind = 1
  rotate_left
  ·simp only [hk, decide_false] at hr
   simp only [go_sem, hk, decide_false]
   have q0 := @h1; have q1 := @h2; have q2 := @h3; have q3 := @h4; have q4 := @decide_true; have q5 := @decide_false; have q6 := @ht; have q7 := @hv; have q8 := @hk; refine uZ ?_
   exact aA ⟨⟨_, rfl, by simp only [go_sem, hr, bT]⟩, trivial⟩
  simp only [hk, decide_true] at hr
  simp only [go_sem, hk, decide_true]
  have q0 := @h1; have q1 := @h2; have q2 := @h3; have q3 := @h4; have q4 := @decide_true; have q5 := @decide_false; have q6 := @ht; have q7 := @hv; have q8 := @hk; refine a3W (aD n.fName hn) (aL n.fValue hs) ?_
  by_cases hL : n.fLeft = 0
  rotate_left
  ·simp only [hL, decide_false] at hr
   simp only [go_sem, hL, decide_false]
   have q0 := @h1; have q1 := @h2; have q2 := @h3; have q3 := @h4; have q4 := @decide_true; have q5 := @decide_false; have q6 := @ht; have q7 := @hv; have q8 := @hk; have q9 := @hL; refine mP ?_
   exact aA ⟨⟨_, rfl, by simp only [go_sem, hr, bT]⟩, trivial⟩
  simp only [hL, decide_true] at hr
  simp only [go_sem, hL, decide_true]
  have q0 := @h1; have q1 := @h2; have q2 := @h3; have q3 := @h4; have q4 := @decide_true; have q5 := @decide_false; have q6 := @ht; have q7 := @hv; have q8 := @hk; have q9 := @hL; refine a2D (aD n.fName hn) (aL n.fValue hs) ?_
  exact aA ⟨⟨_, rfl, by simp only [go_sem, hr, bT]⟩, trivial⟩
 by_cases h5 : n.fOp = 5
 ·have hr : bA n i = (oJ n i && (decide (n.fRight = 0) && (decide (n.fName = ⟨#[]⟩) && (decide (n.fValue.fKind = 0) && (decide (n.fValue.fInt = 0) && decide (n.fValue.fStr = ⟨#[]⟩)))))) := by simp [bA, h5, jX, eV]
  have q0 := @h1; have q1 := @h2; have q2 := @h3; have q3 := @h4; have q4 := @h5; have q5 := @decide_true; have q6 := @decide_false; refine a6S ?_
  cases hk : oJ n i
  ·rw [hk] at hr
   simp only [go_sem, hk]
   have q0 := @h1; have q1 := @h2; have q2 := @h3; have q3 := @h4; have q4 := @h5; have q5 := @decide_true; have q6 := @decide_false; have q7 := @hk; refine yS ?_
   exact aA ⟨⟨_, rfl, by simp only [go_sem, hr, bT]⟩, trivial⟩
  rw [hk] at hr
  simp only [go_sem, hk]
  have q0 := @h1; have q1 := @h2; have q2 := @h3; have q3 := @h4; have q4 := @h5; have q5 := @decide_true; have q6 := @decide_false; have q7 := @hk; refine yS ?_
  by_cases hR : n.fRight = 0
  rotate_left
  ·simp only [hR, decide_false] at hr
   simp only [go_sem, hR, decide_false]
   have q0 := @h1; have q1 := @h2; have q2 := @h3; have q3 := @h4; have q4 := @h5; have q5 := @decide_true; have q6 := @decide_false; have q7 := @hk; have q8 := @hR; refine uZ ?_
   exact aA ⟨⟨_, rfl, by simp only [go_sem, hr, bT]⟩, trivial⟩
  simp only [hR, decide_true] at hr
  simp only [go_sem, hR, decide_true]
  have q0 := @h1; have q1 := @h2; have q2 := @h3; have q3 := @h4; have q4 := @h5; have q5 := @decide_true; have q6 := @decide_false; have q7 := @hk; have q8 := @hR; refine uZ ?_
  by_cases hN : n.fName = ⟨#[]⟩
  rotate_left
  ·simp only [hN, decide_false] at hr
   simp only [go_sem, hN, decide_false]
   have q0 := @h1; have q1 := @h2; have q2 := @h3; have q3 := @h4; have q4 := @h5; have q5 := @decide_true; have q6 := @decide_false; have q7 := @hk; have q8 := @hR; have q9 := @hN; refine mP ?_
   exact aA ⟨⟨_, rfl, by simp only [go_sem, hr, bT]⟩, trivial⟩
  simp only [hN, decide_true] at hr
  simp only [go_sem, hN, decide_true]
  have q0 := @h1; have q1 := @h2; have q2 := @h3; have q3 := @h4; have q4 := @h5; have q5 := @decide_true; have q6 := @decide_false; have q7 := @hk; have q8 := @hR; have q9 := @hN; refine mP ?_
  exact aA ⟨⟨_, rfl, by simp only [go_sem, hr, bT]⟩, trivial⟩
 by_cases h6 : n.fOp = 6
 ·have hr : bA n i = ((oJ n i && zP n i) && (decide (n.fName = ⟨#[]⟩) && (decide (n.fValue.fKind = 0) && (decide (n.fValue.fInt = 0) && decide (n.fValue.fStr = ⟨#[]⟩))))) := by simp [bA, h6, jX, eV, Bool.and_assoc]
  have q0 := @h1; have q1 := @h2; have q2 := @h3; have q3 := @h4; have q4 := @h5; have q5 := @h6; have q6 := @decide_true; have q7 := @decide_false; refine yS ?_
  cases hk : (oJ n i && zP n i)
  ·rw [hk] at hr
   simp only [go_sem, hk]
   have q0 := @h1; have q1 := @h2; have q2 := @h3; have q3 := @h4; have q4 := @h5; have q5 := @h6; have q6 := @decide_true; have q7 := @decide_false; have q8 := @hk; refine uZ ?_
   exact aA ⟨⟨_, rfl, by simp only [go_sem, hr, bT]⟩, trivial⟩
  rw [hk] at hr
  simp only [go_sem, hk]
  have q0 := @h1; have q1 := @h2; have q2 := @h3; have q3 := @h4; have q4 := @h5; have q5 := @h6; have q6 := @decide_true; have q7 := @decide_false; have q8 := @hk; refine uZ ?_
  by_cases hN : n.fName = ⟨#[]⟩
  rotate_left
  ·simp only [hN, decide_false] at hr
   simp only [go_sem, hN, decide_false]
   have q0 := @h1; have q1 := @h2; have q2 := @h3; have q3 := @h4; have q4 := @h5; have q5 := @h6; have q6 := @decide_true; have q7 := @decide_false; have q8 := @hk; have q9 := @hN; refine mP ?_
   exact aA ⟨⟨_, rfl, by simp only [go_sem, hr, bT]⟩, trivial⟩
  simp only [hN, decide_true] at hr
  simp only [go_sem, hN, decide_true]
  have q0 := @h1; have q1 := @h2; have q2 := @h3; have q3 := @h4; have q4 := @h5; have q5 := @h6; have q6 := @decide_true; have q7 := @decide_false; have q8 := @hk; have q9 := @hN; refine mP ?_
  exact aA ⟨⟨_, rfl, by simp only [go_sem, hr, bT]⟩, trivial⟩
 by_cases h7 : n.fOp = 7
 ·have hr : bA n i = ((oJ n i && zP n i) && (decide (n.fName = ⟨#[]⟩) && (decide (n.fValue.fKind = 0) && (decide (n.fValue.fInt = 0) && decide (n.fValue.fStr = ⟨#[]⟩))))) := by simp [bA, h7, jX, eV, Bool.and_assoc]
  have q0 := @h1; have q1 := @h2; have q2 := @h3; have q3 := @h4; have q4 := @h5; have q5 := @h6; have q6 := @h7; have q7 := @decide_true; have q8 := @decide_false; refine uZ ?_
  cases hk : (oJ n i && zP n i)
  ·rw [hk] at hr
   simp only [go_sem, hk]
   have q0 := @h1; have q1 := @h2; have q2 := @h3; have q3 := @h4; have q4 := @h5; have q5 := @h6; have q6 := @h7; have q7 := @decide_true; have q8 := @decide_false; have q9 := @hk; refine mP ?_
   exact aA ⟨⟨_, rfl, by simp only [go_sem, hr, bT]⟩, trivial⟩
  rw [hk] at hr
  simp only [go_sem, hk]
  have q0 := @h1; have q1 := @h2; have q2 := @h3; have q3 := @h4; have q4 := @h5; have q5 := @h6; have q6 := @h7; have q7 := @decide_true; have q8 := @decide_false; have q9 := @hk; refine mP ?_
  by_cases hN : n.fName = ⟨#[]⟩
  rotate_left
  ·simp only [hN, decide_false] at hr
   simp only [go_sem, hN, decide_false]
   have qH := aI @h1 (aI @h2 (aI @h3 (aI @h4 (aI @h5 (aI @h6 (aI @h7 (aI @decide_true (aI @decide_false (aI @hk @hN))))))))); repeat' (with_reducible first | refine nY ?_ | (refine mX ?_; try simp only [go_sem, qH]) | refine kD ?_ | refine aO ?_ | fail)
   exact aA ⟨⟨_, rfl, by simp only [go_sem, hr, bT]⟩, trivial⟩
  simp only [hN, decide_true] at hr
  simp only [go_sem, hN, decide_true]
  have qH := aI @h1 (aI @h2 (aI @h3 (aI @h4 (aI @h5 (aI @h6 (aI @h7 (aI @decide_true (aI @decide_false (aI @hk @hN))))))))); repeat' (with_reducible first | refine nY ?_ | (refine mX ?_; try simp only [go_sem, qH]) | refine kD ?_ | refine aO ?_ | fail)
  exact aA ⟨⟨_, rfl, by simp only [go_sem, hr, bT]⟩, trivial⟩
 by_cases h8 : n.fOp = 8
 ·have hr : bA n i = (aY n.fName 6 && (decide (n.fLeft = 0) && (decide (n.fRight = 0) && (decide (n.fValue.fKind = 0) && (decide (n.fValue.fInt = 0) && decide (n.fValue.fStr = ⟨#[]⟩)))))) := by simp [bA, h8, gI, eV, Bool.and_assoc]
  have q0 := @h1; have q1 := @h2; have q2 := @h3; have q3 := @h4; have q4 := @h5; have q5 := @h6; have q6 := @h7; have q7 := @h8; have q8 := @decide_true; have q9 := @decide_false; refine a4K (aT n.fName hn) ?_
  cases ht : aY n.fName 6
  ·rw [ht] at hr
   simp only [go_sem, ht]
   have qH := aI @h1 (aI @h2 (aI @h3 (aI @h4 (aI @h5 (aI @h6 (aI @h7 (aI @h8 (aI @decide_true (aI @decide_false @ht))))))))); repeat' (with_reducible first | refine nY ?_ | (refine mX ?_; try simp only [go_sem, qH]) | refine kD ?_ | refine aO ?_ | fail)
   exact aA ⟨⟨_, rfl, by simp only [go_sem, hr, bT]⟩, trivial⟩
  rw [ht] at hr
  simp only [go_sem, ht]
  have qH := aI @h1 (aI @h2 (aI @h3 (aI @h4 (aI @h5 (aI @h6 (aI @h7 (aI @h8 (aI @decide_true (aI @decide_false @ht))))))))); repeat' (with_reducible first | refine nY ?_ | (refine mX ?_; try simp only [go_sem, qH]) | refine kD ?_ | refine cP (aT n.fName hn) ?_ | refine aO ?_ | fail)
  exact aA ⟨⟨_, rfl, by simp only [go_sem, hr, bT]⟩, trivial⟩
 by_cases h9 : n.fOp = 9
 ·have hr : bA n i = (aY n.fName 6 && (decide (n.fLeft = 0) && (decide (n.fRight = 0) && (decide (n.fValue.fKind = 0) && (decide (n.fValue.fInt = 0) && decide (n.fValue.fStr = ⟨#[]⟩)))))) := by simp [bA, h9, gI, eV, Bool.and_assoc]
  have qH := aI @h1 (aI @h2 (aI @h3 (aI @h4 (aI @h5 (aI @h6 (aI @h7 (aI @h8 (aI @h9 (aI @decide_true @decide_false))))))))); repeat' (with_reducible first | refine nY ?_ | (refine mX ?_; try simp only [go_sem, qH]) | refine kD ?_ | refine cP (aT n.fName hn) ?_ | refine aO ?_ | fail)
  cases ht : aY n.fName 6
  ·rw [ht] at hr
   simp only [go_sem, ht]
   have qH := aI @h1 (aI @h2 (aI @h3 (aI @h4 (aI @h5 (aI @h6 (aI @h7 (aI @h8 (aI @h9 (aI @decide_true (aI @decide_false @ht)))))))))); repeat' (with_reducible first | refine nY ?_ | (refine mX ?_; try simp only [go_sem, qH]) | refine kD ?_ | refine aO ?_ | fail)
   exact aA ⟨⟨_, rfl, by simp only [go_sem, hr, bT]⟩, trivial⟩
  rw [ht] at hr
  simp only [go_sem, ht]
  have qH := aI @h1 (aI @h2 (aI @h3 (aI @h4 (aI @h5 (aI @h6 (aI @h7 (aI @h8 (aI @h9 (aI @decide_true (aI @decide_false @ht)))))))))); repeat' (with_reducible first | refine nY ?_ | (refine mX ?_; try simp only [go_sem, qH]) | refine kD ?_ | refine cP (aT n.fName hn) ?_ | refine aO ?_ | fail)
  exact aA ⟨⟨_, rfl, by simp only [go_sem, hr, bT]⟩, trivial⟩
 have hr : bA n i = false := by simp [bA, h1, h2, h3, h4, h5, h6, h7, h8, h9]
 have qH := aI @h1 (aI @h2 (aI @h3 (aI @h4 (aI @h5 (aI @h6 (aI @h7 (aI @h8 (aI @h9 (aI @decide_true @decide_false))))))))); repeat' (with_reducible first | refine nY ?_ | (refine mX ?_; try simp only [go_sem, qH]) | refine kD ?_ | refine aO ?_ | fail)
 exact aA ⟨⟨_, rfl, by simp only [go_sem, hr]⟩, trivial⟩
theorem a4T (q : List TNode) (i : Nat) (h : i < q.length) : a0j q i = (bA q[i] i && (decide (q.length ≤ i + 1) || decide (refs q i = 1))) := by
 unfold a0j; rw [List.getElem?_eq_getElem h]
theorem bF (q : List TNode) (hl : bN q ≤ 4300000) : FnC Tryz.prog 61 [.o (.d (.sl (q.map aV)))] (ob (okQ q)) := by
 unfold bN at hl
 refine ent Tryz.func61 rfl Tryz.call61 rfl (fun C => ?_); simp only [go_sem, st0, Tryz.ntmps61]
 refine aK ?_
 refine bC (α := Nat) (fun k => [(7, oi k)]) (fun _ => []) (fun k => k ≤ q.length ∧ (List.range q.length).all (a0j q) = ((List.range q.length).drop k).all (a0j q)) (fun k => q.length - k) 0 (fun _ => ?_) ?_ ?_ (fun k hk => ?_)
 ·simp only [go_sem]
 ·simp only [go_sem]; simp
 ·simp
 ·obtain ⟨hk, hq⟩ := hk
  simp only [go_sem]
  refine aK ?_
  refine cnd rfl (fun h => ?_) (fun h => ?_)
  ·simp only [decide_eq_true_eq, Int.ofNat_lt] at h
   have h' : k < (List.range q.length).length := by simpa using h
   have hd := List.drop_eq_getElem_cons h'
   rw [hd, List.all_cons, List.getElem_range, a4T q k h] at hq
   have hw := bL wNode q h
   have hw1 : q[k].fName.size + q[k].fValue.fStr.size ≤ wNode q[k] := by unfold wNode eB; omega
   cases hn : bA q[k] k
   ·rw [hn] at hq
    have hf : okQ q = false := by unfold okQ; rw [hq]; simp
    have q0 := @h; have q1 := @hn; refine yR (fO q[k] k (by omega) (by omega) (by omega)) ?_
    exact aA ⟨⟨_, rfl, by simp only [go_sem, hf]⟩, trivial⟩
   by_cases he : (k : Int) < (q.length : Int) - 1
   ·have he2 : ¬ q.length ≤ k + 1 := by omega
    by_cases hc : (refs q k : Int) = 1
    ·have hc2 : refs q k = 1 := by omega
     have q0 := @h; have q1 := @hn; have q2 := @he; have q3 := @hc; have q4 := @decide_true; have q5 := @decide_false; refine a0f (fO q[k] k (by omega) (by omega) (by omega)) (nS q k (by omega)) ?_
     refine aG (k + 1) ?_ ?_ ?_
     ·simp only [go_sem]; simp
     ·refine ⟨h, ?_⟩
      rw [hq, hn]; simp [hc2]
     ·omega
    ·have hc2 : ¬ refs q k = 1 := by omega
     have hf : okQ q = false := by unfold okQ; rw [hq, hn]; simp [hc2, he2]
     have q0 := @h; have q1 := @hn; have q2 := @he; have q3 := @hc; have q4 := @decide_true; have q5 := @decide_false; refine a0f (fO q[k] k (by omega) (by omega) (by omega)) (nS q k (by omega)) ?_
     exact aA ⟨⟨_, rfl, by simp only [go_sem, hf]⟩, trivial⟩
   ·have he2 : q.length ≤ k + 1 := by omega
    have q0 := @h; have q1 := @hn; have q2 := @he; have q3 := @decide_true; have q4 := @decide_false; refine a5F (fO q[k] k (by omega) (by omega) (by omega)) (nS q k (by omega)) ?_
    refine aG (k + 1) ?_ ?_ ?_
    ·simp only [go_sem]; simp
    ·refine ⟨h, ?_⟩
     rw [hq, hn]; simp [he2]
    ·omega
  ·simp only [decide_eq_false_iff_not] at h
   have e : k = q.length := by omega
   have hq' : (List.range q.length).all (a0j q) = true := by
    rw [hq, List.drop_of_length_le (by simp [e])]; rfl
   refine jA (aF q.length 1 9) ?_
   exact aA ⟨⟨_, rfl, by simp only [go_sem, okQ, hq', Bool.true_and]⟩, trivial⟩
theorem bJ (q : List TNode) (hl : bN q ≤ 4300000) : FnC Tryz.prog 56 [.o (.d (.sl (q.map aV)))] (ob (okQ q)) := by
 unfold bN at hl
 refine ent Tryz.func56 rfl Tryz.call56 rfl (fun C => ?_); simp only [go_sem, st0, Tryz.ntmps56]
 refine aK ?_
 refine bC (α := Nat) (fun k => [(3, oi k)]) (fun _ => []) (fun k => k ≤ q.length ∧ (List.range q.length).all (a0j q) = ((List.range q.length).drop k).all (a0j q)) (fun k => q.length - k) 0 (fun _ => ?_) ?_ ?_ (fun k hk => ?_)
 ·simp only [go_sem]
 ·simp only [go_sem]; simp
 ·simp
 ·obtain ⟨hk, hq⟩ := hk
  simp only [go_sem]
  refine aK ?_
  refine cnd rfl (fun h => ?_) (fun h => ?_)
  ·simp only [decide_eq_true_eq, Int.ofNat_lt] at h
   have h' : k < (List.range q.length).length := by simpa using h
   have hd := List.drop_eq_getElem_cons h'
   rw [hd, List.all_cons, List.getElem_range, a4T q k h] at hq
   have hw := bL wNode q h
   have hw1 : q[k].fName.size + q[k].fValue.fStr.size ≤ wNode q[k] := by unfold wNode eB; omega
   cases hn : bA q[k] k
   ·rw [hn] at hq
    have hf : okQ q = false := by unfold okQ; rw [hq]; simp
    have q0 := @h; have q1 := @hn; refine yR (fM q[k] k (by omega) (by omega) (by omega)) ?_
    exact aA ⟨⟨_, rfl, by simp only [go_sem, hf]⟩, trivial⟩
   by_cases he : (k : Int) < (q.length : Int) - 1
   ·have he2 : ¬ q.length ≤ k + 1 := by omega
    by_cases hc : (refs q k : Int) = 1
    ·have hc2 : refs q k = 1 := by omega
     have q0 := @h; have q1 := @hn; have q2 := @he; have q3 := @hc; have q4 := @decide_true; have q5 := @decide_false; refine a0f (fM q[k] k (by omega) (by omega) (by omega)) (nT q k (by omega)) ?_
     refine aG (k + 1) ?_ ?_ ?_
     ·simp only [go_sem]; simp
     ·refine ⟨h, ?_⟩
      rw [hq, hn]; simp [hc2]
     ·omega
    ·have hc2 : ¬ refs q k = 1 := by omega
     have hf : okQ q = false := by unfold okQ; rw [hq, hn]; simp [hc2, he2]
     have q0 := @h; have q1 := @hn; have q2 := @he; have q3 := @hc; have q4 := @decide_true; have q5 := @decide_false; refine a0f (fM q[k] k (by omega) (by omega) (by omega)) (nT q k (by omega)) ?_
     exact aA ⟨⟨_, rfl, by simp only [go_sem, hf]⟩, trivial⟩
   ·have he2 : q.length ≤ k + 1 := by omega
    have q0 := @h; have q1 := @hn; have q2 := @he; have q3 := @decide_true; have q4 := @decide_false; refine a5F (fM q[k] k (by omega) (by omega) (by omega)) (nT q k (by omega)) ?_
    refine aG (k + 1) ?_ ?_ ?_
    ·simp only [go_sem]; simp
    ·refine ⟨h, ?_⟩
     rw [hq, hn]; simp [he2]
    ·omega
  ·simp only [decide_eq_false_iff_not] at h
   have e : k = q.length := by omega
   have hq' : (List.range q.length).all (a0j q) = true := by
    rw [hq, List.drop_of_length_le (by simp [e])]; rfl
   refine jA (aR q.length 1 9) ?_
   exact aA ⟨⟨_, rfl, by simp only [go_sem, okQ, hq', Bool.true_and]⟩, trivial⟩
end Go.Proofs.YtdjgfffnaakehaaGreatDoor
end
