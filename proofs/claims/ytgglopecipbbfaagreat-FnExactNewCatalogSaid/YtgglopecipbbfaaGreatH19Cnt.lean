/-
  CountReferences.
-/
import Derived.Test.YtgglopecipbbfaaGreatH18Text
set_option linter.all false
set_option maxRecDepth 100000
set_option maxHeartbeats 4000000
namespace Go.Proofs.YtgglopecipbbfaaGreat
open Go Go.Sx Go.RowKit Go.Proofs

def two (n : TNode) : Bool := decide (n.fOp = 6) || decide (n.fOp = 7)
def ref1 (n : TNode) (i : Int) : Nat := (if (two n || decide (n.fOp = 5)) && decide (n.fLeft = i) then 1 else 0) + (if two n && decide (n.fRight = i) then 1 else 0)
def refs (q : List TNode) (i : Int) : Nat := match q with
  | [] => 0
  | n :: q => ref1 n i + refs q i
theorem refs_app (q r : List TNode) (i : Int) : refs (q ++ r) i = refs q i + refs r i := by
  induction q with
  | nil => simp [refs]
  | cons n q ih => simp only [List.cons_append, refs, ih]; omega
theorem refs_take (q : List TNode) (i : Int) (k : Nat) (h : k < q.length) : refs (q.take (k + 1)) i = refs (q.take k) i + ref1 q[k] i := by
  rw [List.take_succ_eq_append_getElem h, refs_app]; simp [refs]
theorem refs_le (q : List TNode) (i : Int) : refs q i ≤ 2 * q.length := by
  induction q with
  | nil => simp [refs]
  | cons n q ih => simp only [refs, List.length_cons]; unfold ref1; split <;> split <;> omega
theorem implCount_ok (q : List TNode) (i : Int) (hl : q.length ≤ 4300000) : FnC Tryz.prog 303 [.o (.d (.sl (q.map encNode))), oi i] (oi (refs q i)) := by
  refine ent Tryz.func303 rfl Tryz.call303 rfl (fun C => ?_); simp only [go_sem, st0, Tryz.ntmps303]
  repeat' (with_reducible first | refine nY ?_ | (refine mX ?_; try simp only [go_sem]) | refine kO ?_ (by decide) | (refine And.intro ?_ ?_; focus omega))
  refine WP_lp (α := Nat) (fun k => [(5, oi (refs (q.take k) i)), (11, oi k)]) (fun _ => []) (fun k => k ≤ q.length) (fun k => q.length - k) 0 (fun _ => ?_) ?_ ?_ (fun k hk => ?_)
  · simp only [go_sem]
  · simp only [go_sem]; simp [refs]
  · simp
  · simp only [go_sem]
    repeat' (with_reducible first | refine nY ?_ | (refine mX ?_; try simp only [go_sem]) | refine kO ?_ (by decide) | (refine And.intro ?_ ?_; focus omega))
    refine cnd rfl (fun h1 => ?_) (fun h1 => ?_)
    · simp only [decide_eq_true_eq, Int.ofNat_lt] at h1
      have ht := refs_take q i k h1
      have hle := refs_le (q.take k) i
      simp only [List.length_take] at hle
      by_cases c6 : q[k].fOp = 6 <;> by_cases c7 : q[k].fOp = 7 <;> by_cases c5 : q[k].fOp = 5 <;> by_cases cl : q[k].fLeft = i <;> by_cases cr : q[k].fRight = i
      all_goals (try omega)
      all_goals
        simp only [ref1, two, c5, c6, c7, cl, cr, decide_true, decide_false, Bool.true_or, Bool.or_true, Bool.false_or, Bool.or_false, Bool.and_true, Bool.and_false, Bool.true_and, Bool.false_and, if_true, if_false, Bool.false_eq_true] at ht
        have d5 : decide (q[k].fOp = 5) = decide (q[k].fOp = 5) := rfl
        repeat' (with_reducible first | refine nY ?_ | (refine mX ?_; try simp only [go_sem, h1, c5, c6, c7, cl, cr, decide_true, decide_false]) | refine kO ?_ (by decide) | (refine And.intro ?_ ?_; focus omega))
        refine L_next (k + 1) ?_ ?_ ?_
        · simp only [go_sem, ht]; simp <;> omega
        · omega
        · omega
    · simp only [decide_eq_false_iff_not] at h1
      have e : k = q.length := by omega
      subst e
      rw [List.take_length]
      repeat' (with_reducible first | refine nY ?_ | (refine mX ?_; try simp only [go_sem]) | refine kO ?_ (by decide) | (refine And.intro ?_ ?_; focus omega))
      exact retK_ret ⟨⟨_, rfl, by simp only [go_sem, List.take_length]⟩, trivial⟩
theorem specCount_ok (q : List TNode) (i : Int) (hl : q.length ≤ 4300000) : FnC Tryz.prog 285 [.o (.d (.sl (q.map encNode))), oi i] (oi (refs q i)) := by
  refine ent Tryz.func285 rfl Tryz.call285 rfl (fun C => ?_); simp only [go_sem, st0, Tryz.ntmps285]
  repeat' (with_reducible first | refine nY ?_ | (refine mX ?_; try simp only [go_sem]) | refine kO ?_ (by decide) | (refine And.intro ?_ ?_; focus omega))
  refine WP_lp (α := Nat) (fun k => [(5, oi (refs (q.take k) i)), (6, oi k)]) (fun _ => []) (fun k => k ≤ q.length) (fun k => q.length - k) 0 (fun _ => ?_) ?_ ?_ (fun k hk => ?_)
  · simp only [go_sem]
  · simp only [go_sem]; simp [refs]
  · simp
  · simp only [go_sem]
    repeat' (with_reducible first | refine nY ?_ | (refine mX ?_; try simp only [go_sem]) | refine kO ?_ (by decide) | (refine And.intro ?_ ?_; focus omega))
    refine cnd rfl (fun h1 => ?_) (fun h1 => ?_)
    · simp only [decide_eq_true_eq, Int.ofNat_lt] at h1
      have ht := refs_take q i k h1
      have hle := refs_le (q.take k) i
      simp only [List.length_take] at hle
      by_cases c6 : q[k].fOp = 6 <;> by_cases c7 : q[k].fOp = 7 <;> by_cases c5 : q[k].fOp = 5 <;> by_cases cl : q[k].fLeft = i <;> by_cases cr : q[k].fRight = i
      all_goals (try omega)
      all_goals
        simp only [ref1, two, c5, c6, c7, cl, cr, decide_true, decide_false, Bool.true_or, Bool.or_true, Bool.false_or, Bool.or_false, Bool.and_true, Bool.and_false, Bool.true_and, Bool.false_and, if_true, if_false, Bool.false_eq_true] at ht
        have d5 : decide (q[k].fOp = 5) = decide (q[k].fOp = 5) := rfl
        repeat' (with_reducible first | refine nY ?_ | (refine mX ?_; try simp only [go_sem, h1, c5, c6, c7, cl, cr, decide_true, decide_false]) | refine kO ?_ (by decide) | (refine And.intro ?_ ?_; focus omega))
        refine L_next (k + 1) ?_ ?_ ?_
        · simp only [go_sem, ht]; simp <;> omega
        · omega
        · omega
    · simp only [decide_eq_false_iff_not] at h1
      have e : k = q.length := by omega
      subst e
      rw [List.take_length]
      repeat' (with_reducible first | refine nY ?_ | (refine mX ?_; try simp only [go_sem]) | refine kO ?_ (by decide) | (refine And.intro ?_ ?_; focus omega))
      exact retK_ret ⟨⟨_, rfl, by simp only [go_sem, List.take_length]⟩, trivial⟩
end Go.Proofs.YtgglopecipbbfaaGreat
