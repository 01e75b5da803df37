/-
  within, l01In.
-/
import Derived.Test.YtefpompaidekeaaH00Base
set_option linter.all false
namespace Go.Proofs.Ytefpompaidekeaa
open Go Go.Sx Go.RowKit Go.Proofs

def inB (n a b : Int) : Bool := decide (a ≤ n) && decide (n ≤ b)
theorem within_ok (n a b : Int) : FnC Try.prog 40 [oi n, oi a, oi b] (ob (inB n a b)) := by
  refine ent Try.func40 rfl Try.call40 rfl (fun C => ?_)
  simp only [go_sem, st0, Try.ntmps40]
  by_cases h0 : a ≤ n <;> by_cases h1 : n ≤ b
  all_goals
    repeat' (with_reducible first | refine WP_ret ?_ | refine WP_skip ?_ | refine WP_exit ?_ | refine WP_seq ?_ | refine WP_block ?_ | refine K_code ?_ | refine K_blk ?_ | refine K_code_ret ?_ | refine K_blk_ret ?_ | refine K_code_exit ?_ | refine K_blk_exit_same ?_ | refine K_blk_exit_other (by decide) ?_ | refine K_nil ?_ | refine L_ret ?_ | refine L_exit ?_ | (refine run_cons ?_; simp only [go_sem, h0, h1, decide_false]) | (refine run_nil ?_) | (refine drun_cons ?_; simp only [go_sem, h0, h1, decide_false]) | (refine drun_nil ?_) | (refine reg ?_) | (refine regd (by kernel_rfl) ?_) | (refine cndt ?_ ?_; (focus (simp only [go_sem]; done))) | (refine cndf ?_ ?_; (focus (simp only [go_sem]; done))) | (refine And.intro ?_ ?_; (focus omega)))
    refine retK_ret ⟨⟨_, rfl, ?_⟩, ?_⟩
    · simp only [go_sem]; simp [inB, h0, h1]
    · trivial
theorem l01In_ok (n a b : Int) : FnC Try.prog 37 [oi n, oi a, oi b] (ob (inB n a b)) := by
  refine ent Try.func37 rfl Try.call37 rfl (fun C => ?_)
  simp only [go_sem, st0, Try.ntmps37]
  by_cases h0 : a ≤ n <;> by_cases h1 : n ≤ b
  all_goals
    repeat' (with_reducible first | refine WP_ret ?_ | refine WP_skip ?_ | refine WP_exit ?_ | refine WP_seq ?_ | refine WP_block ?_ | refine K_code ?_ | refine K_blk ?_ | refine K_code_ret ?_ | refine K_blk_ret ?_ | refine K_code_exit ?_ | refine K_blk_exit_same ?_ | refine K_blk_exit_other (by decide) ?_ | refine K_nil ?_ | refine L_ret ?_ | refine L_exit ?_ | (refine run_cons ?_; simp only [go_sem, h0, h1, decide_false]) | (refine run_nil ?_) | (refine drun_cons ?_; simp only [go_sem, h0, h1, decide_false]) | (refine drun_nil ?_) | (refine reg ?_) | (refine regd (by kernel_rfl) ?_) | (refine cndt ?_ ?_; (focus (simp only [go_sem]; done))) | (refine cndf ?_ ?_; (focus (simp only [go_sem]; done))) | (refine And.intro ?_ ?_; (focus omega)))
    refine retK_ret ⟨⟨_, rfl, ?_⟩, ?_⟩
    · simp only [go_sem]; simp [inB, h0, h1]
    · trivial
end Go.Proofs.Ytefpompaidekeaa
