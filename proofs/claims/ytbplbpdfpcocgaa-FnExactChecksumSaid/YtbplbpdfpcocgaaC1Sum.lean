/-
  Checksum, both.
-/
import Derived.Test.YtbplbpdfpcocgaaB6Base
set_option linter.all false
namespace Go.Proofs.Ytbplbpdfpcocgaa
open Go Go.Sx Go.RowKit Go.Proofs

theorem byteAt_le (s : ByteArray) (k : Nat) : 0 ≤ byteAt s k ∧ byteAt s k ≤ 255 := by
  unfold byteAt
  have := (s.data.toList.getD k 0).toNat_lt
  omega
def sumAt (s : ByteArray) : Nat → Int
  | 0 => 3
  | k + 1 => (sumAt s k * 33 + byteAt s k).tmod 65521
theorem sumAt_le (s : ByteArray) : ∀ k, 0 ≤ sumAt s k ∧ sumAt s k ≤ 65520
  | 0 => by simp [sumAt]
  | k + 1 => by
    have h1 := sumAt_le s k
    have h2 := byteAt_le s k
    rw [sumAt, Int.tmod_eq_emod_of_nonneg (by omega)]
    omega

theorem specChecksum_ok (s : ByteArray) (hs : s.size ≤ 1048576) : FnC Try.prog 10 [os s] (oi (sumAt s s.size)) := by
  refine ent Try.func10 rfl Try.call10 rfl (fun C => ?_)
  simp only [go_sem, st0, Try.ntmps10]
  repeat' (with_reducible first | refine WP_ret ?_ | refine WP_skip ?_ | refine WP_exit ?_ | refine WP_seq ?_ | refine WP_block ?_ | refine K_code ?_ | refine K_blk ?_ | refine K_code_ret ?_ | refine K_blk_ret ?_ | refine K_code_exit ?_ | refine K_blk_exit_same ?_ | refine K_blk_exit_other (by decide) ?_ | refine K_nil ?_ | refine L_ret ?_ | refine L_exit ?_ | (refine reg ?_; simp only [go_sem]) | refine And.intro (by omega) ?_)
  refine WP_lp (α := Nat) (fun k => [(3, oi (sumAt s k)), (4, oi k)]) (fun _ => []) (fun k => k ≤ s.size) (fun k => s.size - k) 0 (fun _ => ?_) ?_ ?_ (fun k hk => ?_)
  · simp only [go_sem]
  · simp only [go_sem]; simp [sumAt]
  · simp
  · simp only [go_sem]
    repeat' (with_reducible first | refine WP_ret ?_ | refine WP_skip ?_ | refine WP_exit ?_ | refine WP_seq ?_ | refine WP_block ?_ | refine K_code ?_ | refine K_blk ?_ | refine K_code_ret ?_ | refine K_blk_ret ?_ | refine K_code_exit ?_ | refine K_blk_exit_same ?_ | refine K_blk_exit_other (by decide) ?_ | refine K_nil ?_ | refine L_ret ?_ | refine L_exit ?_ | (refine reg ?_; simp only [go_sem]) | refine And.intro (by omega) ?_)
    refine cnd rfl (fun h => ?_) (fun h => ?_)
    · simp only [decide_eq_true_eq, Int.ofNat_lt] at h
      have h1 := sumAt_le s k
      have h2 := byteAt_le s k
      repeat' (with_reducible first | refine WP_ret ?_ | refine WP_skip ?_ | refine WP_exit ?_ | refine WP_seq ?_ | refine WP_block ?_ | refine K_code ?_ | refine K_blk ?_ | refine K_code_ret ?_ | refine K_blk_ret ?_ | refine K_code_exit ?_ | refine K_blk_exit_same ?_ | refine K_blk_exit_other (by decide) ?_ | refine K_nil ?_ | refine L_ret ?_ | refine L_exit ?_ | (refine reg ?_; simp only [go_sem, h]) | refine And.intro (by omega) ?_)
      refine L_next (k + 1) ?_ ?_ ?_
      · simp only [go_sem]; simp [sumAt]
      · omega
      · omega
    · simp only [decide_eq_false_iff_not] at h
      have e : k = s.size := by omega
      subst e
      repeat' (with_reducible first | refine WP_ret ?_ | refine WP_skip ?_ | refine WP_exit ?_ | refine WP_seq ?_ | refine WP_block ?_ | refine K_code ?_ | refine K_blk ?_ | refine K_code_ret ?_ | refine K_blk_ret ?_ | refine K_code_exit ?_ | refine K_blk_exit_same ?_ | refine K_blk_exit_other (by decide) ?_ | refine K_nil ?_ | refine L_ret ?_ | refine L_exit ?_ | (refine reg ?_; simp only [go_sem]) | refine And.intro (by omega) ?_)
      refine retK_ret ⟨⟨_, rfl, ?_⟩, ?_⟩
      · simp only [go_sem]
      · trivial

theorem implChecksum_ok (s : ByteArray) (hs : s.size ≤ 1048576) : FnC Try.prog 11 [os s] (oi (sumAt s s.size)) := by
  refine ent Try.func11 rfl Try.call11 rfl (fun C => ?_)
  simp only [go_sem, st0, Try.ntmps11]
  repeat' (with_reducible first | refine WP_ret ?_ | refine WP_skip ?_ | refine WP_exit ?_ | refine WP_seq ?_ | refine WP_block ?_ | refine K_code ?_ | refine K_blk ?_ | refine K_code_ret ?_ | refine K_blk_ret ?_ | refine K_code_exit ?_ | refine K_blk_exit_same ?_ | refine K_blk_exit_other (by decide) ?_ | refine K_nil ?_ | refine L_ret ?_ | refine L_exit ?_ | (refine reg ?_; simp only [go_sem]) | refine And.intro (by omega) ?_)
  refine WP_lp (α := Nat) (fun k => [(3, oi (sumAt s k)), (7, oi k)]) (fun _ => []) (fun k => k ≤ s.size) (fun k => s.size - k) 0 (fun _ => ?_) ?_ ?_ (fun k hk => ?_)
  · simp only [go_sem]
  · simp only [go_sem]; simp [sumAt]
  · simp
  · simp only [go_sem]
    repeat' (with_reducible first | refine WP_ret ?_ | refine WP_skip ?_ | refine WP_exit ?_ | refine WP_seq ?_ | refine WP_block ?_ | refine K_code ?_ | refine K_blk ?_ | refine K_code_ret ?_ | refine K_blk_ret ?_ | refine K_code_exit ?_ | refine K_blk_exit_same ?_ | refine K_blk_exit_other (by decide) ?_ | refine K_nil ?_ | refine L_ret ?_ | refine L_exit ?_ | (refine reg ?_; simp only [go_sem]) | refine And.intro (by omega) ?_)
    refine cnd rfl (fun h => ?_) (fun h => ?_)
    · simp only [decide_eq_true_eq, Int.ofNat_lt] at h
      have h1 := sumAt_le s k
      have h2 := byteAt_le s k
      repeat' (with_reducible first | refine WP_ret ?_ | refine WP_skip ?_ | refine WP_exit ?_ | refine WP_seq ?_ | refine WP_block ?_ | refine K_code ?_ | refine K_blk ?_ | refine K_code_ret ?_ | refine K_blk_ret ?_ | refine K_code_exit ?_ | refine K_blk_exit_same ?_ | refine K_blk_exit_other (by decide) ?_ | refine K_nil ?_ | refine L_ret ?_ | refine L_exit ?_ | (refine reg ?_; simp only [go_sem, h]) | refine And.intro (by omega) ?_)
      refine L_next (k + 1) ?_ ?_ ?_
      · simp only [go_sem]; simp [sumAt, Int.mul_comm]
      · omega
      · omega
    · simp only [decide_eq_false_iff_not] at h
      have e : k = s.size := by omega
      subst e
      repeat' (with_reducible first | refine WP_ret ?_ | refine WP_skip ?_ | refine WP_exit ?_ | refine WP_seq ?_ | refine WP_block ?_ | refine K_code ?_ | refine K_blk ?_ | refine K_code_ret ?_ | refine K_blk_ret ?_ | refine K_code_exit ?_ | refine K_blk_exit_same ?_ | refine K_blk_exit_other (by decide) ?_ | refine K_nil ?_ | refine L_ret ?_ | refine L_exit ?_ | (refine reg ?_; simp only [go_sem]) | refine And.intro (by omega) ?_)
      refine retK_ret ⟨⟨_, rfl, ?_⟩, ?_⟩
      · simp only [go_sem]
      · trivial

theorem lawChecksum_ok (s : ByteArray) : FnC Try.prog 3 [os s] (ob true) := by
  refine ent Try.func3 rfl Try.call3 rfl (fun C => ?_)
  simp only [go_sem, st0, Try.ntmps3]
  repeat' (with_reducible first | refine WP_ret ?_ | refine WP_skip ?_ | refine WP_exit ?_ | refine WP_seq ?_ | refine WP_block ?_ | refine K_code ?_ | refine K_blk ?_ | refine K_code_ret ?_ | refine K_blk_ret ?_ | refine K_code_exit ?_ | refine K_blk_exit_same ?_ | refine K_blk_exit_other (by decide) ?_ | refine K_nil ?_ | refine L_ret ?_ | refine L_exit ?_ | (refine reg ?_; simp only [go_sem]) | refine And.intro (by omega) ?_)
  refine cnd rfl (fun h => ?_) (fun h => ?_)
  · repeat' (with_reducible first | refine WP_ret ?_ | refine WP_skip ?_ | refine WP_exit ?_ | refine WP_seq ?_ | refine WP_block ?_ | refine K_code ?_ | refine K_blk ?_ | refine K_code_ret ?_ | refine K_blk_ret ?_ | refine K_code_exit ?_ | refine K_blk_exit_same ?_ | refine K_blk_exit_other (by decide) ?_ | refine K_nil ?_ | refine L_ret ?_ | refine L_exit ?_ | (refine reg ?_; simp only [go_sem]) | refine And.intro (by omega) ?_)
    refine retK_ret ⟨⟨_, rfl, ?_⟩, ?_⟩
    · simp only [go_sem]
    · trivial
  · simp only [decide_eq_false_iff_not] at h
    repeat' (with_reducible first | refine WP_ret ?_ | refine WP_skip ?_ | refine WP_exit ?_ | refine WP_seq ?_ | refine WP_block ?_ | refine K_code ?_ | refine K_blk ?_ | refine K_code_ret ?_ | refine K_blk_ret ?_ | refine K_code_exit ?_ | refine K_blk_exit_same ?_ | refine K_blk_exit_other (by decide) ?_ | refine K_nil ?_ | refine L_ret ?_ | refine L_exit ?_ | (refine reg ?_; simp only [go_sem]) | (refine cal (specChecksum_ok s (by omega)) (by simp only [go_sem]) (by simp only [go_sem]) ?_; simp only [go_sem]) | (refine cal (implChecksum_ok s (by omega)) (by simp only [go_sem]) (by simp only [go_sem]) ?_; simp only [go_sem]) | refine And.intro (by omega) ?_)
    repeat' (with_reducible first | refine WP_ret ?_ | refine WP_skip ?_ | refine WP_exit ?_ | refine WP_seq ?_ | refine WP_block ?_ | refine K_code ?_ | refine K_blk ?_ | refine K_code_ret ?_ | refine K_blk_ret ?_ | refine K_code_exit ?_ | refine K_blk_exit_same ?_ | refine K_blk_exit_other (by decide) ?_ | refine K_nil ?_ | refine L_ret ?_ | refine L_exit ?_ | (refine reg ?_; simp only [go_sem]) | (refine cal (specChecksum_ok s (by omega)) (by simp only [go_sem]) (by simp only [go_sem]) ?_; simp only [go_sem]) | (refine cal (implChecksum_ok s (by omega)) (by simp only [go_sem]) (by simp only [go_sem]) ?_; simp only [go_sem]) | refine And.intro (by omega) ?_)
    refine cnd rfl (fun h => ?_) (fun h => ?_)
    · simp at h
    · repeat' (with_reducible first | refine WP_ret ?_ | refine WP_skip ?_ | refine WP_exit ?_ | refine WP_seq ?_ | refine WP_block ?_ | refine K_code ?_ | refine K_blk ?_ | refine K_code_ret ?_ | refine K_blk_ret ?_ | refine K_code_exit ?_ | refine K_blk_exit_same ?_ | refine K_blk_exit_other (by decide) ?_ | refine K_nil ?_ | refine L_ret ?_ | refine L_exit ?_ | (refine reg ?_; simp only [go_sem]) | refine And.intro (by omega) ?_)
      refine retK_ret ⟨⟨_, rfl, ?_⟩, ?_⟩
      · simp only [go_sem]
      · trivial
end Go.Proofs.Ytbplbpdfpcocgaa
