/-
  GroupSizes: both functions, the law.
-/
import Derived.Test.YteganoldfldlhaaM4Law
set_option linter.all false
set_option maxRecDepth 100000
set_option maxHeartbeats 4000000
namespace Go.Proofs.Yteganoldfldlhaa
open Go Go.Sx Go.RowKit Go.Proofs

def gsz (l : List TGroup) : List Int := l.map fun g => (g.fIDs.length : Int)
theorem gsz_length (l : List TGroup) : (gsz l).length = l.length := by simp [gsz]
theorem specGroupSizes_ok (l : List TGroup) (h : wGroupS l ≤ 1048576) : FnC Try.prog 15 [.o (.d (.sl (l.map encGroup)))] (.o (.w 3 1 ((gsz l).map encI))) := by
  unfold wGroupS at h
  refine ent Try.func15 rfl Try.call15 rfl (fun C => ?_)
  simp only [go_sem, st0, Try.ntmps15]
  repeat' (with_reducible first | refine WP_ret ?_ | refine WP_skip ?_ | refine WP_exit ?_ | refine WP_seq ?_ | refine WP_block ?_ | refine K_code ?_ | refine K_blk ?_ | refine K_code_ret ?_ | refine K_blk_ret ?_ | refine K_code_exit ?_ | refine K_blk_exit_same ?_ | refine K_blk_exit_other (by decide) ?_ | refine K_nil ?_ | refine L_ret ?_ | refine L_exit ?_ | (refine run_cons ?_; simp only [go_sem]) | (refine run_nil ?_) | (refine drun_cons ?_; simp only [go_sem]) | (refine drun_nil ?_) | (refine reg ?_) | (refine regd (by kernel_rfl) ?_) | (refine cndt ?_ ?_; (focus (simp only [go_sem]; done))) | (refine cndf ?_ ?_; (focus (simp only [go_sem]; done))) | (refine And.intro ?_ ?_; (focus omega)))
  refine WP_lp (α := Nat) (fun k => [(3, .o (.s 0)), (4, oi k), (5, .o .u)]) (fun k => [(0, .row 3 1 ((gsz (l.take k)).map encI) true)]) (fun k => k ≤ l.length) (fun k => l.length - k) 0 (fun _ => ?_) ?_ ?_ (fun k hk => ?_)
  · simp only [go_sem]
  · simp only [go_sem]; simp [gsz]
  · simp
  · simp only [go_sem]
    repeat' (with_reducible first | refine WP_ret ?_ | refine WP_skip ?_ | refine WP_exit ?_ | refine WP_seq ?_ | refine WP_block ?_ | refine K_code ?_ | refine K_blk ?_ | refine K_code_ret ?_ | refine K_blk_ret ?_ | refine K_code_exit ?_ | refine K_blk_exit_same ?_ | refine K_blk_exit_other (by decide) ?_ | refine K_nil ?_ | refine L_ret ?_ | refine L_exit ?_ | (refine run_cons ?_; simp only [go_sem]) | (refine run_nil ?_) | (refine drun_cons ?_; simp only [go_sem]) | (refine drun_nil ?_) | (refine reg ?_) | (refine regd (by kernel_rfl) ?_) | (refine cndt ?_ ?_; (focus (simp only [go_sem]; done))) | (refine cndf ?_ ?_; (focus (simp only [go_sem]; done))) | (refine And.intro ?_ ?_; (focus omega)))
    refine cnd rfl (fun h1 => ?_) (fun h1 => ?_)
    · simp only [decide_eq_true_eq, Int.ofNat_lt] at h1
      have ht : gsz (l.take (k + 1)) = gsz (l.take k) ++ [(l[k].fIDs.length : Int)] := by simp only [gsz, List.take_succ_eq_append_getElem h1, List.map_append, List.map_cons, List.map_nil]
      have hlen : (gsz (l.take k)).length = k := by rw [gsz_length]; simp; omega
      repeat' (with_reducible first | refine WP_ret ?_ | refine WP_skip ?_ | refine WP_exit ?_ | refine WP_seq ?_ | refine WP_block ?_ | refine K_code ?_ | refine K_blk ?_ | refine K_code_ret ?_ | refine K_blk_ret ?_ | refine K_code_exit ?_ | refine K_blk_exit_same ?_ | refine K_blk_exit_other (by decide) ?_ | refine K_nil ?_ | refine L_ret ?_ | refine L_exit ?_ | (refine run_cons ?_; simp only [go_sem, h1, hlen]) | (refine run_nil ?_) | (refine drun_cons ?_; simp only [go_sem, h1, hlen]) | (refine drun_nil ?_) | (refine reg ?_) | (refine regd (by kernel_rfl) ?_) | (refine cndt ?_ ?_; (focus (simp only [go_sem]; done))) | (refine cndf ?_ ?_; (focus (simp only [go_sem]; done))) | (refine And.intro ?_ ?_; (focus omega)))
      refine L_next (k + 1) ?_ ?_ ?_
      · simp only [go_sem, ht, List.map_append]; simp
      · omega
      · omega
    · simp only [decide_eq_false_iff_not] at h1
      have e : k = l.length := by omega
      subst e
      repeat' (with_reducible first | refine WP_ret ?_ | refine WP_skip ?_ | refine WP_exit ?_ | refine WP_seq ?_ | refine WP_block ?_ | refine K_code ?_ | refine K_blk ?_ | refine K_code_ret ?_ | refine K_blk_ret ?_ | refine K_code_exit ?_ | refine K_blk_exit_same ?_ | refine K_blk_exit_other (by decide) ?_ | refine K_nil ?_ | refine L_ret ?_ | refine L_exit ?_ | (refine run_cons ?_; simp only [go_sem]) | (refine run_nil ?_) | (refine drun_cons ?_; simp only [go_sem]) | (refine drun_nil ?_) | (refine reg ?_) | (refine regd (by kernel_rfl) ?_) | (refine cndt ?_ ?_; (focus (simp only [go_sem]; done))) | (refine cndf ?_ ?_; (focus (simp only [go_sem]; done))) | (refine And.intro ?_ ?_; (focus omega)))
      exact retK_ret ⟨⟨_, rfl, by simp only [go_sem, List.take_length]⟩, trivial⟩
theorem implGroupSizes_ok (l : List TGroup) (h : wGroupS l ≤ 1048576) : FnC Try.prog 17 [.o (.d (.sl (l.map encGroup)))] (.o (.w 3 1 ((gsz l).map encI))) := by
  unfold wGroupS at h
  refine ent Try.func17 rfl Try.call17 rfl (fun C => ?_)
  simp only [go_sem, st0, Try.ntmps17]
  repeat' (with_reducible first | refine WP_ret ?_ | refine WP_skip ?_ | refine WP_exit ?_ | refine WP_seq ?_ | refine WP_block ?_ | refine K_code ?_ | refine K_blk ?_ | refine K_code_ret ?_ | refine K_blk_ret ?_ | refine K_code_exit ?_ | refine K_blk_exit_same ?_ | refine K_blk_exit_other (by decide) ?_ | refine K_nil ?_ | refine L_ret ?_ | refine L_exit ?_ | (refine run_cons ?_; simp only [go_sem]) | (refine run_nil ?_) | (refine drun_cons ?_; simp only [go_sem]) | (refine drun_nil ?_) | (refine reg ?_) | (refine regd (by kernel_rfl) ?_) | (refine cndt ?_ ?_; (focus (simp only [go_sem]; done))) | (refine cndf ?_ ?_; (focus (simp only [go_sem]; done))) | (refine And.intro ?_ ?_; (focus omega)))
  refine WP_lp (α := Nat) (fun k => [(3, .o (.s 0)), (6, .o .u), (9, oi k)]) (fun k => [(0, .row 3 1 ((gsz (l.take k)).map encI) true)]) (fun k => k ≤ l.length) (fun k => l.length - k) 0 (fun _ => ?_) ?_ ?_ (fun k hk => ?_)
  · simp only [go_sem]
  · simp only [go_sem]; simp [gsz]
  · simp
  · simp only [go_sem]
    repeat' (with_reducible first | refine WP_ret ?_ | refine WP_skip ?_ | refine WP_exit ?_ | refine WP_seq ?_ | refine WP_block ?_ | refine K_code ?_ | refine K_blk ?_ | refine K_code_ret ?_ | refine K_blk_ret ?_ | refine K_code_exit ?_ | refine K_blk_exit_same ?_ | refine K_blk_exit_other (by decide) ?_ | refine K_nil ?_ | refine L_ret ?_ | refine L_exit ?_ | (refine run_cons ?_; simp only [go_sem]) | (refine run_nil ?_) | (refine drun_cons ?_; simp only [go_sem]) | (refine drun_nil ?_) | (refine reg ?_) | (refine regd (by kernel_rfl) ?_) | (refine cndt ?_ ?_; (focus (simp only [go_sem]; done))) | (refine cndf ?_ ?_; (focus (simp only [go_sem]; done))) | (refine And.intro ?_ ?_; (focus omega)))
    refine cnd rfl (fun h1 => ?_) (fun h1 => ?_)
    · simp only [decide_eq_true_eq, Int.ofNat_lt] at h1
      have ht : gsz (l.take (k + 1)) = gsz (l.take k) ++ [(l[k].fIDs.length : Int)] := by simp only [gsz, List.take_succ_eq_append_getElem h1, List.map_append, List.map_cons, List.map_nil]
      have hlen : (gsz (l.take k)).length = k := by rw [gsz_length]; simp; omega
      repeat' (with_reducible first | refine WP_ret ?_ | refine WP_skip ?_ | refine WP_exit ?_ | refine WP_seq ?_ | refine WP_block ?_ | refine K_code ?_ | refine K_blk ?_ | refine K_code_ret ?_ | refine K_blk_ret ?_ | refine K_code_exit ?_ | refine K_blk_exit_same ?_ | refine K_blk_exit_other (by decide) ?_ | refine K_nil ?_ | refine L_ret ?_ | refine L_exit ?_ | (refine run_cons ?_; simp only [go_sem, h1, hlen]) | (refine run_nil ?_) | (refine drun_cons ?_; simp only [go_sem, h1, hlen]) | (refine drun_nil ?_) | (refine reg ?_) | (refine regd (by kernel_rfl) ?_) | (refine cndt ?_ ?_; (focus (simp only [go_sem]; done))) | (refine cndf ?_ ?_; (focus (simp only [go_sem]; done))) | (refine And.intro ?_ ?_; (focus omega)))
      refine L_next (k + 1) ?_ ?_ ?_
      · simp only [go_sem, ht, List.map_append]; simp
      · omega
      · omega
    · simp only [decide_eq_false_iff_not] at h1
      have e : k = l.length := by omega
      subst e
      repeat' (with_reducible first | refine WP_ret ?_ | refine WP_skip ?_ | refine WP_exit ?_ | refine WP_seq ?_ | refine WP_block ?_ | refine K_code ?_ | refine K_blk ?_ | refine K_code_ret ?_ | refine K_blk_ret ?_ | refine K_code_exit ?_ | refine K_blk_exit_same ?_ | refine K_blk_exit_other (by decide) ?_ | refine K_nil ?_ | refine L_ret ?_ | refine L_exit ?_ | (refine run_cons ?_; simp only [go_sem]) | (refine run_nil ?_) | (refine drun_cons ?_; simp only [go_sem]) | (refine drun_nil ?_) | (refine reg ?_) | (refine regd (by kernel_rfl) ?_) | (refine cndt ?_ ?_; (focus (simp only [go_sem]; done))) | (refine cndf ?_ ?_; (focus (simp only [go_sem]; done))) | (refine And.intro ?_ ?_; (focus omega)))
      exact retK_ret ⟨⟨_, rfl, by simp only [go_sem, List.take_length]⟩, trivial⟩
theorem lawGroupSizes_ok (l : List TGroup) (hf : wfGroupS l) : FnC Try.prog 3 [.o (.d (.sl (l.map encGroup)))] (ob true) := by
  refine ent Try.func3 rfl Try.call3 rfl (fun C => ?_)
  simp only [go_sem, st0, Try.ntmps3]
  have hz := szGroupS_ok l 1048576 (by omega) hf
  by_cases h : szOut 1048576 (wGroupS l) < 0
  · repeat' (with_reducible first | refine WP_ret ?_ | refine WP_skip ?_ | refine WP_exit ?_ | refine WP_seq ?_ | refine WP_block ?_ | refine K_code ?_ | refine K_blk ?_ | refine K_code_ret ?_ | refine K_blk_ret ?_ | refine K_code_exit ?_ | refine K_blk_exit_same ?_ | refine K_blk_exit_other (by decide) ?_ | refine K_nil ?_ | refine L_ret ?_ | refine L_exit ?_ | (refine run_cons ?_; simp only [go_sem, h]) | (refine run_nil ?_) | (refine drun_cons ?_; simp only [go_sem, h]) | (refine drun_nil ?_) | (refine reg ?_) | (refine regd (by kernel_rfl) ?_) | (refine cal (hz) ?_ ?_ ?_; (focus (simp only [go_sem]; done)); (focus (simp only [go_sem]; done)); try simp only [go_sem, h]) | (refine cald (hz) ?_ ?_ ?_ ?_; (focus (simp only [go_sem]; done)); (focus (simp only [go_sem]; done)); (focus (simp only [go_sem]; done)); try simp only [go_sem, h]) | (refine cndt ?_ ?_; (focus (simp only [go_sem]; done))) | (refine cndf ?_ ?_; (focus (simp only [go_sem]; done))) | (refine And.intro ?_ ?_; (focus omega)))
    exact retK_ret ⟨⟨_, rfl, by simp only [go_sem]⟩, trivial⟩
  have hs : wGroupS l ≤ 1048576 := by have := szOut_le h; omega
  have hs' := hs
  unfold wGroupS at hs'
  have hc := csumGroup l
  have hr : csum cnInt (gsz l) = l.length := by rw [csumInt, gsz_length]
  have hk1 : ¬ ((1 : Int) + (csum cnGroup l : Nat) < 0) := by omega
  have hk2 : ¬ ((1 : Int) + (csum cnInt (gsz l) : Nat) < 0) := by omega
  have hg : (gsz l).length ≤ 1048576 := by rw [gsz_length]; omega
  repeat' (with_reducible first | refine WP_ret ?_ | refine WP_skip ?_ | refine WP_exit ?_ | refine WP_seq ?_ | refine WP_block ?_ | refine K_code ?_ | refine K_blk ?_ | refine K_code_ret ?_ | refine K_blk_ret ?_ | refine K_code_exit ?_ | refine K_blk_exit_same ?_ | refine K_blk_exit_other (by decide) ?_ | refine K_nil ?_ | refine L_ret ?_ | refine L_exit ?_ | (refine run_cons ?_; simp only [go_sem, h, hk1, hk2]) | (refine run_nil ?_) | (refine drun_cons ?_; simp only [go_sem, h, hk1, hk2]) | (refine drun_nil ?_) | (refine reg ?_) | (refine regd (by kernel_rfl) ?_) | (refine cal (hz) ?_ ?_ ?_; (focus (simp only [go_sem]; done)); (focus (simp only [go_sem]; done)); try simp only [go_sem, h, hk1, hk2]) | (refine cald (hz) ?_ ?_ ?_ ?_; (focus (simp only [go_sem]; done)); (focus (simp only [go_sem]; done)); (focus (simp only [go_sem]; done)); try simp only [go_sem, h, hk1, hk2]) | (refine calo (toGroupS_ok l hs) ?_ ?_ ?_ ?_; (focus (simp only [go_sem, h, hk1, hk2]; done)); (focus (simp only [go_sem, h, hk1, hk2]; done)); (focus (simp only [go_sem, h, hk1, hk2]; done)); try simp only [go_sem, h, hk1, hk2]) | (refine caldo (toGroupS_ok l hs) ?_ ?_ ?_ ?_ ?_; (focus (simp only [go_sem, h, hk1, hk2]; done)); (focus (simp only [go_sem, h, hk1, hk2]; done)); (focus (simp only [go_sem, h, hk1, hk2]; done)); (focus (simp only [go_sem, h, hk1, hk2]; done)); try simp only [go_sem, h, hk1, hk2]) | (refine calo (toGroupSd_ok l hs) ?_ ?_ ?_ ?_; (focus (simp only [go_sem, h, hk1, hk2]; done)); (focus (simp only [go_sem, h, hk1, hk2]; done)); (focus (simp only [go_sem, h, hk1, hk2]; done)); try simp only [go_sem, h, hk1, hk2]) | (refine caldo (toGroupSd_ok l hs) ?_ ?_ ?_ ?_ ?_; (focus (simp only [go_sem, h, hk1, hk2]; done)); (focus (simp only [go_sem, h, hk1, hk2]; done)); (focus (simp only [go_sem, h, hk1, hk2]; done)); (focus (simp only [go_sem, h, hk1, hk2]; done)); try simp only [go_sem, h, hk1, hk2]) | (refine calo (specGroupSizes_ok l hs) ?_ ?_ ?_ ?_; (focus (simp only [go_sem, h, hk1, hk2]; done)); (focus (simp only [go_sem, h, hk1, hk2]; done)); (focus (simp only [go_sem, h, hk1, hk2]; done)); try simp only [go_sem, h, hk1, hk2]) | (refine caldo (specGroupSizes_ok l hs) ?_ ?_ ?_ ?_ ?_; (focus (simp only [go_sem, h, hk1, hk2]; done)); (focus (simp only [go_sem, h, hk1, hk2]; done)); (focus (simp only [go_sem, h, hk1, hk2]; done)); (focus (simp only [go_sem, h, hk1, hk2]; done)); try simp only [go_sem, h, hk1, hk2]) | (refine calo (implGroupSizes_ok l hs) ?_ ?_ ?_ ?_; (focus (simp only [go_sem, h, hk1, hk2]; done)); (focus (simp only [go_sem, h, hk1, hk2]; done)); (focus (simp only [go_sem, h, hk1, hk2]; done)); try simp only [go_sem, h, hk1, hk2]) | (refine caldo (implGroupSizes_ok l hs) ?_ ?_ ?_ ?_ ?_; (focus (simp only [go_sem, h, hk1, hk2]; done)); (focus (simp only [go_sem, h, hk1, hk2]; done)); (focus (simp only [go_sem, h, hk1, hk2]; done)); (focus (simp only [go_sem, h, hk1, hk2]; done)); try simp only [go_sem, h, hk1, hk2]) | (refine calo (eqIntS_ok (gsz l) hg) ?_ ?_ ?_ ?_; (focus (simp only [go_sem, h, hk1, hk2]; done)); (focus (simp only [go_sem, h, hk1, hk2]; done)); (focus (simp only [go_sem, h, hk1, hk2]; done)); try simp only [go_sem, h, hk1, hk2]) | (refine caldo (eqIntS_ok (gsz l) hg) ?_ ?_ ?_ ?_ ?_; (focus (simp only [go_sem, h, hk1, hk2]; done)); (focus (simp only [go_sem, h, hk1, hk2]; done)); (focus (simp only [go_sem, h, hk1, hk2]; done)); (focus (simp only [go_sem, h, hk1, hk2]; done)); try simp only [go_sem, h, hk1, hk2]) | (refine calo (eqGroupS_ok l hs) ?_ ?_ ?_ ?_; (focus (simp only [go_sem, h, hk1, hk2]; done)); (focus (simp only [go_sem, h, hk1, hk2]; done)); (focus (simp only [go_sem, h, hk1, hk2]; done)); try simp only [go_sem, h, hk1, hk2]) | (refine caldo (eqGroupS_ok l hs) ?_ ?_ ?_ ?_ ?_; (focus (simp only [go_sem, h, hk1, hk2]; done)); (focus (simp only [go_sem, h, hk1, hk2]; done)); (focus (simp only [go_sem, h, hk1, hk2]; done)); (focus (simp only [go_sem, h, hk1, hk2]; done)); try simp only [go_sem, h, hk1, hk2]) | (refine calm (markGroupS_ok l _ (by omega)) ?_ ?_ ?_; (focus (simp only [go_sem]; done)); (focus (simp only [go_sem, h, hk1, hk2]; done)); try simp only [go_sem, h, hk1, hk2]) | (refine calm (markIntS_ok (gsz l) _ (by omega)) ?_ ?_ ?_; (focus (simp only [go_sem]; done)); (focus (simp only [go_sem, h, hk1, hk2]; done)); try simp only [go_sem, h, hk1, hk2]) | (refine calo (heldIntS_ok (gsz l) 1 (by omega)) ?_ ?_ ?_ ?_; (focus (simp only [go_sem, h, hk1, hk2]; done)); (focus (simp only [go_sem, h, hk1, hk2]; done)); (focus (simp only [go_sem, h, hk1, hk2]; done)); try simp only [go_sem, h, hk1, hk2]) | (refine caldo (heldIntS_ok (gsz l) 1 (by omega)) ?_ ?_ ?_ ?_ ?_; (focus (simp only [go_sem, h, hk1, hk2]; done)); (focus (simp only [go_sem, h, hk1, hk2]; done)); (focus (simp only [go_sem, h, hk1, hk2]; done)); (focus (simp only [go_sem, h, hk1, hk2]; done)); try simp only [go_sem, h, hk1, hk2]) | (refine cndt ?_ ?_; (focus (simp only [go_sem]; done))) | (refine cndf ?_ ?_; (focus (simp only [go_sem]; done))) | (refine And.intro ?_ ?_; (focus omega)))
  exact retK_ret ⟨⟨_, rfl, by simp only [go_sem]⟩, trivial⟩
end Go.Proofs.Yteganoldfldlhaa
