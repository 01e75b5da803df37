/-
  GroupIDs: both functions, the law.
-/
import Derived.Test.YteganoldfldlhaaM4Law
import Derived.Test.YteganoldfldlhaaC1Clone
set_option linter.all false
set_option maxRecDepth 100000
set_option maxHeartbeats 4000000
namespace Go.Proofs.Yteganoldfldlhaa
open Go Go.Sx Go.RowKit Go.Proofs

def vEq (x v : TValue) : Bool := decide (x.fKind = v.fKind) && (decide (x.fInt = v.fInt) && decide (x.fStr = v.fStr))
def gIds (v : TValue) : List TGroup → List Int
  | [] => []
  | g :: gs => if vEq g.fValue v then g.fIDs else gIds v gs
theorem gIds_drop (v : TValue) (l : List TGroup) (k : Nat) (h : k < l.length) : gIds v (l.drop k) = if vEq l[k].fValue v then l[k].fIDs else gIds v (l.drop (k + 1)) := by
  rw [List.drop_eq_getElem_cons h]; rfl
theorem gIds_len (v : TValue) : ∀ l : List TGroup, (gIds v l).length ≤ wsum wGroup l
  | [] => by simp [gIds]
  | g :: gs => by
    have := gIds_len v gs
    unfold gIds
    split
    · simp [wsum, wGroup]; omega
    · simp [wsum]; omega
theorem specGroupIDs_ok (l : List TGroup) (v : TValue) (h : wGroupS l ≤ 1048576) : FnC Try.prog 24 [.o (.d (.sl (l.map encGroup))), gValue v] (.o (.w 3 1 ((gIds v l).map encI))) := by
  unfold wGroupS at h
  have hw := gIds_len v l
  refine ent Try.func24 rfl Try.call24 rfl (fun C => ?_)
  simp only [go_sem, st0, Try.ntmps24]
  repeat' (with_reducible first | refine WP_ret ?_ | refine WP_skip ?_ | refine WP_exit ?_ | refine WP_seq ?_ | refine WP_block ?_ | refine K_code ?_ | refine K_blk ?_ | refine K_code_ret ?_ | refine K_blk_ret ?_ | refine K_code_exit ?_ | refine K_blk_exit_same ?_ | refine K_blk_exit_other (by decide) ?_ | refine K_nil ?_ | refine L_ret ?_ | refine L_exit ?_ | (refine run_cons ?_; simp only [go_sem]) | (refine run_nil ?_) | (refine drun_cons ?_; simp only [go_sem]) | (refine drun_nil ?_) | (refine reg ?_) | (refine regd (by kernel_rfl) ?_) | (refine cndt ?_ ?_; (focus (simp only [go_sem]; done))) | (refine cndf ?_ ?_; (focus (simp only [go_sem]; done))) | (refine And.intro ?_ ?_; (focus omega)))
  refine WP_lp (α := Nat) (fun k => [(5, oi k)]) (fun k => []) (fun k => k ≤ l.length ∧ gIds v (l.drop k) = gIds v l) (fun k => l.length - k) 0 (fun _ => ?_) ?_ ?_ (fun k hk => ?_)
  · simp only [go_sem]; try simp
  · simp only [go_sem]; try simp
  · simp
  · simp only [go_sem]
    obtain ⟨hk, hg⟩ := hk
    repeat' (with_reducible first | refine WP_ret ?_ | refine WP_skip ?_ | refine WP_exit ?_ | refine WP_seq ?_ | refine WP_block ?_ | refine K_code ?_ | refine K_blk ?_ | refine K_code_ret ?_ | refine K_blk_ret ?_ | refine K_code_exit ?_ | refine K_blk_exit_same ?_ | refine K_blk_exit_other (by decide) ?_ | refine K_nil ?_ | refine L_ret ?_ | refine L_exit ?_ | (refine run_cons ?_; simp only [go_sem]) | (refine run_nil ?_) | (refine drun_cons ?_; simp only [go_sem]) | (refine drun_nil ?_) | (refine reg ?_) | (refine regd (by kernel_rfl) ?_) | (refine cndt ?_ ?_; (focus (simp only [go_sem]; done))) | (refine cndf ?_ ?_; (focus (simp only [go_sem]; done))) | (refine And.intro ?_ ?_; (focus omega)))
    refine cnd rfl (fun h1 => ?_) (fun h1 => ?_)
    · simp only [decide_eq_true_eq, Int.ofNat_lt] at h1
      have hd := gIds_drop v l k h1
      rw [hg] at hd
      repeat' (with_reducible first | refine WP_ret ?_ | refine WP_skip ?_ | refine WP_exit ?_ | refine WP_seq ?_ | refine WP_block ?_ | refine K_code ?_ | refine K_blk ?_ | refine K_code_ret ?_ | refine K_blk_ret ?_ | refine K_code_exit ?_ | refine K_blk_exit_same ?_ | refine K_blk_exit_other (by decide) ?_ | refine K_nil ?_ | refine L_ret ?_ | refine L_exit ?_ | (refine run_cons ?_; simp only [go_sem, h1]) | (refine run_nil ?_) | (refine drun_cons ?_; simp only [go_sem, h1]) | (refine drun_nil ?_) | (refine reg ?_) | (refine regd (by kernel_rfl) ?_) | (refine cndt ?_ ?_; (focus (simp only [go_sem]; done))) | (refine cndf ?_ ?_; (focus (simp only [go_sem]; done))) | (refine And.intro ?_ ?_; (focus omega)))
      refine cnd rfl (fun hv => ?_) (fun hv => ?_)
      · have hv' : vEq l[k].fValue v = true := by simpa [vEq, and_assoc] using hv
        rw [if_pos hv'] at hd
        rw [hd] at hw ⊢
        repeat' (with_reducible first | refine WP_ret ?_ | refine WP_skip ?_ | refine WP_exit ?_ | refine WP_seq ?_ | refine WP_block ?_ | refine K_code ?_ | refine K_blk ?_ | refine K_code_ret ?_ | refine K_blk_ret ?_ | refine K_code_exit ?_ | refine K_blk_exit_same ?_ | refine K_blk_exit_other (by decide) ?_ | refine K_nil ?_ | refine L_ret ?_ | refine L_exit ?_ | (refine run_cons ?_; simp only [go_sem, h1]) | (refine run_nil ?_) | (refine drun_cons ?_; simp only [go_sem, h1]) | (refine drun_nil ?_) | (refine reg ?_) | (refine regd (by kernel_rfl) ?_) | (refine cndt ?_ ?_; (focus (simp only [go_sem]; done))) | (refine cndf ?_ ?_; (focus (simp only [go_sem]; done))) | (refine And.intro ?_ ?_; (focus omega)))
        exact retK_ret ⟨⟨_, rfl, by simp only [go_sem, allT]⟩, trivial⟩
      · have hv' : ¬ vEq l[k].fValue v = true := by simpa [vEq, and_assoc] using hv
        rw [if_neg hv'] at hd
        repeat' (with_reducible first | refine WP_ret ?_ | refine WP_skip ?_ | refine WP_exit ?_ | refine WP_seq ?_ | refine WP_block ?_ | refine K_code ?_ | refine K_blk ?_ | refine K_code_ret ?_ | refine K_blk_ret ?_ | refine K_code_exit ?_ | refine K_blk_exit_same ?_ | refine K_blk_exit_other (by decide) ?_ | refine K_nil ?_ | refine L_ret ?_ | refine L_exit ?_ | (refine run_cons ?_; simp only [go_sem, h1]) | (refine run_nil ?_) | (refine drun_cons ?_; simp only [go_sem, h1]) | (refine drun_nil ?_) | (refine reg ?_) | (refine regd (by kernel_rfl) ?_) | (refine cndt ?_ ?_; (focus (simp only [go_sem]; done))) | (refine cndf ?_ ?_; (focus (simp only [go_sem]; done))) | (refine And.intro ?_ ?_; (focus omega)))
        refine L_next (k + 1) ?_ ?_ ?_
        · simp only [go_sem]; try simp
        · exact ⟨by omega, hd.symm⟩
        · omega
    · simp only [decide_eq_false_iff_not] at h1
      have e : k = l.length := by omega
      subst e
      have hn : gIds v l = [] := by rw [← hg, List.drop_length]; rfl
      repeat' (with_reducible first | refine WP_ret ?_ | refine WP_skip ?_ | refine WP_exit ?_ | refine WP_seq ?_ | refine WP_block ?_ | refine K_code ?_ | refine K_blk ?_ | refine K_code_ret ?_ | refine K_blk_ret ?_ | refine K_code_exit ?_ | refine K_blk_exit_same ?_ | refine K_blk_exit_other (by decide) ?_ | refine K_nil ?_ | refine L_ret ?_ | refine L_exit ?_ | (refine run_cons ?_; simp only [go_sem]) | (refine run_nil ?_) | (refine drun_cons ?_; simp only [go_sem]) | (refine drun_nil ?_) | (refine reg ?_) | (refine regd (by kernel_rfl) ?_) | (refine cndt ?_ ?_; (focus (simp only [go_sem]; done))) | (refine cndf ?_ ?_; (focus (simp only [go_sem]; done))) | (refine And.intro ?_ ?_; (focus omega)))
      exact retK_ret ⟨⟨_, rfl, by simp only [go_sem, hn]⟩, trivial⟩
theorem implGroupIDs_ok (l : List TGroup) (v : TValue) (h : wGroupS l ≤ 1048576) : FnC Try.prog 26 [.o (.d (.sl (l.map encGroup))), gValue v] (.o (.w 3 1 ((gIds v l).map encI))) := by
  unfold wGroupS at h
  have hw := gIds_len v l
  refine ent Try.func26 rfl Try.call26 rfl (fun C => ?_)
  simp only [go_sem, st0, Try.ntmps26]
  repeat' (with_reducible first | refine WP_ret ?_ | refine WP_skip ?_ | refine WP_exit ?_ | refine WP_seq ?_ | refine WP_block ?_ | refine K_code ?_ | refine K_blk ?_ | refine K_code_ret ?_ | refine K_blk_ret ?_ | refine K_code_exit ?_ | refine K_blk_exit_same ?_ | refine K_blk_exit_other (by decide) ?_ | refine K_nil ?_ | refine L_ret ?_ | refine L_exit ?_ | (refine run_cons ?_; simp only [go_sem]) | (refine run_nil ?_) | (refine drun_cons ?_; simp only [go_sem]) | (refine drun_nil ?_) | (refine reg ?_) | (refine regd (by kernel_rfl) ?_) | (refine cndt ?_ ?_; (focus (simp only [go_sem]; done))) | (refine cndf ?_ ?_; (focus (simp only [go_sem]; done))) | (refine And.intro ?_ ?_; (focus omega)))
  refine WP_lp (α := Nat) (fun k => [(9, oi k)]) (fun k => []) (fun k => k ≤ l.length ∧ gIds v (l.drop k) = gIds v l) (fun k => l.length - k) 0 (fun _ => ?_) ?_ ?_ (fun k hk => ?_)
  · simp only [go_sem]; try simp
  · simp only [go_sem]; try simp
  · simp
  · simp only [go_sem]
    obtain ⟨hk, hg⟩ := hk
    repeat' (with_reducible first | refine WP_ret ?_ | refine WP_skip ?_ | refine WP_exit ?_ | refine WP_seq ?_ | refine WP_block ?_ | refine K_code ?_ | refine K_blk ?_ | refine K_code_ret ?_ | refine K_blk_ret ?_ | refine K_code_exit ?_ | refine K_blk_exit_same ?_ | refine K_blk_exit_other (by decide) ?_ | refine K_nil ?_ | refine L_ret ?_ | refine L_exit ?_ | (refine run_cons ?_; simp only [go_sem]) | (refine run_nil ?_) | (refine drun_cons ?_; simp only [go_sem]) | (refine drun_nil ?_) | (refine reg ?_) | (refine regd (by kernel_rfl) ?_) | (refine cndt ?_ ?_; (focus (simp only [go_sem]; done))) | (refine cndf ?_ ?_; (focus (simp only [go_sem]; done))) | (refine And.intro ?_ ?_; (focus omega)))
    refine cnd rfl (fun h1 => ?_) (fun h1 => ?_)
    · simp only [decide_eq_true_eq, Int.ofNat_lt] at h1
      have hd := gIds_drop v l k h1
      rw [hg] at hd
      repeat' (with_reducible first | refine WP_ret ?_ | refine WP_skip ?_ | refine WP_exit ?_ | refine WP_seq ?_ | refine WP_block ?_ | refine K_code ?_ | refine K_blk ?_ | refine K_code_ret ?_ | refine K_blk_ret ?_ | refine K_code_exit ?_ | refine K_blk_exit_same ?_ | refine K_blk_exit_other (by decide) ?_ | refine K_nil ?_ | refine L_ret ?_ | refine L_exit ?_ | (refine run_cons ?_; simp only [go_sem, h1]) | (refine run_nil ?_) | (refine drun_cons ?_; simp only [go_sem, h1]) | (refine drun_nil ?_) | (refine reg ?_) | (refine regd (by kernel_rfl) ?_) | (refine cndt ?_ ?_; (focus (simp only [go_sem]; done))) | (refine cndf ?_ ?_; (focus (simp only [go_sem]; done))) | (refine And.intro ?_ ?_; (focus omega)))
      refine cnd rfl (fun hv => ?_) (fun hv => ?_)
      · have hv' : vEq l[k].fValue v = true := by simpa [vEq, and_assoc] using hv
        rw [if_pos hv'] at hd
        rw [hd] at hw ⊢
        repeat' (with_reducible first | refine WP_ret ?_ | refine WP_skip ?_ | refine WP_exit ?_ | refine WP_seq ?_ | refine WP_block ?_ | refine K_code ?_ | refine K_blk ?_ | refine K_code_ret ?_ | refine K_blk_ret ?_ | refine K_code_exit ?_ | refine K_blk_exit_same ?_ | refine K_blk_exit_other (by decide) ?_ | refine K_nil ?_ | refine L_ret ?_ | refine L_exit ?_ | (refine run_cons ?_; simp only [go_sem, h1]) | (refine run_nil ?_) | (refine drun_cons ?_; simp only [go_sem, h1]) | (refine drun_nil ?_) | (refine reg ?_) | (refine regd (by kernel_rfl) ?_) | (refine cal (cloneInt_ok l[k].fIDs (by omega)) ?_ ?_ ?_; (focus (simp only [go_sem]; done)); (focus (simp only [go_sem]; done)); try simp only [go_sem, h1]) | (refine cald (cloneInt_ok l[k].fIDs (by omega)) ?_ ?_ ?_ ?_; (focus (simp only [go_sem]; done)); (focus (simp only [go_sem]; done)); (focus (simp only [go_sem]; done)); try simp only [go_sem, h1]) | (refine cndt ?_ ?_; (focus (simp only [go_sem]; done))) | (refine cndf ?_ ?_; (focus (simp only [go_sem]; done))) | (refine And.intro ?_ ?_; (focus omega)))
        exact retK_ret ⟨⟨_, rfl, by simp only [go_sem, allT]⟩, trivial⟩
      · have hv' : ¬ vEq l[k].fValue v = true := by simpa [vEq, and_assoc] using hv
        rw [if_neg hv'] at hd
        repeat' (with_reducible first | refine WP_ret ?_ | refine WP_skip ?_ | refine WP_exit ?_ | refine WP_seq ?_ | refine WP_block ?_ | refine K_code ?_ | refine K_blk ?_ | refine K_code_ret ?_ | refine K_blk_ret ?_ | refine K_code_exit ?_ | refine K_blk_exit_same ?_ | refine K_blk_exit_other (by decide) ?_ | refine K_nil ?_ | refine L_ret ?_ | refine L_exit ?_ | (refine run_cons ?_; simp only [go_sem, h1]) | (refine run_nil ?_) | (refine drun_cons ?_; simp only [go_sem, h1]) | (refine drun_nil ?_) | (refine reg ?_) | (refine regd (by kernel_rfl) ?_) | (refine cndt ?_ ?_; (focus (simp only [go_sem]; done))) | (refine cndf ?_ ?_; (focus (simp only [go_sem]; done))) | (refine And.intro ?_ ?_; (focus omega)))
        refine L_next (k + 1) ?_ ?_ ?_
        · simp only [go_sem]; try simp
        · exact ⟨by omega, hd.symm⟩
        · omega
    · simp only [decide_eq_false_iff_not] at h1
      have e : k = l.length := by omega
      subst e
      have hn : gIds v l = [] := by rw [← hg, List.drop_length]; rfl
      repeat' (with_reducible first | refine WP_ret ?_ | refine WP_skip ?_ | refine WP_exit ?_ | refine WP_seq ?_ | refine WP_block ?_ | refine K_code ?_ | refine K_blk ?_ | refine K_code_ret ?_ | refine K_blk_ret ?_ | refine K_code_exit ?_ | refine K_blk_exit_same ?_ | refine K_blk_exit_other (by decide) ?_ | refine K_nil ?_ | refine L_ret ?_ | refine L_exit ?_ | (refine run_cons ?_; simp only [go_sem]) | (refine run_nil ?_) | (refine drun_cons ?_; simp only [go_sem]) | (refine drun_nil ?_) | (refine reg ?_) | (refine regd (by kernel_rfl) ?_) | (refine cndt ?_ ?_; (focus (simp only [go_sem]; done))) | (refine cndf ?_ ?_; (focus (simp only [go_sem]; done))) | (refine And.intro ?_ ?_; (focus omega)))
      exact retK_ret ⟨⟨_, rfl, by simp only [go_sem, hn]⟩, trivial⟩
theorem specGroupIDsd_ok (l : List TGroup) (v : TValue) (h : wGroupS l ≤ 1048576) : FnC Try.prog 24 [.o (.d (.sl (l.map encGroup))), gValue v] (.o (.d (.sl ((gIds v l).map encI)))) := (specGroupIDs_ok l v h).pure (by simp only [go_sem]) (by simp only [go_sem]) (by simp only [go_sem]) (by simp only [go_sem]) (by simp only [go_sem])
theorem implGroupIDsd_ok (l : List TGroup) (v : TValue) (h : wGroupS l ≤ 1048576) : FnC Try.prog 26 [.o (.d (.sl (l.map encGroup))), gValue v] (.o (.d (.sl ((gIds v l).map encI)))) := (implGroupIDs_ok l v h).pure (by simp only [go_sem]) (by simp only [go_sem]) (by simp only [go_sem]) (by simp only [go_sem]) (by simp only [go_sem])
theorem lawGroupIDs_ok (l : List TGroup) (v : TValue) (hf : wfGroupS l) (hv : wfValue v) : FnC Try.prog 4 [.o (.d (.sl (l.map encGroup))), gValue v] (ob true) := by
  refine ent Try.func4 rfl Try.call4 rfl (fun C => ?_)
  simp only [go_sem, st0, Try.ntmps4]
  have hz := szGroupS_ok l 1048576 (by omega) hf
  by_cases h : szOut 1048576 (wGroupS l) < 0
  · repeat' (with_reducible first | refine WP_ret ?_ | refine WP_skip ?_ | refine WP_exit ?_ | refine WP_seq ?_ | refine WP_block ?_ | refine K_code ?_ | refine K_blk ?_ | refine K_code_ret ?_ | refine K_blk_ret ?_ | refine K_code_exit ?_ | refine K_blk_exit_same ?_ | refine K_blk_exit_other (by decide) ?_ | refine K_nil ?_ | refine L_ret ?_ | refine L_exit ?_ | (refine run_cons ?_; simp only [go_sem, h]) | (refine run_nil ?_) | (refine drun_cons ?_; simp only [go_sem, h]) | (refine drun_nil ?_) | (refine reg ?_) | (refine regd (by kernel_rfl) ?_) | (refine cal (hz) ?_ ?_ ?_; (focus (simp only [go_sem]; done)); (focus (simp only [go_sem]; done)); try simp only [go_sem, h]) | (refine cald (hz) ?_ ?_ ?_ ?_; (focus (simp only [go_sem]; done)); (focus (simp only [go_sem]; done)); (focus (simp only [go_sem]; done)); try simp only [go_sem, h]) | (refine cndt ?_ ?_; (focus (simp only [go_sem]; done))) | (refine cndf ?_ ?_; (focus (simp only [go_sem]; done))) | (refine And.intro ?_ ?_; (focus omega)))
    exact retK_ret ⟨⟨_, rfl, by simp only [go_sem]⟩, trivial⟩
  have hs : wGroupS l ≤ 1048576 := by have := szOut_le h; omega
  have e0 : szOut 1048576 (wGroupS l) = 1048576 - (wGroupS l : Nat) := szOut_pos (by omega)
  rw [e0] at hz h
  have hy := szValue_ok v (1048576 - (wGroupS l : Nat)) (by omega) hv
  by_cases h' : szOut (1048576 - (wGroupS l : Nat)) (wValue v) < 0
  · repeat' (with_reducible first | refine WP_ret ?_ | refine WP_skip ?_ | refine WP_exit ?_ | refine WP_seq ?_ | refine WP_block ?_ | refine K_code ?_ | refine K_blk ?_ | refine K_code_ret ?_ | refine K_blk_ret ?_ | refine K_code_exit ?_ | refine K_blk_exit_same ?_ | refine K_blk_exit_other (by decide) ?_ | refine K_nil ?_ | refine L_ret ?_ | refine L_exit ?_ | (refine run_cons ?_; simp only [go_sem, h, h']) | (refine run_nil ?_) | (refine drun_cons ?_; simp only [go_sem, h, h']) | (refine drun_nil ?_) | (refine reg ?_) | (refine regd (by kernel_rfl) ?_) | (refine cal (hz) ?_ ?_ ?_; (focus (simp only [go_sem]; done)); (focus (simp only [go_sem]; done)); try simp only [go_sem, h, h']) | (refine cald (hz) ?_ ?_ ?_ ?_; (focus (simp only [go_sem]; done)); (focus (simp only [go_sem]; done)); (focus (simp only [go_sem]; done)); try simp only [go_sem, h, h']) | (refine cal (hy) ?_ ?_ ?_; (focus (simp only [go_sem]; done)); (focus (simp only [go_sem]; done)); try simp only [go_sem, h, h']) | (refine cald (hy) ?_ ?_ ?_ ?_; (focus (simp only [go_sem]; done)); (focus (simp only [go_sem]; done)); (focus (simp only [go_sem]; done)); try simp only [go_sem, h, h']) | (refine cndt ?_ ?_; (focus (simp only [go_sem]; done))) | (refine cndf ?_ ?_; (focus (simp only [go_sem]; done))) | (refine And.intro ?_ ?_; (focus omega)))
    exact retK_ret ⟨⟨_, rfl, by simp only [go_sem]⟩, trivial⟩
  have hw : wValue v ≤ 1048576 := by have := szOut_le h'; omega
  have hs' := hs
  unfold wGroupS at hs'
  have hc := csumGroup l
  have hl := gIds_len v l
  have hr : csum cnInt (gIds v l) = (gIds v l).length := csumInt _
  have hk1 : ¬ ((1 : Int) + (csum cnGroup l : Nat) < 0) := by omega
  have hk2 : ¬ ((1 : Int) + (csum cnInt (gIds v l) : Nat) < 0) := by omega
  have hg : (gIds v l).length ≤ 1048576 := by omega
  repeat' (with_reducible first | refine WP_ret ?_ | refine WP_skip ?_ | refine WP_exit ?_ | refine WP_seq ?_ | refine WP_block ?_ | refine K_code ?_ | refine K_blk ?_ | refine K_code_ret ?_ | refine K_blk_ret ?_ | refine K_code_exit ?_ | refine K_blk_exit_same ?_ | refine K_blk_exit_other (by decide) ?_ | refine K_nil ?_ | refine L_ret ?_ | refine L_exit ?_ | (refine run_cons ?_; simp only [go_sem, h, h', hk1, hk2]) | (refine run_nil ?_) | (refine drun_cons ?_; simp only [go_sem, h, h', hk1, hk2]) | (refine drun_nil ?_) | (refine reg ?_) | (refine regd (by kernel_rfl) ?_) | (refine cal (hz) ?_ ?_ ?_; (focus (simp only [go_sem]; done)); (focus (simp only [go_sem]; done)); try simp only [go_sem, h, h', hk1, hk2]) | (refine cald (hz) ?_ ?_ ?_ ?_; (focus (simp only [go_sem]; done)); (focus (simp only [go_sem]; done)); (focus (simp only [go_sem]; done)); try simp only [go_sem, h, h', hk1, hk2]) | (refine cal (hy) ?_ ?_ ?_; (focus (simp only [go_sem]; done)); (focus (simp only [go_sem]; done)); try simp only [go_sem, h, h', hk1, hk2]) | (refine cald (hy) ?_ ?_ ?_ ?_; (focus (simp only [go_sem]; done)); (focus (simp only [go_sem]; done)); (focus (simp only [go_sem]; done)); try simp only [go_sem, h, h', hk1, hk2]) | (refine calo (toGroupS_ok l hs) ?_ ?_ ?_ ?_; (focus (simp only [go_sem, h, h', hk1, hk2]; done)); (focus (simp only [go_sem, h, h', hk1, hk2]; done)); (focus (simp only [go_sem, h, h', hk1, hk2]; done)); try simp only [go_sem, h, h', hk1, hk2]) | (refine caldo (toGroupS_ok l hs) ?_ ?_ ?_ ?_ ?_; (focus (simp only [go_sem, h, h', hk1, hk2]; done)); (focus (simp only [go_sem, h, h', hk1, hk2]; done)); (focus (simp only [go_sem, h, h', hk1, hk2]; done)); (focus (simp only [go_sem, h, h', hk1, hk2]; done)); try simp only [go_sem, h, h', hk1, hk2]) | (refine calo (toGroupSd_ok l hs) ?_ ?_ ?_ ?_; (focus (simp only [go_sem, h, h', hk1, hk2]; done)); (focus (simp only [go_sem, h, h', hk1, hk2]; done)); (focus (simp only [go_sem, h, h', hk1, hk2]; done)); try simp only [go_sem, h, h', hk1, hk2]) | (refine caldo (toGroupSd_ok l hs) ?_ ?_ ?_ ?_ ?_; (focus (simp only [go_sem, h, h', hk1, hk2]; done)); (focus (simp only [go_sem, h, h', hk1, hk2]; done)); (focus (simp only [go_sem, h, h', hk1, hk2]; done)); (focus (simp only [go_sem, h, h', hk1, hk2]; done)); try simp only [go_sem, h, h', hk1, hk2]) | (refine cal (toValue_ok v hw) ?_ ?_ ?_; (focus (simp only [go_sem]; done)); (focus (simp only [go_sem]; done)); try simp only [go_sem, h, h', hk1, hk2]) | (refine cald (toValue_ok v hw) ?_ ?_ ?_ ?_; (focus (simp only [go_sem]; done)); (focus (simp only [go_sem]; done)); (focus (simp only [go_sem]; done)); try simp only [go_sem, h, h', hk1, hk2]) | (refine calo (specGroupIDs_ok l v hs) ?_ ?_ ?_ ?_; (focus (simp only [go_sem, h, h', hk1, hk2]; done)); (focus (simp only [go_sem, h, h', hk1, hk2]; done)); (focus (simp only [go_sem, h, h', hk1, hk2]; done)); try simp only [go_sem, h, h', hk1, hk2]) | (refine caldo (specGroupIDs_ok l v hs) ?_ ?_ ?_ ?_ ?_; (focus (simp only [go_sem, h, h', hk1, hk2]; done)); (focus (simp only [go_sem, h, h', hk1, hk2]; done)); (focus (simp only [go_sem, h, h', hk1, hk2]; done)); (focus (simp only [go_sem, h, h', hk1, hk2]; done)); try simp only [go_sem, h, h', hk1, hk2]) | (refine calo (implGroupIDs_ok l v hs) ?_ ?_ ?_ ?_; (focus (simp only [go_sem, h, h', hk1, hk2]; done)); (focus (simp only [go_sem, h, h', hk1, hk2]; done)); (focus (simp only [go_sem, h, h', hk1, hk2]; done)); try simp only [go_sem, h, h', hk1, hk2]) | (refine caldo (implGroupIDs_ok l v hs) ?_ ?_ ?_ ?_ ?_; (focus (simp only [go_sem, h, h', hk1, hk2]; done)); (focus (simp only [go_sem, h, h', hk1, hk2]; done)); (focus (simp only [go_sem, h, h', hk1, hk2]; done)); (focus (simp only [go_sem, h, h', hk1, hk2]; done)); try simp only [go_sem, h, h', hk1, hk2]) | (refine calo (eqIntS_ok (gIds v l) hg) ?_ ?_ ?_ ?_; (focus (simp only [go_sem, h, h', hk1, hk2]; done)); (focus (simp only [go_sem, h, h', hk1, hk2]; done)); (focus (simp only [go_sem, h, h', hk1, hk2]; done)); try simp only [go_sem, h, h', hk1, hk2]) | (refine caldo (eqIntS_ok (gIds v l) hg) ?_ ?_ ?_ ?_ ?_; (focus (simp only [go_sem, h, h', hk1, hk2]; done)); (focus (simp only [go_sem, h, h', hk1, hk2]; done)); (focus (simp only [go_sem, h, h', hk1, hk2]; done)); (focus (simp only [go_sem, h, h', hk1, hk2]; done)); try simp only [go_sem, h, h', hk1, hk2]) | (refine calo (eqGroupS_ok l hs) ?_ ?_ ?_ ?_; (focus (simp only [go_sem, h, h', hk1, hk2]; done)); (focus (simp only [go_sem, h, h', hk1, hk2]; done)); (focus (simp only [go_sem, h, h', hk1, hk2]; done)); try simp only [go_sem, h, h', hk1, hk2]) | (refine caldo (eqGroupS_ok l hs) ?_ ?_ ?_ ?_ ?_; (focus (simp only [go_sem, h, h', hk1, hk2]; done)); (focus (simp only [go_sem, h, h', hk1, hk2]; done)); (focus (simp only [go_sem, h, h', hk1, hk2]; done)); (focus (simp only [go_sem, h, h', hk1, hk2]; done)); try simp only [go_sem, h, h', hk1, hk2]) | (refine calm (markGroupS_ok l _ (by omega)) ?_ ?_ ?_; (focus (simp only [go_sem]; done)); (focus (simp only [go_sem, h, h', hk1, hk2]; done)); try simp only [go_sem, h, h', hk1, hk2]) | (refine calm (markIntS_ok (gIds v l) _ (by omega)) ?_ ?_ ?_; (focus (simp only [go_sem]; done)); (focus (simp only [go_sem, h, h', hk1, hk2]; done)); try simp only [go_sem, h, h', hk1, hk2]) | (refine calo (heldIntS_ok (gIds v l) 1 (by omega)) ?_ ?_ ?_ ?_; (focus (simp only [go_sem, h, h', hk1, hk2]; done)); (focus (simp only [go_sem, h, h', hk1, hk2]; done)); (focus (simp only [go_sem, h, h', hk1, hk2]; done)); try simp only [go_sem, h, h', hk1, hk2]) | (refine caldo (heldIntS_ok (gIds v l) 1 (by omega)) ?_ ?_ ?_ ?_ ?_; (focus (simp only [go_sem, h, h', hk1, hk2]; done)); (focus (simp only [go_sem, h, h', hk1, hk2]; done)); (focus (simp only [go_sem, h, h', hk1, hk2]; done)); (focus (simp only [go_sem, h, h', hk1, hk2]; done)); try simp only [go_sem, h, h', hk1, hk2]) | (refine cal (toGroupSd_ok l hs) ?_ ?_ ?_; (focus (simp only [go_sem]; done)); (focus (simp only [go_sem]; done)); try simp only [go_sem, h, h', hk1, hk2]) | (refine cald (toGroupSd_ok l hs) ?_ ?_ ?_ ?_; (focus (simp only [go_sem]; done)); (focus (simp only [go_sem]; done)); (focus (simp only [go_sem]; done)); try simp only [go_sem, h, h', hk1, hk2]) | (refine cal (specGroupIDsd_ok l v hs) ?_ ?_ ?_; (focus (simp only [go_sem]; done)); (focus (simp only [go_sem]; done)); try simp only [go_sem, h, h', hk1, hk2]) | (refine cald (specGroupIDsd_ok l v hs) ?_ ?_ ?_ ?_; (focus (simp only [go_sem]; done)); (focus (simp only [go_sem]; done)); (focus (simp only [go_sem]; done)); try simp only [go_sem, h, h', hk1, hk2]) | (refine cal (implGroupIDsd_ok l v hs) ?_ ?_ ?_; (focus (simp only [go_sem]; done)); (focus (simp only [go_sem]; done)); try simp only [go_sem, h, h', hk1, hk2]) | (refine cald (implGroupIDsd_ok l v hs) ?_ ?_ ?_ ?_; (focus (simp only [go_sem]; done)); (focus (simp only [go_sem]; done)); (focus (simp only [go_sem]; done)); try simp only [go_sem, h, h', hk1, hk2]) | (refine cndt ?_ ?_; (focus (simp only [go_sem]; done))) | (refine cndf ?_ ?_; (focus (simp only [go_sem]; done))) | (refine And.intro ?_ ?_; (focus omega)))
  exact retK_ret ⟨⟨_, rfl, by simp only [go_sem]⟩, trivial⟩
end Go.Proofs.Yteganoldfldlhaa
