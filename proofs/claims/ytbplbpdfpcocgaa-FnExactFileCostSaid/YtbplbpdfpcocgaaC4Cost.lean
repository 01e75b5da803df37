/-
  FileCost: both functions, the law.
-/
import Derived.Test.YtbplbpdfpcocgaaH04File
set_option linter.all false
namespace Go.Proofs.Ytbplbpdfpcocgaa
open Go Go.Sx Go.RowKit Go.Proofs

theorem specFileCost_ok (x : TFile) (h : wFile x ≤ 1048576) : FnC Try.prog 21 [gFile x] (oi (1 + x.fAttrs.length)) := by
  unfold wFile wAttrS at h
  refine ent Try.func21 rfl Try.call21 rfl (fun C => ?_)
  simp only [go_sem, st0, Try.ntmps21]
  repeat' (with_reducible first | refine WP_ret ?_ | refine WP_skip ?_ | refine WP_exit ?_ | refine WP_seq ?_ | refine WP_block ?_ | refine K_code ?_ | refine K_blk ?_ | refine K_code_ret ?_ | refine K_blk_ret ?_ | refine K_code_exit ?_ | refine K_blk_exit_same ?_ | refine K_blk_exit_other (by decide) ?_ | refine K_nil ?_ | refine L_ret ?_ | refine L_exit ?_ | (refine reg ?_; simp only [go_sem]) | (refine regd (by kernel_rfl) ?_; simp only [go_sem]) | (refine cndt ?_ ?_; (focus (simp only [go_sem]; done))) | (refine cndf ?_ ?_; (focus (simp only [go_sem]; done))) | (refine And.intro ?_ ?_; (focus omega)))
  exact retK_ret ⟨⟨_, rfl, by simp only [go_sem]⟩, trivial⟩
theorem implFileCost_ok (x : TFile) (h : wFile x ≤ 1048576) : FnC Try.prog 23 [gFile x] (oi (1 + x.fAttrs.length)) := by
  unfold wFile wAttrS at h
  refine ent Try.func23 rfl Try.call23 rfl (fun C => ?_)
  simp only [go_sem, st0, Try.ntmps23]
  repeat' (with_reducible first | refine WP_ret ?_ | refine WP_skip ?_ | refine WP_exit ?_ | refine WP_seq ?_ | refine WP_block ?_ | refine K_code ?_ | refine K_blk ?_ | refine K_code_ret ?_ | refine K_blk_ret ?_ | refine K_code_exit ?_ | refine K_blk_exit_same ?_ | refine K_blk_exit_other (by decide) ?_ | refine K_nil ?_ | refine L_ret ?_ | refine L_exit ?_ | (refine reg ?_; simp only [go_sem]) | (refine regd (by kernel_rfl) ?_; simp only [go_sem]) | (refine cndt ?_ ?_; (focus (simp only [go_sem]; done))) | (refine cndf ?_ ?_; (focus (simp only [go_sem]; done))) | (refine And.intro ?_ ?_; (focus omega)))
  exact retK_ret ⟨⟨_, rfl, by simp only [go_sem]⟩, trivial⟩
theorem lawFileCost_ok (x : TFile) (hf : wfFile x) : FnC Try.prog 6 [gFile x] (ob true) := by
  refine ent Try.func6 rfl Try.call6 rfl (fun C => ?_)
  simp only [go_sem, st0, Try.ntmps6]
  have hz := szFile_ok x 1048576 (by omega) hf
  by_cases h : szOut 1048576 (wFile x) < 0
  · repeat' (with_reducible first | refine WP_ret ?_ | refine WP_skip ?_ | refine WP_exit ?_ | refine WP_seq ?_ | refine WP_block ?_ | refine K_code ?_ | refine K_blk ?_ | refine K_code_ret ?_ | refine K_blk_ret ?_ | refine K_code_exit ?_ | refine K_blk_exit_same ?_ | refine K_blk_exit_other (by decide) ?_ | refine K_nil ?_ | refine L_ret ?_ | refine L_exit ?_ | (refine reg ?_; simp only [go_sem, h]) | (refine regd (by kernel_rfl) ?_; simp only [go_sem, h]) | (refine cal (hz) ?_ ?_ ?_; (focus (simp only [go_sem]; done)); (focus (simp only [go_sem]; done)); simp only [go_sem, h]) | (refine cald (hz) ?_ ?_ ?_ ?_; (focus (simp only [go_sem]; done)); (focus (simp only [go_sem]; done)); (focus (simp only [go_sem]; done)); simp only [go_sem, h]) | (refine cndt ?_ ?_; (focus (simp only [go_sem]; done))) | (refine cndf ?_ ?_; (focus (simp only [go_sem]; done))) | (refine And.intro ?_ ?_; (focus omega)))
    exact retK_ret ⟨⟨_, rfl, by simp only [go_sem]⟩, trivial⟩
  · have hs : wFile x ≤ 1048576 := by have := szOut_le h; omega
    repeat' (with_reducible first | refine WP_ret ?_ | refine WP_skip ?_ | refine WP_exit ?_ | refine WP_seq ?_ | refine WP_block ?_ | refine K_code ?_ | refine K_blk ?_ | refine K_code_ret ?_ | refine K_blk_ret ?_ | refine K_code_exit ?_ | refine K_blk_exit_same ?_ | refine K_blk_exit_other (by decide) ?_ | refine K_nil ?_ | refine L_ret ?_ | refine L_exit ?_ | (refine reg ?_; simp only [go_sem, h]) | (refine regd (by kernel_rfl) ?_; simp only [go_sem, h]) | (refine cal (hz) ?_ ?_ ?_; (focus (simp only [go_sem]; done)); (focus (simp only [go_sem]; done)); simp only [go_sem, h]) | (refine cald (hz) ?_ ?_ ?_ ?_; (focus (simp only [go_sem]; done)); (focus (simp only [go_sem]; done)); (focus (simp only [go_sem]; done)); simp only [go_sem, h]) | (refine cal (toFile_ok x hs) ?_ ?_ ?_; (focus (simp only [go_sem]; done)); (focus (simp only [go_sem]; done)); simp only [go_sem, h]) | (refine cald (toFile_ok x hs) ?_ ?_ ?_ ?_; (focus (simp only [go_sem]; done)); (focus (simp only [go_sem]; done)); (focus (simp only [go_sem]; done)); simp only [go_sem, h]) | (refine cal (specFileCost_ok x hs) ?_ ?_ ?_; (focus (simp only [go_sem]; done)); (focus (simp only [go_sem]; done)); simp only [go_sem, h]) | (refine cald (specFileCost_ok x hs) ?_ ?_ ?_ ?_; (focus (simp only [go_sem]; done)); (focus (simp only [go_sem]; done)); (focus (simp only [go_sem]; done)); simp only [go_sem, h]) | (refine cal (implFileCost_ok x hs) ?_ ?_ ?_; (focus (simp only [go_sem]; done)); (focus (simp only [go_sem]; done)); simp only [go_sem, h]) | (refine cald (implFileCost_ok x hs) ?_ ?_ ?_ ?_; (focus (simp only [go_sem]; done)); (focus (simp only [go_sem]; done)); (focus (simp only [go_sem]; done)); simp only [go_sem, h]) | (refine cal (toFiled_ok x hs) ?_ ?_ ?_; (focus (simp only [go_sem]; done)); (focus (simp only [go_sem]; done)); simp only [go_sem, h]) | (refine cald (toFiled_ok x hs) ?_ ?_ ?_ ?_; (focus (simp only [go_sem]; done)); (focus (simp only [go_sem]; done)); (focus (simp only [go_sem]; done)); simp only [go_sem, h]) | (refine cal (eqFile_ok x hs) ?_ ?_ ?_; (focus (simp only [go_sem]; done)); (focus (simp only [go_sem]; done)); simp only [go_sem, h]) | (refine cald (eqFile_ok x hs) ?_ ?_ ?_ ?_; (focus (simp only [go_sem]; done)); (focus (simp only [go_sem]; done)); (focus (simp only [go_sem]; done)); simp only [go_sem, h]) | (refine cndt ?_ ?_; (focus (simp only [go_sem]; done))) | (refine cndf ?_ ?_; (focus (simp only [go_sem]; done))) | (refine And.intro ?_ ?_; (focus omega)))
    exact retK_ret ⟨⟨_, rfl, by simp only [go_sem]⟩, trivial⟩
end Go.Proofs.Ytbplbpdfpcocgaa
