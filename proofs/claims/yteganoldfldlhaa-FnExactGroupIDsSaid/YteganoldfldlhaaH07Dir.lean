/-
  Dir: the structure, its cells; the contracts of the laws' helpers sz, to, eq. By program (gentys.py).
-/
import Derived.Test.YteganoldfldlhaaH06Node
set_option linter.all false
set_option maxHeartbeats 1000000
namespace Go.Proofs.Yteganoldfldlhaa
open Go Go.Sx Go.RowKit Go.Proofs

structure TDir where
  fName : ByteArray
  fQuery : List TNode
@[go_sem] def encDir (x : TDir) : List D := [sv x.fName, .sl (x.fQuery.map encNode)]
@[go_sem] def gDir (x : TDir) : SV := .g [.d (sv x.fName), .d (.sl (x.fQuery.map encNode))]
@[go_sem] def rDir (x : TDir) : SV := .g [.d (sv x.fName), .w 180 7 (x.fQuery.map encNode)]
def wDir (x : TDir) : Nat := x.fName.size + wNodeS x.fQuery
def wfDir (x : TDir) : Prop := x.fName.size ≤ 9223372036854775807 ∧ wfNodeS x.fQuery
def wDirS (l : List TDir) : Nat := l.length + wsum wDir l
def wfDirS (l : List TDir) : Prop := l.length ≤ 9223372036854775807 ∧ ∀ x ∈ l, wfDir x
theorem decDir {n : Nat} {r : List D} (h : ShD tt n 123 r) : ∃ x : TDir, r = encDir x ∧ wfDir x := by
  match n, h with
  | n + 1, ⟨a0, b0, e0, h0, a1, b1, e1, h1, ee⟩ =>
    obtain ⟨x0, rfl, p0⟩ := decS h0
    obtain ⟨x1, rfl, p1⟩ := decNodeS h1
    have ee' : b1 = [] := ee
    subst ee' e1 e0
    exact ⟨⟨x0, x1⟩, rfl, p0, p1⟩
theorem decDirS {n : Nat} {r : List D} (h : ShD tt n 40 r) : ∃ l : List TDir, r = [.sl (l.map encDir)] ∧ wfDirS l := by
  match n, h with
  | n + 1, ⟨rows, h, hm, hr⟩ =>
    obtain ⟨l, rfl, hl⟩ := rows_map encDir wfDir (fun r h => decDir (hr r h))
    exact ⟨l, h, by unfold maxLen at hm; simpa using hm, hl⟩
theorem szDir_ok (x : TDir) (n : Int) (h0 : 0 ≤ n ∧ n ≤ 1048576) (hw : wfDir x) : FnC Try.prog 88 [gDir x, oi n] (oi (szOut n (wDir x))) := by
  refine ent Try.func88 rfl Try.call88 rfl (fun C => ?_)
  simp only [go_sem, st0, Try.ntmps88]
  unfold wfDir at hw
  by_cases hc0 : n - (x.fName.size : Nat) < 0
  · have e : szOut n (wDir x) = -1 := by rw [szOut_neg (by unfold wDir; omega)]
    repeat' (with_reducible first | refine WP_ret ?_ | refine WP_skip ?_ | refine WP_exit ?_ | refine WP_seq ?_ | refine WP_block ?_ | refine K_code ?_ | refine K_blk ?_ | refine K_code_ret ?_ | refine K_blk_ret ?_ | refine K_code_exit ?_ | refine K_blk_exit_same ?_ | refine K_blk_exit_other (by decide) ?_ | refine K_nil ?_ | refine L_ret ?_ | refine L_exit ?_ | (refine run_cons ?_; simp only [go_sem, hc0]) | (refine run_nil ?_) | (refine drun_cons ?_; simp only [go_sem, hc0]) | (refine drun_nil ?_) | (refine reg ?_) | (refine regd (by kernel_rfl) ?_) | (refine cndt ?_ ?_; (focus (simp only [go_sem]; done))) | (refine cndf ?_ ?_; (focus (simp only [go_sem]; done))) | (refine And.intro ?_ ?_; (focus omega)))
    exact retK_ret ⟨⟨_, rfl, by simp only [go_sem, e]⟩, trivial⟩
  by_cases hc1 : n - (x.fName.size : Nat) - (wNodeS x.fQuery : Nat) < 0
  · have e : szOut n (wDir x) = -1 := by rw [szOut_neg (by unfold wDir; omega)]
    repeat' (with_reducible first | refine WP_ret ?_ | refine WP_skip ?_ | refine WP_exit ?_ | refine WP_seq ?_ | refine WP_block ?_ | refine K_code ?_ | refine K_blk ?_ | refine K_code_ret ?_ | refine K_blk_ret ?_ | refine K_code_exit ?_ | refine K_blk_exit_same ?_ | refine K_blk_exit_other (by decide) ?_ | refine K_nil ?_ | refine L_ret ?_ | refine L_exit ?_ | (refine run_cons ?_; simp only [go_sem, hc0, szOut_neg hc1, hc1]) | (refine run_nil ?_) | (refine drun_cons ?_; simp only [go_sem, hc0, szOut_neg hc1, hc1]) | (refine drun_nil ?_) | (refine reg ?_) | (refine regd (by kernel_rfl) ?_) | (refine cal (szNodeS_ok x.fQuery (n - (x.fName.size : Nat)) (by omega) hw.2) ?_ ?_ ?_; (focus (simp only [go_sem]; done)); (focus (simp only [go_sem]; done)); try simp only [go_sem, hc0, szOut_neg hc1, hc1]) | (refine cald (szNodeS_ok x.fQuery (n - (x.fName.size : Nat)) (by omega) hw.2) ?_ ?_ ?_ ?_; (focus (simp only [go_sem]; done)); (focus (simp only [go_sem]; done)); (focus (simp only [go_sem]; done)); try simp only [go_sem, hc0, szOut_neg hc1, hc1]) | (refine cndt ?_ ?_; (focus (simp only [go_sem]; done))) | (refine cndf ?_ ?_; (focus (simp only [go_sem]; done))) | (refine And.intro ?_ ?_; (focus omega)))
    exact retK_ret ⟨⟨_, rfl, by simp only [go_sem, e]⟩, trivial⟩
  have e : szOut n (wDir x) = n - (x.fName.size : Nat) - (wNodeS x.fQuery : Nat) := by rw [szOut_pos (by unfold wDir; omega)]; unfold wDir; omega
  repeat' (with_reducible first | refine WP_ret ?_ | refine WP_skip ?_ | refine WP_exit ?_ | refine WP_seq ?_ | refine WP_block ?_ | refine K_code ?_ | refine K_blk ?_ | refine K_code_ret ?_ | refine K_blk_ret ?_ | refine K_code_exit ?_ | refine K_blk_exit_same ?_ | refine K_blk_exit_other (by decide) ?_ | refine K_nil ?_ | refine L_ret ?_ | refine L_exit ?_ | (refine run_cons ?_; simp only [go_sem, hc0, szOut_pos hc1, hc1]) | (refine run_nil ?_) | (refine drun_cons ?_; simp only [go_sem, hc0, szOut_pos hc1, hc1]) | (refine drun_nil ?_) | (refine reg ?_) | (refine regd (by kernel_rfl) ?_) | (refine cal (szNodeS_ok x.fQuery (n - (x.fName.size : Nat)) (by omega) hw.2) ?_ ?_ ?_; (focus (simp only [go_sem]; done)); (focus (simp only [go_sem]; done)); try simp only [go_sem, hc0, szOut_pos hc1, hc1]) | (refine cald (szNodeS_ok x.fQuery (n - (x.fName.size : Nat)) (by omega) hw.2) ?_ ?_ ?_ ?_; (focus (simp only [go_sem]; done)); (focus (simp only [go_sem]; done)); (focus (simp only [go_sem]; done)); try simp only [go_sem, hc0, szOut_pos hc1, hc1]) | (refine cndt ?_ ?_; (focus (simp only [go_sem]; done))) | (refine cndf ?_ ?_; (focus (simp only [go_sem]; done))) | (refine And.intro ?_ ?_; (focus omega)))
  exact retK_ret ⟨⟨_, rfl, by simp only [go_sem, e]⟩, trivial⟩
theorem toDir_ok (x : TDir) (hx : wDir x ≤ 1048576) : FnC Try.prog 90 [gDir x] (rDir x) := by
  unfold wDir at hx
  refine ent Try.func90 rfl Try.call90 rfl (fun C => ?_)
  simp only [go_sem, st0, Try.ntmps90]
  repeat' (with_reducible first | refine WP_ret ?_ | refine WP_skip ?_ | refine WP_exit ?_ | refine WP_seq ?_ | refine WP_block ?_ | refine K_code ?_ | refine K_blk ?_ | refine K_code_ret ?_ | refine K_blk_ret ?_ | refine K_code_exit ?_ | refine K_blk_exit_same ?_ | refine K_blk_exit_other (by decide) ?_ | refine K_nil ?_ | refine L_ret ?_ | refine L_exit ?_ | (refine run_cons ?_; simp only [go_sem]) | (refine run_nil ?_) | (refine drun_cons ?_; simp only [go_sem]) | (refine drun_nil ?_) | (refine reg ?_) | (refine regd (by kernel_rfl) ?_) | (refine cal (toNodeS_ok x.fQuery (by omega)) ?_ ?_ ?_; (focus (simp only [go_sem]; done)); (focus (simp only [go_sem]; done)); try simp only [go_sem]) | (refine cald (toNodeS_ok x.fQuery (by omega)) ?_ ?_ ?_ ?_; (focus (simp only [go_sem]; done)); (focus (simp only [go_sem]; done)); (focus (simp only [go_sem]; done)); try simp only [go_sem]) | (refine cndt ?_ ?_; (focus (simp only [go_sem]; done))) | (refine cndf ?_ ?_; (focus (simp only [go_sem]; done))) | (refine And.intro ?_ ?_; (focus omega)))
  exact retK_ret ⟨⟨_, rfl, by simp only [go_sem]⟩, trivial⟩
theorem toDird_ok (x : TDir) (hx : wDir x ≤ 1048576) : FnC Try.prog 90 [gDir x] (gDir x) := (toDir_ok x hx).pure (by simp only [go_sem]) (by simp only [go_sem]) (by simp only [go_sem]) (by simp only [go_sem]) (by simp only [go_sem])
theorem eqDir_ok (x : TDir) (hx : wDir x ≤ 1048576) : FnC Try.prog 95 [gDir x, gDir x] (ob true) := by
  unfold wDir at hx
  refine ent Try.func95 rfl Try.call95 rfl (fun C => ?_)
  simp only [go_sem, st0, Try.ntmps95]
  repeat' (with_reducible first | refine WP_ret ?_ | refine WP_skip ?_ | refine WP_exit ?_ | refine WP_seq ?_ | refine WP_block ?_ | refine K_code ?_ | refine K_blk ?_ | refine K_code_ret ?_ | refine K_blk_ret ?_ | refine K_code_exit ?_ | refine K_blk_exit_same ?_ | refine K_blk_exit_other (by decide) ?_ | refine K_nil ?_ | refine L_ret ?_ | refine L_exit ?_ | (refine run_cons ?_; simp only [go_sem]) | (refine run_nil ?_) | (refine drun_cons ?_; simp only [go_sem]) | (refine drun_nil ?_) | (refine reg ?_) | (refine regd (by kernel_rfl) ?_) | (refine cal (eqNodeS_ok x.fQuery (by omega)) ?_ ?_ ?_; (focus (simp only [go_sem]; done)); (focus (simp only [go_sem]; done)); try simp only [go_sem]) | (refine cald (eqNodeS_ok x.fQuery (by omega)) ?_ ?_ ?_ ?_; (focus (simp only [go_sem]; done)); (focus (simp only [go_sem]; done)); (focus (simp only [go_sem]; done)); try simp only [go_sem]) | (refine cndt ?_ ?_; (focus (simp only [go_sem]; done))) | (refine cndf ?_ ?_; (focus (simp only [go_sem]; done))) | (refine And.intro ?_ ?_; (focus omega)))
  exact retK_ret ⟨⟨_, rfl, by simp only [go_sem]⟩, trivial⟩
theorem toDirS_ok (l : List TDir) (hl : wDirS l ≤ 1048576) : FnC Try.prog 30 [.o (.d (.sl (l.map encDir)))] (.o (.w 126 2 (l.map encDir))) := by
  unfold wDirS at hl
  refine ent Try.func30 rfl Try.call30 rfl (fun C => ?_)
  simp only [go_sem, st0, Try.ntmps30]
  repeat' (with_reducible first | refine WP_ret ?_ | refine WP_skip ?_ | refine WP_exit ?_ | refine WP_seq ?_ | refine WP_block ?_ | refine K_code ?_ | refine K_blk ?_ | refine K_code_ret ?_ | refine K_blk_ret ?_ | refine K_code_exit ?_ | refine K_blk_exit_same ?_ | refine K_blk_exit_other (by decide) ?_ | refine K_nil ?_ | refine L_ret ?_ | refine L_exit ?_ | (refine run_cons ?_; simp only [go_sem]) | (refine run_nil ?_) | (refine drun_cons ?_; simp only [go_sem]) | (refine drun_nil ?_) | (refine reg ?_) | (refine regd (by kernel_rfl) ?_) | (refine cndt ?_ ?_; (focus (simp only [go_sem]; done))) | (refine cndf ?_ ?_; (focus (simp only [go_sem]; done))) | (refine And.intro ?_ ?_; (focus omega)))
  refine WP_lp (α := Nat) (fun k => [(4, oi k)]) (fun k => [(0, .row 126 2 (fillR encDir [sv ⟨#[]⟩, .sl []] l k) true)]) (fun k => k ≤ l.length) (fun k => l.length - k) 0 (fun _ => ?_) ?_ ?_ (fun k hk => ?_)
  · simp only [go_sem]
  · simp only [go_sem]; simp [fillR_zero]
  · simp
  · simp only [go_sem]
    repeat' (with_reducible first | refine WP_ret ?_ | refine WP_skip ?_ | refine WP_exit ?_ | refine WP_seq ?_ | refine WP_block ?_ | refine K_code ?_ | refine K_blk ?_ | refine K_code_ret ?_ | refine K_blk_ret ?_ | refine K_code_exit ?_ | refine K_blk_exit_same ?_ | refine K_blk_exit_other (by decide) ?_ | refine K_nil ?_ | refine L_ret ?_ | refine L_exit ?_ | (refine run_cons ?_; simp only [go_sem]) | (refine run_nil ?_) | (refine drun_cons ?_; simp only [go_sem]) | (refine drun_nil ?_) | (refine reg ?_) | (refine regd (by kernel_rfl) ?_) | (refine cndt ?_ ?_; (focus (simp only [go_sem]; done))) | (refine cndf ?_ ?_; (focus (simp only [go_sem]; done))) | (refine And.intro ?_ ?_; (focus omega)))
    refine cnd rfl (fun h => ?_) (fun h => ?_)
    · simp only [decide_eq_true_eq, Int.ofNat_lt] at h
      have hw := wsum_get wDir l h
      repeat' (with_reducible first | refine WP_ret ?_ | refine WP_skip ?_ | refine WP_exit ?_ | refine WP_seq ?_ | refine WP_block ?_ | refine K_code ?_ | refine K_blk ?_ | refine K_code_ret ?_ | refine K_blk_ret ?_ | refine K_code_exit ?_ | refine K_blk_exit_same ?_ | refine K_blk_exit_other (by decide) ?_ | refine K_nil ?_ | refine L_ret ?_ | refine L_exit ?_ | (refine run_cons ?_; simp only [go_sem, h]) | (refine run_nil ?_) | (refine drun_cons ?_; simp only [go_sem, h]) | (refine drun_nil ?_) | (refine reg ?_) | (refine regd (by kernel_rfl) ?_) | (refine cal (toDir_ok l[k] (by omega)) ?_ ?_ ?_; (focus (simp only [go_sem]; done)); (focus (simp only [go_sem]; done)); try simp only [go_sem, h]) | (refine cald (toDir_ok l[k] (by omega)) ?_ ?_ ?_ ?_; (focus (simp only [go_sem]; done)); (focus (simp only [go_sem]; done)); (focus (simp only [go_sem]; done)); try simp only [go_sem, h]) | (refine cndt ?_ ?_; (focus (simp only [go_sem]; done))) | (refine cndf ?_ ?_; (focus (simp only [go_sem]; done))) | (refine And.intro ?_ ?_; (focus omega)))
      refine L_next (k + 1) ?_ ?_ ?_
      · simp only [go_sem]; simp [← fillR_set, h, encDir]
      · omega
      · omega
    · simp only [decide_eq_false_iff_not] at h
      have e : k = l.length := by omega
      subst e
      repeat' (with_reducible first | refine WP_ret ?_ | refine WP_skip ?_ | refine WP_exit ?_ | refine WP_seq ?_ | refine WP_block ?_ | refine K_code ?_ | refine K_blk ?_ | refine K_code_ret ?_ | refine K_blk_ret ?_ | refine K_code_exit ?_ | refine K_blk_exit_same ?_ | refine K_blk_exit_other (by decide) ?_ | refine K_nil ?_ | refine L_ret ?_ | refine L_exit ?_ | (refine run_cons ?_; simp only [go_sem]) | (refine run_nil ?_) | (refine drun_cons ?_; simp only [go_sem]) | (refine drun_nil ?_) | (refine reg ?_) | (refine regd (by kernel_rfl) ?_) | (refine cndt ?_ ?_; (focus (simp only [go_sem]; done))) | (refine cndf ?_ ?_; (focus (simp only [go_sem]; done))) | (refine And.intro ?_ ?_; (focus omega)))
      exact retK_ret ⟨⟨_, rfl, by simp only [go_sem, fillR_all]⟩, trivial⟩
theorem toDirSd_ok (l : List TDir) (hl : wDirS l ≤ 1048576) : FnC Try.prog 30 [.o (.d (.sl (l.map encDir)))] (.o (.d (.sl (l.map encDir)))) := (toDirS_ok l hl).pure (by simp only [go_sem]) (by simp only [go_sem]) (by simp only [go_sem]) (by simp only [go_sem]) (by simp only [go_sem])
theorem eqDirS_ok (l : List TDir) (hl : wDirS l ≤ 1048576) : FnC Try.prog 34 [.o (.d (.sl (l.map encDir))), .o (.d (.sl (l.map encDir)))] (ob true) := by
  unfold wDirS at hl
  refine ent Try.func34 rfl Try.call34 rfl (fun C => ?_)
  simp only [go_sem, st0, Try.ntmps34]
  repeat' (with_reducible first | refine WP_ret ?_ | refine WP_skip ?_ | refine WP_exit ?_ | refine WP_seq ?_ | refine WP_block ?_ | refine K_code ?_ | refine K_blk ?_ | refine K_code_ret ?_ | refine K_blk_ret ?_ | refine K_code_exit ?_ | refine K_blk_exit_same ?_ | refine K_blk_exit_other (by decide) ?_ | refine K_nil ?_ | refine L_ret ?_ | refine L_exit ?_ | (refine run_cons ?_; simp only [go_sem]) | (refine run_nil ?_) | (refine drun_cons ?_; simp only [go_sem]) | (refine drun_nil ?_) | (refine reg ?_) | (refine regd (by kernel_rfl) ?_) | (refine cndt ?_ ?_; (focus (simp only [go_sem]; done))) | (refine cndf ?_ ?_; (focus (simp only [go_sem]; done))) | (refine And.intro ?_ ?_; (focus omega)))
  refine WP_lp (α := Nat) (fun k => [(5, oi k)]) (fun _ => []) (fun k => k ≤ l.length) (fun k => l.length - k) 0 (fun _ => ?_) ?_ ?_ (fun k hk => ?_)
  · simp only [go_sem]
  · simp only [go_sem]; simp
  · simp
  · simp only [go_sem]
    repeat' (with_reducible first | refine WP_ret ?_ | refine WP_skip ?_ | refine WP_exit ?_ | refine WP_seq ?_ | refine WP_block ?_ | refine K_code ?_ | refine K_blk ?_ | refine K_code_ret ?_ | refine K_blk_ret ?_ | refine K_code_exit ?_ | refine K_blk_exit_same ?_ | refine K_blk_exit_other (by decide) ?_ | refine K_nil ?_ | refine L_ret ?_ | refine L_exit ?_ | (refine run_cons ?_; simp only [go_sem]) | (refine run_nil ?_) | (refine drun_cons ?_; simp only [go_sem]) | (refine drun_nil ?_) | (refine reg ?_) | (refine regd (by kernel_rfl) ?_) | (refine cndt ?_ ?_; (focus (simp only [go_sem]; done))) | (refine cndf ?_ ?_; (focus (simp only [go_sem]; done))) | (refine And.intro ?_ ?_; (focus omega)))
    refine cnd rfl (fun h => ?_) (fun h => ?_)
    · simp only [decide_eq_true_eq, Int.ofNat_lt] at h
      have hw := wsum_get wDir l h
      repeat' (with_reducible first | refine WP_ret ?_ | refine WP_skip ?_ | refine WP_exit ?_ | refine WP_seq ?_ | refine WP_block ?_ | refine K_code ?_ | refine K_blk ?_ | refine K_code_ret ?_ | refine K_blk_ret ?_ | refine K_code_exit ?_ | refine K_blk_exit_same ?_ | refine K_blk_exit_other (by decide) ?_ | refine K_nil ?_ | refine L_ret ?_ | refine L_exit ?_ | (refine run_cons ?_; simp only [go_sem, h]) | (refine run_nil ?_) | (refine drun_cons ?_; simp only [go_sem, h]) | (refine drun_nil ?_) | (refine reg ?_) | (refine regd (by kernel_rfl) ?_) | (refine cal (eqDir_ok l[k] (by omega)) ?_ ?_ ?_; (focus (simp only [go_sem]; done)); (focus (simp only [go_sem]; done)); try simp only [go_sem, h]) | (refine cald (eqDir_ok l[k] (by omega)) ?_ ?_ ?_ ?_; (focus (simp only [go_sem]; done)); (focus (simp only [go_sem]; done)); (focus (simp only [go_sem]; done)); try simp only [go_sem, h]) | (refine cndt ?_ ?_; (focus (simp only [go_sem]; done))) | (refine cndf ?_ ?_; (focus (simp only [go_sem]; done))) | (refine And.intro ?_ ?_; (focus omega)))
      refine L_next (k + 1) ?_ ?_ ?_
      · simp only [go_sem]; simp
      · omega
      · omega
    · simp only [decide_eq_false_iff_not] at h
      repeat' (with_reducible first | refine WP_ret ?_ | refine WP_skip ?_ | refine WP_exit ?_ | refine WP_seq ?_ | refine WP_block ?_ | refine K_code ?_ | refine K_blk ?_ | refine K_code_ret ?_ | refine K_blk_ret ?_ | refine K_code_exit ?_ | refine K_blk_exit_same ?_ | refine K_blk_exit_other (by decide) ?_ | refine K_nil ?_ | refine L_ret ?_ | refine L_exit ?_ | (refine run_cons ?_; simp only [go_sem]) | (refine run_nil ?_) | (refine drun_cons ?_; simp only [go_sem]) | (refine drun_nil ?_) | (refine reg ?_) | (refine regd (by kernel_rfl) ?_) | (refine cndt ?_ ?_; (focus (simp only [go_sem]; done))) | (refine cndf ?_ ?_; (focus (simp only [go_sem]; done))) | (refine And.intro ?_ ?_; (focus omega)))
      exact retK_ret ⟨⟨_, rfl, by simp only [go_sem]⟩, trivial⟩
theorem szDirS_ok (l : List TDir) (n : Int) (h0 : 0 ≤ n ∧ n ≤ 1048576) (hw : wfDirS l) : FnC Try.prog 27 [.o (.d (.sl (l.map encDir))), oi n] (oi (szOut n (wDirS l))) := by
  unfold wfDirS at hw
  refine ent Try.func27 rfl Try.call27 rfl (fun C => ?_)
  simp only [go_sem, st0, Try.ntmps27]
  by_cases hc : n - (l.length : Nat) < 0
  · have e : szOut n (wDirS l) = -1 := by rw [szOut_neg (by unfold wDirS; omega)]
    repeat' (with_reducible first | refine WP_ret ?_ | refine WP_skip ?_ | refine WP_exit ?_ | refine WP_seq ?_ | refine WP_block ?_ | refine K_code ?_ | refine K_blk ?_ | refine K_code_ret ?_ | refine K_blk_ret ?_ | refine K_code_exit ?_ | refine K_blk_exit_same ?_ | refine K_blk_exit_other (by decide) ?_ | refine K_nil ?_ | refine L_ret ?_ | refine L_exit ?_ | (refine run_cons ?_; simp only [go_sem, hc]) | (refine run_nil ?_) | (refine drun_cons ?_; simp only [go_sem, hc]) | (refine drun_nil ?_) | (refine reg ?_) | (refine regd (by kernel_rfl) ?_) | (refine cndt ?_ ?_; (focus (simp only [go_sem]; done))) | (refine cndf ?_ ?_; (focus (simp only [go_sem]; done))) | (refine And.intro ?_ ?_; (focus omega)))
    exact retK_ret ⟨⟨_, rfl, by simp only [go_sem, e]⟩, trivial⟩
  repeat' (with_reducible first | refine WP_ret ?_ | refine WP_skip ?_ | refine WP_exit ?_ | refine WP_seq ?_ | refine WP_block ?_ | refine K_code ?_ | refine K_blk ?_ | refine K_code_ret ?_ | refine K_blk_ret ?_ | refine K_code_exit ?_ | refine K_blk_exit_same ?_ | refine K_blk_exit_other (by decide) ?_ | refine K_nil ?_ | refine L_ret ?_ | refine L_exit ?_ | (refine run_cons ?_; simp only [go_sem, hc]) | (refine run_nil ?_) | (refine drun_cons ?_; simp only [go_sem, hc]) | (refine drun_nil ?_) | (refine reg ?_) | (refine regd (by kernel_rfl) ?_) | (refine cndt ?_ ?_; (focus (simp only [go_sem]; done))) | (refine cndf ?_ ?_; (focus (simp only [go_sem]; done))) | (refine And.intro ?_ ?_; (focus omega)))
  refine WP_lp (α := Nat) (fun k => [(5, oi k), (1, oi (n - (l.length : Nat) - (wsum wDir (l.take k) : Nat)))]) (fun _ => []) (fun k => k ≤ l.length ∧ 0 ≤ n - (l.length : Nat) - (wsum wDir (l.take k) : Nat)) (fun k => l.length - k) 0 (fun _ => ?_) ?_ ?_ (fun k hk => ?_)
  · simp only [go_sem]
  · simp only [go_sem]; simp [wsum]
  · simp [wsum]; omega
  · obtain ⟨hk, hn⟩ := hk
    simp only [go_sem]
    repeat' (with_reducible first | refine WP_ret ?_ | refine WP_skip ?_ | refine WP_exit ?_ | refine WP_seq ?_ | refine WP_block ?_ | refine K_code ?_ | refine K_blk ?_ | refine K_code_ret ?_ | refine K_blk_ret ?_ | refine K_code_exit ?_ | refine K_blk_exit_same ?_ | refine K_blk_exit_other (by decide) ?_ | refine K_nil ?_ | refine L_ret ?_ | refine L_exit ?_ | (refine run_cons ?_; simp only [go_sem]) | (refine run_nil ?_) | (refine drun_cons ?_; simp only [go_sem]) | (refine drun_nil ?_) | (refine reg ?_) | (refine regd (by kernel_rfl) ?_) | (refine cndt ?_ ?_; (focus (simp only [go_sem]; done))) | (refine cndf ?_ ?_; (focus (simp only [go_sem]; done))) | (refine And.intro ?_ ?_; (focus omega)))
    refine cnd rfl (fun h => ?_) (fun h => ?_)
    · simp only [decide_eq_true_eq, Int.ofNat_lt] at h
      have hs := wsum_take wDir l h
      have ht := wsum_le wDir l (k + 1)
      by_cases h2 : n - (l.length : Nat) - (wsum wDir (l.take k) : Nat) - (wDir l[k] : Nat) < 0
      · have e : szOut n (wDirS l) = -1 := by rw [szOut_neg (by unfold wDirS; omega)]
        repeat' (with_reducible first | refine WP_ret ?_ | refine WP_skip ?_ | refine WP_exit ?_ | refine WP_seq ?_ | refine WP_block ?_ | refine K_code ?_ | refine K_blk ?_ | refine K_code_ret ?_ | refine K_blk_ret ?_ | refine K_code_exit ?_ | refine K_blk_exit_same ?_ | refine K_blk_exit_other (by decide) ?_ | refine K_nil ?_ | refine L_ret ?_ | refine L_exit ?_ | (refine run_cons ?_; simp only [go_sem, h, szOut_neg h2]) | (refine run_nil ?_) | (refine drun_cons ?_; simp only [go_sem, h, szOut_neg h2]) | (refine drun_nil ?_) | (refine reg ?_) | (refine regd (by kernel_rfl) ?_) | (refine cal (szDir_ok l[k] _ ⟨hn, by omega⟩ (hw.2 _ (List.getElem_mem h))) ?_ ?_ ?_; (focus (simp only [go_sem]; done)); (focus (simp only [go_sem]; done)); try simp only [go_sem, h, szOut_neg h2]) | (refine cald (szDir_ok l[k] _ ⟨hn, by omega⟩ (hw.2 _ (List.getElem_mem h))) ?_ ?_ ?_ ?_; (focus (simp only [go_sem]; done)); (focus (simp only [go_sem]; done)); (focus (simp only [go_sem]; done)); try simp only [go_sem, h, szOut_neg h2]) | (refine cndt ?_ ?_; (focus (simp only [go_sem]; done))) | (refine cndf ?_ ?_; (focus (simp only [go_sem]; done))) | (refine And.intro ?_ ?_; (focus omega)))
        exact retK_ret ⟨⟨_, rfl, by simp only [go_sem, e]⟩, trivial⟩
      · repeat' (with_reducible first | refine WP_ret ?_ | refine WP_skip ?_ | refine WP_exit ?_ | refine WP_seq ?_ | refine WP_block ?_ | refine K_code ?_ | refine K_blk ?_ | refine K_code_ret ?_ | refine K_blk_ret ?_ | refine K_code_exit ?_ | refine K_blk_exit_same ?_ | refine K_blk_exit_other (by decide) ?_ | refine K_nil ?_ | refine L_ret ?_ | refine L_exit ?_ | (refine run_cons ?_; simp only [go_sem, h, szOut_pos h2, h2]) | (refine run_nil ?_) | (refine drun_cons ?_; simp only [go_sem, h, szOut_pos h2, h2]) | (refine drun_nil ?_) | (refine reg ?_) | (refine regd (by kernel_rfl) ?_) | (refine cal (szDir_ok l[k] _ ⟨hn, by omega⟩ (hw.2 _ (List.getElem_mem h))) ?_ ?_ ?_; (focus (simp only [go_sem]; done)); (focus (simp only [go_sem]; done)); try simp only [go_sem, h, szOut_pos h2, h2]) | (refine cald (szDir_ok l[k] _ ⟨hn, by omega⟩ (hw.2 _ (List.getElem_mem h))) ?_ ?_ ?_ ?_; (focus (simp only [go_sem]; done)); (focus (simp only [go_sem]; done)); (focus (simp only [go_sem]; done)); try simp only [go_sem, h, szOut_pos h2, h2]) | (refine cndt ?_ ?_; (focus (simp only [go_sem]; done))) | (refine cndf ?_ ?_; (focus (simp only [go_sem]; done))) | (refine And.intro ?_ ?_; (focus omega)))
        refine L_next (k + 1) ?_ ?_ ?_
        · simp only [go_sem]; simp; omega
        · omega
        · omega
    · simp only [decide_eq_false_iff_not] at h
      have e0 : k = l.length := by omega
      subst e0
      rw [List.take_length] at hn
      have e : szOut n (wDirS l) = n - (l.length : Nat) - (wsum wDir l : Nat) := by rw [szOut_pos (by unfold wDirS; omega)]; unfold wDirS; omega
      repeat' (with_reducible first | refine WP_ret ?_ | refine WP_skip ?_ | refine WP_exit ?_ | refine WP_seq ?_ | refine WP_block ?_ | refine K_code ?_ | refine K_blk ?_ | refine K_code_ret ?_ | refine K_blk_ret ?_ | refine K_code_exit ?_ | refine K_blk_exit_same ?_ | refine K_blk_exit_other (by decide) ?_ | refine K_nil ?_ | refine L_ret ?_ | refine L_exit ?_ | (refine run_cons ?_; simp only [go_sem]) | (refine run_nil ?_) | (refine drun_cons ?_; simp only [go_sem]) | (refine drun_nil ?_) | (refine reg ?_) | (refine regd (by kernel_rfl) ?_) | (refine cndt ?_ ?_; (focus (simp only [go_sem]; done))) | (refine cndf ?_ ?_; (focus (simp only [go_sem]; done))) | (refine And.intro ?_ ?_; (focus omega)))
      exact retK_ret ⟨⟨_, rfl, by simp only [go_sem, e, List.take_length]⟩, trivial⟩
end Go.Proofs.Yteganoldfldlhaa
