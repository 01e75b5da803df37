/-
  Result: the structure, its cells; the contracts of the laws' helpers sz, to, eq. By program (gentys.py).
  Diff: the structure, its cells; the contracts of the laws' helpers sz, to, eq. By program (gentys.py).
  Catalog: the structure, its cells; the contracts of the laws' helpers sz, to, eq. By program (gentys.py).
  Group: the structure, its cells; the contracts of the laws' helpers sz, to, eq. By program (gentys.py).
  Edit: the structure, its cells; the contracts of the laws' helpers sz, to, eq. By program (gentys.py).
  Change: the structure, its cells; the contracts of the laws' helpers sz, to, eq. By program (gentys.py).
  Snapshot: the structure, its cells; the contracts of the laws' helpers sz, to, eq. By program (gentys.py).
  Disk: the structure, its cells; the contracts of the laws' helpers sz, to, eq. By program (gentys.py).
  within, l01In.
  The laws' helpers sz, to, eq at []string.
-/
import Derived.Test.YteganoldfldlhaaH1
set_option linter.all false
section
set_option linter.all false
set_option maxHeartbeats 1000000
namespace Go.Proofs.Yteganoldfldlhaa
open Go Go.Sx Go.RowKit Go.Proofs

structure TResult where
  fName : ByteArray
  fIDs : List Int
@[go_sem] def encResult (x : TResult) : List D := [sv x.fName, .sl (x.fIDs.map encI)]
@[go_sem] def gResult (x : TResult) : SV := .g [.d (sv x.fName), .d (.sl (x.fIDs.map encI))]
@[go_sem] def rResult (x : TResult) : SV := .g [.d (sv x.fName), .w 3 1 (x.fIDs.map encI)]
def wResult (x : TResult) : Nat := x.fName.size + x.fIDs.length
def wfResult (x : TResult) : Prop := x.fName.size ≤ 9223372036854775807 ∧ wfIntS x.fIDs
def wResultS (l : List TResult) : Nat := l.length + wsum wResult l
def wfResultS (l : List TResult) : Prop := l.length ≤ 9223372036854775807 ∧ ∀ x ∈ l, wfResult x
theorem decResult {n : Nat} {r : List D} (h : ShD tt n 162 r) : ∃ x : TResult, r = encResult x ∧ wfResult x := by
  match n, h with
  | n + 1, ⟨a0, b0, e0, h0, a1, b1, e1, h1, ee⟩ =>
    obtain ⟨x0, rfl, p0⟩ := decS h0
    obtain ⟨x1, rfl, p1⟩ := decIntS h1
    have ee' : b1 = [] := ee
    subst ee' e1 e0
    exact ⟨⟨x0, x1⟩, rfl, p0, p1⟩
theorem decResultS {n : Nat} {r : List D} (h : ShD tt n 89 r) : ∃ l : List TResult, r = [.sl (l.map encResult)] ∧ wfResultS l := by
  match n, h with
  | n + 1, ⟨rows, h, hm, hr⟩ =>
    obtain ⟨l, rfl, hl⟩ := rows_map encResult wfResult (fun r h => decResult (hr r h))
    exact ⟨l, h, by unfold maxLen at hm; simpa using hm, hl⟩
theorem szResult_ok (x : TResult) (n : Int) (h0 : 0 ≤ n ∧ n ≤ 1048576) (hw : wfResult x) : FnC Try.prog 127 [gResult x, oi n] (oi (szOut n (wResult x))) := by
  refine ent Try.func127 rfl Try.call127 rfl (fun C => ?_)
  simp only [go_sem, st0, Try.ntmps127]
  unfold wfResult at hw
  by_cases hc0 : n - (x.fName.size : Nat) < 0
  · have e : szOut n (wResult x) = -1 := by rw [szOut_neg (by unfold wResult; omega)]
    repeat' (with_reducible first | refine WP_ret ?_ | refine WP_skip ?_ | refine WP_exit ?_ | refine WP_seq ?_ | refine WP_block ?_ | refine K_code ?_ | refine K_blk ?_ | refine K_code_ret ?_ | refine K_blk_ret ?_ | refine K_code_exit ?_ | refine K_blk_exit_same ?_ | refine K_blk_exit_other (by decide) ?_ | refine K_nil ?_ | refine L_ret ?_ | refine L_exit ?_ | (refine run_cons ?_; simp only [go_sem, hc0]) | (refine run_nil ?_) | (refine drun_cons ?_; simp only [go_sem, hc0]) | (refine drun_nil ?_) | (refine reg ?_) | (refine regd (by kernel_rfl) ?_) | (refine cndt ?_ ?_; (focus (simp only [go_sem]; done))) | (refine cndf ?_ ?_; (focus (simp only [go_sem]; done))) | (refine And.intro ?_ ?_; (focus omega)))
    exact retK_ret ⟨⟨_, rfl, by simp only [go_sem, e]⟩, trivial⟩
  by_cases hc1 : n - (x.fName.size : Nat) - (x.fIDs.length : Nat) < 0
  · have e : szOut n (wResult x) = -1 := by rw [szOut_neg (by unfold wResult; omega)]
    repeat' (with_reducible first | refine WP_ret ?_ | refine WP_skip ?_ | refine WP_exit ?_ | refine WP_seq ?_ | refine WP_block ?_ | refine K_code ?_ | refine K_blk ?_ | refine K_code_ret ?_ | refine K_blk_ret ?_ | refine K_code_exit ?_ | refine K_blk_exit_same ?_ | refine K_blk_exit_other (by decide) ?_ | refine K_nil ?_ | refine L_ret ?_ | refine L_exit ?_ | (refine run_cons ?_; simp only [go_sem, hc0, szOut_neg hc1, hc1]) | (refine run_nil ?_) | (refine drun_cons ?_; simp only [go_sem, hc0, szOut_neg hc1, hc1]) | (refine drun_nil ?_) | (refine reg ?_) | (refine regd (by kernel_rfl) ?_) | (refine cal (szIntS_ok x.fIDs (n - (x.fName.size : Nat)) (by omega) hw.2) ?_ ?_ ?_; (focus (simp only [go_sem]; done)); (focus (simp only [go_sem]; done)); try simp only [go_sem, hc0, szOut_neg hc1, hc1]) | (refine cald (szIntS_ok x.fIDs (n - (x.fName.size : Nat)) (by omega) hw.2) ?_ ?_ ?_ ?_; (focus (simp only [go_sem]; done)); (focus (simp only [go_sem]; done)); (focus (simp only [go_sem]; done)); try simp only [go_sem, hc0, szOut_neg hc1, hc1]) | (refine cndt ?_ ?_; (focus (simp only [go_sem]; done))) | (refine cndf ?_ ?_; (focus (simp only [go_sem]; done))) | (refine And.intro ?_ ?_; (focus omega)))
    exact retK_ret ⟨⟨_, rfl, by simp only [go_sem, e]⟩, trivial⟩
  have e : szOut n (wResult x) = n - (x.fName.size : Nat) - (x.fIDs.length : Nat) := by rw [szOut_pos (by unfold wResult; omega)]; unfold wResult; omega
  repeat' (with_reducible first | refine WP_ret ?_ | refine WP_skip ?_ | refine WP_exit ?_ | refine WP_seq ?_ | refine WP_block ?_ | refine K_code ?_ | refine K_blk ?_ | refine K_code_ret ?_ | refine K_blk_ret ?_ | refine K_code_exit ?_ | refine K_blk_exit_same ?_ | refine K_blk_exit_other (by decide) ?_ | refine K_nil ?_ | refine L_ret ?_ | refine L_exit ?_ | (refine run_cons ?_; simp only [go_sem, hc0, szOut_pos hc1, hc1]) | (refine run_nil ?_) | (refine drun_cons ?_; simp only [go_sem, hc0, szOut_pos hc1, hc1]) | (refine drun_nil ?_) | (refine reg ?_) | (refine regd (by kernel_rfl) ?_) | (refine cal (szIntS_ok x.fIDs (n - (x.fName.size : Nat)) (by omega) hw.2) ?_ ?_ ?_; (focus (simp only [go_sem]; done)); (focus (simp only [go_sem]; done)); try simp only [go_sem, hc0, szOut_pos hc1, hc1]) | (refine cald (szIntS_ok x.fIDs (n - (x.fName.size : Nat)) (by omega) hw.2) ?_ ?_ ?_ ?_; (focus (simp only [go_sem]; done)); (focus (simp only [go_sem]; done)); (focus (simp only [go_sem]; done)); try simp only [go_sem, hc0, szOut_pos hc1, hc1]) | (refine cndt ?_ ?_; (focus (simp only [go_sem]; done))) | (refine cndf ?_ ?_; (focus (simp only [go_sem]; done))) | (refine And.intro ?_ ?_; (focus omega)))
  exact retK_ret ⟨⟨_, rfl, by simp only [go_sem, e]⟩, trivial⟩
theorem toResult_ok (x : TResult) (hx : wResult x ≤ 1048576) : FnC Try.prog 130 [gResult x] (rResult x) := by
  unfold wResult at hx
  refine ent Try.func130 rfl Try.call130 rfl (fun C => ?_)
  simp only [go_sem, st0, Try.ntmps130]
  repeat' (with_reducible first | refine WP_ret ?_ | refine WP_skip ?_ | refine WP_exit ?_ | refine WP_seq ?_ | refine WP_block ?_ | refine K_code ?_ | refine K_blk ?_ | refine K_code_ret ?_ | refine K_blk_ret ?_ | refine K_code_exit ?_ | refine K_blk_exit_same ?_ | refine K_blk_exit_other (by decide) ?_ | refine K_nil ?_ | refine L_ret ?_ | refine L_exit ?_ | (refine run_cons ?_; simp only [go_sem]) | (refine run_nil ?_) | (refine drun_cons ?_; simp only [go_sem]) | (refine drun_nil ?_) | (refine reg ?_) | (refine regd (by kernel_rfl) ?_) | (refine cal (toIntS_ok x.fIDs (by omega)) ?_ ?_ ?_; (focus (simp only [go_sem]; done)); (focus (simp only [go_sem]; done)); try simp only [go_sem]) | (refine cald (toIntS_ok x.fIDs (by omega)) ?_ ?_ ?_ ?_; (focus (simp only [go_sem]; done)); (focus (simp only [go_sem]; done)); (focus (simp only [go_sem]; done)); try simp only [go_sem]) | (refine cndt ?_ ?_; (focus (simp only [go_sem]; done))) | (refine cndf ?_ ?_; (focus (simp only [go_sem]; done))) | (refine And.intro ?_ ?_; (focus omega)))
  exact retK_ret ⟨⟨_, rfl, by simp only [go_sem]⟩, trivial⟩
theorem toResultd_ok (x : TResult) (hx : wResult x ≤ 1048576) : FnC Try.prog 130 [gResult x] (gResult x) := (toResult_ok x hx).pure (by simp only [go_sem]) (by simp only [go_sem]) (by simp only [go_sem]) (by simp only [go_sem]) (by simp only [go_sem])
theorem eqResult_ok (x : TResult) (hx : wResult x ≤ 1048576) : FnC Try.prog 134 [gResult x, gResult x] (ob true) := by
  unfold wResult at hx
  refine ent Try.func134 rfl Try.call134 rfl (fun C => ?_)
  simp only [go_sem, st0, Try.ntmps134]
  repeat' (with_reducible first | refine WP_ret ?_ | refine WP_skip ?_ | refine WP_exit ?_ | refine WP_seq ?_ | refine WP_block ?_ | refine K_code ?_ | refine K_blk ?_ | refine K_code_ret ?_ | refine K_blk_ret ?_ | refine K_code_exit ?_ | refine K_blk_exit_same ?_ | refine K_blk_exit_other (by decide) ?_ | refine K_nil ?_ | refine L_ret ?_ | refine L_exit ?_ | (refine run_cons ?_; simp only [go_sem]) | (refine run_nil ?_) | (refine drun_cons ?_; simp only [go_sem]) | (refine drun_nil ?_) | (refine reg ?_) | (refine regd (by kernel_rfl) ?_) | (refine cal (eqIntS_ok x.fIDs (by omega)) ?_ ?_ ?_; (focus (simp only [go_sem]; done)); (focus (simp only [go_sem]; done)); try simp only [go_sem]) | (refine cald (eqIntS_ok x.fIDs (by omega)) ?_ ?_ ?_ ?_; (focus (simp only [go_sem]; done)); (focus (simp only [go_sem]; done)); (focus (simp only [go_sem]; done)); try simp only [go_sem]) | (refine cndt ?_ ?_; (focus (simp only [go_sem]; done))) | (refine cndf ?_ ?_; (focus (simp only [go_sem]; done))) | (refine And.intro ?_ ?_; (focus omega)))
  exact retK_ret ⟨⟨_, rfl, by simp only [go_sem]⟩, trivial⟩
theorem toResultS_ok (l : List TResult) (hl : wResultS l ≤ 1048576) : FnC Try.prog 63 [.o (.d (.sl (l.map encResult)))] (.o (.w 166 2 (l.map encResult))) := by
  unfold wResultS at hl
  refine ent Try.func63 rfl Try.call63 rfl (fun C => ?_)
  simp only [go_sem, st0, Try.ntmps63]
  repeat' (with_reducible first | refine WP_ret ?_ | refine WP_skip ?_ | refine WP_exit ?_ | refine WP_seq ?_ | refine WP_block ?_ | refine K_code ?_ | refine K_blk ?_ | refine K_code_ret ?_ | refine K_blk_ret ?_ | refine K_code_exit ?_ | refine K_blk_exit_same ?_ | refine K_blk_exit_other (by decide) ?_ | refine K_nil ?_ | refine L_ret ?_ | refine L_exit ?_ | (refine run_cons ?_; simp only [go_sem]) | (refine run_nil ?_) | (refine drun_cons ?_; simp only [go_sem]) | (refine drun_nil ?_) | (refine reg ?_) | (refine regd (by kernel_rfl) ?_) | (refine cndt ?_ ?_; (focus (simp only [go_sem]; done))) | (refine cndf ?_ ?_; (focus (simp only [go_sem]; done))) | (refine And.intro ?_ ?_; (focus omega)))
  refine WP_lp (α := Nat) (fun k => [(4, oi k)]) (fun k => [(0, .row 166 2 (fillR encResult [sv ⟨#[]⟩, .sl []] l k) true)]) (fun k => k ≤ l.length) (fun k => l.length - k) 0 (fun _ => ?_) ?_ ?_ (fun k hk => ?_)
  · simp only [go_sem]
  · simp only [go_sem]; simp [fillR_zero]
  · simp
  · simp only [go_sem]
    repeat' (with_reducible first | refine WP_ret ?_ | refine WP_skip ?_ | refine WP_exit ?_ | refine WP_seq ?_ | refine WP_block ?_ | refine K_code ?_ | refine K_blk ?_ | refine K_code_ret ?_ | refine K_blk_ret ?_ | refine K_code_exit ?_ | refine K_blk_exit_same ?_ | refine K_blk_exit_other (by decide) ?_ | refine K_nil ?_ | refine L_ret ?_ | refine L_exit ?_ | (refine run_cons ?_; simp only [go_sem]) | (refine run_nil ?_) | (refine drun_cons ?_; simp only [go_sem]) | (refine drun_nil ?_) | (refine reg ?_) | (refine regd (by kernel_rfl) ?_) | (refine cndt ?_ ?_; (focus (simp only [go_sem]; done))) | (refine cndf ?_ ?_; (focus (simp only [go_sem]; done))) | (refine And.intro ?_ ?_; (focus omega)))
    refine cnd rfl (fun h => ?_) (fun h => ?_)
    · simp only [decide_eq_true_eq, Int.ofNat_lt] at h
      have hw := wsum_get wResult l h
      repeat' (with_reducible first | refine WP_ret ?_ | refine WP_skip ?_ | refine WP_exit ?_ | refine WP_seq ?_ | refine WP_block ?_ | refine K_code ?_ | refine K_blk ?_ | refine K_code_ret ?_ | refine K_blk_ret ?_ | refine K_code_exit ?_ | refine K_blk_exit_same ?_ | refine K_blk_exit_other (by decide) ?_ | refine K_nil ?_ | refine L_ret ?_ | refine L_exit ?_ | (refine run_cons ?_; simp only [go_sem, h]) | (refine run_nil ?_) | (refine drun_cons ?_; simp only [go_sem, h]) | (refine drun_nil ?_) | (refine reg ?_) | (refine regd (by kernel_rfl) ?_) | (refine cal (toResult_ok l[k] (by omega)) ?_ ?_ ?_; (focus (simp only [go_sem]; done)); (focus (simp only [go_sem]; done)); try simp only [go_sem, h]) | (refine cald (toResult_ok l[k] (by omega)) ?_ ?_ ?_ ?_; (focus (simp only [go_sem]; done)); (focus (simp only [go_sem]; done)); (focus (simp only [go_sem]; done)); try simp only [go_sem, h]) | (refine cndt ?_ ?_; (focus (simp only [go_sem]; done))) | (refine cndf ?_ ?_; (focus (simp only [go_sem]; done))) | (refine And.intro ?_ ?_; (focus omega)))
      refine L_next (k + 1) ?_ ?_ ?_
      · simp only [go_sem]; simp [← fillR_set, h, encResult]
      · omega
      · omega
    · simp only [decide_eq_false_iff_not] at h
      have e : k = l.length := by omega
      subst e
      repeat' (with_reducible first | refine WP_ret ?_ | refine WP_skip ?_ | refine WP_exit ?_ | refine WP_seq ?_ | refine WP_block ?_ | refine K_code ?_ | refine K_blk ?_ | refine K_code_ret ?_ | refine K_blk_ret ?_ | refine K_code_exit ?_ | refine K_blk_exit_same ?_ | refine K_blk_exit_other (by decide) ?_ | refine K_nil ?_ | refine L_ret ?_ | refine L_exit ?_ | (refine run_cons ?_; simp only [go_sem]) | (refine run_nil ?_) | (refine drun_cons ?_; simp only [go_sem]) | (refine drun_nil ?_) | (refine reg ?_) | (refine regd (by kernel_rfl) ?_) | (refine cndt ?_ ?_; (focus (simp only [go_sem]; done))) | (refine cndf ?_ ?_; (focus (simp only [go_sem]; done))) | (refine And.intro ?_ ?_; (focus omega)))
      exact retK_ret ⟨⟨_, rfl, by simp only [go_sem, fillR_all]⟩, trivial⟩
theorem toResultSd_ok (l : List TResult) (hl : wResultS l ≤ 1048576) : FnC Try.prog 63 [.o (.d (.sl (l.map encResult)))] (.o (.d (.sl (l.map encResult)))) := (toResultS_ok l hl).pure (by simp only [go_sem]) (by simp only [go_sem]) (by simp only [go_sem]) (by simp only [go_sem]) (by simp only [go_sem])
theorem eqResultS_ok (l : List TResult) (hl : wResultS l ≤ 1048576) : FnC Try.prog 66 [.o (.d (.sl (l.map encResult))), .o (.d (.sl (l.map encResult)))] (ob true) := by
  unfold wResultS at hl
  refine ent Try.func66 rfl Try.call66 rfl (fun C => ?_)
  simp only [go_sem, st0, Try.ntmps66]
  repeat' (with_reducible first | refine WP_ret ?_ | refine WP_skip ?_ | refine WP_exit ?_ | refine WP_seq ?_ | refine WP_block ?_ | refine K_code ?_ | refine K_blk ?_ | refine K_code_ret ?_ | refine K_blk_ret ?_ | refine K_code_exit ?_ | refine K_blk_exit_same ?_ | refine K_blk_exit_other (by decide) ?_ | refine K_nil ?_ | refine L_ret ?_ | refine L_exit ?_ | (refine run_cons ?_; simp only [go_sem]) | (refine run_nil ?_) | (refine drun_cons ?_; simp only [go_sem]) | (refine drun_nil ?_) | (refine reg ?_) | (refine regd (by kernel_rfl) ?_) | (refine cndt ?_ ?_; (focus (simp only [go_sem]; done))) | (refine cndf ?_ ?_; (focus (simp only [go_sem]; done))) | (refine And.intro ?_ ?_; (focus omega)))
  refine WP_lp (α := Nat) (fun k => [(5, oi k)]) (fun _ => []) (fun k => k ≤ l.length) (fun k => l.length - k) 0 (fun _ => ?_) ?_ ?_ (fun k hk => ?_)
  · simp only [go_sem]
  · simp only [go_sem]; simp
  · simp
  · simp only [go_sem]
    repeat' (with_reducible first | refine WP_ret ?_ | refine WP_skip ?_ | refine WP_exit ?_ | refine WP_seq ?_ | refine WP_block ?_ | refine K_code ?_ | refine K_blk ?_ | refine K_code_ret ?_ | refine K_blk_ret ?_ | refine K_code_exit ?_ | refine K_blk_exit_same ?_ | refine K_blk_exit_other (by decide) ?_ | refine K_nil ?_ | refine L_ret ?_ | refine L_exit ?_ | (refine run_cons ?_; simp only [go_sem]) | (refine run_nil ?_) | (refine drun_cons ?_; simp only [go_sem]) | (refine drun_nil ?_) | (refine reg ?_) | (refine regd (by kernel_rfl) ?_) | (refine cndt ?_ ?_; (focus (simp only [go_sem]; done))) | (refine cndf ?_ ?_; (focus (simp only [go_sem]; done))) | (refine And.intro ?_ ?_; (focus omega)))
    refine cnd rfl (fun h => ?_) (fun h => ?_)
    · simp only [decide_eq_true_eq, Int.ofNat_lt] at h
      have hw := wsum_get wResult l h
      repeat' (with_reducible first | refine WP_ret ?_ | refine WP_skip ?_ | refine WP_exit ?_ | refine WP_seq ?_ | refine WP_block ?_ | refine K_code ?_ | refine K_blk ?_ | refine K_code_ret ?_ | refine K_blk_ret ?_ | refine K_code_exit ?_ | refine K_blk_exit_same ?_ | refine K_blk_exit_other (by decide) ?_ | refine K_nil ?_ | refine L_ret ?_ | refine L_exit ?_ | (refine run_cons ?_; simp only [go_sem, h]) | (refine run_nil ?_) | (refine drun_cons ?_; simp only [go_sem, h]) | (refine drun_nil ?_) | (refine reg ?_) | (refine regd (by kernel_rfl) ?_) | (refine cal (eqResult_ok l[k] (by omega)) ?_ ?_ ?_; (focus (simp only [go_sem]; done)); (focus (simp only [go_sem]; done)); try simp only [go_sem, h]) | (refine cald (eqResult_ok l[k] (by omega)) ?_ ?_ ?_ ?_; (focus (simp only [go_sem]; done)); (focus (simp only [go_sem]; done)); (focus (simp only [go_sem]; done)); try simp only [go_sem, h]) | (refine cndt ?_ ?_; (focus (simp only [go_sem]; done))) | (refine cndf ?_ ?_; (focus (simp only [go_sem]; done))) | (refine And.intro ?_ ?_; (focus omega)))
      refine L_next (k + 1) ?_ ?_ ?_
      · simp only [go_sem]; simp
      · omega
      · omega
    · simp only [decide_eq_false_iff_not] at h
      repeat' (with_reducible first | refine WP_ret ?_ | refine WP_skip ?_ | refine WP_exit ?_ | refine WP_seq ?_ | refine WP_block ?_ | refine K_code ?_ | refine K_blk ?_ | refine K_code_ret ?_ | refine K_blk_ret ?_ | refine K_code_exit ?_ | refine K_blk_exit_same ?_ | refine K_blk_exit_other (by decide) ?_ | refine K_nil ?_ | refine L_ret ?_ | refine L_exit ?_ | (refine run_cons ?_; simp only [go_sem]) | (refine run_nil ?_) | (refine drun_cons ?_; simp only [go_sem]) | (refine drun_nil ?_) | (refine reg ?_) | (refine regd (by kernel_rfl) ?_) | (refine cndt ?_ ?_; (focus (simp only [go_sem]; done))) | (refine cndf ?_ ?_; (focus (simp only [go_sem]; done))) | (refine And.intro ?_ ?_; (focus omega)))
      exact retK_ret ⟨⟨_, rfl, by simp only [go_sem]⟩, trivial⟩
theorem szResultS_ok (l : List TResult) (n : Int) (h0 : 0 ≤ n ∧ n ≤ 1048576) (hw : wfResultS l) : FnC Try.prog 60 [.o (.d (.sl (l.map encResult))), oi n] (oi (szOut n (wResultS l))) := by
  unfold wfResultS at hw
  refine ent Try.func60 rfl Try.call60 rfl (fun C => ?_)
  simp only [go_sem, st0, Try.ntmps60]
  by_cases hc : n - (l.length : Nat) < 0
  · have e : szOut n (wResultS l) = -1 := by rw [szOut_neg (by unfold wResultS; omega)]
    repeat' (with_reducible first | refine WP_ret ?_ | refine WP_skip ?_ | refine WP_exit ?_ | refine WP_seq ?_ | refine WP_block ?_ | refine K_code ?_ | refine K_blk ?_ | refine K_code_ret ?_ | refine K_blk_ret ?_ | refine K_code_exit ?_ | refine K_blk_exit_same ?_ | refine K_blk_exit_other (by decide) ?_ | refine K_nil ?_ | refine L_ret ?_ | refine L_exit ?_ | (refine run_cons ?_; simp only [go_sem, hc]) | (refine run_nil ?_) | (refine drun_cons ?_; simp only [go_sem, hc]) | (refine drun_nil ?_) | (refine reg ?_) | (refine regd (by kernel_rfl) ?_) | (refine cndt ?_ ?_; (focus (simp only [go_sem]; done))) | (refine cndf ?_ ?_; (focus (simp only [go_sem]; done))) | (refine And.intro ?_ ?_; (focus omega)))
    exact retK_ret ⟨⟨_, rfl, by simp only [go_sem, e]⟩, trivial⟩
  repeat' (with_reducible first | refine WP_ret ?_ | refine WP_skip ?_ | refine WP_exit ?_ | refine WP_seq ?_ | refine WP_block ?_ | refine K_code ?_ | refine K_blk ?_ | refine K_code_ret ?_ | refine K_blk_ret ?_ | refine K_code_exit ?_ | refine K_blk_exit_same ?_ | refine K_blk_exit_other (by decide) ?_ | refine K_nil ?_ | refine L_ret ?_ | refine L_exit ?_ | (refine run_cons ?_; simp only [go_sem, hc]) | (refine run_nil ?_) | (refine drun_cons ?_; simp only [go_sem, hc]) | (refine drun_nil ?_) | (refine reg ?_) | (refine regd (by kernel_rfl) ?_) | (refine cndt ?_ ?_; (focus (simp only [go_sem]; done))) | (refine cndf ?_ ?_; (focus (simp only [go_sem]; done))) | (refine And.intro ?_ ?_; (focus omega)))
  refine WP_lp (α := Nat) (fun k => [(5, oi k), (1, oi (n - (l.length : Nat) - (wsum wResult (l.take k) : Nat)))]) (fun _ => []) (fun k => k ≤ l.length ∧ 0 ≤ n - (l.length : Nat) - (wsum wResult (l.take k) : Nat)) (fun k => l.length - k) 0 (fun _ => ?_) ?_ ?_ (fun k hk => ?_)
  · simp only [go_sem]
  · simp only [go_sem]; simp [wsum]
  · simp [wsum]; omega
  · obtain ⟨hk, hn⟩ := hk
    simp only [go_sem]
    repeat' (with_reducible first | refine WP_ret ?_ | refine WP_skip ?_ | refine WP_exit ?_ | refine WP_seq ?_ | refine WP_block ?_ | refine K_code ?_ | refine K_blk ?_ | refine K_code_ret ?_ | refine K_blk_ret ?_ | refine K_code_exit ?_ | refine K_blk_exit_same ?_ | refine K_blk_exit_other (by decide) ?_ | refine K_nil ?_ | refine L_ret ?_ | refine L_exit ?_ | (refine run_cons ?_; simp only [go_sem]) | (refine run_nil ?_) | (refine drun_cons ?_; simp only [go_sem]) | (refine drun_nil ?_) | (refine reg ?_) | (refine regd (by kernel_rfl) ?_) | (refine cndt ?_ ?_; (focus (simp only [go_sem]; done))) | (refine cndf ?_ ?_; (focus (simp only [go_sem]; done))) | (refine And.intro ?_ ?_; (focus omega)))
    refine cnd rfl (fun h => ?_) (fun h => ?_)
    · simp only [decide_eq_true_eq, Int.ofNat_lt] at h
      have hs := wsum_take wResult l h
      have ht := wsum_le wResult l (k + 1)
      by_cases h2 : n - (l.length : Nat) - (wsum wResult (l.take k) : Nat) - (wResult l[k] : Nat) < 0
      · have e : szOut n (wResultS l) = -1 := by rw [szOut_neg (by unfold wResultS; omega)]
        repeat' (with_reducible first | refine WP_ret ?_ | refine WP_skip ?_ | refine WP_exit ?_ | refine WP_seq ?_ | refine WP_block ?_ | refine K_code ?_ | refine K_blk ?_ | refine K_code_ret ?_ | refine K_blk_ret ?_ | refine K_code_exit ?_ | refine K_blk_exit_same ?_ | refine K_blk_exit_other (by decide) ?_ | refine K_nil ?_ | refine L_ret ?_ | refine L_exit ?_ | (refine run_cons ?_; simp only [go_sem, h, szOut_neg h2]) | (refine run_nil ?_) | (refine drun_cons ?_; simp only [go_sem, h, szOut_neg h2]) | (refine drun_nil ?_) | (refine reg ?_) | (refine regd (by kernel_rfl) ?_) | (refine cal (szResult_ok l[k] _ ⟨hn, by omega⟩ (hw.2 _ (List.getElem_mem h))) ?_ ?_ ?_; (focus (simp only [go_sem]; done)); (focus (simp only [go_sem]; done)); try simp only [go_sem, h, szOut_neg h2]) | (refine cald (szResult_ok l[k] _ ⟨hn, by omega⟩ (hw.2 _ (List.getElem_mem h))) ?_ ?_ ?_ ?_; (focus (simp only [go_sem]; done)); (focus (simp only [go_sem]; done)); (focus (simp only [go_sem]; done)); try simp only [go_sem, h, szOut_neg h2]) | (refine cndt ?_ ?_; (focus (simp only [go_sem]; done))) | (refine cndf ?_ ?_; (focus (simp only [go_sem]; done))) | (refine And.intro ?_ ?_; (focus omega)))
        exact retK_ret ⟨⟨_, rfl, by simp only [go_sem, e]⟩, trivial⟩
      · repeat' (with_reducible first | refine WP_ret ?_ | refine WP_skip ?_ | refine WP_exit ?_ | refine WP_seq ?_ | refine WP_block ?_ | refine K_code ?_ | refine K_blk ?_ | refine K_code_ret ?_ | refine K_blk_ret ?_ | refine K_code_exit ?_ | refine K_blk_exit_same ?_ | refine K_blk_exit_other (by decide) ?_ | refine K_nil ?_ | refine L_ret ?_ | refine L_exit ?_ | (refine run_cons ?_; simp only [go_sem, h, szOut_pos h2, h2]) | (refine run_nil ?_) | (refine drun_cons ?_; simp only [go_sem, h, szOut_pos h2, h2]) | (refine drun_nil ?_) | (refine reg ?_) | (refine regd (by kernel_rfl) ?_) | (refine cal (szResult_ok l[k] _ ⟨hn, by omega⟩ (hw.2 _ (List.getElem_mem h))) ?_ ?_ ?_; (focus (simp only [go_sem]; done)); (focus (simp only [go_sem]; done)); try simp only [go_sem, h, szOut_pos h2, h2]) | (refine cald (szResult_ok l[k] _ ⟨hn, by omega⟩ (hw.2 _ (List.getElem_mem h))) ?_ ?_ ?_ ?_; (focus (simp only [go_sem]; done)); (focus (simp only [go_sem]; done)); (focus (simp only [go_sem]; done)); try simp only [go_sem, h, szOut_pos h2, h2]) | (refine cndt ?_ ?_; (focus (simp only [go_sem]; done))) | (refine cndf ?_ ?_; (focus (simp only [go_sem]; done))) | (refine And.intro ?_ ?_; (focus omega)))
        refine L_next (k + 1) ?_ ?_ ?_
        · simp only [go_sem]; simp; omega
        · omega
        · omega
    · simp only [decide_eq_false_iff_not] at h
      have e0 : k = l.length := by omega
      subst e0
      rw [List.take_length] at hn
      have e : szOut n (wResultS l) = n - (l.length : Nat) - (wsum wResult l : Nat) := by rw [szOut_pos (by unfold wResultS; omega)]; unfold wResultS; omega
      repeat' (with_reducible first | refine WP_ret ?_ | refine WP_skip ?_ | refine WP_exit ?_ | refine WP_seq ?_ | refine WP_block ?_ | refine K_code ?_ | refine K_blk ?_ | refine K_code_ret ?_ | refine K_blk_ret ?_ | refine K_code_exit ?_ | refine K_blk_exit_same ?_ | refine K_blk_exit_other (by decide) ?_ | refine K_nil ?_ | refine L_ret ?_ | refine L_exit ?_ | (refine run_cons ?_; simp only [go_sem]) | (refine run_nil ?_) | (refine drun_cons ?_; simp only [go_sem]) | (refine drun_nil ?_) | (refine reg ?_) | (refine regd (by kernel_rfl) ?_) | (refine cndt ?_ ?_; (focus (simp only [go_sem]; done))) | (refine cndf ?_ ?_; (focus (simp only [go_sem]; done))) | (refine And.intro ?_ ?_; (focus omega)))
      exact retK_ret ⟨⟨_, rfl, by simp only [go_sem, e, List.take_length]⟩, trivial⟩
end Go.Proofs.Yteganoldfldlhaa
end

section
set_option linter.all false
set_option maxHeartbeats 1000000
namespace Go.Proofs.Yteganoldfldlhaa
open Go Go.Sx Go.RowKit Go.Proofs

structure TDiff where
  fName : ByteArray
  fAdded : List Int
  fRemoved : List Int
@[go_sem] def encDiff (x : TDiff) : List D := [sv x.fName, .sl (x.fAdded.map encI), .sl (x.fRemoved.map encI)]
@[go_sem] def gDiff (x : TDiff) : SV := .g [.d (sv x.fName), .d (.sl (x.fAdded.map encI)), .d (.sl (x.fRemoved.map encI))]
@[go_sem] def rDiff (x : TDiff) : SV := .g [.d (sv x.fName), .w 3 1 (x.fAdded.map encI), .w 3 1 (x.fRemoved.map encI)]
def wDiff (x : TDiff) : Nat := x.fName.size + x.fAdded.length + x.fRemoved.length
def wfDiff (x : TDiff) : Prop := x.fName.size ≤ 9223372036854775807 ∧ wfIntS x.fAdded ∧ wfIntS x.fRemoved
def wDiffS (l : List TDiff) : Nat := l.length + wsum wDiff l
def wfDiffS (l : List TDiff) : Prop := l.length ≤ 9223372036854775807 ∧ ∀ x ∈ l, wfDiff x
theorem decDiff {n : Nat} {r : List D} (h : ShD tt n 165 r) : ∃ x : TDiff, r = encDiff x ∧ wfDiff x := by
  match n, h with
  | n + 1, ⟨a0, b0, e0, h0, a1, b1, e1, h1, a2, b2, e2, h2, ee⟩ =>
    obtain ⟨x0, rfl, p0⟩ := decS h0
    obtain ⟨x1, rfl, p1⟩ := decIntS h1
    obtain ⟨x2, rfl, p2⟩ := decIntS h2
    have ee' : b2 = [] := ee
    subst ee' e2 e1 e0
    exact ⟨⟨x0, x1, x2⟩, rfl, p0, p1, p2⟩
theorem decDiffS {n : Nat} {r : List D} (h : ShD tt n 90 r) : ∃ l : List TDiff, r = [.sl (l.map encDiff)] ∧ wfDiffS l := by
  match n, h with
  | n + 1, ⟨rows, h, hm, hr⟩ =>
    obtain ⟨l, rfl, hl⟩ := rows_map encDiff wfDiff (fun r h => decDiff (hr r h))
    exact ⟨l, h, by unfold maxLen at hm; simpa using hm, hl⟩
theorem szDiff_ok (x : TDiff) (n : Int) (h0 : 0 ≤ n ∧ n ≤ 1048576) (hw : wfDiff x) : FnC Try.prog 128 [gDiff x, oi n] (oi (szOut n (wDiff x))) := by
  refine ent Try.func128 rfl Try.call128 rfl (fun C => ?_)
  simp only [go_sem, st0, Try.ntmps128]
  unfold wfDiff at hw
  by_cases hc0 : n - (x.fName.size : Nat) < 0
  · have e : szOut n (wDiff x) = -1 := by rw [szOut_neg (by unfold wDiff; omega)]
    repeat' (with_reducible first | refine WP_ret ?_ | refine WP_skip ?_ | refine WP_exit ?_ | refine WP_seq ?_ | refine WP_block ?_ | refine K_code ?_ | refine K_blk ?_ | refine K_code_ret ?_ | refine K_blk_ret ?_ | refine K_code_exit ?_ | refine K_blk_exit_same ?_ | refine K_blk_exit_other (by decide) ?_ | refine K_nil ?_ | refine L_ret ?_ | refine L_exit ?_ | (refine run_cons ?_; simp only [go_sem, hc0]) | (refine run_nil ?_) | (refine drun_cons ?_; simp only [go_sem, hc0]) | (refine drun_nil ?_) | (refine reg ?_) | (refine regd (by kernel_rfl) ?_) | (refine cndt ?_ ?_; (focus (simp only [go_sem]; done))) | (refine cndf ?_ ?_; (focus (simp only [go_sem]; done))) | (refine And.intro ?_ ?_; (focus omega)))
    exact retK_ret ⟨⟨_, rfl, by simp only [go_sem, e]⟩, trivial⟩
  by_cases hc1 : n - (x.fName.size : Nat) - (x.fAdded.length : Nat) < 0
  · have e : szOut n (wDiff x) = -1 := by rw [szOut_neg (by unfold wDiff; omega)]
    repeat' (with_reducible first | refine WP_ret ?_ | refine WP_skip ?_ | refine WP_exit ?_ | refine WP_seq ?_ | refine WP_block ?_ | refine K_code ?_ | refine K_blk ?_ | refine K_code_ret ?_ | refine K_blk_ret ?_ | refine K_code_exit ?_ | refine K_blk_exit_same ?_ | refine K_blk_exit_other (by decide) ?_ | refine K_nil ?_ | refine L_ret ?_ | refine L_exit ?_ | (refine run_cons ?_; simp only [go_sem, hc0, szOut_neg hc1, hc1]) | (refine run_nil ?_) | (refine drun_cons ?_; simp only [go_sem, hc0, szOut_neg hc1, hc1]) | (refine drun_nil ?_) | (refine reg ?_) | (refine regd (by kernel_rfl) ?_) | (refine cal (szIntS_ok x.fAdded (n - (x.fName.size : Nat)) (by omega) hw.2.1) ?_ ?_ ?_; (focus (simp only [go_sem]; done)); (focus (simp only [go_sem]; done)); try simp only [go_sem, hc0, szOut_neg hc1, hc1]) | (refine cald (szIntS_ok x.fAdded (n - (x.fName.size : Nat)) (by omega) hw.2.1) ?_ ?_ ?_ ?_; (focus (simp only [go_sem]; done)); (focus (simp only [go_sem]; done)); (focus (simp only [go_sem]; done)); try simp only [go_sem, hc0, szOut_neg hc1, hc1]) | (refine cndt ?_ ?_; (focus (simp only [go_sem]; done))) | (refine cndf ?_ ?_; (focus (simp only [go_sem]; done))) | (refine And.intro ?_ ?_; (focus omega)))
    exact retK_ret ⟨⟨_, rfl, by simp only [go_sem, e]⟩, trivial⟩
  by_cases hc2 : n - (x.fName.size : Nat) - (x.fAdded.length : Nat) - (x.fRemoved.length : Nat) < 0
  · have e : szOut n (wDiff x) = -1 := by rw [szOut_neg (by unfold wDiff; omega)]
    repeat' (with_reducible first | refine WP_ret ?_ | refine WP_skip ?_ | refine WP_exit ?_ | refine WP_seq ?_ | refine WP_block ?_ | refine K_code ?_ | refine K_blk ?_ | refine K_code_ret ?_ | refine K_blk_ret ?_ | refine K_code_exit ?_ | refine K_blk_exit_same ?_ | refine K_blk_exit_other (by decide) ?_ | refine K_nil ?_ | refine L_ret ?_ | refine L_exit ?_ | (refine run_cons ?_; simp only [go_sem, hc0, szOut_pos hc1, hc1, szOut_neg hc2, hc2]) | (refine run_nil ?_) | (refine drun_cons ?_; simp only [go_sem, hc0, szOut_pos hc1, hc1, szOut_neg hc2, hc2]) | (refine drun_nil ?_) | (refine reg ?_) | (refine regd (by kernel_rfl) ?_) | (refine cal (szIntS_ok x.fAdded (n - (x.fName.size : Nat)) (by omega) hw.2.1) ?_ ?_ ?_; (focus (simp only [go_sem]; done)); (focus (simp only [go_sem]; done)); try simp only [go_sem, hc0, szOut_pos hc1, hc1, szOut_neg hc2, hc2]) | (refine cald (szIntS_ok x.fAdded (n - (x.fName.size : Nat)) (by omega) hw.2.1) ?_ ?_ ?_ ?_; (focus (simp only [go_sem]; done)); (focus (simp only [go_sem]; done)); (focus (simp only [go_sem]; done)); try simp only [go_sem, hc0, szOut_pos hc1, hc1, szOut_neg hc2, hc2]) | (refine cal (szIntS_ok x.fRemoved (n - (x.fName.size : Nat) - (x.fAdded.length : Nat)) (by omega) hw.2.2) ?_ ?_ ?_; (focus (simp only [go_sem]; done)); (focus (simp only [go_sem]; done)); try simp only [go_sem, hc0, szOut_pos hc1, hc1, szOut_neg hc2, hc2]) | (refine cald (szIntS_ok x.fRemoved (n - (x.fName.size : Nat) - (x.fAdded.length : Nat)) (by omega) hw.2.2) ?_ ?_ ?_ ?_; (focus (simp only [go_sem]; done)); (focus (simp only [go_sem]; done)); (focus (simp only [go_sem]; done)); try simp only [go_sem, hc0, szOut_pos hc1, hc1, szOut_neg hc2, hc2]) | (refine cndt ?_ ?_; (focus (simp only [go_sem]; done))) | (refine cndf ?_ ?_; (focus (simp only [go_sem]; done))) | (refine And.intro ?_ ?_; (focus omega)))
    exact retK_ret ⟨⟨_, rfl, by simp only [go_sem, e]⟩, trivial⟩
  have e : szOut n (wDiff x) = n - (x.fName.size : Nat) - (x.fAdded.length : Nat) - (x.fRemoved.length : Nat) := by rw [szOut_pos (by unfold wDiff; omega)]; unfold wDiff; omega
  repeat' (with_reducible first | refine WP_ret ?_ | refine WP_skip ?_ | refine WP_exit ?_ | refine WP_seq ?_ | refine WP_block ?_ | refine K_code ?_ | refine K_blk ?_ | refine K_code_ret ?_ | refine K_blk_ret ?_ | refine K_code_exit ?_ | refine K_blk_exit_same ?_ | refine K_blk_exit_other (by decide) ?_ | refine K_nil ?_ | refine L_ret ?_ | refine L_exit ?_ | (refine run_cons ?_; simp only [go_sem, hc0, szOut_pos hc1, hc1, szOut_pos hc2, hc2]) | (refine run_nil ?_) | (refine drun_cons ?_; simp only [go_sem, hc0, szOut_pos hc1, hc1, szOut_pos hc2, hc2]) | (refine drun_nil ?_) | (refine reg ?_) | (refine regd (by kernel_rfl) ?_) | (refine cal (szIntS_ok x.fAdded (n - (x.fName.size : Nat)) (by omega) hw.2.1) ?_ ?_ ?_; (focus (simp only [go_sem]; done)); (focus (simp only [go_sem]; done)); try simp only [go_sem, hc0, szOut_pos hc1, hc1, szOut_pos hc2, hc2]) | (refine cald (szIntS_ok x.fAdded (n - (x.fName.size : Nat)) (by omega) hw.2.1) ?_ ?_ ?_ ?_; (focus (simp only [go_sem]; done)); (focus (simp only [go_sem]; done)); (focus (simp only [go_sem]; done)); try simp only [go_sem, hc0, szOut_pos hc1, hc1, szOut_pos hc2, hc2]) | (refine cal (szIntS_ok x.fRemoved (n - (x.fName.size : Nat) - (x.fAdded.length : Nat)) (by omega) hw.2.2) ?_ ?_ ?_; (focus (simp only [go_sem]; done)); (focus (simp only [go_sem]; done)); try simp only [go_sem, hc0, szOut_pos hc1, hc1, szOut_pos hc2, hc2]) | (refine cald (szIntS_ok x.fRemoved (n - (x.fName.size : Nat) - (x.fAdded.length : Nat)) (by omega) hw.2.2) ?_ ?_ ?_ ?_; (focus (simp only [go_sem]; done)); (focus (simp only [go_sem]; done)); (focus (simp only [go_sem]; done)); try simp only [go_sem, hc0, szOut_pos hc1, hc1, szOut_pos hc2, hc2]) | (refine cndt ?_ ?_; (focus (simp only [go_sem]; done))) | (refine cndf ?_ ?_; (focus (simp only [go_sem]; done))) | (refine And.intro ?_ ?_; (focus omega)))
  exact retK_ret ⟨⟨_, rfl, by simp only [go_sem, e]⟩, trivial⟩
theorem toDiff_ok (x : TDiff) (hx : wDiff x ≤ 1048576) : FnC Try.prog 131 [gDiff x] (rDiff x) := by
  unfold wDiff at hx
  refine ent Try.func131 rfl Try.call131 rfl (fun C => ?_)
  simp only [go_sem, st0, Try.ntmps131]
  repeat' (with_reducible first | refine WP_ret ?_ | refine WP_skip ?_ | refine WP_exit ?_ | refine WP_seq ?_ | refine WP_block ?_ | refine K_code ?_ | refine K_blk ?_ | refine K_code_ret ?_ | refine K_blk_ret ?_ | refine K_code_exit ?_ | refine K_blk_exit_same ?_ | refine K_blk_exit_other (by decide) ?_ | refine K_nil ?_ | refine L_ret ?_ | refine L_exit ?_ | (refine run_cons ?_; simp only [go_sem]) | (refine run_nil ?_) | (refine drun_cons ?_; simp only [go_sem]) | (refine drun_nil ?_) | (refine reg ?_) | (refine regd (by kernel_rfl) ?_) | (refine cal (toIntS_ok x.fAdded (by omega)) ?_ ?_ ?_; (focus (simp only [go_sem]; done)); (focus (simp only [go_sem]; done)); try simp only [go_sem]) | (refine cald (toIntS_ok x.fAdded (by omega)) ?_ ?_ ?_ ?_; (focus (simp only [go_sem]; done)); (focus (simp only [go_sem]; done)); (focus (simp only [go_sem]; done)); try simp only [go_sem]) | (refine cal (toIntS_ok x.fRemoved (by omega)) ?_ ?_ ?_; (focus (simp only [go_sem]; done)); (focus (simp only [go_sem]; done)); try simp only [go_sem]) | (refine cald (toIntS_ok x.fRemoved (by omega)) ?_ ?_ ?_ ?_; (focus (simp only [go_sem]; done)); (focus (simp only [go_sem]; done)); (focus (simp only [go_sem]; done)); try simp only [go_sem]) | (refine cndt ?_ ?_; (focus (simp only [go_sem]; done))) | (refine cndf ?_ ?_; (focus (simp only [go_sem]; done))) | (refine And.intro ?_ ?_; (focus omega)))
  exact retK_ret ⟨⟨_, rfl, by simp only [go_sem]⟩, trivial⟩
theorem toDiffd_ok (x : TDiff) (hx : wDiff x ≤ 1048576) : FnC Try.prog 131 [gDiff x] (gDiff x) := (toDiff_ok x hx).pure (by simp only [go_sem]) (by simp only [go_sem]) (by simp only [go_sem]) (by simp only [go_sem]) (by simp only [go_sem])
theorem eqDiff_ok (x : TDiff) (hx : wDiff x ≤ 1048576) : FnC Try.prog 135 [gDiff x, gDiff x] (ob true) := by
  unfold wDiff at hx
  refine ent Try.func135 rfl Try.call135 rfl (fun C => ?_)
  simp only [go_sem, st0, Try.ntmps135]
  repeat' (with_reducible first | refine WP_ret ?_ | refine WP_skip ?_ | refine WP_exit ?_ | refine WP_seq ?_ | refine WP_block ?_ | refine K_code ?_ | refine K_blk ?_ | refine K_code_ret ?_ | refine K_blk_ret ?_ | refine K_code_exit ?_ | refine K_blk_exit_same ?_ | refine K_blk_exit_other (by decide) ?_ | refine K_nil ?_ | refine L_ret ?_ | refine L_exit ?_ | (refine run_cons ?_; simp only [go_sem]) | (refine run_nil ?_) | (refine drun_cons ?_; simp only [go_sem]) | (refine drun_nil ?_) | (refine reg ?_) | (refine regd (by kernel_rfl) ?_) | (refine cal (eqIntS_ok x.fAdded (by omega)) ?_ ?_ ?_; (focus (simp only [go_sem]; done)); (focus (simp only [go_sem]; done)); try simp only [go_sem]) | (refine cald (eqIntS_ok x.fAdded (by omega)) ?_ ?_ ?_ ?_; (focus (simp only [go_sem]; done)); (focus (simp only [go_sem]; done)); (focus (simp only [go_sem]; done)); try simp only [go_sem]) | (refine cal (eqIntS_ok x.fRemoved (by omega)) ?_ ?_ ?_; (focus (simp only [go_sem]; done)); (focus (simp only [go_sem]; done)); try simp only [go_sem]) | (refine cald (eqIntS_ok x.fRemoved (by omega)) ?_ ?_ ?_ ?_; (focus (simp only [go_sem]; done)); (focus (simp only [go_sem]; done)); (focus (simp only [go_sem]; done)); try simp only [go_sem]) | (refine cndt ?_ ?_; (focus (simp only [go_sem]; done))) | (refine cndf ?_ ?_; (focus (simp only [go_sem]; done))) | (refine And.intro ?_ ?_; (focus omega)))
  exact retK_ret ⟨⟨_, rfl, by simp only [go_sem]⟩, trivial⟩
theorem toDiffS_ok (l : List TDiff) (hl : wDiffS l ≤ 1048576) : FnC Try.prog 64 [.o (.d (.sl (l.map encDiff)))] (.o (.w 167 3 (l.map encDiff))) := by
  unfold wDiffS at hl
  refine ent Try.func64 rfl Try.call64 rfl (fun C => ?_)
  simp only [go_sem, st0, Try.ntmps64]
  repeat' (with_reducible first | refine WP_ret ?_ | refine WP_skip ?_ | refine WP_exit ?_ | refine WP_seq ?_ | refine WP_block ?_ | refine K_code ?_ | refine K_blk ?_ | refine K_code_ret ?_ | refine K_blk_ret ?_ | refine K_code_exit ?_ | refine K_blk_exit_same ?_ | refine K_blk_exit_other (by decide) ?_ | refine K_nil ?_ | refine L_ret ?_ | refine L_exit ?_ | (refine run_cons ?_; simp only [go_sem]) | (refine run_nil ?_) | (refine drun_cons ?_; simp only [go_sem]) | (refine drun_nil ?_) | (refine reg ?_) | (refine regd (by kernel_rfl) ?_) | (refine cndt ?_ ?_; (focus (simp only [go_sem]; done))) | (refine cndf ?_ ?_; (focus (simp only [go_sem]; done))) | (refine And.intro ?_ ?_; (focus omega)))
  refine WP_lp (α := Nat) (fun k => [(4, oi k)]) (fun k => [(0, .row 167 3 (fillR encDiff [sv ⟨#[]⟩, .sl [], .sl []] l k) true)]) (fun k => k ≤ l.length) (fun k => l.length - k) 0 (fun _ => ?_) ?_ ?_ (fun k hk => ?_)
  · simp only [go_sem]
  · simp only [go_sem]; simp [fillR_zero]
  · simp
  · simp only [go_sem]
    repeat' (with_reducible first | refine WP_ret ?_ | refine WP_skip ?_ | refine WP_exit ?_ | refine WP_seq ?_ | refine WP_block ?_ | refine K_code ?_ | refine K_blk ?_ | refine K_code_ret ?_ | refine K_blk_ret ?_ | refine K_code_exit ?_ | refine K_blk_exit_same ?_ | refine K_blk_exit_other (by decide) ?_ | refine K_nil ?_ | refine L_ret ?_ | refine L_exit ?_ | (refine run_cons ?_; simp only [go_sem]) | (refine run_nil ?_) | (refine drun_cons ?_; simp only [go_sem]) | (refine drun_nil ?_) | (refine reg ?_) | (refine regd (by kernel_rfl) ?_) | (refine cndt ?_ ?_; (focus (simp only [go_sem]; done))) | (refine cndf ?_ ?_; (focus (simp only [go_sem]; done))) | (refine And.intro ?_ ?_; (focus omega)))
    refine cnd rfl (fun h => ?_) (fun h => ?_)
    · simp only [decide_eq_true_eq, Int.ofNat_lt] at h
      have hw := wsum_get wDiff l h
      repeat' (with_reducible first | refine WP_ret ?_ | refine WP_skip ?_ | refine WP_exit ?_ | refine WP_seq ?_ | refine WP_block ?_ | refine K_code ?_ | refine K_blk ?_ | refine K_code_ret ?_ | refine K_blk_ret ?_ | refine K_code_exit ?_ | refine K_blk_exit_same ?_ | refine K_blk_exit_other (by decide) ?_ | refine K_nil ?_ | refine L_ret ?_ | refine L_exit ?_ | (refine run_cons ?_; simp only [go_sem, h]) | (refine run_nil ?_) | (refine drun_cons ?_; simp only [go_sem, h]) | (refine drun_nil ?_) | (refine reg ?_) | (refine regd (by kernel_rfl) ?_) | (refine cal (toDiff_ok l[k] (by omega)) ?_ ?_ ?_; (focus (simp only [go_sem]; done)); (focus (simp only [go_sem]; done)); try simp only [go_sem, h]) | (refine cald (toDiff_ok l[k] (by omega)) ?_ ?_ ?_ ?_; (focus (simp only [go_sem]; done)); (focus (simp only [go_sem]; done)); (focus (simp only [go_sem]; done)); try simp only [go_sem, h]) | (refine cndt ?_ ?_; (focus (simp only [go_sem]; done))) | (refine cndf ?_ ?_; (focus (simp only [go_sem]; done))) | (refine And.intro ?_ ?_; (focus omega)))
      refine L_next (k + 1) ?_ ?_ ?_
      · simp only [go_sem]; simp [← fillR_set, h, encDiff]
      · omega
      · omega
    · simp only [decide_eq_false_iff_not] at h
      have e : k = l.length := by omega
      subst e
      repeat' (with_reducible first | refine WP_ret ?_ | refine WP_skip ?_ | refine WP_exit ?_ | refine WP_seq ?_ | refine WP_block ?_ | refine K_code ?_ | refine K_blk ?_ | refine K_code_ret ?_ | refine K_blk_ret ?_ | refine K_code_exit ?_ | refine K_blk_exit_same ?_ | refine K_blk_exit_other (by decide) ?_ | refine K_nil ?_ | refine L_ret ?_ | refine L_exit ?_ | (refine run_cons ?_; simp only [go_sem]) | (refine run_nil ?_) | (refine drun_cons ?_; simp only [go_sem]) | (refine drun_nil ?_) | (refine reg ?_) | (refine regd (by kernel_rfl) ?_) | (refine cndt ?_ ?_; (focus (simp only [go_sem]; done))) | (refine cndf ?_ ?_; (focus (simp only [go_sem]; done))) | (refine And.intro ?_ ?_; (focus omega)))
      exact retK_ret ⟨⟨_, rfl, by simp only [go_sem, fillR_all]⟩, trivial⟩
theorem toDiffSd_ok (l : List TDiff) (hl : wDiffS l ≤ 1048576) : FnC Try.prog 64 [.o (.d (.sl (l.map encDiff)))] (.o (.d (.sl (l.map encDiff)))) := (toDiffS_ok l hl).pure (by simp only [go_sem]) (by simp only [go_sem]) (by simp only [go_sem]) (by simp only [go_sem]) (by simp only [go_sem])
theorem eqDiffS_ok (l : List TDiff) (hl : wDiffS l ≤ 1048576) : FnC Try.prog 67 [.o (.d (.sl (l.map encDiff))), .o (.d (.sl (l.map encDiff)))] (ob true) := by
  unfold wDiffS at hl
  refine ent Try.func67 rfl Try.call67 rfl (fun C => ?_)
  simp only [go_sem, st0, Try.ntmps67]
  repeat' (with_reducible first | refine WP_ret ?_ | refine WP_skip ?_ | refine WP_exit ?_ | refine WP_seq ?_ | refine WP_block ?_ | refine K_code ?_ | refine K_blk ?_ | refine K_code_ret ?_ | refine K_blk_ret ?_ | refine K_code_exit ?_ | refine K_blk_exit_same ?_ | refine K_blk_exit_other (by decide) ?_ | refine K_nil ?_ | refine L_ret ?_ | refine L_exit ?_ | (refine run_cons ?_; simp only [go_sem]) | (refine run_nil ?_) | (refine drun_cons ?_; simp only [go_sem]) | (refine drun_nil ?_) | (refine reg ?_) | (refine regd (by kernel_rfl) ?_) | (refine cndt ?_ ?_; (focus (simp only [go_sem]; done))) | (refine cndf ?_ ?_; (focus (simp only [go_sem]; done))) | (refine And.intro ?_ ?_; (focus omega)))
  refine WP_lp (α := Nat) (fun k => [(5, oi k)]) (fun _ => []) (fun k => k ≤ l.length) (fun k => l.length - k) 0 (fun _ => ?_) ?_ ?_ (fun k hk => ?_)
  · simp only [go_sem]
  · simp only [go_sem]; simp
  · simp
  · simp only [go_sem]
    repeat' (with_reducible first | refine WP_ret ?_ | refine WP_skip ?_ | refine WP_exit ?_ | refine WP_seq ?_ | refine WP_block ?_ | refine K_code ?_ | refine K_blk ?_ | refine K_code_ret ?_ | refine K_blk_ret ?_ | refine K_code_exit ?_ | refine K_blk_exit_same ?_ | refine K_blk_exit_other (by decide) ?_ | refine K_nil ?_ | refine L_ret ?_ | refine L_exit ?_ | (refine run_cons ?_; simp only [go_sem]) | (refine run_nil ?_) | (refine drun_cons ?_; simp only [go_sem]) | (refine drun_nil ?_) | (refine reg ?_) | (refine regd (by kernel_rfl) ?_) | (refine cndt ?_ ?_; (focus (simp only [go_sem]; done))) | (refine cndf ?_ ?_; (focus (simp only [go_sem]; done))) | (refine And.intro ?_ ?_; (focus omega)))
    refine cnd rfl (fun h => ?_) (fun h => ?_)
    · simp only [decide_eq_true_eq, Int.ofNat_lt] at h
      have hw := wsum_get wDiff l h
      repeat' (with_reducible first | refine WP_ret ?_ | refine WP_skip ?_ | refine WP_exit ?_ | refine WP_seq ?_ | refine WP_block ?_ | refine K_code ?_ | refine K_blk ?_ | refine K_code_ret ?_ | refine K_blk_ret ?_ | refine K_code_exit ?_ | refine K_blk_exit_same ?_ | refine K_blk_exit_other (by decide) ?_ | refine K_nil ?_ | refine L_ret ?_ | refine L_exit ?_ | (refine run_cons ?_; simp only [go_sem, h]) | (refine run_nil ?_) | (refine drun_cons ?_; simp only [go_sem, h]) | (refine drun_nil ?_) | (refine reg ?_) | (refine regd (by kernel_rfl) ?_) | (refine cal (eqDiff_ok l[k] (by omega)) ?_ ?_ ?_; (focus (simp only [go_sem]; done)); (focus (simp only [go_sem]; done)); try simp only [go_sem, h]) | (refine cald (eqDiff_ok l[k] (by omega)) ?_ ?_ ?_ ?_; (focus (simp only [go_sem]; done)); (focus (simp only [go_sem]; done)); (focus (simp only [go_sem]; done)); try simp only [go_sem, h]) | (refine cndt ?_ ?_; (focus (simp only [go_sem]; done))) | (refine cndf ?_ ?_; (focus (simp only [go_sem]; done))) | (refine And.intro ?_ ?_; (focus omega)))
      refine L_next (k + 1) ?_ ?_ ?_
      · simp only [go_sem]; simp
      · omega
      · omega
    · simp only [decide_eq_false_iff_not] at h
      repeat' (with_reducible first | refine WP_ret ?_ | refine WP_skip ?_ | refine WP_exit ?_ | refine WP_seq ?_ | refine WP_block ?_ | refine K_code ?_ | refine K_blk ?_ | refine K_code_ret ?_ | refine K_blk_ret ?_ | refine K_code_exit ?_ | refine K_blk_exit_same ?_ | refine K_blk_exit_other (by decide) ?_ | refine K_nil ?_ | refine L_ret ?_ | refine L_exit ?_ | (refine run_cons ?_; simp only [go_sem]) | (refine run_nil ?_) | (refine drun_cons ?_; simp only [go_sem]) | (refine drun_nil ?_) | (refine reg ?_) | (refine regd (by kernel_rfl) ?_) | (refine cndt ?_ ?_; (focus (simp only [go_sem]; done))) | (refine cndf ?_ ?_; (focus (simp only [go_sem]; done))) | (refine And.intro ?_ ?_; (focus omega)))
      exact retK_ret ⟨⟨_, rfl, by simp only [go_sem]⟩, trivial⟩
theorem szDiffS_ok (l : List TDiff) (n : Int) (h0 : 0 ≤ n ∧ n ≤ 1048576) (hw : wfDiffS l) : FnC Try.prog 61 [.o (.d (.sl (l.map encDiff))), oi n] (oi (szOut n (wDiffS l))) := by
  unfold wfDiffS at hw
  refine ent Try.func61 rfl Try.call61 rfl (fun C => ?_)
  simp only [go_sem, st0, Try.ntmps61]
  by_cases hc : n - (l.length : Nat) < 0
  · have e : szOut n (wDiffS l) = -1 := by rw [szOut_neg (by unfold wDiffS; omega)]
    repeat' (with_reducible first | refine WP_ret ?_ | refine WP_skip ?_ | refine WP_exit ?_ | refine WP_seq ?_ | refine WP_block ?_ | refine K_code ?_ | refine K_blk ?_ | refine K_code_ret ?_ | refine K_blk_ret ?_ | refine K_code_exit ?_ | refine K_blk_exit_same ?_ | refine K_blk_exit_other (by decide) ?_ | refine K_nil ?_ | refine L_ret ?_ | refine L_exit ?_ | (refine run_cons ?_; simp only [go_sem, hc]) | (refine run_nil ?_) | (refine drun_cons ?_; simp only [go_sem, hc]) | (refine drun_nil ?_) | (refine reg ?_) | (refine regd (by kernel_rfl) ?_) | (refine cndt ?_ ?_; (focus (simp only [go_sem]; done))) | (refine cndf ?_ ?_; (focus (simp only [go_sem]; done))) | (refine And.intro ?_ ?_; (focus omega)))
    exact retK_ret ⟨⟨_, rfl, by simp only [go_sem, e]⟩, trivial⟩
  repeat' (with_reducible first | refine WP_ret ?_ | refine WP_skip ?_ | refine WP_exit ?_ | refine WP_seq ?_ | refine WP_block ?_ | refine K_code ?_ | refine K_blk ?_ | refine K_code_ret ?_ | refine K_blk_ret ?_ | refine K_code_exit ?_ | refine K_blk_exit_same ?_ | refine K_blk_exit_other (by decide) ?_ | refine K_nil ?_ | refine L_ret ?_ | refine L_exit ?_ | (refine run_cons ?_; simp only [go_sem, hc]) | (refine run_nil ?_) | (refine drun_cons ?_; simp only [go_sem, hc]) | (refine drun_nil ?_) | (refine reg ?_) | (refine regd (by kernel_rfl) ?_) | (refine cndt ?_ ?_; (focus (simp only [go_sem]; done))) | (refine cndf ?_ ?_; (focus (simp only [go_sem]; done))) | (refine And.intro ?_ ?_; (focus omega)))
  refine WP_lp (α := Nat) (fun k => [(5, oi k), (1, oi (n - (l.length : Nat) - (wsum wDiff (l.take k) : Nat)))]) (fun _ => []) (fun k => k ≤ l.length ∧ 0 ≤ n - (l.length : Nat) - (wsum wDiff (l.take k) : Nat)) (fun k => l.length - k) 0 (fun _ => ?_) ?_ ?_ (fun k hk => ?_)
  · simp only [go_sem]
  · simp only [go_sem]; simp [wsum]
  · simp [wsum]; omega
  · obtain ⟨hk, hn⟩ := hk
    simp only [go_sem]
    repeat' (with_reducible first | refine WP_ret ?_ | refine WP_skip ?_ | refine WP_exit ?_ | refine WP_seq ?_ | refine WP_block ?_ | refine K_code ?_ | refine K_blk ?_ | refine K_code_ret ?_ | refine K_blk_ret ?_ | refine K_code_exit ?_ | refine K_blk_exit_same ?_ | refine K_blk_exit_other (by decide) ?_ | refine K_nil ?_ | refine L_ret ?_ | refine L_exit ?_ | (refine run_cons ?_; simp only [go_sem]) | (refine run_nil ?_) | (refine drun_cons ?_; simp only [go_sem]) | (refine drun_nil ?_) | (refine reg ?_) | (refine regd (by kernel_rfl) ?_) | (refine cndt ?_ ?_; (focus (simp only [go_sem]; done))) | (refine cndf ?_ ?_; (focus (simp only [go_sem]; done))) | (refine And.intro ?_ ?_; (focus omega)))
    refine cnd rfl (fun h => ?_) (fun h => ?_)
    · simp only [decide_eq_true_eq, Int.ofNat_lt] at h
      have hs := wsum_take wDiff l h
      have ht := wsum_le wDiff l (k + 1)
      by_cases h2 : n - (l.length : Nat) - (wsum wDiff (l.take k) : Nat) - (wDiff l[k] : Nat) < 0
      · have e : szOut n (wDiffS l) = -1 := by rw [szOut_neg (by unfold wDiffS; omega)]
        repeat' (with_reducible first | refine WP_ret ?_ | refine WP_skip ?_ | refine WP_exit ?_ | refine WP_seq ?_ | refine WP_block ?_ | refine K_code ?_ | refine K_blk ?_ | refine K_code_ret ?_ | refine K_blk_ret ?_ | refine K_code_exit ?_ | refine K_blk_exit_same ?_ | refine K_blk_exit_other (by decide) ?_ | refine K_nil ?_ | refine L_ret ?_ | refine L_exit ?_ | (refine run_cons ?_; simp only [go_sem, h, szOut_neg h2]) | (refine run_nil ?_) | (refine drun_cons ?_; simp only [go_sem, h, szOut_neg h2]) | (refine drun_nil ?_) | (refine reg ?_) | (refine regd (by kernel_rfl) ?_) | (refine cal (szDiff_ok l[k] _ ⟨hn, by omega⟩ (hw.2 _ (List.getElem_mem h))) ?_ ?_ ?_; (focus (simp only [go_sem]; done)); (focus (simp only [go_sem]; done)); try simp only [go_sem, h, szOut_neg h2]) | (refine cald (szDiff_ok l[k] _ ⟨hn, by omega⟩ (hw.2 _ (List.getElem_mem h))) ?_ ?_ ?_ ?_; (focus (simp only [go_sem]; done)); (focus (simp only [go_sem]; done)); (focus (simp only [go_sem]; done)); try simp only [go_sem, h, szOut_neg h2]) | (refine cndt ?_ ?_; (focus (simp only [go_sem]; done))) | (refine cndf ?_ ?_; (focus (simp only [go_sem]; done))) | (refine And.intro ?_ ?_; (focus omega)))
        exact retK_ret ⟨⟨_, rfl, by simp only [go_sem, e]⟩, trivial⟩
      · repeat' (with_reducible first | refine WP_ret ?_ | refine WP_skip ?_ | refine WP_exit ?_ | refine WP_seq ?_ | refine WP_block ?_ | refine K_code ?_ | refine K_blk ?_ | refine K_code_ret ?_ | refine K_blk_ret ?_ | refine K_code_exit ?_ | refine K_blk_exit_same ?_ | refine K_blk_exit_other (by decide) ?_ | refine K_nil ?_ | refine L_ret ?_ | refine L_exit ?_ | (refine run_cons ?_; simp only [go_sem, h, szOut_pos h2, h2]) | (refine run_nil ?_) | (refine drun_cons ?_; simp only [go_sem, h, szOut_pos h2, h2]) | (refine drun_nil ?_) | (refine reg ?_) | (refine regd (by kernel_rfl) ?_) | (refine cal (szDiff_ok l[k] _ ⟨hn, by omega⟩ (hw.2 _ (List.getElem_mem h))) ?_ ?_ ?_; (focus (simp only [go_sem]; done)); (focus (simp only [go_sem]; done)); try simp only [go_sem, h, szOut_pos h2, h2]) | (refine cald (szDiff_ok l[k] _ ⟨hn, by omega⟩ (hw.2 _ (List.getElem_mem h))) ?_ ?_ ?_ ?_; (focus (simp only [go_sem]; done)); (focus (simp only [go_sem]; done)); (focus (simp only [go_sem]; done)); try simp only [go_sem, h, szOut_pos h2, h2]) | (refine cndt ?_ ?_; (focus (simp only [go_sem]; done))) | (refine cndf ?_ ?_; (focus (simp only [go_sem]; done))) | (refine And.intro ?_ ?_; (focus omega)))
        refine L_next (k + 1) ?_ ?_ ?_
        · simp only [go_sem]; simp; omega
        · omega
        · omega
    · simp only [decide_eq_false_iff_not] at h
      have e0 : k = l.length := by omega
      subst e0
      rw [List.take_length] at hn
      have e : szOut n (wDiffS l) = n - (l.length : Nat) - (wsum wDiff l : Nat) := by rw [szOut_pos (by unfold wDiffS; omega)]; unfold wDiffS; omega
      repeat' (with_reducible first | refine WP_ret ?_ | refine WP_skip ?_ | refine WP_exit ?_ | refine WP_seq ?_ | refine WP_block ?_ | refine K_code ?_ | refine K_blk ?_ | refine K_code_ret ?_ | refine K_blk_ret ?_ | refine K_code_exit ?_ | refine K_blk_exit_same ?_ | refine K_blk_exit_other (by decide) ?_ | refine K_nil ?_ | refine L_ret ?_ | refine L_exit ?_ | (refine run_cons ?_; simp only [go_sem]) | (refine run_nil ?_) | (refine drun_cons ?_; simp only [go_sem]) | (refine drun_nil ?_) | (refine reg ?_) | (refine regd (by kernel_rfl) ?_) | (refine cndt ?_ ?_; (focus (simp only [go_sem]; done))) | (refine cndf ?_ ?_; (focus (simp only [go_sem]; done))) | (refine And.intro ?_ ?_; (focus omega)))
      exact retK_ret ⟨⟨_, rfl, by simp only [go_sem, e, List.take_length]⟩, trivial⟩
end Go.Proofs.Yteganoldfldlhaa
end

section
set_option linter.all false
set_option maxHeartbeats 1000000
namespace Go.Proofs.Yteganoldfldlhaa
open Go Go.Sx Go.RowKit Go.Proofs

structure TCatalog where
  fStore : TStore
  fDirs : List TDir
  fResults : List TResult
@[go_sem] def encCatalog (x : TCatalog) : List D := [.sl (x.fStore.fSchema.map encField), .sl (x.fStore.fFiles.map encFile), iv x.fStore.fNextID, .sl (x.fDirs.map encDir), .sl (x.fResults.map encResult)]
@[go_sem] def gCatalog (x : TCatalog) : SV := .g [.d (.sl (x.fStore.fSchema.map encField)), .d (.sl (x.fStore.fFiles.map encFile)), .d (iv x.fStore.fNextID), .d (.sl (x.fDirs.map encDir)), .d (.sl (x.fResults.map encResult))]
@[go_sem] def rCatalog (x : TCatalog) : SV := .g [.w 202 2 (x.fStore.fSchema.map encField), .w 68 5 (x.fStore.fFiles.map encFile), .d (iv x.fStore.fNextID), .w 126 2 (x.fDirs.map encDir), .w 166 2 (x.fResults.map encResult)]
def wCatalog (x : TCatalog) : Nat := wStore x.fStore + wDirS x.fDirs + wResultS x.fResults
def wfCatalog (x : TCatalog) : Prop := wfStore x.fStore ∧ wfDirS x.fDirs ∧ wfResultS x.fResults
def wCatalogS (l : List TCatalog) : Nat := l.length + wsum wCatalog l
def wfCatalogS (l : List TCatalog) : Prop := l.length ≤ 9223372036854775807 ∧ ∀ x ∈ l, wfCatalog x
end Go.Proofs.Yteganoldfldlhaa
end

section
set_option linter.all false
set_option maxHeartbeats 1000000
namespace Go.Proofs.Yteganoldfldlhaa
open Go Go.Sx Go.RowKit Go.Proofs

structure TGroup where
  fValue : TValue
  fIDs : List Int
@[go_sem] def encGroup (x : TGroup) : List D := [iv x.fValue.fKind, iv x.fValue.fInt, sv x.fValue.fStr, .sl (x.fIDs.map encI)]
@[go_sem] def gGroup (x : TGroup) : SV := .g [.d (iv x.fValue.fKind), .d (iv x.fValue.fInt), .d (sv x.fValue.fStr), .d (.sl (x.fIDs.map encI))]
@[go_sem] def rGroup (x : TGroup) : SV := .g [.d (iv x.fValue.fKind), .d (iv x.fValue.fInt), .d (sv x.fValue.fStr), .w 3 1 (x.fIDs.map encI)]
def wGroup (x : TGroup) : Nat := wValue x.fValue + x.fIDs.length
def wfGroup (x : TGroup) : Prop := wfValue x.fValue ∧ wfIntS x.fIDs
def wGroupS (l : List TGroup) : Nat := l.length + wsum wGroup l
def wfGroupS (l : List TGroup) : Prop := l.length ≤ 9223372036854775807 ∧ ∀ x ∈ l, wfGroup x
theorem decGroup {n : Nat} {r : List D} (h : ShD tt n 115 r) : ∃ x : TGroup, r = encGroup x ∧ wfGroup x := by
  match n, h with
  | n + 1, ⟨a0, b0, e0, h0, a1, b1, e1, h1, ee⟩ =>
    obtain ⟨x0, rfl, p0⟩ := decValue h0
    obtain ⟨x1, rfl, p1⟩ := decIntS h1
    have ee' : b1 = [] := ee
    subst ee' e1 e0
    exact ⟨⟨x0, x1⟩, rfl, p0, p1⟩
theorem decGroupS {n : Nat} {r : List D} (h : ShD tt n 22 r) : ∃ l : List TGroup, r = [.sl (l.map encGroup)] ∧ wfGroupS l := by
  match n, h with
  | n + 1, ⟨rows, h, hm, hr⟩ =>
    obtain ⟨l, rfl, hl⟩ := rows_map encGroup wfGroup (fun r h => decGroup (hr r h))
    exact ⟨l, h, by unfold maxLen at hm; simpa using hm, hl⟩
theorem szGroup_ok (x : TGroup) (n : Int) (h0 : 0 ≤ n ∧ n ≤ 1048576) (hw : wfGroup x) : FnC Try.prog 83 [gGroup x, oi n] (oi (szOut n (wGroup x))) := by
  refine ent Try.func83 rfl Try.call83 rfl (fun C => ?_)
  simp only [go_sem, st0, Try.ntmps83]
  unfold wfGroup at hw
  by_cases hc0 : n - (wValue x.fValue : Nat) < 0
  · have e : szOut n (wGroup x) = -1 := by rw [szOut_neg (by unfold wGroup; omega)]
    repeat' (with_reducible first | refine WP_ret ?_ | refine WP_skip ?_ | refine WP_exit ?_ | refine WP_seq ?_ | refine WP_block ?_ | refine K_code ?_ | refine K_blk ?_ | refine K_code_ret ?_ | refine K_blk_ret ?_ | refine K_code_exit ?_ | refine K_blk_exit_same ?_ | refine K_blk_exit_other (by decide) ?_ | refine K_nil ?_ | refine L_ret ?_ | refine L_exit ?_ | (refine run_cons ?_; simp only [go_sem, szOut_neg hc0, hc0]) | (refine run_nil ?_) | (refine drun_cons ?_; simp only [go_sem, szOut_neg hc0, hc0]) | (refine drun_nil ?_) | (refine reg ?_) | (refine regd (by kernel_rfl) ?_) | (refine cal (szValue_ok x.fValue (n) (by omega) hw.1) ?_ ?_ ?_; (focus (simp only [go_sem]; done)); (focus (simp only [go_sem]; done)); try simp only [go_sem, szOut_neg hc0, hc0]) | (refine cald (szValue_ok x.fValue (n) (by omega) hw.1) ?_ ?_ ?_ ?_; (focus (simp only [go_sem]; done)); (focus (simp only [go_sem]; done)); (focus (simp only [go_sem]; done)); try simp only [go_sem, szOut_neg hc0, hc0]) | (refine cndt ?_ ?_; (focus (simp only [go_sem]; done))) | (refine cndf ?_ ?_; (focus (simp only [go_sem]; done))) | (refine And.intro ?_ ?_; (focus omega)))
    exact retK_ret ⟨⟨_, rfl, by simp only [go_sem, e]⟩, trivial⟩
  by_cases hc1 : n - (wValue x.fValue : Nat) - (x.fIDs.length : Nat) < 0
  · have e : szOut n (wGroup x) = -1 := by rw [szOut_neg (by unfold wGroup; omega)]
    repeat' (with_reducible first | refine WP_ret ?_ | refine WP_skip ?_ | refine WP_exit ?_ | refine WP_seq ?_ | refine WP_block ?_ | refine K_code ?_ | refine K_blk ?_ | refine K_code_ret ?_ | refine K_blk_ret ?_ | refine K_code_exit ?_ | refine K_blk_exit_same ?_ | refine K_blk_exit_other (by decide) ?_ | refine K_nil ?_ | refine L_ret ?_ | refine L_exit ?_ | (refine run_cons ?_; simp only [go_sem, szOut_pos hc0, hc0, szOut_neg hc1, hc1]) | (refine run_nil ?_) | (refine drun_cons ?_; simp only [go_sem, szOut_pos hc0, hc0, szOut_neg hc1, hc1]) | (refine drun_nil ?_) | (refine reg ?_) | (refine regd (by kernel_rfl) ?_) | (refine cal (szValue_ok x.fValue (n) (by omega) hw.1) ?_ ?_ ?_; (focus (simp only [go_sem]; done)); (focus (simp only [go_sem]; done)); try simp only [go_sem, szOut_pos hc0, hc0, szOut_neg hc1, hc1]) | (refine cald (szValue_ok x.fValue (n) (by omega) hw.1) ?_ ?_ ?_ ?_; (focus (simp only [go_sem]; done)); (focus (simp only [go_sem]; done)); (focus (simp only [go_sem]; done)); try simp only [go_sem, szOut_pos hc0, hc0, szOut_neg hc1, hc1]) | (refine cal (szIntS_ok x.fIDs (n - (wValue x.fValue : Nat)) (by omega) hw.2) ?_ ?_ ?_; (focus (simp only [go_sem]; done)); (focus (simp only [go_sem]; done)); try simp only [go_sem, szOut_pos hc0, hc0, szOut_neg hc1, hc1]) | (refine cald (szIntS_ok x.fIDs (n - (wValue x.fValue : Nat)) (by omega) hw.2) ?_ ?_ ?_ ?_; (focus (simp only [go_sem]; done)); (focus (simp only [go_sem]; done)); (focus (simp only [go_sem]; done)); try simp only [go_sem, szOut_pos hc0, hc0, szOut_neg hc1, hc1]) | (refine cndt ?_ ?_; (focus (simp only [go_sem]; done))) | (refine cndf ?_ ?_; (focus (simp only [go_sem]; done))) | (refine And.intro ?_ ?_; (focus omega)))
    exact retK_ret ⟨⟨_, rfl, by simp only [go_sem, e]⟩, trivial⟩
  have e : szOut n (wGroup x) = n - (wValue x.fValue : Nat) - (x.fIDs.length : Nat) := by rw [szOut_pos (by unfold wGroup; omega)]; unfold wGroup; omega
  repeat' (with_reducible first | refine WP_ret ?_ | refine WP_skip ?_ | refine WP_exit ?_ | refine WP_seq ?_ | refine WP_block ?_ | refine K_code ?_ | refine K_blk ?_ | refine K_code_ret ?_ | refine K_blk_ret ?_ | refine K_code_exit ?_ | refine K_blk_exit_same ?_ | refine K_blk_exit_other (by decide) ?_ | refine K_nil ?_ | refine L_ret ?_ | refine L_exit ?_ | (refine run_cons ?_; simp only [go_sem, szOut_pos hc0, hc0, szOut_pos hc1, hc1]) | (refine run_nil ?_) | (refine drun_cons ?_; simp only [go_sem, szOut_pos hc0, hc0, szOut_pos hc1, hc1]) | (refine drun_nil ?_) | (refine reg ?_) | (refine regd (by kernel_rfl) ?_) | (refine cal (szValue_ok x.fValue (n) (by omega) hw.1) ?_ ?_ ?_; (focus (simp only [go_sem]; done)); (focus (simp only [go_sem]; done)); try simp only [go_sem, szOut_pos hc0, hc0, szOut_pos hc1, hc1]) | (refine cald (szValue_ok x.fValue (n) (by omega) hw.1) ?_ ?_ ?_ ?_; (focus (simp only [go_sem]; done)); (focus (simp only [go_sem]; done)); (focus (simp only [go_sem]; done)); try simp only [go_sem, szOut_pos hc0, hc0, szOut_pos hc1, hc1]) | (refine cal (szIntS_ok x.fIDs (n - (wValue x.fValue : Nat)) (by omega) hw.2) ?_ ?_ ?_; (focus (simp only [go_sem]; done)); (focus (simp only [go_sem]; done)); try simp only [go_sem, szOut_pos hc0, hc0, szOut_pos hc1, hc1]) | (refine cald (szIntS_ok x.fIDs (n - (wValue x.fValue : Nat)) (by omega) hw.2) ?_ ?_ ?_ ?_; (focus (simp only [go_sem]; done)); (focus (simp only [go_sem]; done)); (focus (simp only [go_sem]; done)); try simp only [go_sem, szOut_pos hc0, hc0, szOut_pos hc1, hc1]) | (refine cndt ?_ ?_; (focus (simp only [go_sem]; done))) | (refine cndf ?_ ?_; (focus (simp only [go_sem]; done))) | (refine And.intro ?_ ?_; (focus omega)))
  exact retK_ret ⟨⟨_, rfl, by simp only [go_sem, e]⟩, trivial⟩
theorem toGroup_ok (x : TGroup) (hx : wGroup x ≤ 1048576) : FnC Try.prog 84 [gGroup x] (rGroup x) := by
  unfold wGroup at hx
  refine ent Try.func84 rfl Try.call84 rfl (fun C => ?_)
  simp only [go_sem, st0, Try.ntmps84]
  repeat' (with_reducible first | refine WP_ret ?_ | refine WP_skip ?_ | refine WP_exit ?_ | refine WP_seq ?_ | refine WP_block ?_ | refine K_code ?_ | refine K_blk ?_ | refine K_code_ret ?_ | refine K_blk_ret ?_ | refine K_code_exit ?_ | refine K_blk_exit_same ?_ | refine K_blk_exit_other (by decide) ?_ | refine K_nil ?_ | refine L_ret ?_ | refine L_exit ?_ | (refine run_cons ?_; simp only [go_sem]) | (refine run_nil ?_) | (refine drun_cons ?_; simp only [go_sem]) | (refine drun_nil ?_) | (refine reg ?_) | (refine regd (by kernel_rfl) ?_) | (refine cal (toValue_ok x.fValue (by omega)) ?_ ?_ ?_; (focus (simp only [go_sem]; done)); (focus (simp only [go_sem]; done)); try simp only [go_sem]) | (refine cald (toValue_ok x.fValue (by omega)) ?_ ?_ ?_ ?_; (focus (simp only [go_sem]; done)); (focus (simp only [go_sem]; done)); (focus (simp only [go_sem]; done)); try simp only [go_sem]) | (refine cal (toIntS_ok x.fIDs (by omega)) ?_ ?_ ?_; (focus (simp only [go_sem]; done)); (focus (simp only [go_sem]; done)); try simp only [go_sem]) | (refine cald (toIntS_ok x.fIDs (by omega)) ?_ ?_ ?_ ?_; (focus (simp only [go_sem]; done)); (focus (simp only [go_sem]; done)); (focus (simp only [go_sem]; done)); try simp only [go_sem]) | (refine cndt ?_ ?_; (focus (simp only [go_sem]; done))) | (refine cndf ?_ ?_; (focus (simp only [go_sem]; done))) | (refine And.intro ?_ ?_; (focus omega)))
  exact retK_ret ⟨⟨_, rfl, by simp only [go_sem]⟩, trivial⟩
theorem toGroupd_ok (x : TGroup) (hx : wGroup x ≤ 1048576) : FnC Try.prog 84 [gGroup x] (gGroup x) := (toGroup_ok x hx).pure (by simp only [go_sem]) (by simp only [go_sem]) (by simp only [go_sem]) (by simp only [go_sem]) (by simp only [go_sem])
theorem eqGroup_ok (x : TGroup) (hx : wGroup x ≤ 1048576) : FnC Try.prog 85 [gGroup x, gGroup x] (ob true) := by
  unfold wGroup at hx
  refine ent Try.func85 rfl Try.call85 rfl (fun C => ?_)
  simp only [go_sem, st0, Try.ntmps85]
  repeat' (with_reducible first | refine WP_ret ?_ | refine WP_skip ?_ | refine WP_exit ?_ | refine WP_seq ?_ | refine WP_block ?_ | refine K_code ?_ | refine K_blk ?_ | refine K_code_ret ?_ | refine K_blk_ret ?_ | refine K_code_exit ?_ | refine K_blk_exit_same ?_ | refine K_blk_exit_other (by decide) ?_ | refine K_nil ?_ | refine L_ret ?_ | refine L_exit ?_ | (refine run_cons ?_; simp only [go_sem]) | (refine run_nil ?_) | (refine drun_cons ?_; simp only [go_sem]) | (refine drun_nil ?_) | (refine reg ?_) | (refine regd (by kernel_rfl) ?_) | (refine cal (eqValue_ok x.fValue (by omega)) ?_ ?_ ?_; (focus (simp only [go_sem]; done)); (focus (simp only [go_sem]; done)); try simp only [go_sem]) | (refine cald (eqValue_ok x.fValue (by omega)) ?_ ?_ ?_ ?_; (focus (simp only [go_sem]; done)); (focus (simp only [go_sem]; done)); (focus (simp only [go_sem]; done)); try simp only [go_sem]) | (refine cal (eqIntS_ok x.fIDs (by omega)) ?_ ?_ ?_; (focus (simp only [go_sem]; done)); (focus (simp only [go_sem]; done)); try simp only [go_sem]) | (refine cald (eqIntS_ok x.fIDs (by omega)) ?_ ?_ ?_ ?_; (focus (simp only [go_sem]; done)); (focus (simp only [go_sem]; done)); (focus (simp only [go_sem]; done)); try simp only [go_sem]) | (refine cndt ?_ ?_; (focus (simp only [go_sem]; done))) | (refine cndf ?_ ?_; (focus (simp only [go_sem]; done))) | (refine And.intro ?_ ?_; (focus omega)))
  exact retK_ret ⟨⟨_, rfl, by simp only [go_sem]⟩, trivial⟩
theorem toGroupS_ok (l : List TGroup) (hl : wGroupS l ≤ 1048576) : FnC Try.prog 16 [.o (.d (.sl (l.map encGroup)))] (.o (.w 117 4 (l.map encGroup))) := by
  unfold wGroupS at hl
  refine ent Try.func16 rfl Try.call16 rfl (fun C => ?_)
  simp only [go_sem, st0, Try.ntmps16]
  repeat' (with_reducible first | refine WP_ret ?_ | refine WP_skip ?_ | refine WP_exit ?_ | refine WP_seq ?_ | refine WP_block ?_ | refine K_code ?_ | refine K_blk ?_ | refine K_code_ret ?_ | refine K_blk_ret ?_ | refine K_code_exit ?_ | refine K_blk_exit_same ?_ | refine K_blk_exit_other (by decide) ?_ | refine K_nil ?_ | refine L_ret ?_ | refine L_exit ?_ | (refine run_cons ?_; simp only [go_sem]) | (refine run_nil ?_) | (refine drun_cons ?_; simp only [go_sem]) | (refine drun_nil ?_) | (refine reg ?_) | (refine regd (by kernel_rfl) ?_) | (refine cndt ?_ ?_; (focus (simp only [go_sem]; done))) | (refine cndf ?_ ?_; (focus (simp only [go_sem]; done))) | (refine And.intro ?_ ?_; (focus omega)))
  refine WP_lp (α := Nat) (fun k => [(4, oi k)]) (fun k => [(0, .row 117 4 (fillR encGroup [iv 0, iv 0, sv ⟨#[]⟩, .sl []] l k) true)]) (fun k => k ≤ l.length) (fun k => l.length - k) 0 (fun _ => ?_) ?_ ?_ (fun k hk => ?_)
  · simp only [go_sem]
  · simp only [go_sem]; simp [fillR_zero]
  · simp
  · simp only [go_sem]
    repeat' (with_reducible first | refine WP_ret ?_ | refine WP_skip ?_ | refine WP_exit ?_ | refine WP_seq ?_ | refine WP_block ?_ | refine K_code ?_ | refine K_blk ?_ | refine K_code_ret ?_ | refine K_blk_ret ?_ | refine K_code_exit ?_ | refine K_blk_exit_same ?_ | refine K_blk_exit_other (by decide) ?_ | refine K_nil ?_ | refine L_ret ?_ | refine L_exit ?_ | (refine run_cons ?_; simp only [go_sem]) | (refine run_nil ?_) | (refine drun_cons ?_; simp only [go_sem]) | (refine drun_nil ?_) | (refine reg ?_) | (refine regd (by kernel_rfl) ?_) | (refine cndt ?_ ?_; (focus (simp only [go_sem]; done))) | (refine cndf ?_ ?_; (focus (simp only [go_sem]; done))) | (refine And.intro ?_ ?_; (focus omega)))
    refine cnd rfl (fun h => ?_) (fun h => ?_)
    · simp only [decide_eq_true_eq, Int.ofNat_lt] at h
      have hw := wsum_get wGroup l h
      repeat' (with_reducible first | refine WP_ret ?_ | refine WP_skip ?_ | refine WP_exit ?_ | refine WP_seq ?_ | refine WP_block ?_ | refine K_code ?_ | refine K_blk ?_ | refine K_code_ret ?_ | refine K_blk_ret ?_ | refine K_code_exit ?_ | refine K_blk_exit_same ?_ | refine K_blk_exit_other (by decide) ?_ | refine K_nil ?_ | refine L_ret ?_ | refine L_exit ?_ | (refine run_cons ?_; simp only [go_sem, h]) | (refine run_nil ?_) | (refine drun_cons ?_; simp only [go_sem, h]) | (refine drun_nil ?_) | (refine reg ?_) | (refine regd (by kernel_rfl) ?_) | (refine cal (toGroup_ok l[k] (by omega)) ?_ ?_ ?_; (focus (simp only [go_sem]; done)); (focus (simp only [go_sem]; done)); try simp only [go_sem, h]) | (refine cald (toGroup_ok l[k] (by omega)) ?_ ?_ ?_ ?_; (focus (simp only [go_sem]; done)); (focus (simp only [go_sem]; done)); (focus (simp only [go_sem]; done)); try simp only [go_sem, h]) | (refine cndt ?_ ?_; (focus (simp only [go_sem]; done))) | (refine cndf ?_ ?_; (focus (simp only [go_sem]; done))) | (refine And.intro ?_ ?_; (focus omega)))
      refine L_next (k + 1) ?_ ?_ ?_
      · simp only [go_sem]; simp [← fillR_set, h, encGroup]
      · omega
      · omega
    · simp only [decide_eq_false_iff_not] at h
      have e : k = l.length := by omega
      subst e
      repeat' (with_reducible first | refine WP_ret ?_ | refine WP_skip ?_ | refine WP_exit ?_ | refine WP_seq ?_ | refine WP_block ?_ | refine K_code ?_ | refine K_blk ?_ | refine K_code_ret ?_ | refine K_blk_ret ?_ | refine K_code_exit ?_ | refine K_blk_exit_same ?_ | refine K_blk_exit_other (by decide) ?_ | refine K_nil ?_ | refine L_ret ?_ | refine L_exit ?_ | (refine run_cons ?_; simp only [go_sem]) | (refine run_nil ?_) | (refine drun_cons ?_; simp only [go_sem]) | (refine drun_nil ?_) | (refine reg ?_) | (refine regd (by kernel_rfl) ?_) | (refine cndt ?_ ?_; (focus (simp only [go_sem]; done))) | (refine cndf ?_ ?_; (focus (simp only [go_sem]; done))) | (refine And.intro ?_ ?_; (focus omega)))
      exact retK_ret ⟨⟨_, rfl, by simp only [go_sem, fillR_all]⟩, trivial⟩
theorem toGroupSd_ok (l : List TGroup) (hl : wGroupS l ≤ 1048576) : FnC Try.prog 16 [.o (.d (.sl (l.map encGroup)))] (.o (.d (.sl (l.map encGroup)))) := (toGroupS_ok l hl).pure (by simp only [go_sem]) (by simp only [go_sem]) (by simp only [go_sem]) (by simp only [go_sem]) (by simp only [go_sem])
theorem eqGroupS_ok (l : List TGroup) (hl : wGroupS l ≤ 1048576) : FnC Try.prog 19 [.o (.d (.sl (l.map encGroup))), .o (.d (.sl (l.map encGroup)))] (ob true) := by
  unfold wGroupS at hl
  refine ent Try.func19 rfl Try.call19 rfl (fun C => ?_)
  simp only [go_sem, st0, Try.ntmps19]
  repeat' (with_reducible first | refine WP_ret ?_ | refine WP_skip ?_ | refine WP_exit ?_ | refine WP_seq ?_ | refine WP_block ?_ | refine K_code ?_ | refine K_blk ?_ | refine K_code_ret ?_ | refine K_blk_ret ?_ | refine K_code_exit ?_ | refine K_blk_exit_same ?_ | refine K_blk_exit_other (by decide) ?_ | refine K_nil ?_ | refine L_ret ?_ | refine L_exit ?_ | (refine run_cons ?_; simp only [go_sem]) | (refine run_nil ?_) | (refine drun_cons ?_; simp only [go_sem]) | (refine drun_nil ?_) | (refine reg ?_) | (refine regd (by kernel_rfl) ?_) | (refine cndt ?_ ?_; (focus (simp only [go_sem]; done))) | (refine cndf ?_ ?_; (focus (simp only [go_sem]; done))) | (refine And.intro ?_ ?_; (focus omega)))
  refine WP_lp (α := Nat) (fun k => [(5, oi k)]) (fun _ => []) (fun k => k ≤ l.length) (fun k => l.length - k) 0 (fun _ => ?_) ?_ ?_ (fun k hk => ?_)
  · simp only [go_sem]
  · simp only [go_sem]; simp
  · simp
  · simp only [go_sem]
    repeat' (with_reducible first | refine WP_ret ?_ | refine WP_skip ?_ | refine WP_exit ?_ | refine WP_seq ?_ | refine WP_block ?_ | refine K_code ?_ | refine K_blk ?_ | refine K_code_ret ?_ | refine K_blk_ret ?_ | refine K_code_exit ?_ | refine K_blk_exit_same ?_ | refine K_blk_exit_other (by decide) ?_ | refine K_nil ?_ | refine L_ret ?_ | refine L_exit ?_ | (refine run_cons ?_; simp only [go_sem]) | (refine run_nil ?_) | (refine drun_cons ?_; simp only [go_sem]) | (refine drun_nil ?_) | (refine reg ?_) | (refine regd (by kernel_rfl) ?_) | (refine cndt ?_ ?_; (focus (simp only [go_sem]; done))) | (refine cndf ?_ ?_; (focus (simp only [go_sem]; done))) | (refine And.intro ?_ ?_; (focus omega)))
    refine cnd rfl (fun h => ?_) (fun h => ?_)
    · simp only [decide_eq_true_eq, Int.ofNat_lt] at h
      have hw := wsum_get wGroup l h
      repeat' (with_reducible first | refine WP_ret ?_ | refine WP_skip ?_ | refine WP_exit ?_ | refine WP_seq ?_ | refine WP_block ?_ | refine K_code ?_ | refine K_blk ?_ | refine K_code_ret ?_ | refine K_blk_ret ?_ | refine K_code_exit ?_ | refine K_blk_exit_same ?_ | refine K_blk_exit_other (by decide) ?_ | refine K_nil ?_ | refine L_ret ?_ | refine L_exit ?_ | (refine run_cons ?_; simp only [go_sem, h]) | (refine run_nil ?_) | (refine drun_cons ?_; simp only [go_sem, h]) | (refine drun_nil ?_) | (refine reg ?_) | (refine regd (by kernel_rfl) ?_) | (refine cal (eqGroup_ok l[k] (by omega)) ?_ ?_ ?_; (focus (simp only [go_sem]; done)); (focus (simp only [go_sem]; done)); try simp only [go_sem, h]) | (refine cald (eqGroup_ok l[k] (by omega)) ?_ ?_ ?_ ?_; (focus (simp only [go_sem]; done)); (focus (simp only [go_sem]; done)); (focus (simp only [go_sem]; done)); try simp only [go_sem, h]) | (refine cndt ?_ ?_; (focus (simp only [go_sem]; done))) | (refine cndf ?_ ?_; (focus (simp only [go_sem]; done))) | (refine And.intro ?_ ?_; (focus omega)))
      refine L_next (k + 1) ?_ ?_ ?_
      · simp only [go_sem]; simp
      · omega
      · omega
    · simp only [decide_eq_false_iff_not] at h
      repeat' (with_reducible first | refine WP_ret ?_ | refine WP_skip ?_ | refine WP_exit ?_ | refine WP_seq ?_ | refine WP_block ?_ | refine K_code ?_ | refine K_blk ?_ | refine K_code_ret ?_ | refine K_blk_ret ?_ | refine K_code_exit ?_ | refine K_blk_exit_same ?_ | refine K_blk_exit_other (by decide) ?_ | refine K_nil ?_ | refine L_ret ?_ | refine L_exit ?_ | (refine run_cons ?_; simp only [go_sem]) | (refine run_nil ?_) | (refine drun_cons ?_; simp only [go_sem]) | (refine drun_nil ?_) | (refine reg ?_) | (refine regd (by kernel_rfl) ?_) | (refine cndt ?_ ?_; (focus (simp only [go_sem]; done))) | (refine cndf ?_ ?_; (focus (simp only [go_sem]; done))) | (refine And.intro ?_ ?_; (focus omega)))
      exact retK_ret ⟨⟨_, rfl, by simp only [go_sem]⟩, trivial⟩
theorem szGroupS_ok (l : List TGroup) (n : Int) (h0 : 0 ≤ n ∧ n ≤ 1048576) (hw : wfGroupS l) : FnC Try.prog 14 [.o (.d (.sl (l.map encGroup))), oi n] (oi (szOut n (wGroupS l))) := by
  unfold wfGroupS at hw
  refine ent Try.func14 rfl Try.call14 rfl (fun C => ?_)
  simp only [go_sem, st0, Try.ntmps14]
  by_cases hc : n - (l.length : Nat) < 0
  · have e : szOut n (wGroupS l) = -1 := by rw [szOut_neg (by unfold wGroupS; omega)]
    repeat' (with_reducible first | refine WP_ret ?_ | refine WP_skip ?_ | refine WP_exit ?_ | refine WP_seq ?_ | refine WP_block ?_ | refine K_code ?_ | refine K_blk ?_ | refine K_code_ret ?_ | refine K_blk_ret ?_ | refine K_code_exit ?_ | refine K_blk_exit_same ?_ | refine K_blk_exit_other (by decide) ?_ | refine K_nil ?_ | refine L_ret ?_ | refine L_exit ?_ | (refine run_cons ?_; simp only [go_sem, hc]) | (refine run_nil ?_) | (refine drun_cons ?_; simp only [go_sem, hc]) | (refine drun_nil ?_) | (refine reg ?_) | (refine regd (by kernel_rfl) ?_) | (refine cndt ?_ ?_; (focus (simp only [go_sem]; done))) | (refine cndf ?_ ?_; (focus (simp only [go_sem]; done))) | (refine And.intro ?_ ?_; (focus omega)))
    exact retK_ret ⟨⟨_, rfl, by simp only [go_sem, e]⟩, trivial⟩
  repeat' (with_reducible first | refine WP_ret ?_ | refine WP_skip ?_ | refine WP_exit ?_ | refine WP_seq ?_ | refine WP_block ?_ | refine K_code ?_ | refine K_blk ?_ | refine K_code_ret ?_ | refine K_blk_ret ?_ | refine K_code_exit ?_ | refine K_blk_exit_same ?_ | refine K_blk_exit_other (by decide) ?_ | refine K_nil ?_ | refine L_ret ?_ | refine L_exit ?_ | (refine run_cons ?_; simp only [go_sem, hc]) | (refine run_nil ?_) | (refine drun_cons ?_; simp only [go_sem, hc]) | (refine drun_nil ?_) | (refine reg ?_) | (refine regd (by kernel_rfl) ?_) | (refine cndt ?_ ?_; (focus (simp only [go_sem]; done))) | (refine cndf ?_ ?_; (focus (simp only [go_sem]; done))) | (refine And.intro ?_ ?_; (focus omega)))
  refine WP_lp (α := Nat) (fun k => [(5, oi k), (1, oi (n - (l.length : Nat) - (wsum wGroup (l.take k) : Nat)))]) (fun _ => []) (fun k => k ≤ l.length ∧ 0 ≤ n - (l.length : Nat) - (wsum wGroup (l.take k) : Nat)) (fun k => l.length - k) 0 (fun _ => ?_) ?_ ?_ (fun k hk => ?_)
  · simp only [go_sem]
  · simp only [go_sem]; simp [wsum]
  · simp [wsum]; omega
  · obtain ⟨hk, hn⟩ := hk
    simp only [go_sem]
    repeat' (with_reducible first | refine WP_ret ?_ | refine WP_skip ?_ | refine WP_exit ?_ | refine WP_seq ?_ | refine WP_block ?_ | refine K_code ?_ | refine K_blk ?_ | refine K_code_ret ?_ | refine K_blk_ret ?_ | refine K_code_exit ?_ | refine K_blk_exit_same ?_ | refine K_blk_exit_other (by decide) ?_ | refine K_nil ?_ | refine L_ret ?_ | refine L_exit ?_ | (refine run_cons ?_; simp only [go_sem]) | (refine run_nil ?_) | (refine drun_cons ?_; simp only [go_sem]) | (refine drun_nil ?_) | (refine reg ?_) | (refine regd (by kernel_rfl) ?_) | (refine cndt ?_ ?_; (focus (simp only [go_sem]; done))) | (refine cndf ?_ ?_; (focus (simp only [go_sem]; done))) | (refine And.intro ?_ ?_; (focus omega)))
    refine cnd rfl (fun h => ?_) (fun h => ?_)
    · simp only [decide_eq_true_eq, Int.ofNat_lt] at h
      have hs := wsum_take wGroup l h
      have ht := wsum_le wGroup l (k + 1)
      by_cases h2 : n - (l.length : Nat) - (wsum wGroup (l.take k) : Nat) - (wGroup l[k] : Nat) < 0
      · have e : szOut n (wGroupS l) = -1 := by rw [szOut_neg (by unfold wGroupS; omega)]
        repeat' (with_reducible first | refine WP_ret ?_ | refine WP_skip ?_ | refine WP_exit ?_ | refine WP_seq ?_ | refine WP_block ?_ | refine K_code ?_ | refine K_blk ?_ | refine K_code_ret ?_ | refine K_blk_ret ?_ | refine K_code_exit ?_ | refine K_blk_exit_same ?_ | refine K_blk_exit_other (by decide) ?_ | refine K_nil ?_ | refine L_ret ?_ | refine L_exit ?_ | (refine run_cons ?_; simp only [go_sem, h, szOut_neg h2]) | (refine run_nil ?_) | (refine drun_cons ?_; simp only [go_sem, h, szOut_neg h2]) | (refine drun_nil ?_) | (refine reg ?_) | (refine regd (by kernel_rfl) ?_) | (refine cal (szGroup_ok l[k] _ ⟨hn, by omega⟩ (hw.2 _ (List.getElem_mem h))) ?_ ?_ ?_; (focus (simp only [go_sem]; done)); (focus (simp only [go_sem]; done)); try simp only [go_sem, h, szOut_neg h2]) | (refine cald (szGroup_ok l[k] _ ⟨hn, by omega⟩ (hw.2 _ (List.getElem_mem h))) ?_ ?_ ?_ ?_; (focus (simp only [go_sem]; done)); (focus (simp only [go_sem]; done)); (focus (simp only [go_sem]; done)); try simp only [go_sem, h, szOut_neg h2]) | (refine cndt ?_ ?_; (focus (simp only [go_sem]; done))) | (refine cndf ?_ ?_; (focus (simp only [go_sem]; done))) | (refine And.intro ?_ ?_; (focus omega)))
        exact retK_ret ⟨⟨_, rfl, by simp only [go_sem, e]⟩, trivial⟩
      · repeat' (with_reducible first | refine WP_ret ?_ | refine WP_skip ?_ | refine WP_exit ?_ | refine WP_seq ?_ | refine WP_block ?_ | refine K_code ?_ | refine K_blk ?_ | refine K_code_ret ?_ | refine K_blk_ret ?_ | refine K_code_exit ?_ | refine K_blk_exit_same ?_ | refine K_blk_exit_other (by decide) ?_ | refine K_nil ?_ | refine L_ret ?_ | refine L_exit ?_ | (refine run_cons ?_; simp only [go_sem, h, szOut_pos h2, h2]) | (refine run_nil ?_) | (refine drun_cons ?_; simp only [go_sem, h, szOut_pos h2, h2]) | (refine drun_nil ?_) | (refine reg ?_) | (refine regd (by kernel_rfl) ?_) | (refine cal (szGroup_ok l[k] _ ⟨hn, by omega⟩ (hw.2 _ (List.getElem_mem h))) ?_ ?_ ?_; (focus (simp only [go_sem]; done)); (focus (simp only [go_sem]; done)); try simp only [go_sem, h, szOut_pos h2, h2]) | (refine cald (szGroup_ok l[k] _ ⟨hn, by omega⟩ (hw.2 _ (List.getElem_mem h))) ?_ ?_ ?_ ?_; (focus (simp only [go_sem]; done)); (focus (simp only [go_sem]; done)); (focus (simp only [go_sem]; done)); try simp only [go_sem, h, szOut_pos h2, h2]) | (refine cndt ?_ ?_; (focus (simp only [go_sem]; done))) | (refine cndf ?_ ?_; (focus (simp only [go_sem]; done))) | (refine And.intro ?_ ?_; (focus omega)))
        refine L_next (k + 1) ?_ ?_ ?_
        · simp only [go_sem]; simp; omega
        · omega
        · omega
    · simp only [decide_eq_false_iff_not] at h
      have e0 : k = l.length := by omega
      subst e0
      rw [List.take_length] at hn
      have e : szOut n (wGroupS l) = n - (l.length : Nat) - (wsum wGroup l : Nat) := by rw [szOut_pos (by unfold wGroupS; omega)]; unfold wGroupS; omega
      repeat' (with_reducible first | refine WP_ret ?_ | refine WP_skip ?_ | refine WP_exit ?_ | refine WP_seq ?_ | refine WP_block ?_ | refine K_code ?_ | refine K_blk ?_ | refine K_code_ret ?_ | refine K_blk_ret ?_ | refine K_code_exit ?_ | refine K_blk_exit_same ?_ | refine K_blk_exit_other (by decide) ?_ | refine K_nil ?_ | refine L_ret ?_ | refine L_exit ?_ | (refine run_cons ?_; simp only [go_sem]) | (refine run_nil ?_) | (refine drun_cons ?_; simp only [go_sem]) | (refine drun_nil ?_) | (refine reg ?_) | (refine regd (by kernel_rfl) ?_) | (refine cndt ?_ ?_; (focus (simp only [go_sem]; done))) | (refine cndf ?_ ?_; (focus (simp only [go_sem]; done))) | (refine And.intro ?_ ?_; (focus omega)))
      exact retK_ret ⟨⟨_, rfl, by simp only [go_sem, e, List.take_length]⟩, trivial⟩
end Go.Proofs.Yteganoldfldlhaa
end

section
set_option linter.all false
set_option maxHeartbeats 1000000
namespace Go.Proofs.Yteganoldfldlhaa
open Go Go.Sx Go.RowKit Go.Proofs

structure TEdit where
  fOK : Bool
  fSet : List TAttr
@[go_sem] def encEdit (x : TEdit) : List D := [bv x.fOK, .sl (x.fSet.map encAttr)]
@[go_sem] def gEdit (x : TEdit) : SV := .g [.d (bv x.fOK), .d (.sl (x.fSet.map encAttr))]
@[go_sem] def rEdit (x : TEdit) : SV := .g [.d (bv x.fOK), .w 134 4 (x.fSet.map encAttr)]
def wEdit (x : TEdit) : Nat := wAttrS x.fSet
def wfEdit (x : TEdit) : Prop := True ∧ wfAttrS x.fSet
def wEditS (l : List TEdit) : Nat := l.length + wsum wEdit l
def wfEditS (l : List TEdit) : Prop := l.length ≤ 9223372036854775807 ∧ ∀ x ∈ l, wfEdit x
theorem decEdit {n : Nat} {r : List D} (h : ShD tt n 54 r) : ∃ x : TEdit, r = encEdit x ∧ wfEdit x := by
  match n, h with
  | n + 1, ⟨a0, b0, e0, h0, a1, b1, e1, h1, ee⟩ =>
    obtain ⟨x0, rfl⟩ := decB h0
    obtain ⟨x1, rfl, p1⟩ := decAttrS h1
    have ee' : b1 = [] := ee
    subst ee' e1 e0
    exact ⟨⟨x0, x1⟩, rfl, trivial, p1⟩
theorem szEdit_ok (x : TEdit) (n : Int) (h0 : 0 ≤ n ∧ n ≤ 1048576) (hw : wfEdit x) : FnC Try.prog 38 [gEdit x, oi n] (oi (szOut n (wEdit x))) := by
  refine ent Try.func38 rfl Try.call38 rfl (fun C => ?_)
  simp only [go_sem, st0, Try.ntmps38]
  unfold wfEdit at hw
  by_cases hc0 : n - (wAttrS x.fSet : Nat) < 0
  · have e : szOut n (wEdit x) = -1 := by rw [szOut_neg (by unfold wEdit; omega)]
    repeat' (with_reducible first | refine WP_ret ?_ | refine WP_skip ?_ | refine WP_exit ?_ | refine WP_seq ?_ | refine WP_block ?_ | refine K_code ?_ | refine K_blk ?_ | refine K_code_ret ?_ | refine K_blk_ret ?_ | refine K_code_exit ?_ | refine K_blk_exit_same ?_ | refine K_blk_exit_other (by decide) ?_ | refine K_nil ?_ | refine L_ret ?_ | refine L_exit ?_ | (refine run_cons ?_; simp only [go_sem, szOut_neg hc0, hc0]) | (refine run_nil ?_) | (refine drun_cons ?_; simp only [go_sem, szOut_neg hc0, hc0]) | (refine drun_nil ?_) | (refine reg ?_) | (refine regd (by kernel_rfl) ?_) | (refine cal (szAttrS_ok x.fSet (n) (by omega) hw.2) ?_ ?_ ?_; (focus (simp only [go_sem]; done)); (focus (simp only [go_sem]; done)); try simp only [go_sem, szOut_neg hc0, hc0]) | (refine cald (szAttrS_ok x.fSet (n) (by omega) hw.2) ?_ ?_ ?_ ?_; (focus (simp only [go_sem]; done)); (focus (simp only [go_sem]; done)); (focus (simp only [go_sem]; done)); try simp only [go_sem, szOut_neg hc0, hc0]) | (refine cndt ?_ ?_; (focus (simp only [go_sem]; done))) | (refine cndf ?_ ?_; (focus (simp only [go_sem]; done))) | (refine And.intro ?_ ?_; (focus omega)))
    exact retK_ret ⟨⟨_, rfl, by simp only [go_sem, e]⟩, trivial⟩
  have e : szOut n (wEdit x) = n - (wAttrS x.fSet : Nat) := by rw [szOut_pos (by unfold wEdit; omega)]; unfold wEdit; omega
  repeat' (with_reducible first | refine WP_ret ?_ | refine WP_skip ?_ | refine WP_exit ?_ | refine WP_seq ?_ | refine WP_block ?_ | refine K_code ?_ | refine K_blk ?_ | refine K_code_ret ?_ | refine K_blk_ret ?_ | refine K_code_exit ?_ | refine K_blk_exit_same ?_ | refine K_blk_exit_other (by decide) ?_ | refine K_nil ?_ | refine L_ret ?_ | refine L_exit ?_ | (refine run_cons ?_; simp only [go_sem, szOut_pos hc0, hc0]) | (refine run_nil ?_) | (refine drun_cons ?_; simp only [go_sem, szOut_pos hc0, hc0]) | (refine drun_nil ?_) | (refine reg ?_) | (refine regd (by kernel_rfl) ?_) | (refine cal (szAttrS_ok x.fSet (n) (by omega) hw.2) ?_ ?_ ?_; (focus (simp only [go_sem]; done)); (focus (simp only [go_sem]; done)); try simp only [go_sem, szOut_pos hc0, hc0]) | (refine cald (szAttrS_ok x.fSet (n) (by omega) hw.2) ?_ ?_ ?_ ?_; (focus (simp only [go_sem]; done)); (focus (simp only [go_sem]; done)); (focus (simp only [go_sem]; done)); try simp only [go_sem, szOut_pos hc0, hc0]) | (refine cndt ?_ ?_; (focus (simp only [go_sem]; done))) | (refine cndf ?_ ?_; (focus (simp only [go_sem]; done))) | (refine And.intro ?_ ?_; (focus omega)))
  exact retK_ret ⟨⟨_, rfl, by simp only [go_sem, e]⟩, trivial⟩
theorem toEdit_ok (x : TEdit) (hx : wEdit x ≤ 1048576) : FnC Try.prog 40 [gEdit x] (rEdit x) := by
  unfold wEdit at hx
  refine ent Try.func40 rfl Try.call40 rfl (fun C => ?_)
  simp only [go_sem, st0, Try.ntmps40]
  repeat' (with_reducible first | refine WP_ret ?_ | refine WP_skip ?_ | refine WP_exit ?_ | refine WP_seq ?_ | refine WP_block ?_ | refine K_code ?_ | refine K_blk ?_ | refine K_code_ret ?_ | refine K_blk_ret ?_ | refine K_code_exit ?_ | refine K_blk_exit_same ?_ | refine K_blk_exit_other (by decide) ?_ | refine K_nil ?_ | refine L_ret ?_ | refine L_exit ?_ | (refine run_cons ?_; simp only [go_sem]) | (refine run_nil ?_) | (refine drun_cons ?_; simp only [go_sem]) | (refine drun_nil ?_) | (refine reg ?_) | (refine regd (by kernel_rfl) ?_) | (refine cal (toAttrS_ok x.fSet (by omega)) ?_ ?_ ?_; (focus (simp only [go_sem]; done)); (focus (simp only [go_sem]; done)); try simp only [go_sem]) | (refine cald (toAttrS_ok x.fSet (by omega)) ?_ ?_ ?_ ?_; (focus (simp only [go_sem]; done)); (focus (simp only [go_sem]; done)); (focus (simp only [go_sem]; done)); try simp only [go_sem]) | (refine cndt ?_ ?_; (focus (simp only [go_sem]; done))) | (refine cndf ?_ ?_; (focus (simp only [go_sem]; done))) | (refine And.intro ?_ ?_; (focus omega)))
  exact retK_ret ⟨⟨_, rfl, by simp only [go_sem]⟩, trivial⟩
theorem toEditd_ok (x : TEdit) (hx : wEdit x ≤ 1048576) : FnC Try.prog 40 [gEdit x] (gEdit x) := (toEdit_ok x hx).pure (by simp only [go_sem]) (by simp only [go_sem]) (by simp only [go_sem]) (by simp only [go_sem]) (by simp only [go_sem])
theorem eqEdit_ok (x : TEdit) (hx : wEdit x ≤ 1048576) : FnC Try.prog 42 [gEdit x, gEdit x] (ob true) := by
  unfold wEdit at hx
  refine ent Try.func42 rfl Try.call42 rfl (fun C => ?_)
  simp only [go_sem, st0, Try.ntmps42]
  repeat' (with_reducible first | refine WP_ret ?_ | refine WP_skip ?_ | refine WP_exit ?_ | refine WP_seq ?_ | refine WP_block ?_ | refine K_code ?_ | refine K_blk ?_ | refine K_code_ret ?_ | refine K_blk_ret ?_ | refine K_code_exit ?_ | refine K_blk_exit_same ?_ | refine K_blk_exit_other (by decide) ?_ | refine K_nil ?_ | refine L_ret ?_ | refine L_exit ?_ | (refine run_cons ?_; simp only [go_sem]) | (refine run_nil ?_) | (refine drun_cons ?_; simp only [go_sem]) | (refine drun_nil ?_) | (refine reg ?_) | (refine regd (by kernel_rfl) ?_) | (refine cal (eqAttrS_ok x.fSet (by omega)) ?_ ?_ ?_; (focus (simp only [go_sem]; done)); (focus (simp only [go_sem]; done)); try simp only [go_sem]) | (refine cald (eqAttrS_ok x.fSet (by omega)) ?_ ?_ ?_ ?_; (focus (simp only [go_sem]; done)); (focus (simp only [go_sem]; done)); (focus (simp only [go_sem]; done)); try simp only [go_sem]) | (refine cndt ?_ ?_; (focus (simp only [go_sem]; done))) | (refine cndf ?_ ?_; (focus (simp only [go_sem]; done))) | (refine And.intro ?_ ?_; (focus omega)))
  exact retK_ret ⟨⟨_, rfl, by simp only [go_sem]⟩, trivial⟩
end Go.Proofs.Yteganoldfldlhaa
end

section
set_option linter.all false
set_option maxHeartbeats 1000000
namespace Go.Proofs.Yteganoldfldlhaa
open Go Go.Sx Go.RowKit Go.Proofs

structure TChange where
  fKind : Int
  fFile : TFile
  fID : Int
  fDir : TDir
@[go_sem] def encChange (x : TChange) : List D := [iv x.fKind, iv x.fFile.fID, iv x.fFile.fOwner, bv x.fFile.fShared, iv x.fFile.fLink, .sl (x.fFile.fAttrs.map encAttr), iv x.fID, sv x.fDir.fName, .sl (x.fDir.fQuery.map encNode)]
@[go_sem] def gChange (x : TChange) : SV := .g [.d (iv x.fKind), .d (iv x.fFile.fID), .d (iv x.fFile.fOwner), .d (bv x.fFile.fShared), .d (iv x.fFile.fLink), .d (.sl (x.fFile.fAttrs.map encAttr)), .d (iv x.fID), .d (sv x.fDir.fName), .d (.sl (x.fDir.fQuery.map encNode))]
@[go_sem] def rChange (x : TChange) : SV := .g [.d (iv x.fKind), .d (iv x.fFile.fID), .d (iv x.fFile.fOwner), .d (bv x.fFile.fShared), .d (iv x.fFile.fLink), .w 134 4 (x.fFile.fAttrs.map encAttr), .d (iv x.fID), .d (sv x.fDir.fName), .w 180 7 (x.fDir.fQuery.map encNode)]
def wChange (x : TChange) : Nat := wFile x.fFile + wDir x.fDir
def wfChange (x : TChange) : Prop := inR .i64 x.fKind ∧ wfFile x.fFile ∧ inR .i64 x.fID ∧ wfDir x.fDir
def wChangeS (l : List TChange) : Nat := l.length + wsum wChange l
def wfChangeS (l : List TChange) : Prop := l.length ≤ 9223372036854775807 ∧ ∀ x ∈ l, wfChange x
end Go.Proofs.Yteganoldfldlhaa
end

section
set_option linter.all false
set_option maxHeartbeats 1000000
namespace Go.Proofs.Yteganoldfldlhaa
open Go Go.Sx Go.RowKit Go.Proofs

structure TSnapshot where
  fStore : TStore
  fDirs : List TDir
@[go_sem] def encSnapshot (x : TSnapshot) : List D := [.sl (x.fStore.fSchema.map encField), .sl (x.fStore.fFiles.map encFile), iv x.fStore.fNextID, .sl (x.fDirs.map encDir)]
@[go_sem] def gSnapshot (x : TSnapshot) : SV := .g [.d (.sl (x.fStore.fSchema.map encField)), .d (.sl (x.fStore.fFiles.map encFile)), .d (iv x.fStore.fNextID), .d (.sl (x.fDirs.map encDir))]
@[go_sem] def rSnapshot (x : TSnapshot) : SV := .g [.w 202 2 (x.fStore.fSchema.map encField), .w 68 5 (x.fStore.fFiles.map encFile), .d (iv x.fStore.fNextID), .w 126 2 (x.fDirs.map encDir)]
def wSnapshot (x : TSnapshot) : Nat := wStore x.fStore + wDirS x.fDirs
def wfSnapshot (x : TSnapshot) : Prop := wfStore x.fStore ∧ wfDirS x.fDirs
def wSnapshotS (l : List TSnapshot) : Nat := l.length + wsum wSnapshot l
def wfSnapshotS (l : List TSnapshot) : Prop := l.length ≤ 9223372036854775807 ∧ ∀ x ∈ l, wfSnapshot x
end Go.Proofs.Yteganoldfldlhaa
end

section
set_option linter.all false
set_option maxHeartbeats 1000000
namespace Go.Proofs.Yteganoldfldlhaa
open Go Go.Sx Go.RowKit Go.Proofs

structure TDisk where
  fSlotA : ByteArray
  fSlotB : ByteArray
@[go_sem] def encDisk (x : TDisk) : List D := [sv x.fSlotA, sv x.fSlotB]
@[go_sem] def gDisk (x : TDisk) : SV := .g [.d (sv x.fSlotA), .d (sv x.fSlotB)]
def wDisk (x : TDisk) : Nat := x.fSlotA.size + x.fSlotB.size
def wfDisk (x : TDisk) : Prop := x.fSlotA.size ≤ 9223372036854775807 ∧ x.fSlotB.size ≤ 9223372036854775807
def wDiskS (l : List TDisk) : Nat := l.length + wsum wDisk l
def wfDiskS (l : List TDisk) : Prop := l.length ≤ 9223372036854775807 ∧ ∀ x ∈ l, wfDisk x
end Go.Proofs.Yteganoldfldlhaa
end

section
set_option linter.all false
namespace Go.Proofs.Yteganoldfldlhaa
open Go Go.Sx Go.RowKit Go.Proofs

def inB (n a b : Int) : Bool := decide (a ≤ n) && decide (n ≤ b)
theorem within_ok (n a b : Int) : FnC Try.prog 186 [oi n, oi a, oi b] (ob (inB n a b)) := by
  refine ent Try.func186 rfl Try.call186 rfl (fun C => ?_)
  simp only [go_sem, st0, Try.ntmps186]
  by_cases h0 : a ≤ n <;> by_cases h1 : n ≤ b
  all_goals
    repeat' (with_reducible first | refine WP_ret ?_ | refine WP_skip ?_ | refine WP_exit ?_ | refine WP_seq ?_ | refine WP_block ?_ | refine K_code ?_ | refine K_blk ?_ | refine K_code_ret ?_ | refine K_blk_ret ?_ | refine K_code_exit ?_ | refine K_blk_exit_same ?_ | refine K_blk_exit_other (by decide) ?_ | refine K_nil ?_ | refine L_ret ?_ | refine L_exit ?_ | (refine run_cons ?_; simp only [go_sem, h0, h1, decide_false]) | (refine run_nil ?_) | (refine drun_cons ?_; simp only [go_sem, h0, h1, decide_false]) | (refine drun_nil ?_) | (refine reg ?_) | (refine regd (by kernel_rfl) ?_) | (refine cndt ?_ ?_; (focus (simp only [go_sem]; done))) | (refine cndf ?_ ?_; (focus (simp only [go_sem]; done))) | (refine And.intro ?_ ?_; (focus omega)))
    refine retK_ret ⟨⟨_, rfl, ?_⟩, ?_⟩
    · simp only [go_sem]; simp [inB, h0, h1]
    · trivial
theorem l01In_ok (n a b : Int) : FnC Try.prog 181 [oi n, oi a, oi b] (ob (inB n a b)) := by
  refine ent Try.func181 rfl Try.call181 rfl (fun C => ?_)
  simp only [go_sem, st0, Try.ntmps181]
  by_cases h0 : a ≤ n <;> by_cases h1 : n ≤ b
  all_goals
    repeat' (with_reducible first | refine WP_ret ?_ | refine WP_skip ?_ | refine WP_exit ?_ | refine WP_seq ?_ | refine WP_block ?_ | refine K_code ?_ | refine K_blk ?_ | refine K_code_ret ?_ | refine K_blk_ret ?_ | refine K_code_exit ?_ | refine K_blk_exit_same ?_ | refine K_blk_exit_other (by decide) ?_ | refine K_nil ?_ | refine L_ret ?_ | refine L_exit ?_ | (refine run_cons ?_; simp only [go_sem, h0, h1, decide_false]) | (refine run_nil ?_) | (refine drun_cons ?_; simp only [go_sem, h0, h1, decide_false]) | (refine drun_nil ?_) | (refine reg ?_) | (refine regd (by kernel_rfl) ?_) | (refine cndt ?_ ?_; (focus (simp only [go_sem]; done))) | (refine cndf ?_ ?_; (focus (simp only [go_sem]; done))) | (refine And.intro ?_ ?_; (focus omega)))
    refine retK_ret ⟨⟨_, rfl, ?_⟩, ?_⟩
    · simp only [go_sem]; simp [inB, h0, h1]
    · trivial
end Go.Proofs.Yteganoldfldlhaa
end

section
set_option linter.all false
set_option maxHeartbeats 1000000
namespace Go.Proofs.Yteganoldfldlhaa
open Go Go.Sx Go.RowKit Go.Proofs

theorem toStringS_ok (l : List ByteArray) (hw : wStringS l ≤ 1048576) : FnC Try.prog 31 [.o (.d (.sl (l.map encS)))] (.o (.w 9 1 (l.map encS))) := by
  unfold wStringS at hw
  have hl : l.length ≤ 1048576 := by omega
  refine ent Try.func31 rfl Try.call31 rfl (fun C => ?_)
  simp only [go_sem, st0, Try.ntmps31]
  repeat' (with_reducible first | refine WP_ret ?_ | refine WP_skip ?_ | refine WP_exit ?_ | refine WP_seq ?_ | refine WP_block ?_ | refine K_code ?_ | refine K_blk ?_ | refine K_code_ret ?_ | refine K_blk_ret ?_ | refine K_code_exit ?_ | refine K_blk_exit_same ?_ | refine K_blk_exit_other (by decide) ?_ | refine K_nil ?_ | refine L_ret ?_ | refine L_exit ?_ | (refine run_cons ?_; simp only [go_sem]) | (refine run_nil ?_) | (refine drun_cons ?_; simp only [go_sem]) | (refine drun_nil ?_) | (refine reg ?_) | (refine regd (by kernel_rfl) ?_) | (refine cndt ?_ ?_; (focus (simp only [go_sem]; done))) | (refine cndf ?_ ?_; (focus (simp only [go_sem]; done))) | (refine And.intro ?_ ?_; (focus omega)))
  refine WP_lp (α := Nat) (fun k => [(4, oi k)]) (fun k => [(0, .row 9 1 (fillR encS [sv ⟨#[]⟩] l k) true)]) (fun k => k ≤ l.length) (fun k => l.length - k) 0 (fun _ => ?_) ?_ ?_ (fun k hk => ?_)
  · simp only [go_sem]
  · simp only [go_sem]; simp [fillR_zero]
  · simp
  · simp only [go_sem]
    repeat' (with_reducible first | refine WP_ret ?_ | refine WP_skip ?_ | refine WP_exit ?_ | refine WP_seq ?_ | refine WP_block ?_ | refine K_code ?_ | refine K_blk ?_ | refine K_code_ret ?_ | refine K_blk_ret ?_ | refine K_code_exit ?_ | refine K_blk_exit_same ?_ | refine K_blk_exit_other (by decide) ?_ | refine K_nil ?_ | refine L_ret ?_ | refine L_exit ?_ | (refine run_cons ?_; simp only [go_sem]) | (refine run_nil ?_) | (refine drun_cons ?_; simp only [go_sem]) | (refine drun_nil ?_) | (refine reg ?_) | (refine regd (by kernel_rfl) ?_) | (refine cndt ?_ ?_; (focus (simp only [go_sem]; done))) | (refine cndf ?_ ?_; (focus (simp only [go_sem]; done))) | (refine And.intro ?_ ?_; (focus omega)))
    refine cnd rfl (fun h => ?_) (fun h => ?_)
    · simp only [decide_eq_true_eq, Int.ofNat_lt] at h
      repeat' (with_reducible first | refine WP_ret ?_ | refine WP_skip ?_ | refine WP_exit ?_ | refine WP_seq ?_ | refine WP_block ?_ | refine K_code ?_ | refine K_blk ?_ | refine K_code_ret ?_ | refine K_blk_ret ?_ | refine K_code_exit ?_ | refine K_blk_exit_same ?_ | refine K_blk_exit_other (by decide) ?_ | refine K_nil ?_ | refine L_ret ?_ | refine L_exit ?_ | (refine run_cons ?_; simp only [go_sem, h]) | (refine run_nil ?_) | (refine drun_cons ?_; simp only [go_sem, h]) | (refine drun_nil ?_) | (refine reg ?_) | (refine regd (by kernel_rfl) ?_) | (refine cndt ?_ ?_; (focus (simp only [go_sem]; done))) | (refine cndf ?_ ?_; (focus (simp only [go_sem]; done))) | (refine And.intro ?_ ?_; (focus omega)))
      refine L_next (k + 1) ?_ ?_ ?_
      · simp only [go_sem]; simp [← fillR_set, h, encS]
      · omega
      · omega
    · simp only [decide_eq_false_iff_not] at h
      have e : k = l.length := by omega
      subst e
      repeat' (with_reducible first | refine WP_ret ?_ | refine WP_skip ?_ | refine WP_exit ?_ | refine WP_seq ?_ | refine WP_block ?_ | refine K_code ?_ | refine K_blk ?_ | refine K_code_ret ?_ | refine K_blk_ret ?_ | refine K_code_exit ?_ | refine K_blk_exit_same ?_ | refine K_blk_exit_other (by decide) ?_ | refine K_nil ?_ | refine L_ret ?_ | refine L_exit ?_ | (refine run_cons ?_; simp only [go_sem]) | (refine run_nil ?_) | (refine drun_cons ?_; simp only [go_sem]) | (refine drun_nil ?_) | (refine reg ?_) | (refine regd (by kernel_rfl) ?_) | (refine cndt ?_ ?_; (focus (simp only [go_sem]; done))) | (refine cndf ?_ ?_; (focus (simp only [go_sem]; done))) | (refine And.intro ?_ ?_; (focus omega)))
      exact retK_ret ⟨⟨_, rfl, by simp only [go_sem, fillR_all]⟩, trivial⟩
theorem toStringSd_ok (l : List ByteArray) (hl : wStringS l ≤ 1048576) : FnC Try.prog 31 [.o (.d (.sl (l.map encS)))] (.o (.d (.sl (l.map encS)))) := (toStringS_ok l hl).pure (by simp only [go_sem]) (by simp only [go_sem]) (by simp only [go_sem]) (by simp only [go_sem]) (by simp only [go_sem])
theorem eqStringS_ok (l : List ByteArray) (hw : wStringS l ≤ 1048576) : FnC Try.prog 33 [.o (.d (.sl (l.map encS))), .o (.d (.sl (l.map encS)))] (ob true) := by
  unfold wStringS at hw
  have hl : l.length ≤ 1048576 := by omega
  refine ent Try.func33 rfl Try.call33 rfl (fun C => ?_)
  simp only [go_sem, st0, Try.ntmps33]
  repeat' (with_reducible first | refine WP_ret ?_ | refine WP_skip ?_ | refine WP_exit ?_ | refine WP_seq ?_ | refine WP_block ?_ | refine K_code ?_ | refine K_blk ?_ | refine K_code_ret ?_ | refine K_blk_ret ?_ | refine K_code_exit ?_ | refine K_blk_exit_same ?_ | refine K_blk_exit_other (by decide) ?_ | refine K_nil ?_ | refine L_ret ?_ | refine L_exit ?_ | (refine run_cons ?_; simp only [go_sem]) | (refine run_nil ?_) | (refine drun_cons ?_; simp only [go_sem]) | (refine drun_nil ?_) | (refine reg ?_) | (refine regd (by kernel_rfl) ?_) | (refine cndt ?_ ?_; (focus (simp only [go_sem]; done))) | (refine cndf ?_ ?_; (focus (simp only [go_sem]; done))) | (refine And.intro ?_ ?_; (focus omega)))
  refine WP_lp (α := Nat) (fun k => [(5, oi k)]) (fun _ => []) (fun k => k ≤ l.length) (fun k => l.length - k) 0 (fun _ => ?_) ?_ ?_ (fun k hk => ?_)
  · simp only [go_sem]
  · simp only [go_sem]; simp
  · simp
  · simp only [go_sem]
    repeat' (with_reducible first | refine WP_ret ?_ | refine WP_skip ?_ | refine WP_exit ?_ | refine WP_seq ?_ | refine WP_block ?_ | refine K_code ?_ | refine K_blk ?_ | refine K_code_ret ?_ | refine K_blk_ret ?_ | refine K_code_exit ?_ | refine K_blk_exit_same ?_ | refine K_blk_exit_other (by decide) ?_ | refine K_nil ?_ | refine L_ret ?_ | refine L_exit ?_ | (refine run_cons ?_; simp only [go_sem]) | (refine run_nil ?_) | (refine drun_cons ?_; simp only [go_sem]) | (refine drun_nil ?_) | (refine reg ?_) | (refine regd (by kernel_rfl) ?_) | (refine cndt ?_ ?_; (focus (simp only [go_sem]; done))) | (refine cndf ?_ ?_; (focus (simp only [go_sem]; done))) | (refine And.intro ?_ ?_; (focus omega)))
    refine cnd rfl (fun h => ?_) (fun h => ?_)
    · simp only [decide_eq_true_eq, Int.ofNat_lt] at h
      repeat' (with_reducible first | refine WP_ret ?_ | refine WP_skip ?_ | refine WP_exit ?_ | refine WP_seq ?_ | refine WP_block ?_ | refine K_code ?_ | refine K_blk ?_ | refine K_code_ret ?_ | refine K_blk_ret ?_ | refine K_code_exit ?_ | refine K_blk_exit_same ?_ | refine K_blk_exit_other (by decide) ?_ | refine K_nil ?_ | refine L_ret ?_ | refine L_exit ?_ | (refine run_cons ?_; simp only [go_sem, h]) | (refine run_nil ?_) | (refine drun_cons ?_; simp only [go_sem, h]) | (refine drun_nil ?_) | (refine reg ?_) | (refine regd (by kernel_rfl) ?_) | (refine cndt ?_ ?_; (focus (simp only [go_sem]; done))) | (refine cndf ?_ ?_; (focus (simp only [go_sem]; done))) | (refine And.intro ?_ ?_; (focus omega)))
      refine L_next (k + 1) ?_ ?_ ?_
      · simp only [go_sem]; simp
      · omega
      · omega
    · simp only [decide_eq_false_iff_not] at h
      repeat' (with_reducible first | refine WP_ret ?_ | refine WP_skip ?_ | refine WP_exit ?_ | refine WP_seq ?_ | refine WP_block ?_ | refine K_code ?_ | refine K_blk ?_ | refine K_code_ret ?_ | refine K_blk_ret ?_ | refine K_code_exit ?_ | refine K_blk_exit_same ?_ | refine K_blk_exit_other (by decide) ?_ | refine K_nil ?_ | refine L_ret ?_ | refine L_exit ?_ | (refine run_cons ?_; simp only [go_sem]) | (refine run_nil ?_) | (refine drun_cons ?_; simp only [go_sem]) | (refine drun_nil ?_) | (refine reg ?_) | (refine regd (by kernel_rfl) ?_) | (refine cndt ?_ ?_; (focus (simp only [go_sem]; done))) | (refine cndf ?_ ?_; (focus (simp only [go_sem]; done))) | (refine And.intro ?_ ?_; (focus omega)))
      exact retK_ret ⟨⟨_, rfl, by simp only [go_sem]⟩, trivial⟩
theorem szStringS_ok (l : List ByteArray) (n : Int) (h0 : 0 ≤ n ∧ n ≤ 1048576) (hw : wfStringS l) : FnC Try.prog 28 [.o (.d (.sl (l.map encS))), oi n] (oi (szOut n (wStringS l))) := by
  unfold wfStringS at hw
  refine ent Try.func28 rfl Try.call28 rfl (fun C => ?_)
  simp only [go_sem, st0, Try.ntmps28]
  by_cases hc : n - (l.length : Nat) < 0
  · have e : szOut n (wStringS l) = -1 := by rw [szOut_neg (by unfold wStringS; omega)]
    repeat' (with_reducible first | refine WP_ret ?_ | refine WP_skip ?_ | refine WP_exit ?_ | refine WP_seq ?_ | refine WP_block ?_ | refine K_code ?_ | refine K_blk ?_ | refine K_code_ret ?_ | refine K_blk_ret ?_ | refine K_code_exit ?_ | refine K_blk_exit_same ?_ | refine K_blk_exit_other (by decide) ?_ | refine K_nil ?_ | refine L_ret ?_ | refine L_exit ?_ | (refine run_cons ?_; simp only [go_sem, hc]) | (refine run_nil ?_) | (refine drun_cons ?_; simp only [go_sem, hc]) | (refine drun_nil ?_) | (refine reg ?_) | (refine regd (by kernel_rfl) ?_) | (refine cndt ?_ ?_; (focus (simp only [go_sem]; done))) | (refine cndf ?_ ?_; (focus (simp only [go_sem]; done))) | (refine And.intro ?_ ?_; (focus omega)))
    exact retK_ret ⟨⟨_, rfl, by simp only [go_sem, e]⟩, trivial⟩
  repeat' (with_reducible first | refine WP_ret ?_ | refine WP_skip ?_ | refine WP_exit ?_ | refine WP_seq ?_ | refine WP_block ?_ | refine K_code ?_ | refine K_blk ?_ | refine K_code_ret ?_ | refine K_blk_ret ?_ | refine K_code_exit ?_ | refine K_blk_exit_same ?_ | refine K_blk_exit_other (by decide) ?_ | refine K_nil ?_ | refine L_ret ?_ | refine L_exit ?_ | (refine run_cons ?_; simp only [go_sem, hc]) | (refine run_nil ?_) | (refine drun_cons ?_; simp only [go_sem, hc]) | (refine drun_nil ?_) | (refine reg ?_) | (refine regd (by kernel_rfl) ?_) | (refine cndt ?_ ?_; (focus (simp only [go_sem]; done))) | (refine cndf ?_ ?_; (focus (simp only [go_sem]; done))) | (refine And.intro ?_ ?_; (focus omega)))
  refine WP_lp (α := Nat) (fun k => [(5, oi k), (1, oi (n - (l.length : Nat) - (wsum ByteArray.size (l.take k) : Nat)))]) (fun _ => []) (fun k => k ≤ l.length ∧ 0 ≤ n - (l.length : Nat) - (wsum ByteArray.size (l.take k) : Nat)) (fun k => l.length - k) 0 (fun _ => ?_) ?_ ?_ (fun k hk => ?_)
  · simp only [go_sem]
  · simp only [go_sem]; simp [wsum]
  · simp [wsum]; omega
  · obtain ⟨hk, hn⟩ := hk
    simp only [go_sem]
    repeat' (with_reducible first | refine WP_ret ?_ | refine WP_skip ?_ | refine WP_exit ?_ | refine WP_seq ?_ | refine WP_block ?_ | refine K_code ?_ | refine K_blk ?_ | refine K_code_ret ?_ | refine K_blk_ret ?_ | refine K_code_exit ?_ | refine K_blk_exit_same ?_ | refine K_blk_exit_other (by decide) ?_ | refine K_nil ?_ | refine L_ret ?_ | refine L_exit ?_ | (refine run_cons ?_; simp only [go_sem]) | (refine run_nil ?_) | (refine drun_cons ?_; simp only [go_sem]) | (refine drun_nil ?_) | (refine reg ?_) | (refine regd (by kernel_rfl) ?_) | (refine cndt ?_ ?_; (focus (simp only [go_sem]; done))) | (refine cndf ?_ ?_; (focus (simp only [go_sem]; done))) | (refine And.intro ?_ ?_; (focus omega)))
    refine cnd rfl (fun h => ?_) (fun h => ?_)
    · simp only [decide_eq_true_eq, Int.ofNat_lt] at h
      have hs := wsum_take ByteArray.size l h
      have ht := wsum_le ByteArray.size l (k + 1)
      have hsz := hw.2 _ (List.getElem_mem h)
      by_cases h2 : n - (l.length : Nat) - (wsum ByteArray.size (l.take k) : Nat) - (l[k].size : Nat) < 0
      · have e : szOut n (wStringS l) = -1 := by rw [szOut_neg (by unfold wStringS; omega)]
        repeat' (with_reducible first | refine WP_ret ?_ | refine WP_skip ?_ | refine WP_exit ?_ | refine WP_seq ?_ | refine WP_block ?_ | refine K_code ?_ | refine K_blk ?_ | refine K_code_ret ?_ | refine K_blk_ret ?_ | refine K_code_exit ?_ | refine K_blk_exit_same ?_ | refine K_blk_exit_other (by decide) ?_ | refine K_nil ?_ | refine L_ret ?_ | refine L_exit ?_ | (refine run_cons ?_; simp only [go_sem, h, h2]) | (refine run_nil ?_) | (refine drun_cons ?_; simp only [go_sem, h, h2]) | (refine drun_nil ?_) | (refine reg ?_) | (refine regd (by kernel_rfl) ?_) | (refine cndt ?_ ?_; (focus (simp only [go_sem]; done))) | (refine cndf ?_ ?_; (focus (simp only [go_sem]; done))) | (refine And.intro ?_ ?_; (focus omega)))
        exact retK_ret ⟨⟨_, rfl, by simp only [go_sem, e]⟩, trivial⟩
      · repeat' (with_reducible first | refine WP_ret ?_ | refine WP_skip ?_ | refine WP_exit ?_ | refine WP_seq ?_ | refine WP_block ?_ | refine K_code ?_ | refine K_blk ?_ | refine K_code_ret ?_ | refine K_blk_ret ?_ | refine K_code_exit ?_ | refine K_blk_exit_same ?_ | refine K_blk_exit_other (by decide) ?_ | refine K_nil ?_ | refine L_ret ?_ | refine L_exit ?_ | (refine run_cons ?_; simp only [go_sem, h, h2]) | (refine run_nil ?_) | (refine drun_cons ?_; simp only [go_sem, h, h2]) | (refine drun_nil ?_) | (refine reg ?_) | (refine regd (by kernel_rfl) ?_) | (refine cndt ?_ ?_; (focus (simp only [go_sem]; done))) | (refine cndf ?_ ?_; (focus (simp only [go_sem]; done))) | (refine And.intro ?_ ?_; (focus omega)))
        refine L_next (k + 1) ?_ ?_ ?_
        · simp only [go_sem]; simp; omega
        · omega
        · omega
    · simp only [decide_eq_false_iff_not] at h
      have e0 : k = l.length := by omega
      subst e0
      rw [List.take_length] at hn
      have e : szOut n (wStringS l) = n - (l.length : Nat) - (wsum ByteArray.size l : Nat) := by rw [szOut_pos (by unfold wStringS; omega)]; unfold wStringS; omega
      repeat' (with_reducible first | refine WP_ret ?_ | refine WP_skip ?_ | refine WP_exit ?_ | refine WP_seq ?_ | refine WP_block ?_ | refine K_code ?_ | refine K_blk ?_ | refine K_code_ret ?_ | refine K_blk_ret ?_ | refine K_code_exit ?_ | refine K_blk_exit_same ?_ | refine K_blk_exit_other (by decide) ?_ | refine K_nil ?_ | refine L_ret ?_ | refine L_exit ?_ | (refine run_cons ?_; simp only [go_sem]) | (refine run_nil ?_) | (refine drun_cons ?_; simp only [go_sem]) | (refine drun_nil ?_) | (refine reg ?_) | (refine regd (by kernel_rfl) ?_) | (refine cndt ?_ ?_; (focus (simp only [go_sem]; done))) | (refine cndf ?_ ?_; (focus (simp only [go_sem]; done))) | (refine And.intro ?_ ?_; (focus omega)))
      exact retK_ret ⟨⟨_, rfl, by simp only [go_sem, e, List.take_length]⟩, trivial⟩
end Go.Proofs.Yteganoldfldlhaa
end
