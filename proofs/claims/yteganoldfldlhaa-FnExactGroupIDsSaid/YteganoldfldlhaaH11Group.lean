/-
  Group: the structure, its cells; the contracts of the laws' helpers sz, to, eq. By program (gentys.py).
-/
import Derived.Test.YteganoldfldlhaaH10Catalog
set_option linter.all false
set_option maxHeartbeats 1000000
namespace Go.Proofs.Yteganoldfldlhaa
open Go Go.Sx Go.RowKit Go.Proofs

structure TGroup where
  fValue : TValue
  fIDs : List Int
@[go_sem] def encGroup (x : TGroup) : List D := [iv x.fValue.fKind, iv x.fValue.fInt, sv x.fValue.fStr, .sl (x.fIDs.map encI)]
@[go_sem] def gGroup (x : TGroup) : SV := .g [.d (iv x.fValue.fKind), .d (iv x.fValue.fInt), .d (sv x.fValue.fStr), .d (.sl (x.fIDs.map encI))]
@[go_sem] def rGroup (x : TGroup) : SV := .g [.d (iv x.fValue.fKind), .d (iv x.fValue.fInt), .d (sv x.fValue.fStr), .w 3 1 (x.fIDs.map encI)]
def wGroup (x : TGroup) : Nat := wValue x.fValue + x.fIDs.length
def wfGroup (x : TGroup) : Prop := wfValue x.fValue ∧ wfIntS x.fIDs
def wGroupS (l : List TGroup) : Nat := l.length + wsum wGroup l
def wfGroupS (l : List TGroup) : Prop := l.length ≤ 9223372036854775807 ∧ ∀ x ∈ l, wfGroup x
theorem decGroup {n : Nat} {r : List D} (h : ShD tt n 115 r) : ∃ x : TGroup, r = encGroup x ∧ wfGroup x := by
  match n, h with
  | n + 1, ⟨a0, b0, e0, h0, a1, b1, e1, h1, ee⟩ =>
    obtain ⟨x0, rfl, p0⟩ := decValue h0
    obtain ⟨x1, rfl, p1⟩ := decIntS h1
    have ee' : b1 = [] := ee
    subst ee' e1 e0
    exact ⟨⟨x0, x1⟩, rfl, p0, p1⟩
theorem decGroupS {n : Nat} {r : List D} (h : ShD tt n 22 r) : ∃ l : List TGroup, r = [.sl (l.map encGroup)] ∧ wfGroupS l := by
  match n, h with
  | n + 1, ⟨rows, h, hm, hr⟩ =>
    obtain ⟨l, rfl, hl⟩ := rows_map encGroup wfGroup (fun r h => decGroup (hr r h))
    exact ⟨l, h, by unfold maxLen at hm; simpa using hm, hl⟩
theorem szGroup_ok (x : TGroup) (n : Int) (h0 : 0 ≤ n ∧ n ≤ 1048576) (hw : wfGroup x) : FnC Try.prog 83 [gGroup x, oi n] (oi (szOut n (wGroup x))) := by
  refine ent Try.func83 rfl Try.call83 rfl (fun C => ?_)
  simp only [go_sem, st0, Try.ntmps83]
  unfold wfGroup at hw
  by_cases hc0 : n - (wValue x.fValue : Nat) < 0
  · have e : szOut n (wGroup x) = -1 := by rw [szOut_neg (by unfold wGroup; omega)]
    repeat' (with_reducible first | refine WP_ret ?_ | refine WP_skip ?_ | refine WP_exit ?_ | refine WP_seq ?_ | refine WP_block ?_ | refine K_code ?_ | refine K_blk ?_ | refine K_code_ret ?_ | refine K_blk_ret ?_ | refine K_code_exit ?_ | refine K_blk_exit_same ?_ | refine K_blk_exit_other (by decide) ?_ | refine K_nil ?_ | refine L_ret ?_ | refine L_exit ?_ | (refine run_cons ?_; simp only [go_sem, szOut_neg hc0, hc0]) | (refine run_nil ?_) | (refine drun_cons ?_; simp only [go_sem, szOut_neg hc0, hc0]) | (refine drun_nil ?_) | (refine reg ?_) | (refine regd (by kernel_rfl) ?_) | (refine cal (szValue_ok x.fValue (n) (by omega) hw.1) ?_ ?_ ?_; (focus (simp only [go_sem]; done)); (focus (simp only [go_sem]; done)); try simp only [go_sem, szOut_neg hc0, hc0]) | (refine cald (szValue_ok x.fValue (n) (by omega) hw.1) ?_ ?_ ?_ ?_; (focus (simp only [go_sem]; done)); (focus (simp only [go_sem]; done)); (focus (simp only [go_sem]; done)); try simp only [go_sem, szOut_neg hc0, hc0]) | (refine cndt ?_ ?_; (focus (simp only [go_sem]; done))) | (refine cndf ?_ ?_; (focus (simp only [go_sem]; done))) | (refine And.intro ?_ ?_; (focus omega)))
    exact retK_ret ⟨⟨_, rfl, by simp only [go_sem, e]⟩, trivial⟩
  by_cases hc1 : n - (wValue x.fValue : Nat) - (x.fIDs.length : Nat) < 0
  · have e : szOut n (wGroup x) = -1 := by rw [szOut_neg (by unfold wGroup; omega)]
    repeat' (with_reducible first | refine WP_ret ?_ | refine WP_skip ?_ | refine WP_exit ?_ | refine WP_seq ?_ | refine WP_block ?_ | refine K_code ?_ | refine K_blk ?_ | refine K_code_ret ?_ | refine K_blk_ret ?_ | refine K_code_exit ?_ | refine K_blk_exit_same ?_ | refine K_blk_exit_other (by decide) ?_ | refine K_nil ?_ | refine L_ret ?_ | refine L_exit ?_ | (refine run_cons ?_; simp only [go_sem, szOut_pos hc0, hc0, szOut_neg hc1, hc1]) | (refine run_nil ?_) | (refine drun_cons ?_; simp only [go_sem, szOut_pos hc0, hc0, szOut_neg hc1, hc1]) | (refine drun_nil ?_) | (refine reg ?_) | (refine regd (by kernel_rfl) ?_) | (refine cal (szValue_ok x.fValue (n) (by omega) hw.1) ?_ ?_ ?_; (focus (simp only [go_sem]; done)); (focus (simp only [go_sem]; done)); try simp only [go_sem, szOut_pos hc0, hc0, szOut_neg hc1, hc1]) | (refine cald (szValue_ok x.fValue (n) (by omega) hw.1) ?_ ?_ ?_ ?_; (focus (simp only [go_sem]; done)); (focus (simp only [go_sem]; done)); (focus (simp only [go_sem]; done)); try simp only [go_sem, szOut_pos hc0, hc0, szOut_neg hc1, hc1]) | (refine cal (szIntS_ok x.fIDs (n - (wValue x.fValue : Nat)) (by omega) hw.2) ?_ ?_ ?_; (focus (simp only [go_sem]; done)); (focus (simp only [go_sem]; done)); try simp only [go_sem, szOut_pos hc0, hc0, szOut_neg hc1, hc1]) | (refine cald (szIntS_ok x.fIDs (n - (wValue x.fValue : Nat)) (by omega) hw.2) ?_ ?_ ?_ ?_; (focus (simp only [go_sem]; done)); (focus (simp only [go_sem]; done)); (focus (simp only [go_sem]; done)); try simp only [go_sem, szOut_pos hc0, hc0, szOut_neg hc1, hc1]) | (refine cndt ?_ ?_; (focus (simp only [go_sem]; done))) | (refine cndf ?_ ?_; (focus (simp only [go_sem]; done))) | (refine And.intro ?_ ?_; (focus omega)))
    exact retK_ret ⟨⟨_, rfl, by simp only [go_sem, e]⟩, trivial⟩
  have e : szOut n (wGroup x) = n - (wValue x.fValue : Nat) - (x.fIDs.length : Nat) := by rw [szOut_pos (by unfold wGroup; omega)]; unfold wGroup; omega
  repeat' (with_reducible first | refine WP_ret ?_ | refine WP_skip ?_ | refine WP_exit ?_ | refine WP_seq ?_ | refine WP_block ?_ | refine K_code ?_ | refine K_blk ?_ | refine K_code_ret ?_ | refine K_blk_ret ?_ | refine K_code_exit ?_ | refine K_blk_exit_same ?_ | refine K_blk_exit_other (by decide) ?_ | refine K_nil ?_ | refine L_ret ?_ | refine L_exit ?_ | (refine run_cons ?_; simp only [go_sem, szOut_pos hc0, hc0, szOut_pos hc1, hc1]) | (refine run_nil ?_) | (refine drun_cons ?_; simp only [go_sem, szOut_pos hc0, hc0, szOut_pos hc1, hc1]) | (refine drun_nil ?_) | (refine reg ?_) | (refine regd (by kernel_rfl) ?_) | (refine cal (szValue_ok x.fValue (n) (by omega) hw.1) ?_ ?_ ?_; (focus (simp only [go_sem]; done)); (focus (simp only [go_sem]; done)); try simp only [go_sem, szOut_pos hc0, hc0, szOut_pos hc1, hc1]) | (refine cald (szValue_ok x.fValue (n) (by omega) hw.1) ?_ ?_ ?_ ?_; (focus (simp only [go_sem]; done)); (focus (simp only [go_sem]; done)); (focus (simp only [go_sem]; done)); try simp only [go_sem, szOut_pos hc0, hc0, szOut_pos hc1, hc1]) | (refine cal (szIntS_ok x.fIDs (n - (wValue x.fValue : Nat)) (by omega) hw.2) ?_ ?_ ?_; (focus (simp only [go_sem]; done)); (focus (simp only [go_sem]; done)); try simp only [go_sem, szOut_pos hc0, hc0, szOut_pos hc1, hc1]) | (refine cald (szIntS_ok x.fIDs (n - (wValue x.fValue : Nat)) (by omega) hw.2) ?_ ?_ ?_ ?_; (focus (simp only [go_sem]; done)); (focus (simp only [go_sem]; done)); (focus (simp only [go_sem]; done)); try simp only [go_sem, szOut_pos hc0, hc0, szOut_pos hc1, hc1]) | (refine cndt ?_ ?_; (focus (simp only [go_sem]; done))) | (refine cndf ?_ ?_; (focus (simp only [go_sem]; done))) | (refine And.intro ?_ ?_; (focus omega)))
  exact retK_ret ⟨⟨_, rfl, by simp only [go_sem, e]⟩, trivial⟩
theorem toGroup_ok (x : TGroup) (hx : wGroup x ≤ 1048576) : FnC Try.prog 84 [gGroup x] (rGroup x) := by
  unfold wGroup at hx
  refine ent Try.func84 rfl Try.call84 rfl (fun C => ?_)
  simp only [go_sem, st0, Try.ntmps84]
  repeat' (with_reducible first | refine WP_ret ?_ | refine WP_skip ?_ | refine WP_exit ?_ | refine WP_seq ?_ | refine WP_block ?_ | refine K_code ?_ | refine K_blk ?_ | refine K_code_ret ?_ | refine K_blk_ret ?_ | refine K_code_exit ?_ | refine K_blk_exit_same ?_ | refine K_blk_exit_other (by decide) ?_ | refine K_nil ?_ | refine L_ret ?_ | refine L_exit ?_ | (refine run_cons ?_; simp only [go_sem]) | (refine run_nil ?_) | (refine drun_cons ?_; simp only [go_sem]) | (refine drun_nil ?_) | (refine reg ?_) | (refine regd (by kernel_rfl) ?_) | (refine cal (toValue_ok x.fValue (by omega)) ?_ ?_ ?_; (focus (simp only [go_sem]; done)); (focus (simp only [go_sem]; done)); try simp only [go_sem]) | (refine cald (toValue_ok x.fValue (by omega)) ?_ ?_ ?_ ?_; (focus (simp only [go_sem]; done)); (focus (simp only [go_sem]; done)); (focus (simp only [go_sem]; done)); try simp only [go_sem]) | (refine cal (toIntS_ok x.fIDs (by omega)) ?_ ?_ ?_; (focus (simp only [go_sem]; done)); (focus (simp only [go_sem]; done)); try simp only [go_sem]) | (refine cald (toIntS_ok x.fIDs (by omega)) ?_ ?_ ?_ ?_; (focus (simp only [go_sem]; done)); (focus (simp only [go_sem]; done)); (focus (simp only [go_sem]; done)); try simp only [go_sem]) | (refine cndt ?_ ?_; (focus (simp only [go_sem]; done))) | (refine cndf ?_ ?_; (focus (simp only [go_sem]; done))) | (refine And.intro ?_ ?_; (focus omega)))
  exact retK_ret ⟨⟨_, rfl, by simp only [go_sem]⟩, trivial⟩
theorem toGroupd_ok (x : TGroup) (hx : wGroup x ≤ 1048576) : FnC Try.prog 84 [gGroup x] (gGroup x) := (toGroup_ok x hx).pure (by simp only [go_sem]) (by simp only [go_sem]) (by simp only [go_sem]) (by simp only [go_sem]) (by simp only [go_sem])
theorem eqGroup_ok (x : TGroup) (hx : wGroup x ≤ 1048576) : FnC Try.prog 85 [gGroup x, gGroup x] (ob true) := by
  unfold wGroup at hx
  refine ent Try.func85 rfl Try.call85 rfl (fun C => ?_)
  simp only [go_sem, st0, Try.ntmps85]
  repeat' (with_reducible first | refine WP_ret ?_ | refine WP_skip ?_ | refine WP_exit ?_ | refine WP_seq ?_ | refine WP_block ?_ | refine K_code ?_ | refine K_blk ?_ | refine K_code_ret ?_ | refine K_blk_ret ?_ | refine K_code_exit ?_ | refine K_blk_exit_same ?_ | refine K_blk_exit_other (by decide) ?_ | refine K_nil ?_ | refine L_ret ?_ | refine L_exit ?_ | (refine run_cons ?_; simp only [go_sem]) | (refine run_nil ?_) | (refine drun_cons ?_; simp only [go_sem]) | (refine drun_nil ?_) | (refine reg ?_) | (refine regd (by kernel_rfl) ?_) | (refine cal (eqValue_ok x.fValue (by omega)) ?_ ?_ ?_; (focus (simp only [go_sem]; done)); (focus (simp only [go_sem]; done)); try simp only [go_sem]) | (refine cald (eqValue_ok x.fValue (by omega)) ?_ ?_ ?_ ?_; (focus (simp only [go_sem]; done)); (focus (simp only [go_sem]; done)); (focus (simp only [go_sem]; done)); try simp only [go_sem]) | (refine cal (eqIntS_ok x.fIDs (by omega)) ?_ ?_ ?_; (focus (simp only [go_sem]; done)); (focus (simp only [go_sem]; done)); try simp only [go_sem]) | (refine cald (eqIntS_ok x.fIDs (by omega)) ?_ ?_ ?_ ?_; (focus (simp only [go_sem]; done)); (focus (simp only [go_sem]; done)); (focus (simp only [go_sem]; done)); try simp only [go_sem]) | (refine cndt ?_ ?_; (focus (simp only [go_sem]; done))) | (refine cndf ?_ ?_; (focus (simp only [go_sem]; done))) | (refine And.intro ?_ ?_; (focus omega)))
  exact retK_ret ⟨⟨_, rfl, by simp only [go_sem]⟩, trivial⟩
theorem toGroupS_ok (l : List TGroup) (hl : wGroupS l ≤ 1048576) : FnC Try.prog 16 [.o (.d (.sl (l.map encGroup)))] (.o (.w 117 4 (l.map encGroup))) := by
  unfold wGroupS at hl
  refine ent Try.func16 rfl Try.call16 rfl (fun C => ?_)
  simp only [go_sem, st0, Try.ntmps16]
  repeat' (with_reducible first | refine WP_ret ?_ | refine WP_skip ?_ | refine WP_exit ?_ | refine WP_seq ?_ | refine WP_block ?_ | refine K_code ?_ | refine K_blk ?_ | refine K_code_ret ?_ | refine K_blk_ret ?_ | refine K_code_exit ?_ | refine K_blk_exit_same ?_ | refine K_blk_exit_other (by decide) ?_ | refine K_nil ?_ | refine L_ret ?_ | refine L_exit ?_ | (refine run_cons ?_; simp only [go_sem]) | (refine run_nil ?_) | (refine drun_cons ?_; simp only [go_sem]) | (refine drun_nil ?_) | (refine reg ?_) | (refine regd (by kernel_rfl) ?_) | (refine cndt ?_ ?_; (focus (simp only [go_sem]; done))) | (refine cndf ?_ ?_; (focus (simp only [go_sem]; done))) | (refine And.intro ?_ ?_; (focus omega)))
  refine WP_lp (α := Nat) (fun k => [(4, oi k)]) (fun k => [(0, .row 117 4 (fillR encGroup [iv 0, iv 0, sv ⟨#[]⟩, .sl []] l k) true)]) (fun k => k ≤ l.length) (fun k => l.length - k) 0 (fun _ => ?_) ?_ ?_ (fun k hk => ?_)
  · simp only [go_sem]
  · simp only [go_sem]; simp [fillR_zero]
  · simp
  · simp only [go_sem]
    repeat' (with_reducible first | refine WP_ret ?_ | refine WP_skip ?_ | refine WP_exit ?_ | refine WP_seq ?_ | refine WP_block ?_ | refine K_code ?_ | refine K_blk ?_ | refine K_code_ret ?_ | refine K_blk_ret ?_ | refine K_code_exit ?_ | refine K_blk_exit_same ?_ | refine K_blk_exit_other (by decide) ?_ | refine K_nil ?_ | refine L_ret ?_ | refine L_exit ?_ | (refine run_cons ?_; simp only [go_sem]) | (refine run_nil ?_) | (refine drun_cons ?_; simp only [go_sem]) | (refine drun_nil ?_) | (refine reg ?_) | (refine regd (by kernel_rfl) ?_) | (refine cndt ?_ ?_; (focus (simp only [go_sem]; done))) | (refine cndf ?_ ?_; (focus (simp only [go_sem]; done))) | (refine And.intro ?_ ?_; (focus omega)))
    refine cnd rfl (fun h => ?_) (fun h => ?_)
    · simp only [decide_eq_true_eq, Int.ofNat_lt] at h
      have hw := wsum_get wGroup l h
      repeat' (with_reducible first | refine WP_ret ?_ | refine WP_skip ?_ | refine WP_exit ?_ | refine WP_seq ?_ | refine WP_block ?_ | refine K_code ?_ | refine K_blk ?_ | refine K_code_ret ?_ | refine K_blk_ret ?_ | refine K_code_exit ?_ | refine K_blk_exit_same ?_ | refine K_blk_exit_other (by decide) ?_ | refine K_nil ?_ | refine L_ret ?_ | refine L_exit ?_ | (refine run_cons ?_; simp only [go_sem, h]) | (refine run_nil ?_) | (refine drun_cons ?_; simp only [go_sem, h]) | (refine drun_nil ?_) | (refine reg ?_) | (refine regd (by kernel_rfl) ?_) | (refine cal (toGroup_ok l[k] (by omega)) ?_ ?_ ?_; (focus (simp only [go_sem]; done)); (focus (simp only [go_sem]; done)); try simp only [go_sem, h]) | (refine cald (toGroup_ok l[k] (by omega)) ?_ ?_ ?_ ?_; (focus (simp only [go_sem]; done)); (focus (simp only [go_sem]; done)); (focus (simp only [go_sem]; done)); try simp only [go_sem, h]) | (refine cndt ?_ ?_; (focus (simp only [go_sem]; done))) | (refine cndf ?_ ?_; (focus (simp only [go_sem]; done))) | (refine And.intro ?_ ?_; (focus omega)))
      refine L_next (k + 1) ?_ ?_ ?_
      · simp only [go_sem]; simp [← fillR_set, h, encGroup]
      · omega
      · omega
    · simp only [decide_eq_false_iff_not] at h
      have e : k = l.length := by omega
      subst e
      repeat' (with_reducible first | refine WP_ret ?_ | refine WP_skip ?_ | refine WP_exit ?_ | refine WP_seq ?_ | refine WP_block ?_ | refine K_code ?_ | refine K_blk ?_ | refine K_code_ret ?_ | refine K_blk_ret ?_ | refine K_code_exit ?_ | refine K_blk_exit_same ?_ | refine K_blk_exit_other (by decide) ?_ | refine K_nil ?_ | refine L_ret ?_ | refine L_exit ?_ | (refine run_cons ?_; simp only [go_sem]) | (refine run_nil ?_) | (refine drun_cons ?_; simp only [go_sem]) | (refine drun_nil ?_) | (refine reg ?_) | (refine regd (by kernel_rfl) ?_) | (refine cndt ?_ ?_; (focus (simp only [go_sem]; done))) | (refine cndf ?_ ?_; (focus (simp only [go_sem]; done))) | (refine And.intro ?_ ?_; (focus omega)))
      exact retK_ret ⟨⟨_, rfl, by simp only [go_sem, fillR_all]⟩, trivial⟩
theorem toGroupSd_ok (l : List TGroup) (hl : wGroupS l ≤ 1048576) : FnC Try.prog 16 [.o (.d (.sl (l.map encGroup)))] (.o (.d (.sl (l.map encGroup)))) := (toGroupS_ok l hl).pure (by simp only [go_sem]) (by simp only [go_sem]) (by simp only [go_sem]) (by simp only [go_sem]) (by simp only [go_sem])
theorem eqGroupS_ok (l : List TGroup) (hl : wGroupS l ≤ 1048576) : FnC Try.prog 19 [.o (.d (.sl (l.map encGroup))), .o (.d (.sl (l.map encGroup)))] (ob true) := by
  unfold wGroupS at hl
  refine ent Try.func19 rfl Try.call19 rfl (fun C => ?_)
  simp only [go_sem, st0, Try.ntmps19]
  repeat' (with_reducible first | refine WP_ret ?_ | refine WP_skip ?_ | refine WP_exit ?_ | refine WP_seq ?_ | refine WP_block ?_ | refine K_code ?_ | refine K_blk ?_ | refine K_code_ret ?_ | refine K_blk_ret ?_ | refine K_code_exit ?_ | refine K_blk_exit_same ?_ | refine K_blk_exit_other (by decide) ?_ | refine K_nil ?_ | refine L_ret ?_ | refine L_exit ?_ | (refine run_cons ?_; simp only [go_sem]) | (refine run_nil ?_) | (refine drun_cons ?_; simp only [go_sem]) | (refine drun_nil ?_) | (refine reg ?_) | (refine regd (by kernel_rfl) ?_) | (refine cndt ?_ ?_; (focus (simp only [go_sem]; done))) | (refine cndf ?_ ?_; (focus (simp only [go_sem]; done))) | (refine And.intro ?_ ?_; (focus omega)))
  refine WP_lp (α := Nat) (fun k => [(5, oi k)]) (fun _ => []) (fun k => k ≤ l.length) (fun k => l.length - k) 0 (fun _ => ?_) ?_ ?_ (fun k hk => ?_)
  · simp only [go_sem]
  · simp only [go_sem]; simp
  · simp
  · simp only [go_sem]
    repeat' (with_reducible first | refine WP_ret ?_ | refine WP_skip ?_ | refine WP_exit ?_ | refine WP_seq ?_ | refine WP_block ?_ | refine K_code ?_ | refine K_blk ?_ | refine K_code_ret ?_ | refine K_blk_ret ?_ | refine K_code_exit ?_ | refine K_blk_exit_same ?_ | refine K_blk_exit_other (by decide) ?_ | refine K_nil ?_ | refine L_ret ?_ | refine L_exit ?_ | (refine run_cons ?_; simp only [go_sem]) | (refine run_nil ?_) | (refine drun_cons ?_; simp only [go_sem]) | (refine drun_nil ?_) | (refine reg ?_) | (refine regd (by kernel_rfl) ?_) | (refine cndt ?_ ?_; (focus (simp only [go_sem]; done))) | (refine cndf ?_ ?_; (focus (simp only [go_sem]; done))) | (refine And.intro ?_ ?_; (focus omega)))
    refine cnd rfl (fun h => ?_) (fun h => ?_)
    · simp only [decide_eq_true_eq, Int.ofNat_lt] at h
      have hw := wsum_get wGroup l h
      repeat' (with_reducible first | refine WP_ret ?_ | refine WP_skip ?_ | refine WP_exit ?_ | refine WP_seq ?_ | refine WP_block ?_ | refine K_code ?_ | refine K_blk ?_ | refine K_code_ret ?_ | refine K_blk_ret ?_ | refine K_code_exit ?_ | refine K_blk_exit_same ?_ | refine K_blk_exit_other (by decide) ?_ | refine K_nil ?_ | refine L_ret ?_ | refine L_exit ?_ | (refine run_cons ?_; simp only [go_sem, h]) | (refine run_nil ?_) | (refine drun_cons ?_; simp only [go_sem, h]) | (refine drun_nil ?_) | (refine reg ?_) | (refine regd (by kernel_rfl) ?_) | (refine cal (eqGroup_ok l[k] (by omega)) ?_ ?_ ?_; (focus (simp only [go_sem]; done)); (focus (simp only [go_sem]; done)); try simp only [go_sem, h]) | (refine cald (eqGroup_ok l[k] (by omega)) ?_ ?_ ?_ ?_; (focus (simp only [go_sem]; done)); (focus (simp only [go_sem]; done)); (focus (simp only [go_sem]; done)); try simp only [go_sem, h]) | (refine cndt ?_ ?_; (focus (simp only [go_sem]; done))) | (refine cndf ?_ ?_; (focus (simp only [go_sem]; done))) | (refine And.intro ?_ ?_; (focus omega)))
      refine L_next (k + 1) ?_ ?_ ?_
      · simp only [go_sem]; simp
      · omega
      · omega
    · simp only [decide_eq_false_iff_not] at h
      repeat' (with_reducible first | refine WP_ret ?_ | refine WP_skip ?_ | refine WP_exit ?_ | refine WP_seq ?_ | refine WP_block ?_ | refine K_code ?_ | refine K_blk ?_ | refine K_code_ret ?_ | refine K_blk_ret ?_ | refine K_code_exit ?_ | refine K_blk_exit_same ?_ | refine K_blk_exit_other (by decide) ?_ | refine K_nil ?_ | refine L_ret ?_ | refine L_exit ?_ | (refine run_cons ?_; simp only [go_sem]) | (refine run_nil ?_) | (refine drun_cons ?_; simp only [go_sem]) | (refine drun_nil ?_) | (refine reg ?_) | (refine regd (by kernel_rfl) ?_) | (refine cndt ?_ ?_; (focus (simp only [go_sem]; done))) | (refine cndf ?_ ?_; (focus (simp only [go_sem]; done))) | (refine And.intro ?_ ?_; (focus omega)))
      exact retK_ret ⟨⟨_, rfl, by simp only [go_sem]⟩, trivial⟩
theorem szGroupS_ok (l : List TGroup) (n : Int) (h0 : 0 ≤ n ∧ n ≤ 1048576) (hw : wfGroupS l) : FnC Try.prog 14 [.o (.d (.sl (l.map encGroup))), oi n] (oi (szOut n (wGroupS l))) := by
  unfold wfGroupS at hw
  refine ent Try.func14 rfl Try.call14 rfl (fun C => ?_)
  simp only [go_sem, st0, Try.ntmps14]
  by_cases hc : n - (l.length : Nat) < 0
  · have e : szOut n (wGroupS l) = -1 := by rw [szOut_neg (by unfold wGroupS; omega)]
    repeat' (with_reducible first | refine WP_ret ?_ | refine WP_skip ?_ | refine WP_exit ?_ | refine WP_seq ?_ | refine WP_block ?_ | refine K_code ?_ | refine K_blk ?_ | refine K_code_ret ?_ | refine K_blk_ret ?_ | refine K_code_exit ?_ | refine K_blk_exit_same ?_ | refine K_blk_exit_other (by decide) ?_ | refine K_nil ?_ | refine L_ret ?_ | refine L_exit ?_ | (refine run_cons ?_; simp only [go_sem, hc]) | (refine run_nil ?_) | (refine drun_cons ?_; simp only [go_sem, hc]) | (refine drun_nil ?_) | (refine reg ?_) | (refine regd (by kernel_rfl) ?_) | (refine cndt ?_ ?_; (focus (simp only [go_sem]; done))) | (refine cndf ?_ ?_; (focus (simp only [go_sem]; done))) | (refine And.intro ?_ ?_; (focus omega)))
    exact retK_ret ⟨⟨_, rfl, by simp only [go_sem, e]⟩, trivial⟩
  repeat' (with_reducible first | refine WP_ret ?_ | refine WP_skip ?_ | refine WP_exit ?_ | refine WP_seq ?_ | refine WP_block ?_ | refine K_code ?_ | refine K_blk ?_ | refine K_code_ret ?_ | refine K_blk_ret ?_ | refine K_code_exit ?_ | refine K_blk_exit_same ?_ | refine K_blk_exit_other (by decide) ?_ | refine K_nil ?_ | refine L_ret ?_ | refine L_exit ?_ | (refine run_cons ?_; simp only [go_sem, hc]) | (refine run_nil ?_) | (refine drun_cons ?_; simp only [go_sem, hc]) | (refine drun_nil ?_) | (refine reg ?_) | (refine regd (by kernel_rfl) ?_) | (refine cndt ?_ ?_; (focus (simp only [go_sem]; done))) | (refine cndf ?_ ?_; (focus (simp only [go_sem]; done))) | (refine And.intro ?_ ?_; (focus omega)))
  refine WP_lp (α := Nat) (fun k => [(5, oi k), (1, oi (n - (l.length : Nat) - (wsum wGroup (l.take k) : Nat)))]) (fun _ => []) (fun k => k ≤ l.length ∧ 0 ≤ n - (l.length : Nat) - (wsum wGroup (l.take k) : Nat)) (fun k => l.length - k) 0 (fun _ => ?_) ?_ ?_ (fun k hk => ?_)
  · simp only [go_sem]
  · simp only [go_sem]; simp [wsum]
  · simp [wsum]; omega
  · obtain ⟨hk, hn⟩ := hk
    simp only [go_sem]
    repeat' (with_reducible first | refine WP_ret ?_ | refine WP_skip ?_ | refine WP_exit ?_ | refine WP_seq ?_ | refine WP_block ?_ | refine K_code ?_ | refine K_blk ?_ | refine K_code_ret ?_ | refine K_blk_ret ?_ | refine K_code_exit ?_ | refine K_blk_exit_same ?_ | refine K_blk_exit_other (by decide) ?_ | refine K_nil ?_ | refine L_ret ?_ | refine L_exit ?_ | (refine run_cons ?_; simp only [go_sem]) | (refine run_nil ?_) | (refine drun_cons ?_; simp only [go_sem]) | (refine drun_nil ?_) | (refine reg ?_) | (refine regd (by kernel_rfl) ?_) | (refine cndt ?_ ?_; (focus (simp only [go_sem]; done))) | (refine cndf ?_ ?_; (focus (simp only [go_sem]; done))) | (refine And.intro ?_ ?_; (focus omega)))
    refine cnd rfl (fun h => ?_) (fun h => ?_)
    · simp only [decide_eq_true_eq, Int.ofNat_lt] at h
      have hs := wsum_take wGroup l h
      have ht := wsum_le wGroup l (k + 1)
      by_cases h2 : n - (l.length : Nat) - (wsum wGroup (l.take k) : Nat) - (wGroup l[k] : Nat) < 0
      · have e : szOut n (wGroupS l) = -1 := by rw [szOut_neg (by unfold wGroupS; omega)]
        repeat' (with_reducible first | refine WP_ret ?_ | refine WP_skip ?_ | refine WP_exit ?_ | refine WP_seq ?_ | refine WP_block ?_ | refine K_code ?_ | refine K_blk ?_ | refine K_code_ret ?_ | refine K_blk_ret ?_ | refine K_code_exit ?_ | refine K_blk_exit_same ?_ | refine K_blk_exit_other (by decide) ?_ | refine K_nil ?_ | refine L_ret ?_ | refine L_exit ?_ | (refine run_cons ?_; simp only [go_sem, h, szOut_neg h2]) | (refine run_nil ?_) | (refine drun_cons ?_; simp only [go_sem, h, szOut_neg h2]) | (refine drun_nil ?_) | (refine reg ?_) | (refine regd (by kernel_rfl) ?_) | (refine cal (szGroup_ok l[k] _ ⟨hn, by omega⟩ (hw.2 _ (List.getElem_mem h))) ?_ ?_ ?_; (focus (simp only [go_sem]; done)); (focus (simp only [go_sem]; done)); try simp only [go_sem, h, szOut_neg h2]) | (refine cald (szGroup_ok l[k] _ ⟨hn, by omega⟩ (hw.2 _ (List.getElem_mem h))) ?_ ?_ ?_ ?_; (focus (simp only [go_sem]; done)); (focus (simp only [go_sem]; done)); (focus (simp only [go_sem]; done)); try simp only [go_sem, h, szOut_neg h2]) | (refine cndt ?_ ?_; (focus (simp only [go_sem]; done))) | (refine cndf ?_ ?_; (focus (simp only [go_sem]; done))) | (refine And.intro ?_ ?_; (focus omega)))
        exact retK_ret ⟨⟨_, rfl, by simp only [go_sem, e]⟩, trivial⟩
      · repeat' (with_reducible first | refine WP_ret ?_ | refine WP_skip ?_ | refine WP_exit ?_ | refine WP_seq ?_ | refine WP_block ?_ | refine K_code ?_ | refine K_blk ?_ | refine K_code_ret ?_ | refine K_blk_ret ?_ | refine K_code_exit ?_ | refine K_blk_exit_same ?_ | refine K_blk_exit_other (by decide) ?_ | refine K_nil ?_ | refine L_ret ?_ | refine L_exit ?_ | (refine run_cons ?_; simp only [go_sem, h, szOut_pos h2, h2]) | (refine run_nil ?_) | (refine drun_cons ?_; simp only [go_sem, h, szOut_pos h2, h2]) | (refine drun_nil ?_) | (refine reg ?_) | (refine regd (by kernel_rfl) ?_) | (refine cal (szGroup_ok l[k] _ ⟨hn, by omega⟩ (hw.2 _ (List.getElem_mem h))) ?_ ?_ ?_; (focus (simp only [go_sem]; done)); (focus (simp only [go_sem]; done)); try simp only [go_sem, h, szOut_pos h2, h2]) | (refine cald (szGroup_ok l[k] _ ⟨hn, by omega⟩ (hw.2 _ (List.getElem_mem h))) ?_ ?_ ?_ ?_; (focus (simp only [go_sem]; done)); (focus (simp only [go_sem]; done)); (focus (simp only [go_sem]; done)); try simp only [go_sem, h, szOut_pos h2, h2]) | (refine cndt ?_ ?_; (focus (simp only [go_sem]; done))) | (refine cndf ?_ ?_; (focus (simp only [go_sem]; done))) | (refine And.intro ?_ ?_; (focus omega)))
        refine L_next (k + 1) ?_ ?_ ?_
        · simp only [go_sem]; simp; omega
        · omega
        · omega
    · simp only [decide_eq_false_iff_not] at h
      have e0 : k = l.length := by omega
      subst e0
      rw [List.take_length] at hn
      have e : szOut n (wGroupS l) = n - (l.length : Nat) - (wsum wGroup l : Nat) := by rw [szOut_pos (by unfold wGroupS; omega)]; unfold wGroupS; omega
      repeat' (with_reducible first | refine WP_ret ?_ | refine WP_skip ?_ | refine WP_exit ?_ | refine WP_seq ?_ | refine WP_block ?_ | refine K_code ?_ | refine K_blk ?_ | refine K_code_ret ?_ | refine K_blk_ret ?_ | refine K_code_exit ?_ | refine K_blk_exit_same ?_ | refine K_blk_exit_other (by decide) ?_ | refine K_nil ?_ | refine L_ret ?_ | refine L_exit ?_ | (refine run_cons ?_; simp only [go_sem]) | (refine run_nil ?_) | (refine drun_cons ?_; simp only [go_sem]) | (refine drun_nil ?_) | (refine reg ?_) | (refine regd (by kernel_rfl) ?_) | (refine cndt ?_ ?_; (focus (simp only [go_sem]; done))) | (refine cndf ?_ ?_; (focus (simp only [go_sem]; done))) | (refine And.intro ?_ ?_; (focus omega)))
      exact retK_ret ⟨⟨_, rfl, by simp only [go_sem, e, List.take_length]⟩, trivial⟩
end Go.Proofs.Yteganoldfldlhaa
