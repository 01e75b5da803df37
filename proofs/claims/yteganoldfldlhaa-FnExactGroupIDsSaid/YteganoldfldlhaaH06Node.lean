/-
  Node: the structure, its cells; the contracts of the laws' helpers sz, to, eq. By program (gentys.py).
-/
import Derived.Test.YteganoldfldlhaaH05Store
set_option linter.all false
set_option maxHeartbeats 1000000
namespace Go.Proofs.Yteganoldfldlhaa
open Go Go.Sx Go.RowKit Go.Proofs

structure TNode where
  fOp : Int
  fLeft : Int
  fRight : Int
  fName : ByteArray
  fValue : TValue
@[go_sem] def encNode (x : TNode) : List D := [iv x.fOp, iv x.fLeft, iv x.fRight, sv x.fName, iv x.fValue.fKind, iv x.fValue.fInt, sv x.fValue.fStr]
@[go_sem] def gNode (x : TNode) : SV := .g [.d (iv x.fOp), .d (iv x.fLeft), .d (iv x.fRight), .d (sv x.fName), .d (iv x.fValue.fKind), .d (iv x.fValue.fInt), .d (sv x.fValue.fStr)]
def wNode (x : TNode) : Nat := x.fName.size + wValue x.fValue
def wfNode (x : TNode) : Prop := inR .i64 x.fOp ∧ inR .i64 x.fLeft ∧ inR .i64 x.fRight ∧ x.fName.size ≤ 9223372036854775807 ∧ wfValue x.fValue
def wNodeS (l : List TNode) : Nat := l.length + wsum wNode l
def wfNodeS (l : List TNode) : Prop := l.length ≤ 9223372036854775807 ∧ ∀ x ∈ l, wfNode x
theorem decNode {n : Nat} {r : List D} (h : ShD tt n 176 r) : ∃ x : TNode, r = encNode x ∧ wfNode x := by
  match n, h with
  | n + 1, ⟨a0, b0, e0, h0, a1, b1, e1, h1, a2, b2, e2, h2, a3, b3, e3, h3, a4, b4, e4, h4, ee⟩ =>
    obtain ⟨x0, rfl, p0⟩ := decI h0
    obtain ⟨x1, rfl, p1⟩ := decI h1
    obtain ⟨x2, rfl, p2⟩ := decI h2
    obtain ⟨x3, rfl, p3⟩ := decS h3
    obtain ⟨x4, rfl, p4⟩ := decValue h4
    have ee' : b4 = [] := ee
    subst ee' e4 e3 e2 e1 e0
    exact ⟨⟨x0, x1, x2, x3, x4⟩, rfl, p0, p1, p2, p3, p4⟩
theorem decNodeS {n : Nat} {r : List D} (h : ShD tt n 103 r) : ∃ l : List TNode, r = [.sl (l.map encNode)] ∧ wfNodeS l := by
  match n, h with
  | n + 1, ⟨rows, h, hm, hr⟩ =>
    obtain ⟨l, rfl, hl⟩ := rows_map encNode wfNode (fun r h => decNode (hr r h))
    exact ⟨l, h, by unfold maxLen at hm; simpa using hm, hl⟩
theorem szNode_ok (x : TNode) (n : Int) (h0 : 0 ≤ n ∧ n ≤ 1048576) (hw : wfNode x) : FnC Try.prog 136 [gNode x, oi n] (oi (szOut n (wNode x))) := by
  refine ent Try.func136 rfl Try.call136 rfl (fun C => ?_)
  simp only [go_sem, st0, Try.ntmps136]
  unfold wfNode at hw
  by_cases hc0 : n - (x.fName.size : Nat) < 0
  · have e : szOut n (wNode x) = -1 := by rw [szOut_neg (by unfold wNode; omega)]
    repeat' (with_reducible first | refine WP_ret ?_ | refine WP_skip ?_ | refine WP_exit ?_ | refine WP_seq ?_ | refine WP_block ?_ | refine K_code ?_ | refine K_blk ?_ | refine K_code_ret ?_ | refine K_blk_ret ?_ | refine K_code_exit ?_ | refine K_blk_exit_same ?_ | refine K_blk_exit_other (by decide) ?_ | refine K_nil ?_ | refine L_ret ?_ | refine L_exit ?_ | (refine run_cons ?_; simp only [go_sem, hc0]) | (refine run_nil ?_) | (refine drun_cons ?_; simp only [go_sem, hc0]) | (refine drun_nil ?_) | (refine reg ?_) | (refine regd (by kernel_rfl) ?_) | (refine cndt ?_ ?_; (focus (simp only [go_sem]; done))) | (refine cndf ?_ ?_; (focus (simp only [go_sem]; done))) | (refine And.intro ?_ ?_; (focus omega)))
    exact retK_ret ⟨⟨_, rfl, by simp only [go_sem, e]⟩, trivial⟩
  by_cases hc1 : n - (x.fName.size : Nat) - (wValue x.fValue : Nat) < 0
  · have e : szOut n (wNode x) = -1 := by rw [szOut_neg (by unfold wNode; omega)]
    repeat' (with_reducible first | refine WP_ret ?_ | refine WP_skip ?_ | refine WP_exit ?_ | refine WP_seq ?_ | refine WP_block ?_ | refine K_code ?_ | refine K_blk ?_ | refine K_code_ret ?_ | refine K_blk_ret ?_ | refine K_code_exit ?_ | refine K_blk_exit_same ?_ | refine K_blk_exit_other (by decide) ?_ | refine K_nil ?_ | refine L_ret ?_ | refine L_exit ?_ | (refine run_cons ?_; simp only [go_sem, hc0, szOut_neg hc1, hc1]) | (refine run_nil ?_) | (refine drun_cons ?_; simp only [go_sem, hc0, szOut_neg hc1, hc1]) | (refine drun_nil ?_) | (refine reg ?_) | (refine regd (by kernel_rfl) ?_) | (refine cal (szValue_ok x.fValue (n - (x.fName.size : Nat)) (by omega) hw.2.2.2.2) ?_ ?_ ?_; (focus (simp only [go_sem]; done)); (focus (simp only [go_sem]; done)); try simp only [go_sem, hc0, szOut_neg hc1, hc1]) | (refine cald (szValue_ok x.fValue (n - (x.fName.size : Nat)) (by omega) hw.2.2.2.2) ?_ ?_ ?_ ?_; (focus (simp only [go_sem]; done)); (focus (simp only [go_sem]; done)); (focus (simp only [go_sem]; done)); try simp only [go_sem, hc0, szOut_neg hc1, hc1]) | (refine cndt ?_ ?_; (focus (simp only [go_sem]; done))) | (refine cndf ?_ ?_; (focus (simp only [go_sem]; done))) | (refine And.intro ?_ ?_; (focus omega)))
    exact retK_ret ⟨⟨_, rfl, by simp only [go_sem, e]⟩, trivial⟩
  have e : szOut n (wNode x) = n - (x.fName.size : Nat) - (wValue x.fValue : Nat) := by rw [szOut_pos (by unfold wNode; omega)]; unfold wNode; omega
  repeat' (with_reducible first | refine WP_ret ?_ | refine WP_skip ?_ | refine WP_exit ?_ | refine WP_seq ?_ | refine WP_block ?_ | refine K_code ?_ | refine K_blk ?_ | refine K_code_ret ?_ | refine K_blk_ret ?_ | refine K_code_exit ?_ | refine K_blk_exit_same ?_ | refine K_blk_exit_other (by decide) ?_ | refine K_nil ?_ | refine L_ret ?_ | refine L_exit ?_ | (refine run_cons ?_; simp only [go_sem, hc0, szOut_pos hc1, hc1]) | (refine run_nil ?_) | (refine drun_cons ?_; simp only [go_sem, hc0, szOut_pos hc1, hc1]) | (refine drun_nil ?_) | (refine reg ?_) | (refine regd (by kernel_rfl) ?_) | (refine cal (szValue_ok x.fValue (n - (x.fName.size : Nat)) (by omega) hw.2.2.2.2) ?_ ?_ ?_; (focus (simp only [go_sem]; done)); (focus (simp only [go_sem]; done)); try simp only [go_sem, hc0, szOut_pos hc1, hc1]) | (refine cald (szValue_ok x.fValue (n - (x.fName.size : Nat)) (by omega) hw.2.2.2.2) ?_ ?_ ?_ ?_; (focus (simp only [go_sem]; done)); (focus (simp only [go_sem]; done)); (focus (simp only [go_sem]; done)); try simp only [go_sem, hc0, szOut_pos hc1, hc1]) | (refine cndt ?_ ?_; (focus (simp only [go_sem]; done))) | (refine cndf ?_ ?_; (focus (simp only [go_sem]; done))) | (refine And.intro ?_ ?_; (focus omega)))
  exact retK_ret ⟨⟨_, rfl, by simp only [go_sem, e]⟩, trivial⟩
theorem toNode_ok (x : TNode) (hx : wNode x ≤ 1048576) : FnC Try.prog 139 [gNode x] (gNode x) := by
  unfold wNode at hx
  refine ent Try.func139 rfl Try.call139 rfl (fun C => ?_)
  simp only [go_sem, st0, Try.ntmps139]
  repeat' (with_reducible first | refine WP_ret ?_ | refine WP_skip ?_ | refine WP_exit ?_ | refine WP_seq ?_ | refine WP_block ?_ | refine K_code ?_ | refine K_blk ?_ | refine K_code_ret ?_ | refine K_blk_ret ?_ | refine K_code_exit ?_ | refine K_blk_exit_same ?_ | refine K_blk_exit_other (by decide) ?_ | refine K_nil ?_ | refine L_ret ?_ | refine L_exit ?_ | (refine run_cons ?_; simp only [go_sem]) | (refine run_nil ?_) | (refine drun_cons ?_; simp only [go_sem]) | (refine drun_nil ?_) | (refine reg ?_) | (refine regd (by kernel_rfl) ?_) | (refine cal (toValue_ok x.fValue (by omega)) ?_ ?_ ?_; (focus (simp only [go_sem]; done)); (focus (simp only [go_sem]; done)); try simp only [go_sem]) | (refine cald (toValue_ok x.fValue (by omega)) ?_ ?_ ?_ ?_; (focus (simp only [go_sem]; done)); (focus (simp only [go_sem]; done)); (focus (simp only [go_sem]; done)); try simp only [go_sem]) | (refine cndt ?_ ?_; (focus (simp only [go_sem]; done))) | (refine cndf ?_ ?_; (focus (simp only [go_sem]; done))) | (refine And.intro ?_ ?_; (focus omega)))
  exact retK_ret ⟨⟨_, rfl, by simp only [go_sem]⟩, trivial⟩
theorem toNoded_ok (x : TNode) (hx : wNode x ≤ 1048576) : FnC Try.prog 139 [gNode x] (gNode x) := toNode_ok x hx
theorem eqNode_ok (x : TNode) (hx : wNode x ≤ 1048576) : FnC Try.prog 142 [gNode x, gNode x] (ob true) := by
  unfold wNode at hx
  refine ent Try.func142 rfl Try.call142 rfl (fun C => ?_)
  simp only [go_sem, st0, Try.ntmps142]
  repeat' (with_reducible first | refine WP_ret ?_ | refine WP_skip ?_ | refine WP_exit ?_ | refine WP_seq ?_ | refine WP_block ?_ | refine K_code ?_ | refine K_blk ?_ | refine K_code_ret ?_ | refine K_blk_ret ?_ | refine K_code_exit ?_ | refine K_blk_exit_same ?_ | refine K_blk_exit_other (by decide) ?_ | refine K_nil ?_ | refine L_ret ?_ | refine L_exit ?_ | (refine run_cons ?_; simp only [go_sem]) | (refine run_nil ?_) | (refine drun_cons ?_; simp only [go_sem]) | (refine drun_nil ?_) | (refine reg ?_) | (refine regd (by kernel_rfl) ?_) | (refine cal (eqValue_ok x.fValue (by omega)) ?_ ?_ ?_; (focus (simp only [go_sem]; done)); (focus (simp only [go_sem]; done)); try simp only [go_sem]) | (refine cald (eqValue_ok x.fValue (by omega)) ?_ ?_ ?_ ?_; (focus (simp only [go_sem]; done)); (focus (simp only [go_sem]; done)); (focus (simp only [go_sem]; done)); try simp only [go_sem]) | (refine cndt ?_ ?_; (focus (simp only [go_sem]; done))) | (refine cndf ?_ ?_; (focus (simp only [go_sem]; done))) | (refine And.intro ?_ ?_; (focus omega)))
  exact retK_ret ⟨⟨_, rfl, by simp only [go_sem]⟩, trivial⟩
theorem toNodeS_ok (l : List TNode) (hl : wNodeS l ≤ 1048576) : FnC Try.prog 73 [.o (.d (.sl (l.map encNode)))] (.o (.w 180 7 (l.map encNode))) := by
  unfold wNodeS at hl
  refine ent Try.func73 rfl Try.call73 rfl (fun C => ?_)
  simp only [go_sem, st0, Try.ntmps73]
  repeat' (with_reducible first | refine WP_ret ?_ | refine WP_skip ?_ | refine WP_exit ?_ | refine WP_seq ?_ | refine WP_block ?_ | refine K_code ?_ | refine K_blk ?_ | refine K_code_ret ?_ | refine K_blk_ret ?_ | refine K_code_exit ?_ | refine K_blk_exit_same ?_ | refine K_blk_exit_other (by decide) ?_ | refine K_nil ?_ | refine L_ret ?_ | refine L_exit ?_ | (refine run_cons ?_; simp only [go_sem]) | (refine run_nil ?_) | (refine drun_cons ?_; simp only [go_sem]) | (refine drun_nil ?_) | (refine reg ?_) | (refine regd (by kernel_rfl) ?_) | (refine cndt ?_ ?_; (focus (simp only [go_sem]; done))) | (refine cndf ?_ ?_; (focus (simp only [go_sem]; done))) | (refine And.intro ?_ ?_; (focus omega)))
  refine WP_lp (α := Nat) (fun k => [(4, oi k)]) (fun k => [(0, .row 180 7 (fillR encNode [iv 0, iv 0, iv 0, sv ⟨#[]⟩, iv 0, iv 0, sv ⟨#[]⟩] l k) true)]) (fun k => k ≤ l.length) (fun k => l.length - k) 0 (fun _ => ?_) ?_ ?_ (fun k hk => ?_)
  · simp only [go_sem]
  · simp only [go_sem]; simp [fillR_zero]
  · simp
  · simp only [go_sem]
    repeat' (with_reducible first | refine WP_ret ?_ | refine WP_skip ?_ | refine WP_exit ?_ | refine WP_seq ?_ | refine WP_block ?_ | refine K_code ?_ | refine K_blk ?_ | refine K_code_ret ?_ | refine K_blk_ret ?_ | refine K_code_exit ?_ | refine K_blk_exit_same ?_ | refine K_blk_exit_other (by decide) ?_ | refine K_nil ?_ | refine L_ret ?_ | refine L_exit ?_ | (refine run_cons ?_; simp only [go_sem]) | (refine run_nil ?_) | (refine drun_cons ?_; simp only [go_sem]) | (refine drun_nil ?_) | (refine reg ?_) | (refine regd (by kernel_rfl) ?_) | (refine cndt ?_ ?_; (focus (simp only [go_sem]; done))) | (refine cndf ?_ ?_; (focus (simp only [go_sem]; done))) | (refine And.intro ?_ ?_; (focus omega)))
    refine cnd rfl (fun h => ?_) (fun h => ?_)
    · simp only [decide_eq_true_eq, Int.ofNat_lt] at h
      have hw := wsum_get wNode l h
      repeat' (with_reducible first | refine WP_ret ?_ | refine WP_skip ?_ | refine WP_exit ?_ | refine WP_seq ?_ | refine WP_block ?_ | refine K_code ?_ | refine K_blk ?_ | refine K_code_ret ?_ | refine K_blk_ret ?_ | refine K_code_exit ?_ | refine K_blk_exit_same ?_ | refine K_blk_exit_other (by decide) ?_ | refine K_nil ?_ | refine L_ret ?_ | refine L_exit ?_ | (refine run_cons ?_; simp only [go_sem, h]) | (refine run_nil ?_) | (refine drun_cons ?_; simp only [go_sem, h]) | (refine drun_nil ?_) | (refine reg ?_) | (refine regd (by kernel_rfl) ?_) | (refine cal (toNode_ok l[k] (by omega)) ?_ ?_ ?_; (focus (simp only [go_sem]; done)); (focus (simp only [go_sem]; done)); try simp only [go_sem, h]) | (refine cald (toNode_ok l[k] (by omega)) ?_ ?_ ?_ ?_; (focus (simp only [go_sem]; done)); (focus (simp only [go_sem]; done)); (focus (simp only [go_sem]; done)); try simp only [go_sem, h]) | (refine cndt ?_ ?_; (focus (simp only [go_sem]; done))) | (refine cndf ?_ ?_; (focus (simp only [go_sem]; done))) | (refine And.intro ?_ ?_; (focus omega)))
      refine L_next (k + 1) ?_ ?_ ?_
      · simp only [go_sem]; simp [← fillR_set, h, encNode]
      · omega
      · omega
    · simp only [decide_eq_false_iff_not] at h
      have e : k = l.length := by omega
      subst e
      repeat' (with_reducible first | refine WP_ret ?_ | refine WP_skip ?_ | refine WP_exit ?_ | refine WP_seq ?_ | refine WP_block ?_ | refine K_code ?_ | refine K_blk ?_ | refine K_code_ret ?_ | refine K_blk_ret ?_ | refine K_code_exit ?_ | refine K_blk_exit_same ?_ | refine K_blk_exit_other (by decide) ?_ | refine K_nil ?_ | refine L_ret ?_ | refine L_exit ?_ | (refine run_cons ?_; simp only [go_sem]) | (refine run_nil ?_) | (refine drun_cons ?_; simp only [go_sem]) | (refine drun_nil ?_) | (refine reg ?_) | (refine regd (by kernel_rfl) ?_) | (refine cndt ?_ ?_; (focus (simp only [go_sem]; done))) | (refine cndf ?_ ?_; (focus (simp only [go_sem]; done))) | (refine And.intro ?_ ?_; (focus omega)))
      exact retK_ret ⟨⟨_, rfl, by simp only [go_sem, fillR_all]⟩, trivial⟩
theorem toNodeSd_ok (l : List TNode) (hl : wNodeS l ≤ 1048576) : FnC Try.prog 73 [.o (.d (.sl (l.map encNode)))] (.o (.d (.sl (l.map encNode)))) := (toNodeS_ok l hl).pure (by simp only [go_sem]) (by simp only [go_sem]) (by simp only [go_sem]) (by simp only [go_sem]) (by simp only [go_sem])
theorem eqNodeS_ok (l : List TNode) (hl : wNodeS l ≤ 1048576) : FnC Try.prog 75 [.o (.d (.sl (l.map encNode))), .o (.d (.sl (l.map encNode)))] (ob true) := by
  unfold wNodeS at hl
  refine ent Try.func75 rfl Try.call75 rfl (fun C => ?_)
  simp only [go_sem, st0, Try.ntmps75]
  repeat' (with_reducible first | refine WP_ret ?_ | refine WP_skip ?_ | refine WP_exit ?_ | refine WP_seq ?_ | refine WP_block ?_ | refine K_code ?_ | refine K_blk ?_ | refine K_code_ret ?_ | refine K_blk_ret ?_ | refine K_code_exit ?_ | refine K_blk_exit_same ?_ | refine K_blk_exit_other (by decide) ?_ | refine K_nil ?_ | refine L_ret ?_ | refine L_exit ?_ | (refine run_cons ?_; simp only [go_sem]) | (refine run_nil ?_) | (refine drun_cons ?_; simp only [go_sem]) | (refine drun_nil ?_) | (refine reg ?_) | (refine regd (by kernel_rfl) ?_) | (refine cndt ?_ ?_; (focus (simp only [go_sem]; done))) | (refine cndf ?_ ?_; (focus (simp only [go_sem]; done))) | (refine And.intro ?_ ?_; (focus omega)))
  refine WP_lp (α := Nat) (fun k => [(5, oi k)]) (fun _ => []) (fun k => k ≤ l.length) (fun k => l.length - k) 0 (fun _ => ?_) ?_ ?_ (fun k hk => ?_)
  · simp only [go_sem]
  · simp only [go_sem]; simp
  · simp
  · simp only [go_sem]
    repeat' (with_reducible first | refine WP_ret ?_ | refine WP_skip ?_ | refine WP_exit ?_ | refine WP_seq ?_ | refine WP_block ?_ | refine K_code ?_ | refine K_blk ?_ | refine K_code_ret ?_ | refine K_blk_ret ?_ | refine K_code_exit ?_ | refine K_blk_exit_same ?_ | refine K_blk_exit_other (by decide) ?_ | refine K_nil ?_ | refine L_ret ?_ | refine L_exit ?_ | (refine run_cons ?_; simp only [go_sem]) | (refine run_nil ?_) | (refine drun_cons ?_; simp only [go_sem]) | (refine drun_nil ?_) | (refine reg ?_) | (refine regd (by kernel_rfl) ?_) | (refine cndt ?_ ?_; (focus (simp only [go_sem]; done))) | (refine cndf ?_ ?_; (focus (simp only [go_sem]; done))) | (refine And.intro ?_ ?_; (focus omega)))
    refine cnd rfl (fun h => ?_) (fun h => ?_)
    · simp only [decide_eq_true_eq, Int.ofNat_lt] at h
      have hw := wsum_get wNode l h
      repeat' (with_reducible first | refine WP_ret ?_ | refine WP_skip ?_ | refine WP_exit ?_ | refine WP_seq ?_ | refine WP_block ?_ | refine K_code ?_ | refine K_blk ?_ | refine K_code_ret ?_ | refine K_blk_ret ?_ | refine K_code_exit ?_ | refine K_blk_exit_same ?_ | refine K_blk_exit_other (by decide) ?_ | refine K_nil ?_ | refine L_ret ?_ | refine L_exit ?_ | (refine run_cons ?_; simp only [go_sem, h]) | (refine run_nil ?_) | (refine drun_cons ?_; simp only [go_sem, h]) | (refine drun_nil ?_) | (refine reg ?_) | (refine regd (by kernel_rfl) ?_) | (refine cal (eqNode_ok l[k] (by omega)) ?_ ?_ ?_; (focus (simp only [go_sem]; done)); (focus (simp only [go_sem]; done)); try simp only [go_sem, h]) | (refine cald (eqNode_ok l[k] (by omega)) ?_ ?_ ?_ ?_; (focus (simp only [go_sem]; done)); (focus (simp only [go_sem]; done)); (focus (simp only [go_sem]; done)); try simp only [go_sem, h]) | (refine cndt ?_ ?_; (focus (simp only [go_sem]; done))) | (refine cndf ?_ ?_; (focus (simp only [go_sem]; done))) | (refine And.intro ?_ ?_; (focus omega)))
      refine L_next (k + 1) ?_ ?_ ?_
      · simp only [go_sem]; simp
      · omega
      · omega
    · simp only [decide_eq_false_iff_not] at h
      repeat' (with_reducible first | refine WP_ret ?_ | refine WP_skip ?_ | refine WP_exit ?_ | refine WP_seq ?_ | refine WP_block ?_ | refine K_code ?_ | refine K_blk ?_ | refine K_code_ret ?_ | refine K_blk_ret ?_ | refine K_code_exit ?_ | refine K_blk_exit_same ?_ | refine K_blk_exit_other (by decide) ?_ | refine K_nil ?_ | refine L_ret ?_ | refine L_exit ?_ | (refine run_cons ?_; simp only [go_sem]) | (refine run_nil ?_) | (refine drun_cons ?_; simp only [go_sem]) | (refine drun_nil ?_) | (refine reg ?_) | (refine regd (by kernel_rfl) ?_) | (refine cndt ?_ ?_; (focus (simp only [go_sem]; done))) | (refine cndf ?_ ?_; (focus (simp only [go_sem]; done))) | (refine And.intro ?_ ?_; (focus omega)))
      exact retK_ret ⟨⟨_, rfl, by simp only [go_sem]⟩, trivial⟩
theorem szNodeS_ok (l : List TNode) (n : Int) (h0 : 0 ≤ n ∧ n ≤ 1048576) (hw : wfNodeS l) : FnC Try.prog 71 [.o (.d (.sl (l.map encNode))), oi n] (oi (szOut n (wNodeS l))) := by
  unfold wfNodeS at hw
  refine ent Try.func71 rfl Try.call71 rfl (fun C => ?_)
  simp only [go_sem, st0, Try.ntmps71]
  by_cases hc : n - (l.length : Nat) < 0
  · have e : szOut n (wNodeS l) = -1 := by rw [szOut_neg (by unfold wNodeS; omega)]
    repeat' (with_reducible first | refine WP_ret ?_ | refine WP_skip ?_ | refine WP_exit ?_ | refine WP_seq ?_ | refine WP_block ?_ | refine K_code ?_ | refine K_blk ?_ | refine K_code_ret ?_ | refine K_blk_ret ?_ | refine K_code_exit ?_ | refine K_blk_exit_same ?_ | refine K_blk_exit_other (by decide) ?_ | refine K_nil ?_ | refine L_ret ?_ | refine L_exit ?_ | (refine run_cons ?_; simp only [go_sem, hc]) | (refine run_nil ?_) | (refine drun_cons ?_; simp only [go_sem, hc]) | (refine drun_nil ?_) | (refine reg ?_) | (refine regd (by kernel_rfl) ?_) | (refine cndt ?_ ?_; (focus (simp only [go_sem]; done))) | (refine cndf ?_ ?_; (focus (simp only [go_sem]; done))) | (refine And.intro ?_ ?_; (focus omega)))
    exact retK_ret ⟨⟨_, rfl, by simp only [go_sem, e]⟩, trivial⟩
  repeat' (with_reducible first | refine WP_ret ?_ | refine WP_skip ?_ | refine WP_exit ?_ | refine WP_seq ?_ | refine WP_block ?_ | refine K_code ?_ | refine K_blk ?_ | refine K_code_ret ?_ | refine K_blk_ret ?_ | refine K_code_exit ?_ | refine K_blk_exit_same ?_ | refine K_blk_exit_other (by decide) ?_ | refine K_nil ?_ | refine L_ret ?_ | refine L_exit ?_ | (refine run_cons ?_; simp only [go_sem, hc]) | (refine run_nil ?_) | (refine drun_cons ?_; simp only [go_sem, hc]) | (refine drun_nil ?_) | (refine reg ?_) | (refine regd (by kernel_rfl) ?_) | (refine cndt ?_ ?_; (focus (simp only [go_sem]; done))) | (refine cndf ?_ ?_; (focus (simp only [go_sem]; done))) | (refine And.intro ?_ ?_; (focus omega)))
  refine WP_lp (α := Nat) (fun k => [(5, oi k), (1, oi (n - (l.length : Nat) - (wsum wNode (l.take k) : Nat)))]) (fun _ => []) (fun k => k ≤ l.length ∧ 0 ≤ n - (l.length : Nat) - (wsum wNode (l.take k) : Nat)) (fun k => l.length - k) 0 (fun _ => ?_) ?_ ?_ (fun k hk => ?_)
  · simp only [go_sem]
  · simp only [go_sem]; simp [wsum]
  · simp [wsum]; omega
  · obtain ⟨hk, hn⟩ := hk
    simp only [go_sem]
    repeat' (with_reducible first | refine WP_ret ?_ | refine WP_skip ?_ | refine WP_exit ?_ | refine WP_seq ?_ | refine WP_block ?_ | refine K_code ?_ | refine K_blk ?_ | refine K_code_ret ?_ | refine K_blk_ret ?_ | refine K_code_exit ?_ | refine K_blk_exit_same ?_ | refine K_blk_exit_other (by decide) ?_ | refine K_nil ?_ | refine L_ret ?_ | refine L_exit ?_ | (refine run_cons ?_; simp only [go_sem]) | (refine run_nil ?_) | (refine drun_cons ?_; simp only [go_sem]) | (refine drun_nil ?_) | (refine reg ?_) | (refine regd (by kernel_rfl) ?_) | (refine cndt ?_ ?_; (focus (simp only [go_sem]; done))) | (refine cndf ?_ ?_; (focus (simp only [go_sem]; done))) | (refine And.intro ?_ ?_; (focus omega)))
    refine cnd rfl (fun h => ?_) (fun h => ?_)
    · simp only [decide_eq_true_eq, Int.ofNat_lt] at h
      have hs := wsum_take wNode l h
      have ht := wsum_le wNode l (k + 1)
      by_cases h2 : n - (l.length : Nat) - (wsum wNode (l.take k) : Nat) - (wNode l[k] : Nat) < 0
      · have e : szOut n (wNodeS l) = -1 := by rw [szOut_neg (by unfold wNodeS; omega)]
        repeat' (with_reducible first | refine WP_ret ?_ | refine WP_skip ?_ | refine WP_exit ?_ | refine WP_seq ?_ | refine WP_block ?_ | refine K_code ?_ | refine K_blk ?_ | refine K_code_ret ?_ | refine K_blk_ret ?_ | refine K_code_exit ?_ | refine K_blk_exit_same ?_ | refine K_blk_exit_other (by decide) ?_ | refine K_nil ?_ | refine L_ret ?_ | refine L_exit ?_ | (refine run_cons ?_; simp only [go_sem, h, szOut_neg h2]) | (refine run_nil ?_) | (refine drun_cons ?_; simp only [go_sem, h, szOut_neg h2]) | (refine drun_nil ?_) | (refine reg ?_) | (refine regd (by kernel_rfl) ?_) | (refine cal (szNode_ok l[k] _ ⟨hn, by omega⟩ (hw.2 _ (List.getElem_mem h))) ?_ ?_ ?_; (focus (simp only [go_sem]; done)); (focus (simp only [go_sem]; done)); try simp only [go_sem, h, szOut_neg h2]) | (refine cald (szNode_ok l[k] _ ⟨hn, by omega⟩ (hw.2 _ (List.getElem_mem h))) ?_ ?_ ?_ ?_; (focus (simp only [go_sem]; done)); (focus (simp only [go_sem]; done)); (focus (simp only [go_sem]; done)); try simp only [go_sem, h, szOut_neg h2]) | (refine cndt ?_ ?_; (focus (simp only [go_sem]; done))) | (refine cndf ?_ ?_; (focus (simp only [go_sem]; done))) | (refine And.intro ?_ ?_; (focus omega)))
        exact retK_ret ⟨⟨_, rfl, by simp only [go_sem, e]⟩, trivial⟩
      · repeat' (with_reducible first | refine WP_ret ?_ | refine WP_skip ?_ | refine WP_exit ?_ | refine WP_seq ?_ | refine WP_block ?_ | refine K_code ?_ | refine K_blk ?_ | refine K_code_ret ?_ | refine K_blk_ret ?_ | refine K_code_exit ?_ | refine K_blk_exit_same ?_ | refine K_blk_exit_other (by decide) ?_ | refine K_nil ?_ | refine L_ret ?_ | refine L_exit ?_ | (refine run_cons ?_; simp only [go_sem, h, szOut_pos h2, h2]) | (refine run_nil ?_) | (refine drun_cons ?_; simp only [go_sem, h, szOut_pos h2, h2]) | (refine drun_nil ?_) | (refine reg ?_) | (refine regd (by kernel_rfl) ?_) | (refine cal (szNode_ok l[k] _ ⟨hn, by omega⟩ (hw.2 _ (List.getElem_mem h))) ?_ ?_ ?_; (focus (simp only [go_sem]; done)); (focus (simp only [go_sem]; done)); try simp only [go_sem, h, szOut_pos h2, h2]) | (refine cald (szNode_ok l[k] _ ⟨hn, by omega⟩ (hw.2 _ (List.getElem_mem h))) ?_ ?_ ?_ ?_; (focus (simp only [go_sem]; done)); (focus (simp only [go_sem]; done)); (focus (simp only [go_sem]; done)); try simp only [go_sem, h, szOut_pos h2, h2]) | (refine cndt ?_ ?_; (focus (simp only [go_sem]; done))) | (refine cndf ?_ ?_; (focus (simp only [go_sem]; done))) | (refine And.intro ?_ ?_; (focus omega)))
        refine L_next (k + 1) ?_ ?_ ?_
        · simp only [go_sem]; simp; omega
        · omega
        · omega
    · simp only [decide_eq_false_iff_not] at h
      have e0 : k = l.length := by omega
      subst e0
      rw [List.take_length] at hn
      have e : szOut n (wNodeS l) = n - (l.length : Nat) - (wsum wNode l : Nat) := by rw [szOut_pos (by unfold wNodeS; omega)]; unfold wNodeS; omega
      repeat' (with_reducible first | refine WP_ret ?_ | refine WP_skip ?_ | refine WP_exit ?_ | refine WP_seq ?_ | refine WP_block ?_ | refine K_code ?_ | refine K_blk ?_ | refine K_code_ret ?_ | refine K_blk_ret ?_ | refine K_code_exit ?_ | refine K_blk_exit_same ?_ | refine K_blk_exit_other (by decide) ?_ | refine K_nil ?_ | refine L_ret ?_ | refine L_exit ?_ | (refine run_cons ?_; simp only [go_sem]) | (refine run_nil ?_) | (refine drun_cons ?_; simp only [go_sem]) | (refine drun_nil ?_) | (refine reg ?_) | (refine regd (by kernel_rfl) ?_) | (refine cndt ?_ ?_; (focus (simp only [go_sem]; done))) | (refine cndf ?_ ?_; (focus (simp only [go_sem]; done))) | (refine And.intro ?_ ?_; (focus omega)))
      exact retK_ret ⟨⟨_, rfl, by simp only [go_sem, e, List.take_length]⟩, trivial⟩
end Go.Proofs.Yteganoldfldlhaa
