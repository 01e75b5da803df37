/-
  Field: the structure, its cells; the contracts of the laws' helpers sz, to, eq. By program (gentys.py).
-/
import Derived.Test.YtbplbpdfpcocgaaH01Value
set_option linter.all false
set_option maxHeartbeats 1000000
namespace Go.Proofs.Ytbplbpdfpcocgaa
open Go Go.Sx Go.RowKit Go.Proofs

structure TField where
  fName : ByteArray
  fKind : Int
@[go_sem] def encField (x : TField) : List D := [sv x.fName, iv x.fKind]
@[go_sem] def gField (x : TField) : SV := .g [.d (sv x.fName), .d (iv x.fKind)]
def wField (x : TField) : Nat := x.fName.size
def wfField (x : TField) : Prop := x.fName.size ≤ 9223372036854775807 ∧ inR .i64 x.fKind
def wFieldS (l : List TField) : Nat := l.length + wsum wField l
def wfFieldS (l : List TField) : Prop := l.length ≤ 9223372036854775807 ∧ ∀ x ∈ l, wfField x
theorem decField {n : Nat} {r : List D} (h : ShD tt n 29 r) : ∃ x : TField, r = encField x ∧ wfField x := by
  match n, h with
  | n + 1, ⟨a0, b0, e0, h0, a1, b1, e1, h1, ee⟩ =>
    obtain ⟨x0, rfl, p0⟩ := decS h0
    obtain ⟨x1, rfl, p1⟩ := decI h1
    have ee' : b1 = [] := ee
    subst ee' e1 e0
    exact ⟨⟨x0, x1⟩, rfl, p0, p1⟩
theorem szField_ok (x : TField) (n : Int) (h0 : 0 ≤ n ∧ n ≤ 1048576) (hw : wfField x) : FnC Try.prog 16 [gField x, oi n] (oi (szOut n (wField x))) := by
  refine ent Try.func16 rfl Try.call16 rfl (fun C => ?_)
  simp only [go_sem, st0, Try.ntmps16]
  unfold wfField at hw
  by_cases hc0 : n - (x.fName.size : Nat) < 0
  · have e : szOut n (wField x) = -1 := by rw [szOut_neg (by unfold wField; omega)]
    repeat' (with_reducible first | refine WP_ret ?_ | refine WP_skip ?_ | refine WP_exit ?_ | refine WP_seq ?_ | refine WP_block ?_ | refine K_code ?_ | refine K_blk ?_ | refine K_code_ret ?_ | refine K_blk_ret ?_ | refine K_code_exit ?_ | refine K_blk_exit_same ?_ | refine K_blk_exit_other (by decide) ?_ | refine K_nil ?_ | refine L_ret ?_ | refine L_exit ?_ | (refine reg ?_; simp only [go_sem, hc0]) | (refine regd (by kernel_rfl) ?_; simp only [go_sem, hc0]) | (refine cndt ?_ ?_; (focus (simp only [go_sem]; done))) | (refine cndf ?_ ?_; (focus (simp only [go_sem]; done))) | (refine And.intro ?_ ?_; (focus omega)))
    exact retK_ret ⟨⟨_, rfl, by simp only [go_sem, e]⟩, trivial⟩
  have e : szOut n (wField x) = n - (x.fName.size : Nat) := by rw [szOut_pos (by unfold wField; omega)]; unfold wField; omega
  repeat' (with_reducible first | refine WP_ret ?_ | refine WP_skip ?_ | refine WP_exit ?_ | refine WP_seq ?_ | refine WP_block ?_ | refine K_code ?_ | refine K_blk ?_ | refine K_code_ret ?_ | refine K_blk_ret ?_ | refine K_code_exit ?_ | refine K_blk_exit_same ?_ | refine K_blk_exit_other (by decide) ?_ | refine K_nil ?_ | refine L_ret ?_ | refine L_exit ?_ | (refine reg ?_; simp only [go_sem, hc0]) | (refine regd (by kernel_rfl) ?_; simp only [go_sem, hc0]) | (refine cndt ?_ ?_; (focus (simp only [go_sem]; done))) | (refine cndf ?_ ?_; (focus (simp only [go_sem]; done))) | (refine And.intro ?_ ?_; (focus omega)))
  exact retK_ret ⟨⟨_, rfl, by simp only [go_sem, e]⟩, trivial⟩
theorem toField_ok (x : TField) (hx : wField x ≤ 1048576) : FnC Try.prog 18 [gField x] (gField x) := by
  unfold wField at hx
  refine ent Try.func18 rfl Try.call18 rfl (fun C => ?_)
  simp only [go_sem, st0, Try.ntmps18]
  repeat' (with_reducible first | refine WP_ret ?_ | refine WP_skip ?_ | refine WP_exit ?_ | refine WP_seq ?_ | refine WP_block ?_ | refine K_code ?_ | refine K_blk ?_ | refine K_code_ret ?_ | refine K_blk_ret ?_ | refine K_code_exit ?_ | refine K_blk_exit_same ?_ | refine K_blk_exit_other (by decide) ?_ | refine K_nil ?_ | refine L_ret ?_ | refine L_exit ?_ | (refine reg ?_; simp only [go_sem]) | (refine regd (by kernel_rfl) ?_; simp only [go_sem]) | (refine cndt ?_ ?_; (focus (simp only [go_sem]; done))) | (refine cndf ?_ ?_; (focus (simp only [go_sem]; done))) | (refine And.intro ?_ ?_; (focus omega)))
  exact retK_ret ⟨⟨_, rfl, by simp only [go_sem]⟩, trivial⟩
theorem toFieldd_ok (x : TField) (hx : wField x ≤ 1048576) : FnC Try.prog 18 [gField x] (gField x) := toField_ok x hx
end Go.Proofs.Ytbplbpdfpcocgaa
