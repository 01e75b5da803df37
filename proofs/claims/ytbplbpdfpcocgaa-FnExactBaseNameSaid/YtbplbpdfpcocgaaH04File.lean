/-
  File: the structure, its cells; the contracts of the laws' helpers sz, to, eq. By program (gentys.py).
-/
import Derived.Test.YtbplbpdfpcocgaaH03Attr
set_option linter.all false
set_option maxHeartbeats 1000000
namespace Go.Proofs.Ytbplbpdfpcocgaa
open Go Go.Sx Go.RowKit Go.Proofs

structure TFile where
  fID : Int
  fOwner : Int
  fShared : Bool
  fLink : Int
  fAttrs : List TAttr
@[go_sem] def encFile (x : TFile) : List D := [iv x.fID, iv x.fOwner, bv x.fShared, iv x.fLink, .sl (x.fAttrs.map encAttr)]
@[go_sem] def gFile (x : TFile) : SV := .g [.d (iv x.fID), .d (iv x.fOwner), .d (bv x.fShared), .d (iv x.fLink), .d (.sl (x.fAttrs.map encAttr))]
@[go_sem] def rFile (x : TFile) : SV := .g [.d (iv x.fID), .d (iv x.fOwner), .d (bv x.fShared), .d (iv x.fLink), .w 84 4 (x.fAttrs.map encAttr)]
def wFile (x : TFile) : Nat := wAttrS x.fAttrs
def wfFile (x : TFile) : Prop := inR .i64 x.fID ∧ inR .i64 x.fOwner ∧ True ∧ inR .i64 x.fLink ∧ wfAttrS x.fAttrs
def wFileS (l : List TFile) : Nat := l.length + wsum wFile l
def wfFileS (l : List TFile) : Prop := l.length ≤ 9223372036854775807 ∧ ∀ x ∈ l, wfFile x
theorem decFile {n : Nat} {r : List D} (h : ShD tt n 37 r) : ∃ x : TFile, r = encFile x ∧ wfFile x := by
  match n, h with
  | n + 1, ⟨a0, b0, e0, h0, a1, b1, e1, h1, a2, b2, e2, h2, a3, b3, e3, h3, a4, b4, e4, h4, ee⟩ =>
    obtain ⟨x0, rfl, p0⟩ := decI h0
    obtain ⟨x1, rfl, p1⟩ := decI h1
    obtain ⟨x2, rfl⟩ := decB h2
    obtain ⟨x3, rfl, p3⟩ := decI h3
    obtain ⟨x4, rfl, p4⟩ := decAttrS h4
    have ee' : b4 = [] := ee
    subst ee' e4 e3 e2 e1 e0
    exact ⟨⟨x0, x1, x2, x3, x4⟩, rfl, p0, p1, trivial, p3, p4⟩
theorem szFile_ok (x : TFile) (n : Int) (h0 : 0 ≤ n ∧ n ≤ 1048576) (hw : wfFile x) : FnC Try.prog 20 [gFile x, oi n] (oi (szOut n (wFile x))) := by
  refine ent Try.func20 rfl Try.call20 rfl (fun C => ?_)
  simp only [go_sem, st0, Try.ntmps20]
  unfold wfFile at hw
  by_cases hc0 : n - (wAttrS x.fAttrs : Nat) < 0
  · have e : szOut n (wFile x) = -1 := by rw [szOut_neg (by unfold wFile; omega)]
    repeat' (with_reducible first | refine WP_ret ?_ | refine WP_skip ?_ | refine WP_exit ?_ | refine WP_seq ?_ | refine WP_block ?_ | refine K_code ?_ | refine K_blk ?_ | refine K_code_ret ?_ | refine K_blk_ret ?_ | refine K_code_exit ?_ | refine K_blk_exit_same ?_ | refine K_blk_exit_other (by decide) ?_ | refine K_nil ?_ | refine L_ret ?_ | refine L_exit ?_ | (refine reg ?_; simp only [go_sem, szOut_neg hc0, hc0]) | (refine regd (by kernel_rfl) ?_; simp only [go_sem, szOut_neg hc0, hc0]) | (refine cal (szAttrS_ok x.fAttrs (n) (by omega) hw.2.2.2.2) ?_ ?_ ?_; (focus (simp only [go_sem]; done)); (focus (simp only [go_sem]; done)); simp only [go_sem, szOut_neg hc0, hc0]) | (refine cald (szAttrS_ok x.fAttrs (n) (by omega) hw.2.2.2.2) ?_ ?_ ?_ ?_; (focus (simp only [go_sem]; done)); (focus (simp only [go_sem]; done)); (focus (simp only [go_sem]; done)); simp only [go_sem, szOut_neg hc0, hc0]) | (refine cndt ?_ ?_; (focus (simp only [go_sem]; done))) | (refine cndf ?_ ?_; (focus (simp only [go_sem]; done))) | (refine And.intro ?_ ?_; (focus omega)))
    exact retK_ret ⟨⟨_, rfl, by simp only [go_sem, e]⟩, trivial⟩
  have e : szOut n (wFile x) = n - (wAttrS x.fAttrs : Nat) := by rw [szOut_pos (by unfold wFile; omega)]; unfold wFile; omega
  repeat' (with_reducible first | refine WP_ret ?_ | refine WP_skip ?_ | refine WP_exit ?_ | refine WP_seq ?_ | refine WP_block ?_ | refine K_code ?_ | refine K_blk ?_ | refine K_code_ret ?_ | refine K_blk_ret ?_ | refine K_code_exit ?_ | refine K_blk_exit_same ?_ | refine K_blk_exit_other (by decide) ?_ | refine K_nil ?_ | refine L_ret ?_ | refine L_exit ?_ | (refine reg ?_; simp only [go_sem, szOut_pos hc0, hc0]) | (refine regd (by kernel_rfl) ?_; simp only [go_sem, szOut_pos hc0, hc0]) | (refine cal (szAttrS_ok x.fAttrs (n) (by omega) hw.2.2.2.2) ?_ ?_ ?_; (focus (simp only [go_sem]; done)); (focus (simp only [go_sem]; done)); simp only [go_sem, szOut_pos hc0, hc0]) | (refine cald (szAttrS_ok x.fAttrs (n) (by omega) hw.2.2.2.2) ?_ ?_ ?_ ?_; (focus (simp only [go_sem]; done)); (focus (simp only [go_sem]; done)); (focus (simp only [go_sem]; done)); simp only [go_sem, szOut_pos hc0, hc0]) | (refine cndt ?_ ?_; (focus (simp only [go_sem]; done))) | (refine cndf ?_ ?_; (focus (simp only [go_sem]; done))) | (refine And.intro ?_ ?_; (focus omega)))
  exact retK_ret ⟨⟨_, rfl, by simp only [go_sem, e]⟩, trivial⟩
theorem toFile_ok (x : TFile) (hx : wFile x ≤ 1048576) : FnC Try.prog 22 [gFile x] (rFile x) := by
  unfold wFile at hx
  refine ent Try.func22 rfl Try.call22 rfl (fun C => ?_)
  simp only [go_sem, st0, Try.ntmps22]
  repeat' (with_reducible first | refine WP_ret ?_ | refine WP_skip ?_ | refine WP_exit ?_ | refine WP_seq ?_ | refine WP_block ?_ | refine K_code ?_ | refine K_blk ?_ | refine K_code_ret ?_ | refine K_blk_ret ?_ | refine K_code_exit ?_ | refine K_blk_exit_same ?_ | refine K_blk_exit_other (by decide) ?_ | refine K_nil ?_ | refine L_ret ?_ | refine L_exit ?_ | (refine reg ?_; simp only [go_sem]) | (refine regd (by kernel_rfl) ?_; simp only [go_sem]) | (refine cal (toAttrS_ok x.fAttrs (by omega)) ?_ ?_ ?_; (focus (simp only [go_sem]; done)); (focus (simp only [go_sem]; done)); simp only [go_sem]) | (refine cald (toAttrS_ok x.fAttrs (by omega)) ?_ ?_ ?_ ?_; (focus (simp only [go_sem]; done)); (focus (simp only [go_sem]; done)); (focus (simp only [go_sem]; done)); simp only [go_sem]) | (refine cndt ?_ ?_; (focus (simp only [go_sem]; done))) | (refine cndf ?_ ?_; (focus (simp only [go_sem]; done))) | (refine And.intro ?_ ?_; (focus omega)))
  exact retK_ret ⟨⟨_, rfl, by simp only [go_sem]⟩, trivial⟩
theorem toFiled_ok (x : TFile) (hx : wFile x ≤ 1048576) : FnC Try.prog 22 [gFile x] (gFile x) := (toFile_ok x hx).pure (by simp only [go_sem]) (by simp only [go_sem]) (by simp only [go_sem]) (by simp only [go_sem]) (by simp only [go_sem])
theorem eqFile_ok (x : TFile) (hx : wFile x ≤ 1048576) : FnC Try.prog 24 [gFile x, gFile x] (ob true) := by
  unfold wFile at hx
  refine ent Try.func24 rfl Try.call24 rfl (fun C => ?_)
  simp only [go_sem, st0, Try.ntmps24]
  repeat' (with_reducible first | refine WP_ret ?_ | refine WP_skip ?_ | refine WP_exit ?_ | refine WP_seq ?_ | refine WP_block ?_ | refine K_code ?_ | refine K_blk ?_ | refine K_code_ret ?_ | refine K_blk_ret ?_ | refine K_code_exit ?_ | refine K_blk_exit_same ?_ | refine K_blk_exit_other (by decide) ?_ | refine K_nil ?_ | refine L_ret ?_ | refine L_exit ?_ | (refine reg ?_; simp only [go_sem]) | (refine regd (by kernel_rfl) ?_; simp only [go_sem]) | (refine cal (eqAttrS_ok x.fAttrs (by omega)) ?_ ?_ ?_; (focus (simp only [go_sem]; done)); (focus (simp only [go_sem]; done)); simp only [go_sem]) | (refine cald (eqAttrS_ok x.fAttrs (by omega)) ?_ ?_ ?_ ?_; (focus (simp only [go_sem]; done)); (focus (simp only [go_sem]; done)); (focus (simp only [go_sem]; done)); simp only [go_sem]) | (refine cndt ?_ ?_; (focus (simp only [go_sem]; done))) | (refine cndf ?_ ?_; (focus (simp only [go_sem]; done))) | (refine And.intro ?_ ?_; (focus omega)))
  exact retK_ret ⟨⟨_, rfl, by simp only [go_sem]⟩, trivial⟩
end Go.Proofs.Ytbplbpdfpcocgaa
