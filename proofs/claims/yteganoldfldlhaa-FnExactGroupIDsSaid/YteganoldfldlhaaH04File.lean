/-
  File: the structure, its cells; the contracts of the laws' helpers sz, to, eq. By program (gentys.py).
-/
import Derived.Test.YteganoldfldlhaaH03Attr
set_option linter.all false
set_option maxHeartbeats 1000000
namespace Go.Proofs.Yteganoldfldlhaa
open Go Go.Sx Go.RowKit Go.Proofs

structure TFile where
  fID : Int
  fOwner : Int
  fShared : Bool
  fLink : Int
  fAttrs : List TAttr
@[go_sem] def encFile (x : TFile) : List D := [iv x.fID, iv x.fOwner, bv x.fShared, iv x.fLink, .sl (x.fAttrs.map encAttr)]
@[go_sem] def gFile (x : TFile) : SV := .g [.d (iv x.fID), .d (iv x.fOwner), .d (bv x.fShared), .d (iv x.fLink), .d (.sl (x.fAttrs.map encAttr))]
@[go_sem] def rFile (x : TFile) : SV := .g [.d (iv x.fID), .d (iv x.fOwner), .d (bv x.fShared), .d (iv x.fLink), .w 134 4 (x.fAttrs.map encAttr)]
def wFile (x : TFile) : Nat := wAttrS x.fAttrs
def wfFile (x : TFile) : Prop := inR .i64 x.fID ∧ inR .i64 x.fOwner ∧ True ∧ inR .i64 x.fLink ∧ wfAttrS x.fAttrs
def wFileS (l : List TFile) : Nat := l.length + wsum wFile l
def wfFileS (l : List TFile) : Prop := l.length ≤ 9223372036854775807 ∧ ∀ x ∈ l, wfFile x
theorem decFile {n : Nat} {r : List D} (h : ShD tt n 65 r) : ∃ x : TFile, r = encFile x ∧ wfFile x := by
  match n, h with
  | n + 1, ⟨a0, b0, e0, h0, a1, b1, e1, h1, a2, b2, e2, h2, a3, b3, e3, h3, a4, b4, e4, h4, ee⟩ =>
    obtain ⟨x0, rfl, p0⟩ := decI h0
    obtain ⟨x1, rfl, p1⟩ := decI h1
    obtain ⟨x2, rfl⟩ := decB h2
    obtain ⟨x3, rfl, p3⟩ := decI h3
    obtain ⟨x4, rfl, p4⟩ := decAttrS h4
    have ee' : b4 = [] := ee
    subst ee' e4 e3 e2 e1 e0
    exact ⟨⟨x0, x1, x2, x3, x4⟩, rfl, p0, p1, trivial, p3, p4⟩
theorem decFileS {n : Nat} {r : List D} (h : ShD tt n 75 r) : ∃ l : List TFile, r = [.sl (l.map encFile)] ∧ wfFileS l := by
  match n, h with
  | n + 1, ⟨rows, h, hm, hr⟩ =>
    obtain ⟨l, rfl, hl⟩ := rows_map encFile wfFile (fun r h => decFile (hr r h))
    exact ⟨l, h, by unfold maxLen at hm; simpa using hm, hl⟩
theorem szFile_ok (x : TFile) (n : Int) (h0 : 0 ≤ n ∧ n ≤ 1048576) (hw : wfFile x) : FnC Try.prog 45 [gFile x, oi n] (oi (szOut n (wFile x))) := by
  refine ent Try.func45 rfl Try.call45 rfl (fun C => ?_)
  simp only [go_sem, st0, Try.ntmps45]
  unfold wfFile at hw
  by_cases hc0 : n - (wAttrS x.fAttrs : Nat) < 0
  · have e : szOut n (wFile x) = -1 := by rw [szOut_neg (by unfold wFile; omega)]
    repeat' (with_reducible first | refine WP_ret ?_ | refine WP_skip ?_ | refine WP_exit ?_ | refine WP_seq ?_ | refine WP_block ?_ | refine K_code ?_ | refine K_blk ?_ | refine K_code_ret ?_ | refine K_blk_ret ?_ | refine K_code_exit ?_ | refine K_blk_exit_same ?_ | refine K_blk_exit_other (by decide) ?_ | refine K_nil ?_ | refine L_ret ?_ | refine L_exit ?_ | (refine run_cons ?_; simp only [go_sem, szOut_neg hc0, hc0]) | (refine run_nil ?_) | (refine drun_cons ?_; simp only [go_sem, szOut_neg hc0, hc0]) | (refine drun_nil ?_) | (refine reg ?_) | (refine regd (by kernel_rfl) ?_) | (refine cal (szAttrS_ok x.fAttrs (n) (by omega) hw.2.2.2.2) ?_ ?_ ?_; (focus (simp only [go_sem]; done)); (focus (simp only [go_sem]; done)); try simp only [go_sem, szOut_neg hc0, hc0]) | (refine cald (szAttrS_ok x.fAttrs (n) (by omega) hw.2.2.2.2) ?_ ?_ ?_ ?_; (focus (simp only [go_sem]; done)); (focus (simp only [go_sem]; done)); (focus (simp only [go_sem]; done)); try simp only [go_sem, szOut_neg hc0, hc0]) | (refine cndt ?_ ?_; (focus (simp only [go_sem]; done))) | (refine cndf ?_ ?_; (focus (simp only [go_sem]; done))) | (refine And.intro ?_ ?_; (focus omega)))
    exact retK_ret ⟨⟨_, rfl, by simp only [go_sem, e]⟩, trivial⟩
  have e : szOut n (wFile x) = n - (wAttrS x.fAttrs : Nat) := by rw [szOut_pos (by unfold wFile; omega)]; unfold wFile; omega
  repeat' (with_reducible first | refine WP_ret ?_ | refine WP_skip ?_ | refine WP_exit ?_ | refine WP_seq ?_ | refine WP_block ?_ | refine K_code ?_ | refine K_blk ?_ | refine K_code_ret ?_ | refine K_blk_ret ?_ | refine K_code_exit ?_ | refine K_blk_exit_same ?_ | refine K_blk_exit_other (by decide) ?_ | refine K_nil ?_ | refine L_ret ?_ | refine L_exit ?_ | (refine run_cons ?_; simp only [go_sem, szOut_pos hc0, hc0]) | (refine run_nil ?_) | (refine drun_cons ?_; simp only [go_sem, szOut_pos hc0, hc0]) | (refine drun_nil ?_) | (refine reg ?_) | (refine regd (by kernel_rfl) ?_) | (refine cal (szAttrS_ok x.fAttrs (n) (by omega) hw.2.2.2.2) ?_ ?_ ?_; (focus (simp only [go_sem]; done)); (focus (simp only [go_sem]; done)); try simp only [go_sem, szOut_pos hc0, hc0]) | (refine cald (szAttrS_ok x.fAttrs (n) (by omega) hw.2.2.2.2) ?_ ?_ ?_ ?_; (focus (simp only [go_sem]; done)); (focus (simp only [go_sem]; done)); (focus (simp only [go_sem]; done)); try simp only [go_sem, szOut_pos hc0, hc0]) | (refine cndt ?_ ?_; (focus (simp only [go_sem]; done))) | (refine cndf ?_ ?_; (focus (simp only [go_sem]; done))) | (refine And.intro ?_ ?_; (focus omega)))
  exact retK_ret ⟨⟨_, rfl, by simp only [go_sem, e]⟩, trivial⟩
theorem toFile_ok (x : TFile) (hx : wFile x ≤ 1048576) : FnC Try.prog 47 [gFile x] (rFile x) := by
  unfold wFile at hx
  refine ent Try.func47 rfl Try.call47 rfl (fun C => ?_)
  simp only [go_sem, st0, Try.ntmps47]
  repeat' (with_reducible first | refine WP_ret ?_ | refine WP_skip ?_ | refine WP_exit ?_ | refine WP_seq ?_ | refine WP_block ?_ | refine K_code ?_ | refine K_blk ?_ | refine K_code_ret ?_ | refine K_blk_ret ?_ | refine K_code_exit ?_ | refine K_blk_exit_same ?_ | refine K_blk_exit_other (by decide) ?_ | refine K_nil ?_ | refine L_ret ?_ | refine L_exit ?_ | (refine run_cons ?_; simp only [go_sem]) | (refine run_nil ?_) | (refine drun_cons ?_; simp only [go_sem]) | (refine drun_nil ?_) | (refine reg ?_) | (refine regd (by kernel_rfl) ?_) | (refine cal (toAttrS_ok x.fAttrs (by omega)) ?_ ?_ ?_; (focus (simp only [go_sem]; done)); (focus (simp only [go_sem]; done)); try simp only [go_sem]) | (refine cald (toAttrS_ok x.fAttrs (by omega)) ?_ ?_ ?_ ?_; (focus (simp only [go_sem]; done)); (focus (simp only [go_sem]; done)); (focus (simp only [go_sem]; done)); try simp only [go_sem]) | (refine cndt ?_ ?_; (focus (simp only [go_sem]; done))) | (refine cndf ?_ ?_; (focus (simp only [go_sem]; done))) | (refine And.intro ?_ ?_; (focus omega)))
  exact retK_ret ⟨⟨_, rfl, by simp only [go_sem]⟩, trivial⟩
theorem toFiled_ok (x : TFile) (hx : wFile x ≤ 1048576) : FnC Try.prog 47 [gFile x] (gFile x) := (toFile_ok x hx).pure (by simp only [go_sem]) (by simp only [go_sem]) (by simp only [go_sem]) (by simp only [go_sem]) (by simp only [go_sem])
theorem eqFile_ok (x : TFile) (hx : wFile x ≤ 1048576) : FnC Try.prog 49 [gFile x, gFile x] (ob true) := by
  unfold wFile at hx
  refine ent Try.func49 rfl Try.call49 rfl (fun C => ?_)
  simp only [go_sem, st0, Try.ntmps49]
  repeat' (with_reducible first | refine WP_ret ?_ | refine WP_skip ?_ | refine WP_exit ?_ | refine WP_seq ?_ | refine WP_block ?_ | refine K_code ?_ | refine K_blk ?_ | refine K_code_ret ?_ | refine K_blk_ret ?_ | refine K_code_exit ?_ | refine K_blk_exit_same ?_ | refine K_blk_exit_other (by decide) ?_ | refine K_nil ?_ | refine L_ret ?_ | refine L_exit ?_ | (refine run_cons ?_; simp only [go_sem]) | (refine run_nil ?_) | (refine drun_cons ?_; simp only [go_sem]) | (refine drun_nil ?_) | (refine reg ?_) | (refine regd (by kernel_rfl) ?_) | (refine cal (eqAttrS_ok x.fAttrs (by omega)) ?_ ?_ ?_; (focus (simp only [go_sem]; done)); (focus (simp only [go_sem]; done)); try simp only [go_sem]) | (refine cald (eqAttrS_ok x.fAttrs (by omega)) ?_ ?_ ?_ ?_; (focus (simp only [go_sem]; done)); (focus (simp only [go_sem]; done)); (focus (simp only [go_sem]; done)); try simp only [go_sem]) | (refine cndt ?_ ?_; (focus (simp only [go_sem]; done))) | (refine cndf ?_ ?_; (focus (simp only [go_sem]; done))) | (refine And.intro ?_ ?_; (focus omega)))
  exact retK_ret ⟨⟨_, rfl, by simp only [go_sem]⟩, trivial⟩
theorem toFileS_ok (l : List TFile) (hl : wFileS l ≤ 1048576) : FnC Try.prog 115 [.o (.d (.sl (l.map encFile)))] (.o (.w 68 5 (l.map encFile))) := by
  unfold wFileS at hl
  refine ent Try.func115 rfl Try.call115 rfl (fun C => ?_)
  simp only [go_sem, st0, Try.ntmps115]
  repeat' (with_reducible first | refine WP_ret ?_ | refine WP_skip ?_ | refine WP_exit ?_ | refine WP_seq ?_ | refine WP_block ?_ | refine K_code ?_ | refine K_blk ?_ | refine K_code_ret ?_ | refine K_blk_ret ?_ | refine K_code_exit ?_ | refine K_blk_exit_same ?_ | refine K_blk_exit_other (by decide) ?_ | refine K_nil ?_ | refine L_ret ?_ | refine L_exit ?_ | (refine run_cons ?_; simp only [go_sem]) | (refine run_nil ?_) | (refine drun_cons ?_; simp only [go_sem]) | (refine drun_nil ?_) | (refine reg ?_) | (refine regd (by kernel_rfl) ?_) | (refine cndt ?_ ?_; (focus (simp only [go_sem]; done))) | (refine cndf ?_ ?_; (focus (simp only [go_sem]; done))) | (refine And.intro ?_ ?_; (focus omega)))
  refine WP_lp (α := Nat) (fun k => [(4, oi k)]) (fun k => [(0, .row 68 5 (fillR encFile [iv 0, iv 0, bv false, iv 0, .sl []] l k) true)]) (fun k => k ≤ l.length) (fun k => l.length - k) 0 (fun _ => ?_) ?_ ?_ (fun k hk => ?_)
  · simp only [go_sem]
  · simp only [go_sem]; simp [fillR_zero]
  · simp
  · simp only [go_sem]
    repeat' (with_reducible first | refine WP_ret ?_ | refine WP_skip ?_ | refine WP_exit ?_ | refine WP_seq ?_ | refine WP_block ?_ | refine K_code ?_ | refine K_blk ?_ | refine K_code_ret ?_ | refine K_blk_ret ?_ | refine K_code_exit ?_ | refine K_blk_exit_same ?_ | refine K_blk_exit_other (by decide) ?_ | refine K_nil ?_ | refine L_ret ?_ | refine L_exit ?_ | (refine run_cons ?_; simp only [go_sem]) | (refine run_nil ?_) | (refine drun_cons ?_; simp only [go_sem]) | (refine drun_nil ?_) | (refine reg ?_) | (refine regd (by kernel_rfl) ?_) | (refine cndt ?_ ?_; (focus (simp only [go_sem]; done))) | (refine cndf ?_ ?_; (focus (simp only [go_sem]; done))) | (refine And.intro ?_ ?_; (focus omega)))
    refine cnd rfl (fun h => ?_) (fun h => ?_)
    · simp only [decide_eq_true_eq, Int.ofNat_lt] at h
      have hw := wsum_get wFile l h
      repeat' (with_reducible first | refine WP_ret ?_ | refine WP_skip ?_ | refine WP_exit ?_ | refine WP_seq ?_ | refine WP_block ?_ | refine K_code ?_ | refine K_blk ?_ | refine K_code_ret ?_ | refine K_blk_ret ?_ | refine K_code_exit ?_ | refine K_blk_exit_same ?_ | refine K_blk_exit_other (by decide) ?_ | refine K_nil ?_ | refine L_ret ?_ | refine L_exit ?_ | (refine run_cons ?_; simp only [go_sem, h]) | (refine run_nil ?_) | (refine drun_cons ?_; simp only [go_sem, h]) | (refine drun_nil ?_) | (refine reg ?_) | (refine regd (by kernel_rfl) ?_) | (refine cal (toFile_ok l[k] (by omega)) ?_ ?_ ?_; (focus (simp only [go_sem]; done)); (focus (simp only [go_sem]; done)); try simp only [go_sem, h]) | (refine cald (toFile_ok l[k] (by omega)) ?_ ?_ ?_ ?_; (focus (simp only [go_sem]; done)); (focus (simp only [go_sem]; done)); (focus (simp only [go_sem]; done)); try simp only [go_sem, h]) | (refine cndt ?_ ?_; (focus (simp only [go_sem]; done))) | (refine cndf ?_ ?_; (focus (simp only [go_sem]; done))) | (refine And.intro ?_ ?_; (focus omega)))
      refine L_next (k + 1) ?_ ?_ ?_
      · simp only [go_sem]; simp [← fillR_set, h, encFile]
      · omega
      · omega
    · simp only [decide_eq_false_iff_not] at h
      have e : k = l.length := by omega
      subst e
      repeat' (with_reducible first | refine WP_ret ?_ | refine WP_skip ?_ | refine WP_exit ?_ | refine WP_seq ?_ | refine WP_block ?_ | refine K_code ?_ | refine K_blk ?_ | refine K_code_ret ?_ | refine K_blk_ret ?_ | refine K_code_exit ?_ | refine K_blk_exit_same ?_ | refine K_blk_exit_other (by decide) ?_ | refine K_nil ?_ | refine L_ret ?_ | refine L_exit ?_ | (refine run_cons ?_; simp only [go_sem]) | (refine run_nil ?_) | (refine drun_cons ?_; simp only [go_sem]) | (refine drun_nil ?_) | (refine reg ?_) | (refine regd (by kernel_rfl) ?_) | (refine cndt ?_ ?_; (focus (simp only [go_sem]; done))) | (refine cndf ?_ ?_; (focus (simp only [go_sem]; done))) | (refine And.intro ?_ ?_; (focus omega)))
      exact retK_ret ⟨⟨_, rfl, by simp only [go_sem, fillR_all]⟩, trivial⟩
theorem toFileSd_ok (l : List TFile) (hl : wFileS l ≤ 1048576) : FnC Try.prog 115 [.o (.d (.sl (l.map encFile)))] (.o (.d (.sl (l.map encFile)))) := (toFileS_ok l hl).pure (by simp only [go_sem]) (by simp only [go_sem]) (by simp only [go_sem]) (by simp only [go_sem]) (by simp only [go_sem])
theorem eqFileS_ok (l : List TFile) (hl : wFileS l ≤ 1048576) : FnC Try.prog 124 [.o (.d (.sl (l.map encFile))), .o (.d (.sl (l.map encFile)))] (ob true) := by
  unfold wFileS at hl
  refine ent Try.func124 rfl Try.call124 rfl (fun C => ?_)
  simp only [go_sem, st0, Try.ntmps124]
  repeat' (with_reducible first | refine WP_ret ?_ | refine WP_skip ?_ | refine WP_exit ?_ | refine WP_seq ?_ | refine WP_block ?_ | refine K_code ?_ | refine K_blk ?_ | refine K_code_ret ?_ | refine K_blk_ret ?_ | refine K_code_exit ?_ | refine K_blk_exit_same ?_ | refine K_blk_exit_other (by decide) ?_ | refine K_nil ?_ | refine L_ret ?_ | refine L_exit ?_ | (refine run_cons ?_; simp only [go_sem]) | (refine run_nil ?_) | (refine drun_cons ?_; simp only [go_sem]) | (refine drun_nil ?_) | (refine reg ?_) | (refine regd (by kernel_rfl) ?_) | (refine cndt ?_ ?_; (focus (simp only [go_sem]; done))) | (refine cndf ?_ ?_; (focus (simp only [go_sem]; done))) | (refine And.intro ?_ ?_; (focus omega)))
  refine WP_lp (α := Nat) (fun k => [(5, oi k)]) (fun _ => []) (fun k => k ≤ l.length) (fun k => l.length - k) 0 (fun _ => ?_) ?_ ?_ (fun k hk => ?_)
  · simp only [go_sem]
  · simp only [go_sem]; simp
  · simp
  · simp only [go_sem]
    repeat' (with_reducible first | refine WP_ret ?_ | refine WP_skip ?_ | refine WP_exit ?_ | refine WP_seq ?_ | refine WP_block ?_ | refine K_code ?_ | refine K_blk ?_ | refine K_code_ret ?_ | refine K_blk_ret ?_ | refine K_code_exit ?_ | refine K_blk_exit_same ?_ | refine K_blk_exit_other (by decide) ?_ | refine K_nil ?_ | refine L_ret ?_ | refine L_exit ?_ | (refine run_cons ?_; simp only [go_sem]) | (refine run_nil ?_) | (refine drun_cons ?_; simp only [go_sem]) | (refine drun_nil ?_) | (refine reg ?_) | (refine regd (by kernel_rfl) ?_) | (refine cndt ?_ ?_; (focus (simp only [go_sem]; done))) | (refine cndf ?_ ?_; (focus (simp only [go_sem]; done))) | (refine And.intro ?_ ?_; (focus omega)))
    refine cnd rfl (fun h => ?_) (fun h => ?_)
    · simp only [decide_eq_true_eq, Int.ofNat_lt] at h
      have hw := wsum_get wFile l h
      repeat' (with_reducible first | refine WP_ret ?_ | refine WP_skip ?_ | refine WP_exit ?_ | refine WP_seq ?_ | refine WP_block ?_ | refine K_code ?_ | refine K_blk ?_ | refine K_code_ret ?_ | refine K_blk_ret ?_ | refine K_code_exit ?_ | refine K_blk_exit_same ?_ | refine K_blk_exit_other (by decide) ?_ | refine K_nil ?_ | refine L_ret ?_ | refine L_exit ?_ | (refine run_cons ?_; simp only [go_sem, h]) | (refine run_nil ?_) | (refine drun_cons ?_; simp only [go_sem, h]) | (refine drun_nil ?_) | (refine reg ?_) | (refine regd (by kernel_rfl) ?_) | (refine cal (eqFile_ok l[k] (by omega)) ?_ ?_ ?_; (focus (simp only [go_sem]; done)); (focus (simp only [go_sem]; done)); try simp only [go_sem, h]) | (refine cald (eqFile_ok l[k] (by omega)) ?_ ?_ ?_ ?_; (focus (simp only [go_sem]; done)); (focus (simp only [go_sem]; done)); (focus (simp only [go_sem]; done)); try simp only [go_sem, h]) | (refine cndt ?_ ?_; (focus (simp only [go_sem]; done))) | (refine cndf ?_ ?_; (focus (simp only [go_sem]; done))) | (refine And.intro ?_ ?_; (focus omega)))
      refine L_next (k + 1) ?_ ?_ ?_
      · simp only [go_sem]; simp
      · omega
      · omega
    · simp only [decide_eq_false_iff_not] at h
      repeat' (with_reducible first | refine WP_ret ?_ | refine WP_skip ?_ | refine WP_exit ?_ | refine WP_seq ?_ | refine WP_block ?_ | refine K_code ?_ | refine K_blk ?_ | refine K_code_ret ?_ | refine K_blk_ret ?_ | refine K_code_exit ?_ | refine K_blk_exit_same ?_ | refine K_blk_exit_other (by decide) ?_ | refine K_nil ?_ | refine L_ret ?_ | refine L_exit ?_ | (refine run_cons ?_; simp only [go_sem]) | (refine run_nil ?_) | (refine drun_cons ?_; simp only [go_sem]) | (refine drun_nil ?_) | (refine reg ?_) | (refine regd (by kernel_rfl) ?_) | (refine cndt ?_ ?_; (focus (simp only [go_sem]; done))) | (refine cndf ?_ ?_; (focus (simp only [go_sem]; done))) | (refine And.intro ?_ ?_; (focus omega)))
      exact retK_ret ⟨⟨_, rfl, by simp only [go_sem]⟩, trivial⟩
theorem szFileS_ok (l : List TFile) (n : Int) (h0 : 0 ≤ n ∧ n ≤ 1048576) (hw : wfFileS l) : FnC Try.prog 110 [.o (.d (.sl (l.map encFile))), oi n] (oi (szOut n (wFileS l))) := by
  unfold wfFileS at hw
  refine ent Try.func110 rfl Try.call110 rfl (fun C => ?_)
  simp only [go_sem, st0, Try.ntmps110]
  by_cases hc : n - (l.length : Nat) < 0
  · have e : szOut n (wFileS l) = -1 := by rw [szOut_neg (by unfold wFileS; omega)]
    repeat' (with_reducible first | refine WP_ret ?_ | refine WP_skip ?_ | refine WP_exit ?_ | refine WP_seq ?_ | refine WP_block ?_ | refine K_code ?_ | refine K_blk ?_ | refine K_code_ret ?_ | refine K_blk_ret ?_ | refine K_code_exit ?_ | refine K_blk_exit_same ?_ | refine K_blk_exit_other (by decide) ?_ | refine K_nil ?_ | refine L_ret ?_ | refine L_exit ?_ | (refine run_cons ?_; simp only [go_sem, hc]) | (refine run_nil ?_) | (refine drun_cons ?_; simp only [go_sem, hc]) | (refine drun_nil ?_) | (refine reg ?_) | (refine regd (by kernel_rfl) ?_) | (refine cndt ?_ ?_; (focus (simp only [go_sem]; done))) | (refine cndf ?_ ?_; (focus (simp only [go_sem]; done))) | (refine And.intro ?_ ?_; (focus omega)))
    exact retK_ret ⟨⟨_, rfl, by simp only [go_sem, e]⟩, trivial⟩
  repeat' (with_reducible first | refine WP_ret ?_ | refine WP_skip ?_ | refine WP_exit ?_ | refine WP_seq ?_ | refine WP_block ?_ | refine K_code ?_ | refine K_blk ?_ | refine K_code_ret ?_ | refine K_blk_ret ?_ | refine K_code_exit ?_ | refine K_blk_exit_same ?_ | refine K_blk_exit_other (by decide) ?_ | refine K_nil ?_ | refine L_ret ?_ | refine L_exit ?_ | (refine run_cons ?_; simp only [go_sem, hc]) | (refine run_nil ?_) | (refine drun_cons ?_; simp only [go_sem, hc]) | (refine drun_nil ?_) | (refine reg ?_) | (refine regd (by kernel_rfl) ?_) | (refine cndt ?_ ?_; (focus (simp only [go_sem]; done))) | (refine cndf ?_ ?_; (focus (simp only [go_sem]; done))) | (refine And.intro ?_ ?_; (focus omega)))
  refine WP_lp (α := Nat) (fun k => [(5, oi k), (1, oi (n - (l.length : Nat) - (wsum wFile (l.take k) : Nat)))]) (fun _ => []) (fun k => k ≤ l.length ∧ 0 ≤ n - (l.length : Nat) - (wsum wFile (l.take k) : Nat)) (fun k => l.length - k) 0 (fun _ => ?_) ?_ ?_ (fun k hk => ?_)
  · simp only [go_sem]
  · simp only [go_sem]; simp [wsum]
  · simp [wsum]; omega
  · obtain ⟨hk, hn⟩ := hk
    simp only [go_sem]
    repeat' (with_reducible first | refine WP_ret ?_ | refine WP_skip ?_ | refine WP_exit ?_ | refine WP_seq ?_ | refine WP_block ?_ | refine K_code ?_ | refine K_blk ?_ | refine K_code_ret ?_ | refine K_blk_ret ?_ | refine K_code_exit ?_ | refine K_blk_exit_same ?_ | refine K_blk_exit_other (by decide) ?_ | refine K_nil ?_ | refine L_ret ?_ | refine L_exit ?_ | (refine run_cons ?_; simp only [go_sem]) | (refine run_nil ?_) | (refine drun_cons ?_; simp only [go_sem]) | (refine drun_nil ?_) | (refine reg ?_) | (refine regd (by kernel_rfl) ?_) | (refine cndt ?_ ?_; (focus (simp only [go_sem]; done))) | (refine cndf ?_ ?_; (focus (simp only [go_sem]; done))) | (refine And.intro ?_ ?_; (focus omega)))
    refine cnd rfl (fun h => ?_) (fun h => ?_)
    · simp only [decide_eq_true_eq, Int.ofNat_lt] at h
      have hs := wsum_take wFile l h
      have ht := wsum_le wFile l (k + 1)
      by_cases h2 : n - (l.length : Nat) - (wsum wFile (l.take k) : Nat) - (wFile l[k] : Nat) < 0
      · have e : szOut n (wFileS l) = -1 := by rw [szOut_neg (by unfold wFileS; omega)]
        repeat' (with_reducible first | refine WP_ret ?_ | refine WP_skip ?_ | refine WP_exit ?_ | refine WP_seq ?_ | refine WP_block ?_ | refine K_code ?_ | refine K_blk ?_ | refine K_code_ret ?_ | refine K_blk_ret ?_ | refine K_code_exit ?_ | refine K_blk_exit_same ?_ | refine K_blk_exit_other (by decide) ?_ | refine K_nil ?_ | refine L_ret ?_ | refine L_exit ?_ | (refine run_cons ?_; simp only [go_sem, h, szOut_neg h2]) | (refine run_nil ?_) | (refine drun_cons ?_; simp only [go_sem, h, szOut_neg h2]) | (refine drun_nil ?_) | (refine reg ?_) | (refine regd (by kernel_rfl) ?_) | (refine cal (szFile_ok l[k] _ ⟨hn, by omega⟩ (hw.2 _ (List.getElem_mem h))) ?_ ?_ ?_; (focus (simp only [go_sem]; done)); (focus (simp only [go_sem]; done)); try simp only [go_sem, h, szOut_neg h2]) | (refine cald (szFile_ok l[k] _ ⟨hn, by omega⟩ (hw.2 _ (List.getElem_mem h))) ?_ ?_ ?_ ?_; (focus (simp only [go_sem]; done)); (focus (simp only [go_sem]; done)); (focus (simp only [go_sem]; done)); try simp only [go_sem, h, szOut_neg h2]) | (refine cndt ?_ ?_; (focus (simp only [go_sem]; done))) | (refine cndf ?_ ?_; (focus (simp only [go_sem]; done))) | (refine And.intro ?_ ?_; (focus omega)))
        exact retK_ret ⟨⟨_, rfl, by simp only [go_sem, e]⟩, trivial⟩
      · repeat' (with_reducible first | refine WP_ret ?_ | refine WP_skip ?_ | refine WP_exit ?_ | refine WP_seq ?_ | refine WP_block ?_ | refine K_code ?_ | refine K_blk ?_ | refine K_code_ret ?_ | refine K_blk_ret ?_ | refine K_code_exit ?_ | refine K_blk_exit_same ?_ | refine K_blk_exit_other (by decide) ?_ | refine K_nil ?_ | refine L_ret ?_ | refine L_exit ?_ | (refine run_cons ?_; simp only [go_sem, h, szOut_pos h2, h2]) | (refine run_nil ?_) | (refine drun_cons ?_; simp only [go_sem, h, szOut_pos h2, h2]) | (refine drun_nil ?_) | (refine reg ?_) | (refine regd (by kernel_rfl) ?_) | (refine cal (szFile_ok l[k] _ ⟨hn, by omega⟩ (hw.2 _ (List.getElem_mem h))) ?_ ?_ ?_; (focus (simp only [go_sem]; done)); (focus (simp only [go_sem]; done)); try simp only [go_sem, h, szOut_pos h2, h2]) | (refine cald (szFile_ok l[k] _ ⟨hn, by omega⟩ (hw.2 _ (List.getElem_mem h))) ?_ ?_ ?_ ?_; (focus (simp only [go_sem]; done)); (focus (simp only [go_sem]; done)); (focus (simp only [go_sem]; done)); try simp only [go_sem, h, szOut_pos h2, h2]) | (refine cndt ?_ ?_; (focus (simp only [go_sem]; done))) | (refine cndf ?_ ?_; (focus (simp only [go_sem]; done))) | (refine And.intro ?_ ?_; (focus omega)))
        refine L_next (k + 1) ?_ ?_ ?_
        · simp only [go_sem]; simp; omega
        · omega
        · omega
    · simp only [decide_eq_false_iff_not] at h
      have e0 : k = l.length := by omega
      subst e0
      rw [List.take_length] at hn
      have e : szOut n (wFileS l) = n - (l.length : Nat) - (wsum wFile l : Nat) := by rw [szOut_pos (by unfold wFileS; omega)]; unfold wFileS; omega
      repeat' (with_reducible first | refine WP_ret ?_ | refine WP_skip ?_ | refine WP_exit ?_ | refine WP_seq ?_ | refine WP_block ?_ | refine K_code ?_ | refine K_blk ?_ | refine K_code_ret ?_ | refine K_blk_ret ?_ | refine K_code_exit ?_ | refine K_blk_exit_same ?_ | refine K_blk_exit_other (by decide) ?_ | refine K_nil ?_ | refine L_ret ?_ | refine L_exit ?_ | (refine run_cons ?_; simp only [go_sem]) | (refine run_nil ?_) | (refine drun_cons ?_; simp only [go_sem]) | (refine drun_nil ?_) | (refine reg ?_) | (refine regd (by kernel_rfl) ?_) | (refine cndt ?_ ?_; (focus (simp only [go_sem]; done))) | (refine cndf ?_ ?_; (focus (simp only [go_sem]; done))) | (refine And.intro ?_ ?_; (focus omega)))
      exact retK_ret ⟨⟨_, rfl, by simp only [go_sem, e, List.take_length]⟩, trivial⟩
end Go.Proofs.Yteganoldfldlhaa
