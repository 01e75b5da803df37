/-
  Snapshot: the structure, its cells; the contracts of the laws' helpers sz, to, eq. By program (gentys.py).
-/
import Derived.Test.YtefpompaidekeaaH13Change
set_option linter.all false
set_option maxHeartbeats 1000000
namespace Go.Proofs.Ytefpompaidekeaa
open Go Go.Sx Go.RowKit Go.Proofs

structure TSnapshot where
  fStore : TStore
  fDirs : List TDir
@[go_sem] def encSnapshot (x : TSnapshot) : List D := [.sl (x.fStore.fSchema.map encField), .sl (x.fStore.fFiles.map encFile), iv x.fStore.fNextID, .sl (x.fDirs.map encDir)]
@[go_sem] def gSnapshot (x : TSnapshot) : SV := .g [.d (.sl (x.fStore.fSchema.map encField)), .d (.sl (x.fStore.fFiles.map encFile)), .d (iv x.fStore.fNextID), .d (.sl (x.fDirs.map encDir))]
@[go_sem] def rSnapshot (x : TSnapshot) : SV := .g [.w 113 2 (x.fStore.fSchema.map encField), .w 34 5 (x.fStore.fFiles.map encFile), .d (iv x.fStore.fNextID), .w 37 2 (x.fDirs.map encDir)]
def wSnapshot (x : TSnapshot) : Nat := wStore x.fStore + wDirS x.fDirs
def wfSnapshot (x : TSnapshot) : Prop := wfStore x.fStore ∧ wfDirS x.fDirs
def wSnapshotS (l : List TSnapshot) : Nat := l.length + wsum wSnapshot l
def wfSnapshotS (l : List TSnapshot) : Prop := l.length ≤ 9223372036854775807 ∧ ∀ x ∈ l, wfSnapshot x
theorem decSnapshot {n : Nat} {r : List D} (h : ShD tt n 65 r) : ∃ x : TSnapshot, r = encSnapshot x ∧ wfSnapshot x := by
  match n, h with
  | n + 1, ⟨a0, b0, e0, h0, a1, b1, e1, h1, ee⟩ =>
    obtain ⟨x0, rfl, p0⟩ := decStore h0
    obtain ⟨x1, rfl, p1⟩ := decDirS h1
    have ee' : b1 = [] := ee
    subst ee' e1 e0
    exact ⟨⟨x0, x1⟩, rfl, p0, p1⟩
theorem szSnapshot_ok (x : TSnapshot) (n : Int) (h0 : 0 ≤ n ∧ n ≤ 1048576) (hw : wfSnapshot x) : FnC Try.prog 25 [gSnapshot x, oi n] (oi (szOut n (wSnapshot x))) := by
  refine ent Try.func25 rfl Try.call25 rfl (fun C => ?_)
  simp only [go_sem, st0, Try.ntmps25]
  unfold wfSnapshot at hw
  by_cases hc0 : n - (wStore x.fStore : Nat) < 0
  · have e : szOut n (wSnapshot x) = -1 := by rw [szOut_neg (by unfold wSnapshot; omega)]
    repeat' (with_reducible first | refine WP_ret ?_ | refine WP_skip ?_ | refine WP_exit ?_ | refine WP_seq ?_ | refine WP_block ?_ | refine K_code ?_ | refine K_blk ?_ | refine K_code_ret ?_ | refine K_blk_ret ?_ | refine K_code_exit ?_ | refine K_blk_exit_same ?_ | refine K_blk_exit_other (by decide) ?_ | refine K_nil ?_ | refine L_ret ?_ | refine L_exit ?_ | (refine run_cons ?_; simp only [go_sem, szOut_neg hc0, hc0]) | (refine run_nil ?_) | (refine drun_cons ?_; simp only [go_sem, szOut_neg hc0, hc0]) | (refine drun_nil ?_) | (refine reg ?_) | (refine regd (by kernel_rfl) ?_) | (refine cal (szStore_ok x.fStore (n) (by omega) hw.1) ?_ ?_ ?_; (focus (simp only [go_sem]; done)); (focus (simp only [go_sem]; done)); try simp only [go_sem, szOut_neg hc0, hc0]) | (refine cald (szStore_ok x.fStore (n) (by omega) hw.1) ?_ ?_ ?_ ?_; (focus (simp only [go_sem]; done)); (focus (simp only [go_sem]; done)); (focus (simp only [go_sem]; done)); try simp only [go_sem, szOut_neg hc0, hc0]) | (refine cndt ?_ ?_; (focus (simp only [go_sem]; done))) | (refine cndf ?_ ?_; (focus (simp only [go_sem]; done))) | (refine And.intro ?_ ?_; (focus omega)))
    exact retK_ret ⟨⟨_, rfl, by simp only [go_sem, e]⟩, trivial⟩
  by_cases hc1 : n - (wStore x.fStore : Nat) - (wDirS x.fDirs : Nat) < 0
  · have e : szOut n (wSnapshot x) = -1 := by rw [szOut_neg (by unfold wSnapshot; omega)]
    repeat' (with_reducible first | refine WP_ret ?_ | refine WP_skip ?_ | refine WP_exit ?_ | refine WP_seq ?_ | refine WP_block ?_ | refine K_code ?_ | refine K_blk ?_ | refine K_code_ret ?_ | refine K_blk_ret ?_ | refine K_code_exit ?_ | refine K_blk_exit_same ?_ | refine K_blk_exit_other (by decide) ?_ | refine K_nil ?_ | refine L_ret ?_ | refine L_exit ?_ | (refine run_cons ?_; simp only [go_sem, szOut_pos hc0, hc0, szOut_neg hc1, hc1]) | (refine run_nil ?_) | (refine drun_cons ?_; simp only [go_sem, szOut_pos hc0, hc0, szOut_neg hc1, hc1]) | (refine drun_nil ?_) | (refine reg ?_) | (refine regd (by kernel_rfl) ?_) | (refine cal (szStore_ok x.fStore (n) (by omega) hw.1) ?_ ?_ ?_; (focus (simp only [go_sem]; done)); (focus (simp only [go_sem]; done)); try simp only [go_sem, szOut_pos hc0, hc0, szOut_neg hc1, hc1]) | (refine cald (szStore_ok x.fStore (n) (by omega) hw.1) ?_ ?_ ?_ ?_; (focus (simp only [go_sem]; done)); (focus (simp only [go_sem]; done)); (focus (simp only [go_sem]; done)); try simp only [go_sem, szOut_pos hc0, hc0, szOut_neg hc1, hc1]) | (refine cal (szDirS_ok x.fDirs (n - (wStore x.fStore : Nat)) (by omega) hw.2) ?_ ?_ ?_; (focus (simp only [go_sem]; done)); (focus (simp only [go_sem]; done)); try simp only [go_sem, szOut_pos hc0, hc0, szOut_neg hc1, hc1]) | (refine cald (szDirS_ok x.fDirs (n - (wStore x.fStore : Nat)) (by omega) hw.2) ?_ ?_ ?_ ?_; (focus (simp only [go_sem]; done)); (focus (simp only [go_sem]; done)); (focus (simp only [go_sem]; done)); try simp only [go_sem, szOut_pos hc0, hc0, szOut_neg hc1, hc1]) | (refine cndt ?_ ?_; (focus (simp only [go_sem]; done))) | (refine cndf ?_ ?_; (focus (simp only [go_sem]; done))) | (refine And.intro ?_ ?_; (focus omega)))
    exact retK_ret ⟨⟨_, rfl, by simp only [go_sem, e]⟩, trivial⟩
  have e : szOut n (wSnapshot x) = n - (wStore x.fStore : Nat) - (wDirS x.fDirs : Nat) := by rw [szOut_pos (by unfold wSnapshot; omega)]; unfold wSnapshot; omega
  repeat' (with_reducible first | refine WP_ret ?_ | refine WP_skip ?_ | refine WP_exit ?_ | refine WP_seq ?_ | refine WP_block ?_ | refine K_code ?_ | refine K_blk ?_ | refine K_code_ret ?_ | refine K_blk_ret ?_ | refine K_code_exit ?_ | refine K_blk_exit_same ?_ | refine K_blk_exit_other (by decide) ?_ | refine K_nil ?_ | refine L_ret ?_ | refine L_exit ?_ | (refine run_cons ?_; simp only [go_sem, szOut_pos hc0, hc0, szOut_pos hc1, hc1]) | (refine run_nil ?_) | (refine drun_cons ?_; simp only [go_sem, szOut_pos hc0, hc0, szOut_pos hc1, hc1]) | (refine drun_nil ?_) | (refine reg ?_) | (refine regd (by kernel_rfl) ?_) | (refine cal (szStore_ok x.fStore (n) (by omega) hw.1) ?_ ?_ ?_; (focus (simp only [go_sem]; done)); (focus (simp only [go_sem]; done)); try simp only [go_sem, szOut_pos hc0, hc0, szOut_pos hc1, hc1]) | (refine cald (szStore_ok x.fStore (n) (by omega) hw.1) ?_ ?_ ?_ ?_; (focus (simp only [go_sem]; done)); (focus (simp only [go_sem]; done)); (focus (simp only [go_sem]; done)); try simp only [go_sem, szOut_pos hc0, hc0, szOut_pos hc1, hc1]) | (refine cal (szDirS_ok x.fDirs (n - (wStore x.fStore : Nat)) (by omega) hw.2) ?_ ?_ ?_; (focus (simp only [go_sem]; done)); (focus (simp only [go_sem]; done)); try simp only [go_sem, szOut_pos hc0, hc0, szOut_pos hc1, hc1]) | (refine cald (szDirS_ok x.fDirs (n - (wStore x.fStore : Nat)) (by omega) hw.2) ?_ ?_ ?_ ?_; (focus (simp only [go_sem]; done)); (focus (simp only [go_sem]; done)); (focus (simp only [go_sem]; done)); try simp only [go_sem, szOut_pos hc0, hc0, szOut_pos hc1, hc1]) | (refine cndt ?_ ?_; (focus (simp only [go_sem]; done))) | (refine cndf ?_ ?_; (focus (simp only [go_sem]; done))) | (refine And.intro ?_ ?_; (focus omega)))
  exact retK_ret ⟨⟨_, rfl, by simp only [go_sem, e]⟩, trivial⟩
theorem toSnapshot_ok (x : TSnapshot) (hx : wSnapshot x ≤ 1048576) : FnC Try.prog 27 [gSnapshot x] (rSnapshot x) := by
  unfold wSnapshot at hx
  refine ent Try.func27 rfl Try.call27 rfl (fun C => ?_)
  simp only [go_sem, st0, Try.ntmps27]
  repeat' (with_reducible first | refine WP_ret ?_ | refine WP_skip ?_ | refine WP_exit ?_ | refine WP_seq ?_ | refine WP_block ?_ | refine K_code ?_ | refine K_blk ?_ | refine K_code_ret ?_ | refine K_blk_ret ?_ | refine K_code_exit ?_ | refine K_blk_exit_same ?_ | refine K_blk_exit_other (by decide) ?_ | refine K_nil ?_ | refine L_ret ?_ | refine L_exit ?_ | (refine run_cons ?_; simp only [go_sem]) | (refine run_nil ?_) | (refine drun_cons ?_; simp only [go_sem]) | (refine drun_nil ?_) | (refine reg ?_) | (refine regd (by kernel_rfl) ?_) | (refine cal (toStore_ok x.fStore (by omega)) ?_ ?_ ?_; (focus (simp only [go_sem]; done)); (focus (simp only [go_sem]; done)); try simp only [go_sem]) | (refine cald (toStore_ok x.fStore (by omega)) ?_ ?_ ?_ ?_; (focus (simp only [go_sem]; done)); (focus (simp only [go_sem]; done)); (focus (simp only [go_sem]; done)); try simp only [go_sem]) | (refine cal (toDirS_ok x.fDirs (by omega)) ?_ ?_ ?_; (focus (simp only [go_sem]; done)); (focus (simp only [go_sem]; done)); try simp only [go_sem]) | (refine cald (toDirS_ok x.fDirs (by omega)) ?_ ?_ ?_ ?_; (focus (simp only [go_sem]; done)); (focus (simp only [go_sem]; done)); (focus (simp only [go_sem]; done)); try simp only [go_sem]) | (refine cndt ?_ ?_; (focus (simp only [go_sem]; done))) | (refine cndf ?_ ?_; (focus (simp only [go_sem]; done))) | (refine And.intro ?_ ?_; (focus omega)))
  exact retK_ret ⟨⟨_, rfl, by simp only [go_sem]⟩, trivial⟩
theorem toSnapshotd_ok (x : TSnapshot) (hx : wSnapshot x ≤ 1048576) : FnC Try.prog 27 [gSnapshot x] (gSnapshot x) := (toSnapshot_ok x hx).pure (by simp only [go_sem]) (by simp only [go_sem]) (by simp only [go_sem]) (by simp only [go_sem]) (by simp only [go_sem])
theorem eqSnapshot_ok (x : TSnapshot) (hx : wSnapshot x ≤ 1048576) : FnC Try.prog 29 [gSnapshot x, gSnapshot x] (ob true) := by
  unfold wSnapshot at hx
  refine ent Try.func29 rfl Try.call29 rfl (fun C => ?_)
  simp only [go_sem, st0, Try.ntmps29]
  repeat' (with_reducible first | refine WP_ret ?_ | refine WP_skip ?_ | refine WP_exit ?_ | refine WP_seq ?_ | refine WP_block ?_ | refine K_code ?_ | refine K_blk ?_ | refine K_code_ret ?_ | refine K_blk_ret ?_ | refine K_code_exit ?_ | refine K_blk_exit_same ?_ | refine K_blk_exit_other (by decide) ?_ | refine K_nil ?_ | refine L_ret ?_ | refine L_exit ?_ | (refine run_cons ?_; simp only [go_sem]) | (refine run_nil ?_) | (refine drun_cons ?_; simp only [go_sem]) | (refine drun_nil ?_) | (refine reg ?_) | (refine regd (by kernel_rfl) ?_) | (refine cal (eqStore_ok x.fStore (by omega)) ?_ ?_ ?_; (focus (simp only [go_sem]; done)); (focus (simp only [go_sem]; done)); try simp only [go_sem]) | (refine cald (eqStore_ok x.fStore (by omega)) ?_ ?_ ?_ ?_; (focus (simp only [go_sem]; done)); (focus (simp only [go_sem]; done)); (focus (simp only [go_sem]; done)); try simp only [go_sem]) | (refine cal (eqDirS_ok x.fDirs (by omega)) ?_ ?_ ?_; (focus (simp only [go_sem]; done)); (focus (simp only [go_sem]; done)); try simp only [go_sem]) | (refine cald (eqDirS_ok x.fDirs (by omega)) ?_ ?_ ?_ ?_; (focus (simp only [go_sem]; done)); (focus (simp only [go_sem]; done)); (focus (simp only [go_sem]; done)); try simp only [go_sem]) | (refine cndt ?_ ?_; (focus (simp only [go_sem]; done))) | (refine cndf ?_ ?_; (focus (simp only [go_sem]; done))) | (refine And.intro ?_ ?_; (focus omega)))
  exact retK_ret ⟨⟨_, rfl, by simp only [go_sem]⟩, trivial⟩
end Go.Proofs.Ytefpompaidekeaa
