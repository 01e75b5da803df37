/-
  Result: the structure, its cells; the contracts of the laws' helpers sz, to, eq. By program (gentys.py).
  Diff: the structure, its cells; the contracts of the laws' helpers sz, to, eq. By program (gentys.py).
  Catalog: the structure, its cells; the contracts of the laws' helpers sz, to, eq. By program (gentys.py).
  Group: the structure, its cells; the contracts of the laws' helpers sz, to, eq. By program (gentys.py).
  Edit: the structure, its cells; the contracts of the laws' helpers sz, to, eq. By program (gentys.py).
  Change: the structure, its cells; the contracts of the laws' helpers sz, to, eq. By program (gentys.py).
  Snapshot: the structure, its cells; the contracts of the laws' helpers sz, to, eq. By program (gentys.py).
  Disk: the structure, its cells; the contracts of the laws' helpers sz, to, eq. By program (gentys.py).
  within, l01In.
  The laws' helpers sz, to, eq at []string.
-/
import Derived.Test.YtiogaijpncjlmaaGreatH1
set_option linter.all false
section
set_option linter.all false
set_option maxHeartbeats 1000000
namespace Go.Proofs.YtiogaijpncjlmaaGreat
open Go Go.Sx Go.RowKit Go.Proofs

structure TResult where
  fName : ByteArray
  fIDs : List Int
@[go_sem] def encResult (x : TResult) : List D := [sv x.fName, .sl (x.fIDs.map encI)]
@[go_sem] def gResult (x : TResult) : SV := .g [.d (sv x.fName), .d (.sl (x.fIDs.map encI))]
@[go_sem] def rResult (x : TResult) : SV := .g [.d (sv x.fName), .w 3 1 (x.fIDs.map encI)]
def wResult (x : TResult) : Nat := x.fName.size + x.fIDs.length
def wfResult (x : TResult) : Prop := x.fName.size ≤ 9223372036854775807 ∧ wfIntS x.fIDs
def wResultS (l : List TResult) : Nat := l.length + wsum wResult l
def wfResultS (l : List TResult) : Prop := l.length ≤ 9223372036854775807 ∧ ∀ x ∈ l, wfResult x
end Go.Proofs.YtiogaijpncjlmaaGreat
end

section
set_option linter.all false
set_option maxHeartbeats 1000000
namespace Go.Proofs.YtiogaijpncjlmaaGreat
open Go Go.Sx Go.RowKit Go.Proofs

structure TDiff where
  fName : ByteArray
  fAdded : List Int
  fRemoved : List Int
@[go_sem] def encDiff (x : TDiff) : List D := [sv x.fName, .sl (x.fAdded.map encI), .sl (x.fRemoved.map encI)]
@[go_sem] def gDiff (x : TDiff) : SV := .g [.d (sv x.fName), .d (.sl (x.fAdded.map encI)), .d (.sl (x.fRemoved.map encI))]
@[go_sem] def rDiff (x : TDiff) : SV := .g [.d (sv x.fName), .w 3 1 (x.fAdded.map encI), .w 3 1 (x.fRemoved.map encI)]
def wDiff (x : TDiff) : Nat := x.fName.size + x.fAdded.length + x.fRemoved.length
def wfDiff (x : TDiff) : Prop := x.fName.size ≤ 9223372036854775807 ∧ wfIntS x.fAdded ∧ wfIntS x.fRemoved
def wDiffS (l : List TDiff) : Nat := l.length + wsum wDiff l
def wfDiffS (l : List TDiff) : Prop := l.length ≤ 9223372036854775807 ∧ ∀ x ∈ l, wfDiff x
end Go.Proofs.YtiogaijpncjlmaaGreat
end

section
set_option linter.all false
set_option maxHeartbeats 1000000
namespace Go.Proofs.YtiogaijpncjlmaaGreat
open Go Go.Sx Go.RowKit Go.Proofs

structure TCatalog where
  fStore : TStore
  fDirs : List TDir
  fResults : List TResult
@[go_sem] def encCatalog (x : TCatalog) : List D := [.sl (x.fStore.fSchema.map encField), .sl (x.fStore.fFiles.map encFile), iv x.fStore.fNextID, .sl (x.fDirs.map encDir), .sl (x.fResults.map encResult)]
@[go_sem] def gCatalog (x : TCatalog) : SV := .g [.d (.sl (x.fStore.fSchema.map encField)), .d (.sl (x.fStore.fFiles.map encFile)), .d (iv x.fStore.fNextID), .d (.sl (x.fDirs.map encDir)), .d (.sl (x.fResults.map encResult))]
def wCatalog (x : TCatalog) : Nat := wStore x.fStore + wDirS x.fDirs + wResultS x.fResults
def wfCatalog (x : TCatalog) : Prop := wfStore x.fStore ∧ wfDirS x.fDirs ∧ wfResultS x.fResults
def wCatalogS (l : List TCatalog) : Nat := l.length + wsum wCatalog l
def wfCatalogS (l : List TCatalog) : Prop := l.length ≤ 9223372036854775807 ∧ ∀ x ∈ l, wfCatalog x
end Go.Proofs.YtiogaijpncjlmaaGreat
end

section
set_option linter.all false
set_option maxHeartbeats 1000000
namespace Go.Proofs.YtiogaijpncjlmaaGreat
open Go Go.Sx Go.RowKit Go.Proofs

structure TGroup where
  fValue : TValue
  fIDs : List Int
@[go_sem] def encGroup (x : TGroup) : List D := [iv x.fValue.fKind, iv x.fValue.fInt, sv x.fValue.fStr, .sl (x.fIDs.map encI)]
@[go_sem] def gGroup (x : TGroup) : SV := .g [.d (iv x.fValue.fKind), .d (iv x.fValue.fInt), .d (sv x.fValue.fStr), .d (.sl (x.fIDs.map encI))]
@[go_sem] def rGroup (x : TGroup) : SV := .g [.d (iv x.fValue.fKind), .d (iv x.fValue.fInt), .d (sv x.fValue.fStr), .w 3 1 (x.fIDs.map encI)]
def wGroup (x : TGroup) : Nat := wValue x.fValue + x.fIDs.length
def wfGroup (x : TGroup) : Prop := wfValue x.fValue ∧ wfIntS x.fIDs
def wGroupS (l : List TGroup) : Nat := l.length + wsum wGroup l
def wfGroupS (l : List TGroup) : Prop := l.length ≤ 9223372036854775807 ∧ ∀ x ∈ l, wfGroup x
end Go.Proofs.YtiogaijpncjlmaaGreat
end

section
set_option linter.all false
set_option maxHeartbeats 1000000
namespace Go.Proofs.YtiogaijpncjlmaaGreat
open Go Go.Sx Go.RowKit Go.Proofs

structure TEdit where
  fOK : Bool
  fSet : List TAttr
@[go_sem] def encEdit (x : TEdit) : List D := [bv x.fOK, .sl (x.fSet.map encAttr)]
@[go_sem] def gEdit (x : TEdit) : SV := .g [.d (bv x.fOK), .d (.sl (x.fSet.map encAttr))]
@[go_sem] def rEdit (x : TEdit) : SV := .g [.d (bv x.fOK), .w 85 4 (x.fSet.map encAttr)]
def wEdit (x : TEdit) : Nat := wAttrS x.fSet
def wfEdit (x : TEdit) : Prop := True ∧ wfAttrS x.fSet
def wEditS (l : List TEdit) : Nat := l.length + wsum wEdit l
def wfEditS (l : List TEdit) : Prop := l.length ≤ 9223372036854775807 ∧ ∀ x ∈ l, wfEdit x
end Go.Proofs.YtiogaijpncjlmaaGreat
end

section
set_option linter.all false
set_option maxHeartbeats 1000000
namespace Go.Proofs.YtiogaijpncjlmaaGreat
open Go Go.Sx Go.RowKit Go.Proofs

structure TChange where
  fKind : Int
  fFile : TFile
  fID : Int
  fDir : TDir
@[go_sem] def encChange (x : TChange) : List D := [iv x.fKind, iv x.fFile.fID, iv x.fFile.fOwner, bv x.fFile.fShared, iv x.fFile.fLink, .sl (x.fFile.fAttrs.map encAttr), iv x.fID, sv x.fDir.fName, .sl (x.fDir.fQuery.map encNode)]
@[go_sem] def gChange (x : TChange) : SV := .g [.d (iv x.fKind), .d (iv x.fFile.fID), .d (iv x.fFile.fOwner), .d (bv x.fFile.fShared), .d (iv x.fFile.fLink), .d (.sl (x.fFile.fAttrs.map encAttr)), .d (iv x.fID), .d (sv x.fDir.fName), .d (.sl (x.fDir.fQuery.map encNode))]
@[go_sem] def rChange (x : TChange) : SV := .g [.d (iv x.fKind), .d (iv x.fFile.fID), .d (iv x.fFile.fOwner), .d (bv x.fFile.fShared), .d (iv x.fFile.fLink), .w 85 4 (x.fFile.fAttrs.map encAttr), .d (iv x.fID), .d (sv x.fDir.fName), .w 112 7 (x.fDir.fQuery.map encNode)]
def wChange (x : TChange) : Nat := wFile x.fFile + wDir x.fDir
def wfChange (x : TChange) : Prop := inR .i64 x.fKind ∧ wfFile x.fFile ∧ inR .i64 x.fID ∧ wfDir x.fDir
def wChangeS (l : List TChange) : Nat := l.length + wsum wChange l
def wfChangeS (l : List TChange) : Prop := l.length ≤ 9223372036854775807 ∧ ∀ x ∈ l, wfChange x
end Go.Proofs.YtiogaijpncjlmaaGreat
end

section
set_option linter.all false
set_option maxHeartbeats 1000000
namespace Go.Proofs.YtiogaijpncjlmaaGreat
open Go Go.Sx Go.RowKit Go.Proofs

structure TSnapshot where
  fStore : TStore
  fDirs : List TDir
@[go_sem] def encSnapshot (x : TSnapshot) : List D := [.sl (x.fStore.fSchema.map encField), .sl (x.fStore.fFiles.map encFile), iv x.fStore.fNextID, .sl (x.fDirs.map encDir)]
@[go_sem] def gSnapshot (x : TSnapshot) : SV := .g [.d (.sl (x.fStore.fSchema.map encField)), .d (.sl (x.fStore.fFiles.map encFile)), .d (iv x.fStore.fNextID), .d (.sl (x.fDirs.map encDir))]
@[go_sem] def rSnapshot (x : TSnapshot) : SV := .g [.w 87 2 (x.fStore.fSchema.map encField), .w 58 5 (x.fStore.fFiles.map encFile), .d (iv x.fStore.fNextID), .w 68 2 (x.fDirs.map encDir)]
def wSnapshot (x : TSnapshot) : Nat := wStore x.fStore + wDirS x.fDirs
def wfSnapshot (x : TSnapshot) : Prop := wfStore x.fStore ∧ wfDirS x.fDirs
def wSnapshotS (l : List TSnapshot) : Nat := l.length + wsum wSnapshot l
def wfSnapshotS (l : List TSnapshot) : Prop := l.length ≤ 9223372036854775807 ∧ ∀ x ∈ l, wfSnapshot x
theorem decSnapshot {n : Nat} {r : List D} (h : ShD tt n 28 r) : ∃ x : TSnapshot, r = encSnapshot x ∧ wfSnapshot x := by
  match n, h with
  | n + 1, ⟨a0, b0, e0, h0, a1, b1, e1, h1, ee⟩ =>
    obtain ⟨x0, rfl, p0⟩ := decStore h0
    obtain ⟨x1, rfl, p1⟩ := decDirS h1
    have ee' : b1 = [] := ee
    subst ee' e1 e0
    exact ⟨⟨x0, x1⟩, rfl, p0, p1⟩
theorem szSnapshot_ok (x : TSnapshot) (n : Int) (h0 : 0 ≤ n ∧ n ≤ 1048576) (hw : wfSnapshot x) : FnC Tryz.prog 4 [gSnapshot x, oi n] (oi (szOut n (wSnapshot x))) := by
  refine ent Tryz.func4 rfl Tryz.call4 rfl (fun C => ?_); simp only [go_sem, st0, Tryz.ntmps4]
  unfold wfSnapshot at hw
  by_cases hc0 : n - (wStore x.fStore : Nat) < 0
  · have e : szOut n (wSnapshot x) = -1 := by rw [szOut_neg (by unfold wSnapshot; omega)]
    repeat' (with_reducible first | refine WP_ret ?_ | refine WP_skip ?_ | refine WP_exit ?_ | refine WP_seq ?_ | refine WP_block ?_ | refine K_code ?_ | refine K_blk ?_ | refine K_code_ret ?_ | refine K_blk_ret ?_ | refine K_code_exit ?_ | refine K_blk_exit_same ?_ | refine K_blk_exit_other (by decide) ?_ | refine K_nil ?_ | refine L_ret ?_ | refine L_exit ?_ | refine cut_ret ?_ | refine cut_exit ?_ | (refine run_cons ?_; simp only [go_sem, szOut_neg hc0, hc0]) | (refine run_nil ?_) | (refine drun_cons ?_; simp only [go_sem, szOut_neg hc0, hc0]) | (refine drun_nil ?_) | (refine reg ?_) | (refine regx (by simp only [bodyX, isStX, Bool.false_eq_true, if_false, if_true]; rfl) (by kernel_rfl) (by kernel_rfl) (by decide) ?_ ?_ ?_; (focus (simp only [go_sem]; done)); (focus (simp only [go_sem]; done))) | (refine xrun_cons ?_; simp only [go_sem, szOut_neg hc0, hc0]) | (refine xrun_nil ?_; refine xend (by simp only [tailX, isStX, Bool.false_eq_true, if_false, if_true]; rfl) (by simp only [go_sem]; rfl) ?_) | (refine regd (by kernel_rfl) ?_) | (refine cal (szStore_ok x.fStore (n) (by omega) hw.1) ?_ ?_ ?_; (focus (simp only [go_sem]; done)); (focus (simp only [go_sem]; done)); try simp only [go_sem, szOut_neg hc0, hc0]) | (refine calx (szStore_ok x.fStore (n) (by omega) hw.1) ?_ ?_ ?_ ?_; (focus (simp only [go_sem]; done)); (focus (simp only [go_sem]; done)); (focus (simp only [go_sem]; done)); try simp only [go_sem, szOut_neg hc0, hc0]) | (refine caldx (szStore_ok x.fStore (n) (by omega) hw.1) ?_ ?_ ?_ ?_; (focus (simp only [go_sem]; done)); (focus (simp only [go_sem]; done)); (focus (simp only [go_sem]; done)); try simp only [go_sem, szOut_neg hc0, hc0]) | (refine cald (szStore_ok x.fStore (n) (by omega) hw.1) ?_ ?_ ?_ ?_; (focus (simp only [go_sem]; done)); (focus (simp only [go_sem]; done)); (focus (simp only [go_sem]; done)); try simp only [go_sem, szOut_neg hc0, hc0]) | (refine cndt ?_ ?_; (focus (simp only [go_sem]; done))) | (refine cndf ?_ ?_; (focus (simp only [go_sem]; done))) | (refine And.intro ?_ ?_; (focus omega)))
    exact retK_ret ⟨⟨_, rfl, by simp only [go_sem, e]⟩, trivial⟩
  by_cases hc1 : n - (wStore x.fStore : Nat) - (wDirS x.fDirs : Nat) < 0
  · have e : szOut n (wSnapshot x) = -1 := by rw [szOut_neg (by unfold wSnapshot; omega)]
    repeat' (with_reducible first | refine WP_ret ?_ | refine WP_skip ?_ | refine WP_exit ?_ | refine WP_seq ?_ | refine WP_block ?_ | refine K_code ?_ | refine K_blk ?_ | refine K_code_ret ?_ | refine K_blk_ret ?_ | refine K_code_exit ?_ | refine K_blk_exit_same ?_ | refine K_blk_exit_other (by decide) ?_ | refine K_nil ?_ | refine L_ret ?_ | refine L_exit ?_ | refine cut_ret ?_ | refine cut_exit ?_ | (refine run_cons ?_; simp only [go_sem, szOut_pos hc0, hc0, szOut_neg hc1, hc1]) | (refine run_nil ?_) | (refine drun_cons ?_; simp only [go_sem, szOut_pos hc0, hc0, szOut_neg hc1, hc1]) | (refine drun_nil ?_) | (refine reg ?_) | (refine regx (by simp only [bodyX, isStX, Bool.false_eq_true, if_false, if_true]; rfl) (by kernel_rfl) (by kernel_rfl) (by decide) ?_ ?_ ?_; (focus (simp only [go_sem]; done)); (focus (simp only [go_sem]; done))) | (refine xrun_cons ?_; simp only [go_sem, szOut_pos hc0, hc0, szOut_neg hc1, hc1]) | (refine xrun_nil ?_; refine xend (by simp only [tailX, isStX, Bool.false_eq_true, if_false, if_true]; rfl) (by simp only [go_sem]; rfl) ?_) | (refine regd (by kernel_rfl) ?_) | (refine cal (szStore_ok x.fStore (n) (by omega) hw.1) ?_ ?_ ?_; (focus (simp only [go_sem]; done)); (focus (simp only [go_sem]; done)); try simp only [go_sem, szOut_pos hc0, hc0, szOut_neg hc1, hc1]) | (refine calx (szStore_ok x.fStore (n) (by omega) hw.1) ?_ ?_ ?_ ?_; (focus (simp only [go_sem]; done)); (focus (simp only [go_sem]; done)); (focus (simp only [go_sem]; done)); try simp only [go_sem, szOut_pos hc0, hc0, szOut_neg hc1, hc1]) | (refine caldx (szStore_ok x.fStore (n) (by omega) hw.1) ?_ ?_ ?_ ?_; (focus (simp only [go_sem]; done)); (focus (simp only [go_sem]; done)); (focus (simp only [go_sem]; done)); try simp only [go_sem, szOut_pos hc0, hc0, szOut_neg hc1, hc1]) | (refine cald (szStore_ok x.fStore (n) (by omega) hw.1) ?_ ?_ ?_ ?_; (focus (simp only [go_sem]; done)); (focus (simp only [go_sem]; done)); (focus (simp only [go_sem]; done)); try simp only [go_sem, szOut_pos hc0, hc0, szOut_neg hc1, hc1]) | (refine cal (szDirS_ok x.fDirs (n - (wStore x.fStore : Nat)) (by omega) hw.2) ?_ ?_ ?_; (focus (simp only [go_sem]; done)); (focus (simp only [go_sem]; done)); try simp only [go_sem, szOut_pos hc0, hc0, szOut_neg hc1, hc1]) | (refine calx (szDirS_ok x.fDirs (n - (wStore x.fStore : Nat)) (by omega) hw.2) ?_ ?_ ?_ ?_; (focus (simp only [go_sem]; done)); (focus (simp only [go_sem]; done)); (focus (simp only [go_sem]; done)); try simp only [go_sem, szOut_pos hc0, hc0, szOut_neg hc1, hc1]) | (refine caldx (szDirS_ok x.fDirs (n - (wStore x.fStore : Nat)) (by omega) hw.2) ?_ ?_ ?_ ?_; (focus (simp only [go_sem]; done)); (focus (simp only [go_sem]; done)); (focus (simp only [go_sem]; done)); try simp only [go_sem, szOut_pos hc0, hc0, szOut_neg hc1, hc1]) | (refine cald (szDirS_ok x.fDirs (n - (wStore x.fStore : Nat)) (by omega) hw.2) ?_ ?_ ?_ ?_; (focus (simp only [go_sem]; done)); (focus (simp only [go_sem]; done)); (focus (simp only [go_sem]; done)); try simp only [go_sem, szOut_pos hc0, hc0, szOut_neg hc1, hc1]) | (refine cndt ?_ ?_; (focus (simp only [go_sem]; done))) | (refine cndf ?_ ?_; (focus (simp only [go_sem]; done))) | (refine And.intro ?_ ?_; (focus omega)))
    exact retK_ret ⟨⟨_, rfl, by simp only [go_sem, e]⟩, trivial⟩
  have e : szOut n (wSnapshot x) = n - (wStore x.fStore : Nat) - (wDirS x.fDirs : Nat) := by rw [szOut_pos (by unfold wSnapshot; omega)]; unfold wSnapshot; omega
  repeat' (with_reducible first | refine WP_ret ?_ | refine WP_skip ?_ | refine WP_exit ?_ | refine WP_seq ?_ | refine WP_block ?_ | refine K_code ?_ | refine K_blk ?_ | refine K_code_ret ?_ | refine K_blk_ret ?_ | refine K_code_exit ?_ | refine K_blk_exit_same ?_ | refine K_blk_exit_other (by decide) ?_ | refine K_nil ?_ | refine L_ret ?_ | refine L_exit ?_ | refine cut_ret ?_ | refine cut_exit ?_ | (refine run_cons ?_; simp only [go_sem, szOut_pos hc0, hc0, szOut_pos hc1, hc1]) | (refine run_nil ?_) | (refine drun_cons ?_; simp only [go_sem, szOut_pos hc0, hc0, szOut_pos hc1, hc1]) | (refine drun_nil ?_) | (refine reg ?_) | (refine regx (by simp only [bodyX, isStX, Bool.false_eq_true, if_false, if_true]; rfl) (by kernel_rfl) (by kernel_rfl) (by decide) ?_ ?_ ?_; (focus (simp only [go_sem]; done)); (focus (simp only [go_sem]; done))) | (refine xrun_cons ?_; simp only [go_sem, szOut_pos hc0, hc0, szOut_pos hc1, hc1]) | (refine xrun_nil ?_; refine xend (by simp only [tailX, isStX, Bool.false_eq_true, if_false, if_true]; rfl) (by simp only [go_sem]; rfl) ?_) | (refine regd (by kernel_rfl) ?_) | (refine cal (szStore_ok x.fStore (n) (by omega) hw.1) ?_ ?_ ?_; (focus (simp only [go_sem]; done)); (focus (simp only [go_sem]; done)); try simp only [go_sem, szOut_pos hc0, hc0, szOut_pos hc1, hc1]) | (refine calx (szStore_ok x.fStore (n) (by omega) hw.1) ?_ ?_ ?_ ?_; (focus (simp only [go_sem]; done)); (focus (simp only [go_sem]; done)); (focus (simp only [go_sem]; done)); try simp only [go_sem, szOut_pos hc0, hc0, szOut_pos hc1, hc1]) | (refine caldx (szStore_ok x.fStore (n) (by omega) hw.1) ?_ ?_ ?_ ?_; (focus (simp only [go_sem]; done)); (focus (simp only [go_sem]; done)); (focus (simp only [go_sem]; done)); try simp only [go_sem, szOut_pos hc0, hc0, szOut_pos hc1, hc1]) | (refine cald (szStore_ok x.fStore (n) (by omega) hw.1) ?_ ?_ ?_ ?_; (focus (simp only [go_sem]; done)); (focus (simp only [go_sem]; done)); (focus (simp only [go_sem]; done)); try simp only [go_sem, szOut_pos hc0, hc0, szOut_pos hc1, hc1]) | (refine cal (szDirS_ok x.fDirs (n - (wStore x.fStore : Nat)) (by omega) hw.2) ?_ ?_ ?_; (focus (simp only [go_sem]; done)); (focus (simp only [go_sem]; done)); try simp only [go_sem, szOut_pos hc0, hc0, szOut_pos hc1, hc1]) | (refine calx (szDirS_ok x.fDirs (n - (wStore x.fStore : Nat)) (by omega) hw.2) ?_ ?_ ?_ ?_; (focus (simp only [go_sem]; done)); (focus (simp only [go_sem]; done)); (focus (simp only [go_sem]; done)); try simp only [go_sem, szOut_pos hc0, hc0, szOut_pos hc1, hc1]) | (refine caldx (szDirS_ok x.fDirs (n - (wStore x.fStore : Nat)) (by omega) hw.2) ?_ ?_ ?_ ?_; (focus (simp only [go_sem]; done)); (focus (simp only [go_sem]; done)); (focus (simp only [go_sem]; done)); try simp only [go_sem, szOut_pos hc0, hc0, szOut_pos hc1, hc1]) | (refine cald (szDirS_ok x.fDirs (n - (wStore x.fStore : Nat)) (by omega) hw.2) ?_ ?_ ?_ ?_; (focus (simp only [go_sem]; done)); (focus (simp only [go_sem]; done)); (focus (simp only [go_sem]; done)); try simp only [go_sem, szOut_pos hc0, hc0, szOut_pos hc1, hc1]) | (refine cndt ?_ ?_; (focus (simp only [go_sem]; done))) | (refine cndf ?_ ?_; (focus (simp only [go_sem]; done))) | (refine And.intro ?_ ?_; (focus omega)))
  exact retK_ret ⟨⟨_, rfl, by simp only [go_sem, e]⟩, trivial⟩
theorem toSnapshot_ok (x : TSnapshot) (hx : wSnapshot x ≤ 1048576) : FnC Tryz.prog 6 [gSnapshot x] (rSnapshot x) := by
  unfold wSnapshot at hx
  refine ent Tryz.func6 rfl Tryz.call6 rfl (fun C => ?_); simp only [go_sem, st0, Tryz.ntmps6]
  repeat' (with_reducible first | refine WP_ret ?_ | refine WP_skip ?_ | refine WP_exit ?_ | refine WP_seq ?_ | refine WP_block ?_ | refine K_code ?_ | refine K_blk ?_ | refine K_code_ret ?_ | refine K_blk_ret ?_ | refine K_code_exit ?_ | refine K_blk_exit_same ?_ | refine K_blk_exit_other (by decide) ?_ | refine K_nil ?_ | refine L_ret ?_ | refine L_exit ?_ | refine cut_ret ?_ | refine cut_exit ?_ | (refine run_cons ?_; simp only [go_sem]) | (refine run_nil ?_) | (refine drun_cons ?_; simp only [go_sem]) | (refine drun_nil ?_) | (refine reg ?_) | (refine regx (by simp only [bodyX, isStX, Bool.false_eq_true, if_false, if_true]; rfl) (by kernel_rfl) (by kernel_rfl) (by decide) ?_ ?_ ?_; (focus (simp only [go_sem]; done)); (focus (simp only [go_sem]; done))) | (refine xrun_cons ?_; simp only [go_sem]) | (refine xrun_nil ?_; refine xend (by simp only [tailX, isStX, Bool.false_eq_true, if_false, if_true]; rfl) (by simp only [go_sem]; rfl) ?_) | (refine regd (by kernel_rfl) ?_) | (refine cal (toStore_ok x.fStore (by omega)) ?_ ?_ ?_; (focus (simp only [go_sem]; done)); (focus (simp only [go_sem]; done)); try simp only [go_sem]) | (refine calx (toStore_ok x.fStore (by omega)) ?_ ?_ ?_ ?_; (focus (simp only [go_sem]; done)); (focus (simp only [go_sem]; done)); (focus (simp only [go_sem]; done)); try simp only [go_sem]) | (refine caldx (toStore_ok x.fStore (by omega)) ?_ ?_ ?_ ?_; (focus (simp only [go_sem]; done)); (focus (simp only [go_sem]; done)); (focus (simp only [go_sem]; done)); try simp only [go_sem]) | (refine cald (toStore_ok x.fStore (by omega)) ?_ ?_ ?_ ?_; (focus (simp only [go_sem]; done)); (focus (simp only [go_sem]; done)); (focus (simp only [go_sem]; done)); try simp only [go_sem]) | (refine cal (toDirS_ok x.fDirs (by omega)) ?_ ?_ ?_; (focus (simp only [go_sem]; done)); (focus (simp only [go_sem]; done)); try simp only [go_sem]) | (refine calx (toDirS_ok x.fDirs (by omega)) ?_ ?_ ?_ ?_; (focus (simp only [go_sem]; done)); (focus (simp only [go_sem]; done)); (focus (simp only [go_sem]; done)); try simp only [go_sem]) | (refine caldx (toDirS_ok x.fDirs (by omega)) ?_ ?_ ?_ ?_; (focus (simp only [go_sem]; done)); (focus (simp only [go_sem]; done)); (focus (simp only [go_sem]; done)); try simp only [go_sem]) | (refine cald (toDirS_ok x.fDirs (by omega)) ?_ ?_ ?_ ?_; (focus (simp only [go_sem]; done)); (focus (simp only [go_sem]; done)); (focus (simp only [go_sem]; done)); try simp only [go_sem]) | (refine cndt ?_ ?_; (focus (simp only [go_sem]; done))) | (refine cndf ?_ ?_; (focus (simp only [go_sem]; done))) | (refine And.intro ?_ ?_; (focus omega)))
  exact retK_ret ⟨⟨_, rfl, by simp only [go_sem]⟩, trivial⟩
theorem toSnapshotd_ok (x : TSnapshot) (hx : wSnapshot x ≤ 1048576) : FnC Tryz.prog 6 [gSnapshot x] (gSnapshot x) := (toSnapshot_ok x hx).pure (by simp only [go_sem]) (by simp only [go_sem]) (by simp only [go_sem]) (by simp only [go_sem]) (by simp only [go_sem])
theorem eqSnapshot_ok (x : TSnapshot) (hx : wSnapshot x ≤ 1048576) : FnC Tryz.prog 8 [gSnapshot x, gSnapshot x] (ob true) := by
  unfold wSnapshot at hx
  refine ent Tryz.func8 rfl Tryz.call8 rfl (fun C => ?_); simp only [go_sem, st0, Tryz.ntmps8]
  repeat' (with_reducible first | refine WP_ret ?_ | refine WP_skip ?_ | refine WP_exit ?_ | refine WP_seq ?_ | refine WP_block ?_ | refine K_code ?_ | refine K_blk ?_ | refine K_code_ret ?_ | refine K_blk_ret ?_ | refine K_code_exit ?_ | refine K_blk_exit_same ?_ | refine K_blk_exit_other (by decide) ?_ | refine K_nil ?_ | refine L_ret ?_ | refine L_exit ?_ | refine cut_ret ?_ | refine cut_exit ?_ | (refine run_cons ?_; simp only [go_sem]) | (refine run_nil ?_) | (refine drun_cons ?_; simp only [go_sem]) | (refine drun_nil ?_) | (refine reg ?_) | (refine regx (by simp only [bodyX, isStX, Bool.false_eq_true, if_false, if_true]; rfl) (by kernel_rfl) (by kernel_rfl) (by decide) ?_ ?_ ?_; (focus (simp only [go_sem]; done)); (focus (simp only [go_sem]; done))) | (refine xrun_cons ?_; simp only [go_sem]) | (refine xrun_nil ?_; refine xend (by simp only [tailX, isStX, Bool.false_eq_true, if_false, if_true]; rfl) (by simp only [go_sem]; rfl) ?_) | (refine regd (by kernel_rfl) ?_) | (refine cal (eqStore_ok x.fStore (by omega)) ?_ ?_ ?_; (focus (simp only [go_sem]; done)); (focus (simp only [go_sem]; done)); try simp only [go_sem]) | (refine calx (eqStore_ok x.fStore (by omega)) ?_ ?_ ?_ ?_; (focus (simp only [go_sem]; done)); (focus (simp only [go_sem]; done)); (focus (simp only [go_sem]; done)); try simp only [go_sem]) | (refine caldx (eqStore_ok x.fStore (by omega)) ?_ ?_ ?_ ?_; (focus (simp only [go_sem]; done)); (focus (simp only [go_sem]; done)); (focus (simp only [go_sem]; done)); try simp only [go_sem]) | (refine cald (eqStore_ok x.fStore (by omega)) ?_ ?_ ?_ ?_; (focus (simp only [go_sem]; done)); (focus (simp only [go_sem]; done)); (focus (simp only [go_sem]; done)); try simp only [go_sem]) | (refine cal (eqDirS_ok x.fDirs (by omega)) ?_ ?_ ?_; (focus (simp only [go_sem]; done)); (focus (simp only [go_sem]; done)); try simp only [go_sem]) | (refine calx (eqDirS_ok x.fDirs (by omega)) ?_ ?_ ?_ ?_; (focus (simp only [go_sem]; done)); (focus (simp only [go_sem]; done)); (focus (simp only [go_sem]; done)); try simp only [go_sem]) | (refine caldx (eqDirS_ok x.fDirs (by omega)) ?_ ?_ ?_ ?_; (focus (simp only [go_sem]; done)); (focus (simp only [go_sem]; done)); (focus (simp only [go_sem]; done)); try simp only [go_sem]) | (refine cald (eqDirS_ok x.fDirs (by omega)) ?_ ?_ ?_ ?_; (focus (simp only [go_sem]; done)); (focus (simp only [go_sem]; done)); (focus (simp only [go_sem]; done)); try simp only [go_sem]) | (refine cndt ?_ ?_; (focus (simp only [go_sem]; done))) | (refine cndf ?_ ?_; (focus (simp only [go_sem]; done))) | (refine And.intro ?_ ?_; (focus omega)))
  exact retK_ret ⟨⟨_, rfl, by simp only [go_sem]⟩, trivial⟩
end Go.Proofs.YtiogaijpncjlmaaGreat
end

section
set_option linter.all false
set_option maxHeartbeats 1000000
namespace Go.Proofs.YtiogaijpncjlmaaGreat
open Go Go.Sx Go.RowKit Go.Proofs

structure TDisk where
  fSlotA : ByteArray
  fSlotB : ByteArray
@[go_sem] def encDisk (x : TDisk) : List D := [sv x.fSlotA, sv x.fSlotB]
@[go_sem] def gDisk (x : TDisk) : SV := .g [.d (sv x.fSlotA), .d (sv x.fSlotB)]
def wDisk (x : TDisk) : Nat := x.fSlotA.size + x.fSlotB.size
def wfDisk (x : TDisk) : Prop := x.fSlotA.size ≤ 9223372036854775807 ∧ x.fSlotB.size ≤ 9223372036854775807
def wDiskS (l : List TDisk) : Nat := l.length + wsum wDisk l
def wfDiskS (l : List TDisk) : Prop := l.length ≤ 9223372036854775807 ∧ ∀ x ∈ l, wfDisk x
end Go.Proofs.YtiogaijpncjlmaaGreat
end

section
set_option linter.all false
namespace Go.Proofs.YtiogaijpncjlmaaGreat
open Go Go.Sx Go.RowKit Go.Proofs

def inB (n a b : Int) : Bool := decide (a ≤ n) && decide (n ≤ b)
theorem within_ok (n a b : Int) : FnC Tryz.prog 31 [oi n, oi a, oi b] (ob (inB n a b)) := by
  refine ent Tryz.func31 rfl Tryz.call31 rfl (fun C => ?_); simp only [go_sem, st0, Tryz.ntmps31]
  by_cases h0 : a ≤ n <;> by_cases h1 : n ≤ b
  all_goals
    repeat' (with_reducible first | refine WP_ret ?_ | refine WP_skip ?_ | refine WP_exit ?_ | refine WP_seq ?_ | refine WP_block ?_ | refine K_code ?_ | refine K_blk ?_ | refine K_code_ret ?_ | refine K_blk_ret ?_ | refine K_code_exit ?_ | refine K_blk_exit_same ?_ | refine K_blk_exit_other (by decide) ?_ | refine K_nil ?_ | refine L_ret ?_ | refine L_exit ?_ | refine cut_ret ?_ | refine cut_exit ?_ | (refine run_cons ?_; simp only [go_sem, h0, h1, decide_false]) | (refine run_nil ?_) | (refine drun_cons ?_; simp only [go_sem, h0, h1, decide_false]) | (refine drun_nil ?_) | (refine reg ?_) | (refine regx (by simp only [bodyX, isStX, Bool.false_eq_true, if_false, if_true]; rfl) (by kernel_rfl) (by kernel_rfl) (by decide) ?_ ?_ ?_; (focus (simp only [go_sem]; done)); (focus (simp only [go_sem]; done))) | (refine xrun_cons ?_; simp only [go_sem, h0, h1, decide_false]) | (refine xrun_nil ?_; refine xend (by simp only [tailX, isStX, Bool.false_eq_true, if_false, if_true]; rfl) (by simp only [go_sem]; rfl) ?_) | (refine regd (by kernel_rfl) ?_) | (refine cndt ?_ ?_; (focus (simp only [go_sem]; done))) | (refine cndf ?_ ?_; (focus (simp only [go_sem]; done))) | (refine And.intro ?_ ?_; (focus omega)))
    refine retK_ret ⟨⟨_, rfl, ?_⟩, ?_⟩
    · simp only [go_sem]; simp [inB, h0, h1]
    · trivial
theorem l01In_ok (n a b : Int) : FnC Tryz.prog 24 [oi n, oi a, oi b] (ob (inB n a b)) := by
  refine ent Tryz.func24 rfl Tryz.call24 rfl (fun C => ?_); simp only [go_sem, st0, Tryz.ntmps24]
  by_cases h0 : a ≤ n <;> by_cases h1 : n ≤ b
  all_goals
    repeat' (with_reducible first | refine WP_ret ?_ | refine WP_skip ?_ | refine WP_exit ?_ | refine WP_seq ?_ | refine WP_block ?_ | refine K_code ?_ | refine K_blk ?_ | refine K_code_ret ?_ | refine K_blk_ret ?_ | refine K_code_exit ?_ | refine K_blk_exit_same ?_ | refine K_blk_exit_other (by decide) ?_ | refine K_nil ?_ | refine L_ret ?_ | refine L_exit ?_ | refine cut_ret ?_ | refine cut_exit ?_ | (refine run_cons ?_; simp only [go_sem, h0, h1, decide_false]) | (refine run_nil ?_) | (refine drun_cons ?_; simp only [go_sem, h0, h1, decide_false]) | (refine drun_nil ?_) | (refine reg ?_) | (refine regx (by simp only [bodyX, isStX, Bool.false_eq_true, if_false, if_true]; rfl) (by kernel_rfl) (by kernel_rfl) (by decide) ?_ ?_ ?_; (focus (simp only [go_sem]; done)); (focus (simp only [go_sem]; done))) | (refine xrun_cons ?_; simp only [go_sem, h0, h1, decide_false]) | (refine xrun_nil ?_; refine xend (by simp only [tailX, isStX, Bool.false_eq_true, if_false, if_true]; rfl) (by simp only [go_sem]; rfl) ?_) | (refine regd (by kernel_rfl) ?_) | (refine cndt ?_ ?_; (focus (simp only [go_sem]; done))) | (refine cndf ?_ ?_; (focus (simp only [go_sem]; done))) | (refine And.intro ?_ ?_; (focus omega)))
    refine retK_ret ⟨⟨_, rfl, ?_⟩, ?_⟩
    · simp only [go_sem]; simp [inB, h0, h1]
    · trivial
end Go.Proofs.YtiogaijpncjlmaaGreat
end

section
set_option linter.all false
set_option maxHeartbeats 1000000
namespace Go.Proofs.YtiogaijpncjlmaaGreat
open Go Go.Sx Go.RowKit Go.Proofs

end Go.Proofs.YtiogaijpncjlmaaGreat
end
