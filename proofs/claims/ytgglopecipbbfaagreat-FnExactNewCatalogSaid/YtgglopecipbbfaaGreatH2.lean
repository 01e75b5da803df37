/-
  Result: the structure, its cells; the contracts of the laws' helpers sz, to, eq. By program (gentys.py).
  Diff: the structure, its cells; the contracts of the laws' helpers sz, to, eq. By program (gentys.py).
  Catalog: the structure, its cells; the contracts of the laws' helpers sz, to, eq. By program (gentys.py).
  Group: the structure, its cells; the contracts of the laws' helpers sz, to, eq. By program (gentys.py).
  Edit: the structure, its cells; the contracts of the laws' helpers sz, to, eq. By program (gentys.py).
  Change: the structure, its cells; the contracts of the laws' helpers sz, to, eq. By program (gentys.py).
  Snapshot: the structure, its cells; the contracts of the laws' helpers sz, to, eq. By program (gentys.py).
  Disk: the structure, its cells; the contracts of the laws' helpers sz, to, eq. By program (gentys.py).
  within, l01In.
  The laws' helpers sz, to, eq at []string.
-/
import Derived.Test.YtgglopecipbbfaaGreatH1
set_option linter.all false
section
set_option linter.all false
set_option maxHeartbeats 1000000
namespace Go.Proofs.YtgglopecipbbfaaGreat
open Go Go.Sx Go.RowKit Go.Proofs

structure TResult where
  fName : ByteArray
  fIDs : List Int
@[go_sem] def encResult (x : TResult) : List D := [sv x.fName, .sl (x.fIDs.map encI)]
@[go_sem] def gResult (x : TResult) : SV := .g [.d (sv x.fName), .d (.sl (x.fIDs.map encI))]
@[go_sem] def rResult (x : TResult) : SV := .g [.d (sv x.fName), .w 3 1 (x.fIDs.map encI)]
def wResult (x : TResult) : Nat := x.fName.size + x.fIDs.length
def wfResult (x : TResult) : Prop := x.fName.size ≤ 9223372036854775807 ∧ wfIntS x.fIDs
def wResultS (l : List TResult) : Nat := l.length + wsum wResult l
def wfResultS (l : List TResult) : Prop := l.length ≤ 9223372036854775807 ∧ ∀ x ∈ l, wfResult x
theorem decResult {n : Nat} {r : List D} (h : ShD tt n 120 r) : ∃ x : TResult, r = encResult x ∧ wfResult x := by
  match n, h with
  | n + 1, ⟨a0, b0, e0, h0, a1, b1, e1, h1, ee⟩ =>
    obtain ⟨x0, rfl, p0⟩ := decS h0
    obtain ⟨x1, rfl, p1⟩ := decIntS h1
    have ee' : b1 = [] := ee
    subst ee' e1 e0
    exact ⟨⟨x0, x1⟩, rfl, p0, p1⟩
theorem decResultS {n : Nat} {r : List D} (h : ShD tt n 27 r) : ∃ l : List TResult, r = [.sl (l.map encResult)] ∧ wfResultS l := by
  match n, h with
  | n + 1, ⟨rows, h, hm, hr⟩ =>
    obtain ⟨l, rfl, hl⟩ := rows_map encResult wfResult (fun r h => decResult (hr r h))
    exact ⟨l, h, by unfold maxLen at hm; simpa using hm, hl⟩
theorem szResult_ok (x : TResult) (n : Int) (h0 : 0 ≤ n ∧ n ≤ 1048576) (hw : wfResult x) : FnC Tryz.prog 78 [gResult x, oi n] (oi (szOut n (wResult x))) := by
  refine ent Tryz.func78 rfl Tryz.call78 rfl (fun C => ?_); simp only [go_sem, st0, Tryz.ntmps78]
  unfold wfResult at hw
  by_cases hc0 : n - (x.fName.size : Nat) < 0
  · have e : szOut n (wResult x) = -1 := by rw [szOut_neg (by unfold wResult; omega)]
    repeat' (with_reducible first | refine nY ?_ | (refine mX ?_; try simp only [go_sem, hc0]) | refine kO ?_ (by decide) | refine regd (by kernel_rfl) ?_ | (refine And.intro ?_ ?_; focus omega))
    exact retK_ret ⟨⟨_, rfl, by simp only [go_sem, e]⟩, trivial⟩
  by_cases hc1 : n - (x.fName.size : Nat) - (x.fIDs.length : Nat) < 0
  · have e : szOut n (wResult x) = -1 := by rw [szOut_neg (by unfold wResult; omega)]
    repeat' (with_reducible first | refine nY ?_ | (refine mX ?_; try simp only [go_sem, hc0, szOut_neg hc1, hc1]) | refine kO ?_ (by decide) | refine regd (by kernel_rfl) ?_ | (refine cC (szIntS_ok x.fIDs (n - (x.fName.size : Nat)) (by omega) hw.2) ?_ ?_; focus simp only [go_sem, and_self]; done) | (refine And.intro ?_ ?_; focus omega))
    exact retK_ret ⟨⟨_, rfl, by simp only [go_sem, e]⟩, trivial⟩
  have e : szOut n (wResult x) = n - (x.fName.size : Nat) - (x.fIDs.length : Nat) := by rw [szOut_pos (by unfold wResult; omega)]; unfold wResult; omega
  repeat' (with_reducible first | refine nY ?_ | (refine mX ?_; try simp only [go_sem, hc0, szOut_pos hc1, hc1]) | refine kO ?_ (by decide) | refine regd (by kernel_rfl) ?_ | (refine cC (szIntS_ok x.fIDs (n - (x.fName.size : Nat)) (by omega) hw.2) ?_ ?_; focus simp only [go_sem, and_self]; done) | (refine And.intro ?_ ?_; focus omega))
  exact retK_ret ⟨⟨_, rfl, by simp only [go_sem, e]⟩, trivial⟩
theorem toResult_ok (x : TResult) (hx : wResult x ≤ 1048576) : FnC Tryz.prog 88 [gResult x] (rResult x) := by
  unfold wResult at hx
  refine ent Tryz.func88 rfl Tryz.call88 rfl (fun C => ?_); simp only [go_sem, st0, Tryz.ntmps88]
  repeat' (with_reducible first | refine nY ?_ | (refine mX ?_; try simp only [go_sem]) | refine kO ?_ (by decide) | refine regd (by kernel_rfl) ?_ | (refine cC (toIntS_ok x.fIDs (by omega)) ?_ ?_; focus simp only [go_sem, and_self]; done) | (refine And.intro ?_ ?_; focus omega))
  exact retK_ret ⟨⟨_, rfl, by simp only [go_sem]⟩, trivial⟩
theorem eqResult_ok (x : TResult) (hx : wResult x ≤ 67108864) : FnC Tryz.prog 90 [gResult x, gResult x] (ob true) := by
  unfold wResult at hx
  refine ent Tryz.func90 rfl Tryz.call90 rfl (fun C => ?_); simp only [go_sem, st0, Tryz.ntmps90]
  repeat' (with_reducible first | refine nY ?_ | (refine mX ?_; try simp only [go_sem]) | refine kO ?_ (by decide) | refine regd (by kernel_rfl) ?_ | (refine cC (eqIntS_ok x.fIDs (by omega)) ?_ ?_; focus simp only [go_sem, and_self]; done) | (refine And.intro ?_ ?_; focus omega))
  exact retK_ret ⟨⟨_, rfl, by simp only [go_sem]⟩, trivial⟩
theorem toResultS_ok (l : List TResult) (hl : wResultS l ≤ 1048576) : FnC Tryz.prog 21 [.o (.d (.sl (l.map encResult)))] (.o (.w 125 2 (l.map encResult))) := by
  unfold wResultS at hl
  refine ent Tryz.func21 rfl Tryz.call21 rfl (fun C => ?_); simp only [go_sem, st0, Tryz.ntmps21]
  repeat' (with_reducible first | refine nY ?_ | (refine mX ?_; try simp only [go_sem]) | refine kO ?_ (by decide) | refine regd (by kernel_rfl) ?_ | (refine And.intro ?_ ?_; focus omega))
  refine WP_lp (α := Nat) (fun k => [(4, oi k)]) (fun k => [(0, .row 125 2 (fillR encResult [sv ⟨#[]⟩, .sl []] l k) true)]) (fun k => k ≤ l.length) (fun k => l.length - k) 0 (fun _ => ?_) ?_ ?_ (fun k hk => ?_)
  · simp only [go_sem]
  · simp only [go_sem]; simp [fillR_zero]
  · simp
  · simp only [go_sem]
    repeat' (with_reducible first | refine nY ?_ | (refine mX ?_; try simp only [go_sem]) | refine kO ?_ (by decide) | refine regd (by kernel_rfl) ?_ | (refine And.intro ?_ ?_; focus omega))
    refine cnd rfl (fun h => ?_) (fun h => ?_)
    · simp only [decide_eq_true_eq, Int.ofNat_lt] at h
      have hw := wsum_get wResult l h
      repeat' (with_reducible first | refine nY ?_ | (refine mX ?_; try simp only [go_sem, h]) | refine kO ?_ (by decide) | refine regd (by kernel_rfl) ?_ | (refine cC (toResult_ok l[k] (by omega)) ?_ ?_; focus simp only [go_sem, and_self]; done) | (refine And.intro ?_ ?_; focus omega))
      refine L_next (k + 1) ?_ ?_ ?_
      · simp only [go_sem]; simp [← fillR_set, h, encResult]
      · omega
      · omega
    · simp only [decide_eq_false_iff_not] at h
      have e : k = l.length := by omega
      subst e
      repeat' (with_reducible first | refine nY ?_ | (refine mX ?_; try simp only [go_sem]) | refine kO ?_ (by decide) | refine regd (by kernel_rfl) ?_ | (refine And.intro ?_ ?_; focus omega))
      exact retK_ret ⟨⟨_, rfl, by simp only [go_sem, fillR_all]⟩, trivial⟩
theorem toResultSd_ok (l : List TResult) (hl : wResultS l ≤ 1048576) : FnC Tryz.prog 21 [.o (.d (.sl (l.map encResult)))] (.o (.d (.sl (l.map encResult)))) := (toResultS_ok l hl).pu (by simp only [go_sem, and_self])
theorem eqResultS_ok (l : List TResult) (hl : wResultS l ≤ 67108864) : FnC Tryz.prog 24 [.o (.d (.sl (l.map encResult))), .o (.d (.sl (l.map encResult)))] (ob true) := by
  unfold wResultS at hl
  refine ent Tryz.func24 rfl Tryz.call24 rfl (fun C => ?_); simp only [go_sem, st0, Tryz.ntmps24]
  repeat' (with_reducible first | refine nY ?_ | (refine mX ?_; try simp only [go_sem]) | refine kO ?_ (by decide) | refine regd (by kernel_rfl) ?_ | (refine And.intro ?_ ?_; focus omega))
  refine WP_lp (α := Nat) (fun k => [(5, oi k)]) (fun _ => []) (fun k => k ≤ l.length) (fun k => l.length - k) 0 (fun _ => ?_) ?_ ?_ (fun k hk => ?_)
  · simp only [go_sem]
  · simp only [go_sem]; simp
  · simp
  · simp only [go_sem]
    repeat' (with_reducible first | refine nY ?_ | (refine mX ?_; try simp only [go_sem]) | refine kO ?_ (by decide) | refine regd (by kernel_rfl) ?_ | (refine And.intro ?_ ?_; focus omega))
    refine cnd rfl (fun h => ?_) (fun h => ?_)
    · simp only [decide_eq_true_eq, Int.ofNat_lt] at h
      have hw := wsum_get wResult l h
      repeat' (with_reducible first | refine nY ?_ | (refine mX ?_; try simp only [go_sem, h]) | refine kO ?_ (by decide) | refine regd (by kernel_rfl) ?_ | (refine cC (eqResult_ok l[k] (by omega)) ?_ ?_; focus simp only [go_sem, and_self]; done) | (refine And.intro ?_ ?_; focus omega))
      refine L_next (k + 1) ?_ ?_ ?_
      · simp only [go_sem]; simp
      · omega
      · omega
    · simp only [decide_eq_false_iff_not] at h
      repeat' (with_reducible first | refine nY ?_ | (refine mX ?_; try simp only [go_sem]) | refine kO ?_ (by decide) | refine regd (by kernel_rfl) ?_ | (refine And.intro ?_ ?_; focus omega))
      exact retK_ret ⟨⟨_, rfl, by simp only [go_sem]⟩, trivial⟩
theorem szResultS_ok (l : List TResult) (n : Int) (h0 : 0 ≤ n ∧ n ≤ 1048576) (hw : wfResultS l) : FnC Tryz.prog 16 [.o (.d (.sl (l.map encResult))), oi n] (oi (szOut n (wResultS l))) := by
  unfold wfResultS at hw
  refine ent Tryz.func16 rfl Tryz.call16 rfl (fun C => ?_); simp only [go_sem, st0, Tryz.ntmps16]
  by_cases hc : n - (l.length : Nat) < 0
  · have e : szOut n (wResultS l) = -1 := by rw [szOut_neg (by unfold wResultS; omega)]
    repeat' (with_reducible first | refine nY ?_ | (refine mX ?_; try simp only [go_sem, hc]) | refine kO ?_ (by decide) | refine regd (by kernel_rfl) ?_ | (refine And.intro ?_ ?_; focus omega))
    exact retK_ret ⟨⟨_, rfl, by simp only [go_sem, e]⟩, trivial⟩
  repeat' (with_reducible first | refine nY ?_ | (refine mX ?_; try simp only [go_sem, hc]) | refine kO ?_ (by decide) | refine regd (by kernel_rfl) ?_ | (refine And.intro ?_ ?_; focus omega))
  refine WP_lp (α := Nat) (fun k => [(5, oi k), (1, oi (n - (l.length : Nat) - (wsum wResult (l.take k) : Nat)))]) (fun _ => []) (fun k => k ≤ l.length ∧ 0 ≤ n - (l.length : Nat) - (wsum wResult (l.take k) : Nat)) (fun k => l.length - k) 0 (fun _ => ?_) ?_ ?_ (fun k hk => ?_)
  · simp only [go_sem]
  · simp only [go_sem]; simp [wsum]
  · simp [wsum]; omega
  · obtain ⟨hk, hn⟩ := hk
    simp only [go_sem]
    repeat' (with_reducible first | refine nY ?_ | (refine mX ?_; try simp only [go_sem]) | refine kO ?_ (by decide) | refine regd (by kernel_rfl) ?_ | (refine And.intro ?_ ?_; focus omega))
    refine cnd rfl (fun h => ?_) (fun h => ?_)
    · simp only [decide_eq_true_eq, Int.ofNat_lt] at h
      have hs := wsum_take wResult l h
      have ht := wsum_le wResult l (k + 1)
      by_cases h2 : n - (l.length : Nat) - (wsum wResult (l.take k) : Nat) - (wResult l[k] : Nat) < 0
      · have e : szOut n (wResultS l) = -1 := by rw [szOut_neg (by unfold wResultS; omega)]
        repeat' (with_reducible first | refine nY ?_ | (refine mX ?_; try simp only [go_sem, h, szOut_neg h2]) | refine kO ?_ (by decide) | refine regd (by kernel_rfl) ?_ | (refine cC (szResult_ok l[k] _ ⟨hn, by omega⟩ (hw.2 _ (List.getElem_mem h))) ?_ ?_; focus simp only [go_sem, and_self]; done) | (refine And.intro ?_ ?_; focus omega))
        exact retK_ret ⟨⟨_, rfl, by simp only [go_sem, e]⟩, trivial⟩
      · repeat' (with_reducible first | refine nY ?_ | (refine mX ?_; try simp only [go_sem, h, szOut_pos h2, h2]) | refine kO ?_ (by decide) | refine regd (by kernel_rfl) ?_ | (refine cC (szResult_ok l[k] _ ⟨hn, by omega⟩ (hw.2 _ (List.getElem_mem h))) ?_ ?_; focus simp only [go_sem, and_self]; done) | (refine And.intro ?_ ?_; focus omega))
        refine L_next (k + 1) ?_ ?_ ?_
        · simp only [go_sem]; simp; omega
        · omega
        · omega
    · simp only [decide_eq_false_iff_not] at h
      have e0 : k = l.length := by omega
      subst e0
      rw [List.take_length] at hn
      have e : szOut n (wResultS l) = n - (l.length : Nat) - (wsum wResult l : Nat) := by rw [szOut_pos (by unfold wResultS; omega)]; unfold wResultS; omega
      repeat' (with_reducible first | refine nY ?_ | (refine mX ?_; try simp only [go_sem]) | refine kO ?_ (by decide) | refine regd (by kernel_rfl) ?_ | (refine And.intro ?_ ?_; focus omega))
      exact retK_ret ⟨⟨_, rfl, by simp only [go_sem, e, List.take_length]⟩, trivial⟩
end Go.Proofs.YtgglopecipbbfaaGreat
end

section
set_option linter.all false
set_option maxHeartbeats 1000000
namespace Go.Proofs.YtgglopecipbbfaaGreat
open Go Go.Sx Go.RowKit Go.Proofs

structure TDiff where
  fName : ByteArray
  fAdded : List Int
  fRemoved : List Int
@[go_sem] def encDiff (x : TDiff) : List D := [sv x.fName, .sl (x.fAdded.map encI), .sl (x.fRemoved.map encI)]
@[go_sem] def gDiff (x : TDiff) : SV := .g [.d (sv x.fName), .d (.sl (x.fAdded.map encI)), .d (.sl (x.fRemoved.map encI))]
@[go_sem] def rDiff (x : TDiff) : SV := .g [.d (sv x.fName), .w 3 1 (x.fAdded.map encI), .w 3 1 (x.fRemoved.map encI)]
def wDiff (x : TDiff) : Nat := x.fName.size + x.fAdded.length + x.fRemoved.length
def wfDiff (x : TDiff) : Prop := x.fName.size ≤ 9223372036854775807 ∧ wfIntS x.fAdded ∧ wfIntS x.fRemoved
def wDiffS (l : List TDiff) : Nat := l.length + wsum wDiff l
def wfDiffS (l : List TDiff) : Prop := l.length ≤ 9223372036854775807 ∧ ∀ x ∈ l, wfDiff x
end Go.Proofs.YtgglopecipbbfaaGreat
end

section
set_option linter.all false
set_option maxHeartbeats 1000000
namespace Go.Proofs.YtgglopecipbbfaaGreat
open Go Go.Sx Go.RowKit Go.Proofs

structure TCatalog where
  fStore : TStore
  fDirs : List TDir
  fResults : List TResult
@[go_sem] def encCatalog (x : TCatalog) : List D := [.sl (x.fStore.fSchema.map encField), .sl (x.fStore.fFiles.map encFile), iv x.fStore.fNextID, .sl (x.fDirs.map encDir), .sl (x.fResults.map encResult)]
@[go_sem] def gCatalog (x : TCatalog) : SV := .g [.d (.sl (x.fStore.fSchema.map encField)), .d (.sl (x.fStore.fFiles.map encFile)), .d (iv x.fStore.fNextID), .d (.sl (x.fDirs.map encDir)), .d (.sl (x.fResults.map encResult))]
@[go_sem] def rCatalog (x : TCatalog) : SV := .g [.w 193 2 (x.fStore.fSchema.map encField), .w 73 5 (x.fStore.fFiles.map encFile), .d (iv x.fStore.fNextID), .w 93 2 (x.fDirs.map encDir), .w 125 2 (x.fResults.map encResult)]
def wCatalog (x : TCatalog) : Nat := wStore x.fStore + wDirS x.fDirs + wResultS x.fResults
def wfCatalog (x : TCatalog) : Prop := wfStore x.fStore ∧ wfDirS x.fDirs ∧ wfResultS x.fResults
def wCatalogS (l : List TCatalog) : Nat := l.length + wsum wCatalog l
def wfCatalogS (l : List TCatalog) : Prop := l.length ≤ 9223372036854775807 ∧ ∀ x ∈ l, wfCatalog x
theorem eqCatalog_ok (x : TCatalog) (hx : wCatalog x ≤ 67108864) : FnC Tryz.prog 35 [gCatalog x, gCatalog x] (ob true) := by
  unfold wCatalog at hx
  refine ent Tryz.func35 rfl Tryz.call35 rfl (fun C => ?_); simp only [go_sem, st0, Tryz.ntmps35]
  repeat' (with_reducible first | refine nY ?_ | (refine mX ?_; try simp only [go_sem]) | refine kO ?_ (by decide) | refine regd (by kernel_rfl) ?_ | (refine cC (eqStore_ok x.fStore (by omega)) ?_ ?_; focus simp only [go_sem, and_self]; done) | (refine cC (eqDirS_ok x.fDirs (by omega)) ?_ ?_; focus simp only [go_sem, and_self]; done) | (refine cC (eqResultS_ok x.fResults (by omega)) ?_ ?_; focus simp only [go_sem, and_self]; done) | (refine And.intro ?_ ?_; focus omega))
  exact retK_ret ⟨⟨_, rfl, by simp only [go_sem]⟩, trivial⟩
end Go.Proofs.YtgglopecipbbfaaGreat
end

section
set_option linter.all false
set_option maxHeartbeats 1000000
namespace Go.Proofs.YtgglopecipbbfaaGreat
open Go Go.Sx Go.RowKit Go.Proofs

structure TGroup where
  fValue : TValue
  fIDs : List Int
@[go_sem] def encGroup (x : TGroup) : List D := [iv x.fValue.fKind, iv x.fValue.fInt, sv x.fValue.fStr, .sl (x.fIDs.map encI)]
@[go_sem] def gGroup (x : TGroup) : SV := .g [.d (iv x.fValue.fKind), .d (iv x.fValue.fInt), .d (sv x.fValue.fStr), .d (.sl (x.fIDs.map encI))]
@[go_sem] def rGroup (x : TGroup) : SV := .g [.d (iv x.fValue.fKind), .d (iv x.fValue.fInt), .d (sv x.fValue.fStr), .w 3 1 (x.fIDs.map encI)]
def wGroup (x : TGroup) : Nat := wValue x.fValue + x.fIDs.length
def wfGroup (x : TGroup) : Prop := wfValue x.fValue ∧ wfIntS x.fIDs
def wGroupS (l : List TGroup) : Nat := l.length + wsum wGroup l
def wfGroupS (l : List TGroup) : Prop := l.length ≤ 9223372036854775807 ∧ ∀ x ∈ l, wfGroup x
end Go.Proofs.YtgglopecipbbfaaGreat
end

section
set_option linter.all false
set_option maxHeartbeats 1000000
namespace Go.Proofs.YtgglopecipbbfaaGreat
open Go Go.Sx Go.RowKit Go.Proofs

structure TEdit where
  fOK : Bool
  fSet : List TAttr
@[go_sem] def encEdit (x : TEdit) : List D := [bv x.fOK, .sl (x.fSet.map encAttr)]
@[go_sem] def gEdit (x : TEdit) : SV := .g [.d (bv x.fOK), .d (.sl (x.fSet.map encAttr))]
@[go_sem] def rEdit (x : TEdit) : SV := .g [.d (bv x.fOK), .w 185 4 (x.fSet.map encAttr)]
def wEdit (x : TEdit) : Nat := wAttrS x.fSet
def wfEdit (x : TEdit) : Prop := True ∧ wfAttrS x.fSet
def wEditS (l : List TEdit) : Nat := l.length + wsum wEdit l
def wfEditS (l : List TEdit) : Prop := l.length ≤ 9223372036854775807 ∧ ∀ x ∈ l, wfEdit x
end Go.Proofs.YtgglopecipbbfaaGreat
end

section
set_option linter.all false
set_option maxHeartbeats 1000000
namespace Go.Proofs.YtgglopecipbbfaaGreat
open Go Go.Sx Go.RowKit Go.Proofs

structure TChange where
  fKind : Int
  fFile : TFile
  fID : Int
  fDir : TDir
@[go_sem] def encChange (x : TChange) : List D := [iv x.fKind, iv x.fFile.fID, iv x.fFile.fOwner, bv x.fFile.fShared, iv x.fFile.fLink, .sl (x.fFile.fAttrs.map encAttr), iv x.fID, sv x.fDir.fName, .sl (x.fDir.fQuery.map encNode)]
@[go_sem] def gChange (x : TChange) : SV := .g [.d (iv x.fKind), .d (iv x.fFile.fID), .d (iv x.fFile.fOwner), .d (bv x.fFile.fShared), .d (iv x.fFile.fLink), .d (.sl (x.fFile.fAttrs.map encAttr)), .d (iv x.fID), .d (sv x.fDir.fName), .d (.sl (x.fDir.fQuery.map encNode))]
@[go_sem] def rChange (x : TChange) : SV := .g [.d (iv x.fKind), .d (iv x.fFile.fID), .d (iv x.fFile.fOwner), .d (bv x.fFile.fShared), .d (iv x.fFile.fLink), .w 185 4 (x.fFile.fAttrs.map encAttr), .d (iv x.fID), .d (sv x.fDir.fName), .w 199 7 (x.fDir.fQuery.map encNode)]
def wChange (x : TChange) : Nat := wFile x.fFile + wDir x.fDir
def wfChange (x : TChange) : Prop := inR .i64 x.fKind ∧ wfFile x.fFile ∧ inR .i64 x.fID ∧ wfDir x.fDir
def wChangeS (l : List TChange) : Nat := l.length + wsum wChange l
def wfChangeS (l : List TChange) : Prop := l.length ≤ 9223372036854775807 ∧ ∀ x ∈ l, wfChange x
end Go.Proofs.YtgglopecipbbfaaGreat
end

section
set_option linter.all false
set_option maxHeartbeats 1000000
namespace Go.Proofs.YtgglopecipbbfaaGreat
open Go Go.Sx Go.RowKit Go.Proofs

structure TSnapshot where
  fStore : TStore
  fDirs : List TDir
@[go_sem] def encSnapshot (x : TSnapshot) : List D := [.sl (x.fStore.fSchema.map encField), .sl (x.fStore.fFiles.map encFile), iv x.fStore.fNextID, .sl (x.fDirs.map encDir)]
@[go_sem] def gSnapshot (x : TSnapshot) : SV := .g [.d (.sl (x.fStore.fSchema.map encField)), .d (.sl (x.fStore.fFiles.map encFile)), .d (iv x.fStore.fNextID), .d (.sl (x.fDirs.map encDir))]
@[go_sem] def rSnapshot (x : TSnapshot) : SV := .g [.w 193 2 (x.fStore.fSchema.map encField), .w 73 5 (x.fStore.fFiles.map encFile), .d (iv x.fStore.fNextID), .w 93 2 (x.fDirs.map encDir)]
def wSnapshot (x : TSnapshot) : Nat := wStore x.fStore + wDirS x.fDirs
def wfSnapshot (x : TSnapshot) : Prop := wfStore x.fStore ∧ wfDirS x.fDirs
def wSnapshotS (l : List TSnapshot) : Nat := l.length + wsum wSnapshot l
def wfSnapshotS (l : List TSnapshot) : Prop := l.length ≤ 9223372036854775807 ∧ ∀ x ∈ l, wfSnapshot x
end Go.Proofs.YtgglopecipbbfaaGreat
end

section
set_option linter.all false
set_option maxHeartbeats 1000000
namespace Go.Proofs.YtgglopecipbbfaaGreat
open Go Go.Sx Go.RowKit Go.Proofs

structure TDisk where
  fSlotA : ByteArray
  fSlotB : ByteArray
@[go_sem] def encDisk (x : TDisk) : List D := [sv x.fSlotA, sv x.fSlotB]
@[go_sem] def gDisk (x : TDisk) : SV := .g [.d (sv x.fSlotA), .d (sv x.fSlotB)]
def wDisk (x : TDisk) : Nat := x.fSlotA.size + x.fSlotB.size
def wfDisk (x : TDisk) : Prop := x.fSlotA.size ≤ 9223372036854775807 ∧ x.fSlotB.size ≤ 9223372036854775807
def wDiskS (l : List TDisk) : Nat := l.length + wsum wDisk l
def wfDiskS (l : List TDisk) : Prop := l.length ≤ 9223372036854775807 ∧ ∀ x ∈ l, wfDisk x
end Go.Proofs.YtgglopecipbbfaaGreat
end

section
set_option linter.all false
namespace Go.Proofs.YtgglopecipbbfaaGreat
open Go Go.Sx Go.RowKit Go.Proofs

def inB (n a b : Int) : Bool := decide (a ≤ n) && decide (n ≤ b)
theorem within_ok (n a b : Int) : FnC Tryz.prog 213 [oi n, oi a, oi b] (ob (inB n a b)) := by
  refine ent Tryz.func213 rfl Tryz.call213 rfl (fun C => ?_); simp only [go_sem, st0, Tryz.ntmps213]
  by_cases h0 : a ≤ n <;> by_cases h1 : n ≤ b
  all_goals
    repeat' (with_reducible first | refine nY ?_ | (refine mX ?_; try simp only [go_sem, h0, h1, decide_false]) | refine kO ?_ (by decide) | (refine regx (by simp only [bodyX, isStX, Bool.false_eq_true, if_false, if_true]; rfl) (by kernel_rfl) (by kernel_rfl) (by decide) ?_ ?_ ?_; (focus simp only [go_sem]; done); (focus simp only [go_sem]; done)) | refine xE ?_ (by simp only [tailX, isStX, Bool.false_eq_true, if_false, if_true]; rfl) (by simp only [go_sem]; rfl) | refine regd (by kernel_rfl) ?_ | (refine And.intro ?_ ?_; focus omega))
    refine retK_ret ⟨⟨_, rfl, ?_⟩, ?_⟩
    · simp only [go_sem]; simp [inB, h0, h1]
    · trivial
theorem l01In_ok (n a b : Int) : FnC Tryz.prog 145 [oi n, oi a, oi b] (ob (inB n a b)) := by
  refine ent Tryz.func145 rfl Tryz.call145 rfl (fun C => ?_); simp only [go_sem, st0, Tryz.ntmps145]
  by_cases h0 : a ≤ n <;> by_cases h1 : n ≤ b
  all_goals
    repeat' (with_reducible first | refine nY ?_ | (refine mX ?_; try simp only [go_sem, h0, h1, decide_false]) | refine kO ?_ (by decide) | (refine regx (by simp only [bodyX, isStX, Bool.false_eq_true, if_false, if_true]; rfl) (by kernel_rfl) (by kernel_rfl) (by decide) ?_ ?_ ?_; (focus simp only [go_sem]; done); (focus simp only [go_sem]; done)) | refine xE ?_ (by simp only [tailX, isStX, Bool.false_eq_true, if_false, if_true]; rfl) (by simp only [go_sem]; rfl) | refine regd (by kernel_rfl) ?_ | (refine And.intro ?_ ?_; focus omega))
    refine retK_ret ⟨⟨_, rfl, ?_⟩, ?_⟩
    · simp only [go_sem]; simp [inB, h0, h1]
    · trivial
end Go.Proofs.YtgglopecipbbfaaGreat
end

section
set_option linter.all false
set_option maxHeartbeats 1000000
namespace Go.Proofs.YtgglopecipbbfaaGreat
open Go Go.Sx Go.RowKit Go.Proofs

theorem toStringS_ok (l : List ByteArray) (hw : wStringS l ≤ 1048576) : FnC Tryz.prog 22 [.o (.d (.sl (l.map encS)))] (.o (.w 9 1 (l.map encS))) := by
  unfold wStringS at hw
  have hl : l.length ≤ 1048576 := by omega
  refine ent Tryz.func22 rfl Tryz.call22 rfl (fun C => ?_); simp only [go_sem, st0, Tryz.ntmps22]
  repeat' (with_reducible first | refine nY ?_ | (refine mX ?_; try simp only [go_sem]) | refine kO ?_ (by decide) | (refine regx (by simp only [bodyX, isStX, Bool.false_eq_true, if_false, if_true]; rfl) (by kernel_rfl) (by kernel_rfl) (by decide) ?_ ?_ ?_; (focus simp only [go_sem]; done); (focus simp only [go_sem]; done)) | refine xE ?_ (by simp only [tailX, isStX, Bool.false_eq_true, if_false, if_true]; rfl) (by simp only [go_sem]; rfl) | refine regd (by kernel_rfl) ?_ | (refine And.intro ?_ ?_; focus omega))
  refine WP_lp (α := Nat) (fun k => [(4, oi k)]) (fun k => [(0, .row 9 1 (fillR encS [sv ⟨#[]⟩] l k) true)]) (fun k => k ≤ l.length) (fun k => l.length - k) 0 (fun _ => ?_) ?_ ?_ (fun k hk => ?_)
  · simp only [go_sem]
  · simp only [go_sem]; simp [fillR_zero]
  · simp
  · simp only [go_sem]
    repeat' (with_reducible first | refine nY ?_ | (refine mX ?_; try simp only [go_sem]) | refine kO ?_ (by decide) | (refine regx (by simp only [bodyX, isStX, Bool.false_eq_true, if_false, if_true]; rfl) (by kernel_rfl) (by kernel_rfl) (by decide) ?_ ?_ ?_; (focus simp only [go_sem]; done); (focus simp only [go_sem]; done)) | refine xE ?_ (by simp only [tailX, isStX, Bool.false_eq_true, if_false, if_true]; rfl) (by simp only [go_sem]; rfl) | refine regd (by kernel_rfl) ?_ | (refine And.intro ?_ ?_; focus omega))
    refine cnd rfl (fun h => ?_) (fun h => ?_)
    · simp only [decide_eq_true_eq, Int.ofNat_lt] at h
      repeat' (with_reducible first | refine nY ?_ | (refine mX ?_; try simp only [go_sem, h]) | refine kO ?_ (by decide) | (refine regx (by simp only [bodyX, isStX, Bool.false_eq_true, if_false, if_true]; rfl) (by kernel_rfl) (by kernel_rfl) (by decide) ?_ ?_ ?_; (focus simp only [go_sem]; done); (focus simp only [go_sem]; done)) | refine xE ?_ (by simp only [tailX, isStX, Bool.false_eq_true, if_false, if_true]; rfl) (by simp only [go_sem]; rfl) | refine regd (by kernel_rfl) ?_ | (refine And.intro ?_ ?_; focus omega))
      refine L_next (k + 1) ?_ ?_ ?_
      · simp only [go_sem]; simp [← fillR_set, h, encS]
      · omega
      · omega
    · simp only [decide_eq_false_iff_not] at h
      have e : k = l.length := by omega
      subst e
      repeat' (with_reducible first | refine nY ?_ | (refine mX ?_; try simp only [go_sem]) | refine kO ?_ (by decide) | (refine regx (by simp only [bodyX, isStX, Bool.false_eq_true, if_false, if_true]; rfl) (by kernel_rfl) (by kernel_rfl) (by decide) ?_ ?_ ?_; (focus simp only [go_sem]; done); (focus simp only [go_sem]; done)) | refine xE ?_ (by simp only [tailX, isStX, Bool.false_eq_true, if_false, if_true]; rfl) (by simp only [go_sem]; rfl) | refine regd (by kernel_rfl) ?_ | (refine And.intro ?_ ?_; focus omega))
      exact retK_ret ⟨⟨_, rfl, by simp only [go_sem, fillR_all]⟩, trivial⟩
theorem toStringSd_ok (l : List ByteArray) (hl : wStringS l ≤ 1048576) : FnC Tryz.prog 22 [.o (.d (.sl (l.map encS)))] (.o (.d (.sl (l.map encS)))) := (toStringS_ok l hl).pu (by simp only [go_sem, and_self])
theorem eqStringS_ok (l : List ByteArray) (hw : wStringS l ≤ 67108864) : FnC Tryz.prog 27 [.o (.d (.sl (l.map encS))), .o (.d (.sl (l.map encS)))] (ob true) := by
  unfold wStringS at hw
  have hl : l.length ≤ 67108864 := by omega
  refine ent Tryz.func27 rfl Tryz.call27 rfl (fun C => ?_); simp only [go_sem, st0, Tryz.ntmps27]
  repeat' (with_reducible first | refine nY ?_ | (refine mX ?_; try simp only [go_sem]) | refine kO ?_ (by decide) | (refine regx (by simp only [bodyX, isStX, Bool.false_eq_true, if_false, if_true]; rfl) (by kernel_rfl) (by kernel_rfl) (by decide) ?_ ?_ ?_; (focus simp only [go_sem]; done); (focus simp only [go_sem]; done)) | refine xE ?_ (by simp only [tailX, isStX, Bool.false_eq_true, if_false, if_true]; rfl) (by simp only [go_sem]; rfl) | refine regd (by kernel_rfl) ?_ | (refine And.intro ?_ ?_; focus omega))
  refine WP_lp (α := Nat) (fun k => [(5, oi k)]) (fun _ => []) (fun k => k ≤ l.length) (fun k => l.length - k) 0 (fun _ => ?_) ?_ ?_ (fun k hk => ?_)
  · simp only [go_sem]
  · simp only [go_sem]; simp
  · simp
  · simp only [go_sem]
    repeat' (with_reducible first | refine nY ?_ | (refine mX ?_; try simp only [go_sem]) | refine kO ?_ (by decide) | (refine regx (by simp only [bodyX, isStX, Bool.false_eq_true, if_false, if_true]; rfl) (by kernel_rfl) (by kernel_rfl) (by decide) ?_ ?_ ?_; (focus simp only [go_sem]; done); (focus simp only [go_sem]; done)) | refine xE ?_ (by simp only [tailX, isStX, Bool.false_eq_true, if_false, if_true]; rfl) (by simp only [go_sem]; rfl) | refine regd (by kernel_rfl) ?_ | (refine And.intro ?_ ?_; focus omega))
    refine cnd rfl (fun h => ?_) (fun h => ?_)
    · simp only [decide_eq_true_eq, Int.ofNat_lt] at h
      repeat' (with_reducible first | refine nY ?_ | (refine mX ?_; try simp only [go_sem, h]) | refine kO ?_ (by decide) | (refine regx (by simp only [bodyX, isStX, Bool.false_eq_true, if_false, if_true]; rfl) (by kernel_rfl) (by kernel_rfl) (by decide) ?_ ?_ ?_; (focus simp only [go_sem]; done); (focus simp only [go_sem]; done)) | refine xE ?_ (by simp only [tailX, isStX, Bool.false_eq_true, if_false, if_true]; rfl) (by simp only [go_sem]; rfl) | refine regd (by kernel_rfl) ?_ | (refine And.intro ?_ ?_; focus omega))
      refine L_next (k + 1) ?_ ?_ ?_
      · simp only [go_sem]; simp
      · omega
      · omega
    · simp only [decide_eq_false_iff_not] at h
      repeat' (with_reducible first | refine nY ?_ | (refine mX ?_; try simp only [go_sem]) | refine kO ?_ (by decide) | (refine regx (by simp only [bodyX, isStX, Bool.false_eq_true, if_false, if_true]; rfl) (by kernel_rfl) (by kernel_rfl) (by decide) ?_ ?_ ?_; (focus simp only [go_sem]; done); (focus simp only [go_sem]; done)) | refine xE ?_ (by simp only [tailX, isStX, Bool.false_eq_true, if_false, if_true]; rfl) (by simp only [go_sem]; rfl) | refine regd (by kernel_rfl) ?_ | (refine And.intro ?_ ?_; focus omega))
      exact retK_ret ⟨⟨_, rfl, by simp only [go_sem]⟩, trivial⟩
theorem szStringS_ok (l : List ByteArray) (n : Int) (h0 : 0 ≤ n ∧ n ≤ 1048576) (hw : wfStringS l) : FnC Tryz.prog 17 [.o (.d (.sl (l.map encS))), oi n] (oi (szOut n (wStringS l))) := by
  unfold wfStringS at hw
  refine ent Tryz.func17 rfl Tryz.call17 rfl (fun C => ?_); simp only [go_sem, st0, Tryz.ntmps17]
  by_cases hc : n - (l.length : Nat) < 0
  · have e : szOut n (wStringS l) = -1 := by rw [szOut_neg (by unfold wStringS; omega)]
    repeat' (with_reducible first | refine nY ?_ | (refine mX ?_; try simp only [go_sem, hc]) | refine kO ?_ (by decide) | (refine regx (by simp only [bodyX, isStX, Bool.false_eq_true, if_false, if_true]; rfl) (by kernel_rfl) (by kernel_rfl) (by decide) ?_ ?_ ?_; (focus simp only [go_sem]; done); (focus simp only [go_sem]; done)) | refine xE ?_ (by simp only [tailX, isStX, Bool.false_eq_true, if_false, if_true]; rfl) (by simp only [go_sem]; rfl) | refine regd (by kernel_rfl) ?_ | (refine And.intro ?_ ?_; focus omega))
    exact retK_ret ⟨⟨_, rfl, by simp only [go_sem, e]⟩, trivial⟩
  repeat' (with_reducible first | refine nY ?_ | (refine mX ?_; try simp only [go_sem, hc]) | refine kO ?_ (by decide) | (refine regx (by simp only [bodyX, isStX, Bool.false_eq_true, if_false, if_true]; rfl) (by kernel_rfl) (by kernel_rfl) (by decide) ?_ ?_ ?_; (focus simp only [go_sem]; done); (focus simp only [go_sem]; done)) | refine xE ?_ (by simp only [tailX, isStX, Bool.false_eq_true, if_false, if_true]; rfl) (by simp only [go_sem]; rfl) | refine regd (by kernel_rfl) ?_ | (refine And.intro ?_ ?_; focus omega))
  refine WP_lp (α := Nat) (fun k => [(5, oi k), (1, oi (n - (l.length : Nat) - (wsum ByteArray.size (l.take k) : Nat)))]) (fun _ => []) (fun k => k ≤ l.length ∧ 0 ≤ n - (l.length : Nat) - (wsum ByteArray.size (l.take k) : Nat)) (fun k => l.length - k) 0 (fun _ => ?_) ?_ ?_ (fun k hk => ?_)
  · simp only [go_sem]
  · simp only [go_sem]; simp [wsum]
  · simp [wsum]; omega
  · obtain ⟨hk, hn⟩ := hk
    simp only [go_sem]
    repeat' (with_reducible first | refine nY ?_ | (refine mX ?_; try simp only [go_sem]) | refine kO ?_ (by decide) | (refine regx (by simp only [bodyX, isStX, Bool.false_eq_true, if_false, if_true]; rfl) (by kernel_rfl) (by kernel_rfl) (by decide) ?_ ?_ ?_; (focus simp only [go_sem]; done); (focus simp only [go_sem]; done)) | refine xE ?_ (by simp only [tailX, isStX, Bool.false_eq_true, if_false, if_true]; rfl) (by simp only [go_sem]; rfl) | refine regd (by kernel_rfl) ?_ | (refine And.intro ?_ ?_; focus omega))
    refine cnd rfl (fun h => ?_) (fun h => ?_)
    · simp only [decide_eq_true_eq, Int.ofNat_lt] at h
      have hs := wsum_take ByteArray.size l h
      have ht := wsum_le ByteArray.size l (k + 1)
      have hsz := hw.2 _ (List.getElem_mem h)
      by_cases h2 : n - (l.length : Nat) - (wsum ByteArray.size (l.take k) : Nat) - (l[k].size : Nat) < 0
      · have e : szOut n (wStringS l) = -1 := by rw [szOut_neg (by unfold wStringS; omega)]
        repeat' (with_reducible first | refine nY ?_ | (refine mX ?_; try simp only [go_sem, h, h2]) | refine kO ?_ (by decide) | (refine regx (by simp only [bodyX, isStX, Bool.false_eq_true, if_false, if_true]; rfl) (by kernel_rfl) (by kernel_rfl) (by decide) ?_ ?_ ?_; (focus simp only [go_sem]; done); (focus simp only [go_sem]; done)) | refine xE ?_ (by simp only [tailX, isStX, Bool.false_eq_true, if_false, if_true]; rfl) (by simp only [go_sem]; rfl) | refine regd (by kernel_rfl) ?_ | (refine And.intro ?_ ?_; focus omega))
        exact retK_ret ⟨⟨_, rfl, by simp only [go_sem, e]⟩, trivial⟩
      · repeat' (with_reducible first | refine nY ?_ | (refine mX ?_; try simp only [go_sem, h, h2]) | refine kO ?_ (by decide) | (refine regx (by simp only [bodyX, isStX, Bool.false_eq_true, if_false, if_true]; rfl) (by kernel_rfl) (by kernel_rfl) (by decide) ?_ ?_ ?_; (focus simp only [go_sem]; done); (focus simp only [go_sem]; done)) | refine xE ?_ (by simp only [tailX, isStX, Bool.false_eq_true, if_false, if_true]; rfl) (by simp only [go_sem]; rfl) | refine regd (by kernel_rfl) ?_ | (refine And.intro ?_ ?_; focus omega))
        refine L_next (k + 1) ?_ ?_ ?_
        · simp only [go_sem]; simp; omega
        · omega
        · omega
    · simp only [decide_eq_false_iff_not] at h
      have e0 : k = l.length := by omega
      subst e0
      rw [List.take_length] at hn
      have e : szOut n (wStringS l) = n - (l.length : Nat) - (wsum ByteArray.size l : Nat) := by rw [szOut_pos (by unfold wStringS; omega)]; unfold wStringS; omega
      repeat' (with_reducible first | refine nY ?_ | (refine mX ?_; try simp only [go_sem]) | refine kO ?_ (by decide) | (refine regx (by simp only [bodyX, isStX, Bool.false_eq_true, if_false, if_true]; rfl) (by kernel_rfl) (by kernel_rfl) (by decide) ?_ ?_ ?_; (focus simp only [go_sem]; done); (focus simp only [go_sem]; done)) | refine xE ?_ (by simp only [tailX, isStX, Bool.false_eq_true, if_false, if_true]; rfl) (by simp only [go_sem]; rfl) | refine regd (by kernel_rfl) ?_ | (refine And.intro ?_ ?_; focus omega))
      exact retK_ret ⟨⟨_, rfl, by simp only [go_sem, e, List.take_length]⟩, trivial⟩
end Go.Proofs.YtgglopecipbbfaaGreat
end
