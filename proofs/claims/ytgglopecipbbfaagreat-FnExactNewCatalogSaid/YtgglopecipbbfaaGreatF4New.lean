/-
  NewCatalog: both functions, the law.
-/
import Derived.Test.YtgglopecipbbfaaGreatE8Cur
import Derived.Test.YtgglopecipbbfaaGreatF3Copy
import Derived.Test.YtgglopecipbbfaaGreatM1
set_option linter.all false
set_option maxRecDepth 100000
set_option maxHeartbeats 4000000
namespace Go.Proofs.YtgglopecipbbfaaGreat
open Go Go.Sx Go.RowKit Go.Proofs

noncomputable def newC (s : TStore) (d : List TDir) : TCatalog := if evB s d then ⟨s, d, (evX s d [] (dirNs d)).1⟩ else ⟨⟨[], [], 0⟩, [], []⟩
theorem implNew_ok (s : TStore) (d : List TDir) (hs : wStore s ≤ 4300000) (hd : wDirS d ≤ 4300000) : FnC Tryz.prog 34 [gStore s, .o (.d (.sl (d.map encDir)))] (.t [(true, (rCatalog (newC s d)).cells), (false, [.d (bv (evB s d))])]) := by
  refine ent Tryz.func34 rfl Tryz.call34 rfl (fun C => ?_); simp only [go_sem, st0, Tryz.ntmps34]
  cases hb : evB s d
  · have e : newC s d = ⟨⟨[], [], 0⟩, [], []⟩ := by simp [newC, hb]
    repeat' (with_reducible first | refine nY ?_ | (refine mX ?_; try simp only [go_sem, hb]) | refine kO ?_ (by decide) | refine regd (by kernel_rfl) ?_ | (refine cC (implEval_ok s d hs hd) ?_ ?_; focus simp only [go_sem, and_self]; done) | (refine And.intro ?_ ?_; focus omega))
    exact retK_ret ⟨⟨_, rfl, by simp only [go_sem, e, List.map_nil]; try simp⟩, by simp [notOne]⟩
  · have e : newC s d = ⟨s, d, (evX s d [] (dirNs d)).1⟩ := by simp [newC, hb]
    repeat' (with_reducible first | refine nY ?_ | (refine mX ?_; try simp only [go_sem, hb]) | refine kO ?_ (by decide) | refine regd (by kernel_rfl) ?_ | (refine cC (implEval_ok s d hs hd) ?_ ?_; focus simp only [go_sem, and_self]; done) | (refine cC (cpStore_ok s hs) ?_ ?_; focus simp only [go_sem, and_self]; done) | (refine cC (cpDirs_ok d hd) ?_ ?_; focus simp only [go_sem, and_self]; done) | (refine And.intro ?_ ?_; focus omega))
    exact retK_ret ⟨⟨_, rfl, by simp only [go_sem, e]; try simp⟩, by simp [notOne]⟩
theorem specNew_ok (s : TStore) (d : List TDir) (hs : wStore s ≤ 4300000) (hd : wDirS d ≤ 4300000) : FnC Tryz.prog 33 [gStore s, .o (.d (.sl (d.map encDir)))] (.t [(true, (rCatalog (newC s d)).cells), (false, [.d (bv (evB s d))])]) := by
  refine ent Tryz.func33 rfl Tryz.call33 rfl (fun C => ?_); simp only [go_sem, st0, Tryz.ntmps33]
  cases hb : evB s d
  · have e : newC s d = ⟨⟨[], [], 0⟩, [], []⟩ := by simp [newC, hb]
    repeat' (with_reducible first | refine nY ?_ | (refine mX ?_; try simp only [go_sem, hb]) | refine kO ?_ (by decide) | refine regd (by kernel_rfl) ?_ | (refine cC (specEval_ok s d hs hd) ?_ ?_; focus simp only [go_sem, and_self]; done) | (refine And.intro ?_ ?_; focus omega))
    exact retK_ret ⟨⟨_, rfl, by simp only [go_sem, e, List.map_nil]; try simp⟩, by simp [notOne]⟩
  · have e : newC s d = ⟨s, d, (evX s d [] (dirNs d)).1⟩ := by simp [newC, hb]
    repeat' (with_reducible first | refine nY ?_ | (refine mX ?_; try simp only [go_sem, hb]) | refine kO ?_ (by decide) | refine regd (by kernel_rfl) ?_ | (refine cC (specEval_ok s d hs hd) ?_ ?_; focus simp only [go_sem, and_self]; done) | (refine cC (l05Cp_ok s hs) ?_ ?_; focus simp only [go_sem, and_self]; done) | (refine cC (l11Cp_ok d hd) ?_ ?_; focus simp only [go_sem, and_self]; done) | (refine And.intro ?_ ?_; focus omega))
    exact retK_ret ⟨⟨_, rfl, by simp only [go_sem, e]; try simp⟩, by simp [notOne]⟩
theorem lawNewCatalog_ok (s : TStore) (d : List TDir) (hfs : wfStore s) (hfd : wfDirS d) : FnC Tryz.prog 4 [gStore s, .o (.d (.sl (d.map encDir)))] (ob true) := by
  refine ent Tryz.func4 rfl Tryz.call4 rfl (fun C => ?_); simp only [go_sem, st0, Tryz.ntmps4]
  have z1 := szStore_ok s 1048576 (by omega) hfs
  by_cases h1 : szOut 1048576 (wStore s) < 0
  · repeat' (with_reducible first | refine nY ?_ | (refine mX ?_; try simp only [go_sem, h1]) | refine kO ?_ (by decide) | refine regd (by kernel_rfl) ?_ | (refine cC (z1) ?_ ?_; focus simp only [go_sem, and_self]; done) | (refine And.intro ?_ ?_; focus omega))
    exact retK_ret ⟨⟨_, rfl, by simp only [go_sem]⟩, trivial⟩
  have s1 : wStore s ≤ 1048576 := by have := szOut_le h1; omega
  have e1 : szOut 1048576 (wStore s) = 1048576 - (wStore s : Nat) := szOut_pos (by omega)
  rw [e1] at z1 h1
  have z2 := szDirS_ok d (1048576 - (wStore s : Nat)) (by omega) hfd
  by_cases h2 : szOut (1048576 - (wStore s : Nat)) (wDirS d) < 0
  · repeat' (with_reducible first | refine nY ?_ | (refine mX ?_; try simp only [go_sem, h1, h2]) | refine kO ?_ (by decide) | refine regd (by kernel_rfl) ?_ | (refine cC (z1) ?_ ?_; focus simp only [go_sem, and_self]; done) | (refine cC (z2) ?_ ?_; focus simp only [go_sem, and_self]; done) | (refine And.intro ?_ ?_; focus omega))
    exact retK_ret ⟨⟨_, rfl, by simp only [go_sem]⟩, trivial⟩
  have s2 : wStore s + wDirS d ≤ 1048576 := by have := szOut_le h2; omega
  have hb1 : wStore s = wFieldS s.fSchema + wFileS s.fFiles := rfl
  have hb2 : wFileS s.fFiles = s.fFiles.length + wsum wFile s.fFiles := rfl
  have hb3 : s.fSchema.length ≤ wFieldS s.fSchema := by unfold wFieldS; omega
  have hb4 : wDirS d = d.length + wsum wDir d := rfl
  have hc1 := csumField s.fSchema
  have hc2 := csumFile s.fFiles
  have hc3 := csumDir d
  have hi := implNew_ok s d (by omega) (by omega)
  have hk := specNew_ok s d (by omega) (by omega)
  have hw := evX_w s d
  have hC : wStore (newC s d).fStore ≤ 1048576 ∧ wDirS (newC s d).fDirs ≤ 1048576 ∧ wResultS (newC s d).fResults ≤ 4300000 := by
    unfold newC
    split
    · exact ⟨s1, by simp only; omega, hw⟩
    · simp [wStore, wFieldS, wFileS, wDirS, wResultS, wsum]
  generalize newC s d = X at *
  obtain ⟨q1, q2, q3⟩ := hC
  have hq1 : wStore X.fStore = wFieldS X.fStore.fSchema + wFileS X.fStore.fFiles := rfl
  have hq2 : wFileS X.fStore.fFiles = X.fStore.fFiles.length + wsum wFile X.fStore.fFiles := rfl
  have hq3 : X.fStore.fSchema.length ≤ wFieldS X.fStore.fSchema := by unfold wFieldS; omega
  have hq4 : wDirS X.fDirs = X.fDirs.length + wsum wDir X.fDirs := rfl
  have hq5 : wResultS X.fResults = X.fResults.length + wsum wResult X.fResults := rfl
  have hx1 := csumField X.fStore.fSchema
  have hx2 := csumFile X.fStore.fFiles
  have hx3 := csumDir X.fDirs
  have hx4 := csumResult X.fResults
  have hX : wCatalog X ≤ 67108864 := by unfold wCatalog; omega
  have k1 : ¬ ((1 : Int) + (csum cnField s.fSchema : Nat) + (csum cnFile s.fFiles : Nat) + (csum cnDir d : Nat) < 0) := by omega
  have k2 : ¬ ((1 : Int) + (csum cnField X.fStore.fSchema : Nat) + (csum cnFile X.fStore.fFiles : Nat) + (csum cnDir X.fDirs : Nat) + (csum cnResult X.fResults : Nat) < 0) := by omega
  cases hB : evB s d
  all_goals
    rw [hB] at hi hk
    repeat' (with_reducible first | refine nY ?_ | (refine mX ?_; try simp only [go_sem, h1, h2, k1, k2, Bool.true_beq, Bool.false_beq]) | refine kO ?_ (by decide) | refine regd (by kernel_rfl) ?_ | (refine cC (z1) ?_ ?_; focus simp only [go_sem, and_self]; done) | (refine cC (z2) ?_ ?_; focus simp only [go_sem, and_self]; done) | (refine And.intro ?_ ?_; focus omega))
    repeat' (with_reducible first | refine nX ?_ | (refine mX ?_; try simp only [go_sem]) | refine kO ?_ (by decide) | (refine cC (toStored_ok s (by omega)) ?_ ?_; focus simp only [go_sem, and_self]; done) | (refine cC (toDirSd_ok d (by omega)) ?_ ?_; focus simp only [go_sem, and_self]; done) | (refine cC (hk) ?_ ?_; focus simp only [go_sem, and_self]; done) | (refine And.intro ?_ ?_; focus omega))
    repeat' (with_reducible first | refine nY ?_ | (refine mX ?_; try simp only [go_sem, h1, h2, k1, k2, Bool.true_beq, Bool.false_beq]) | refine kO ?_ (by decide) | refine regd (by kernel_rfl) ?_ | (refine calo (toStore_ok s (by omega)) ?_ ?_ ?_ (uX ?_); (focus simp only [go_sem, h1, h2, k1, k2, Bool.true_beq, Bool.false_beq]; done); (focus simp only [go_sem, h1, h2, k1, k2, Bool.true_beq, Bool.false_beq]; done); (focus simp only [go_sem, h1, h2, k1, k2, Bool.true_beq, Bool.false_beq]; done)) | (refine caldo (toStore_ok s (by omega)) ?_ ?_ ?_ ?_ (uX ?_); (focus simp only [go_sem, h1, h2, k1, k2, Bool.true_beq, Bool.false_beq]; done); (focus simp only [go_sem, h1, h2, k1, k2, Bool.true_beq, Bool.false_beq]; done); (focus simp only [go_sem, h1, h2, k1, k2, Bool.true_beq, Bool.false_beq]; done); (focus simp only [go_sem, h1, h2, k1, k2, Bool.true_beq, Bool.false_beq]; done)) | (refine calo (toDirS_ok d (by omega)) ?_ ?_ ?_ (uX ?_); (focus simp only [go_sem, h1, h2, k1, k2, Bool.true_beq, Bool.false_beq]; done); (focus simp only [go_sem, h1, h2, k1, k2, Bool.true_beq, Bool.false_beq]; done); (focus simp only [go_sem, h1, h2, k1, k2, Bool.true_beq, Bool.false_beq]; done)) | (refine caldo (toDirS_ok d (by omega)) ?_ ?_ ?_ ?_ (uX ?_); (focus simp only [go_sem, h1, h2, k1, k2, Bool.true_beq, Bool.false_beq]; done); (focus simp only [go_sem, h1, h2, k1, k2, Bool.true_beq, Bool.false_beq]; done); (focus simp only [go_sem, h1, h2, k1, k2, Bool.true_beq, Bool.false_beq]; done); (focus simp only [go_sem, h1, h2, k1, k2, Bool.true_beq, Bool.false_beq]; done)) | (refine calo (hi) ?_ ?_ ?_ (uX ?_); (focus simp only [go_sem, h1, h2, k1, k2, Bool.true_beq, Bool.false_beq]; done); (focus simp only [go_sem, h1, h2, k1, k2, Bool.true_beq, Bool.false_beq]; done); (focus simp only [go_sem, h1, h2, k1, k2, Bool.true_beq, Bool.false_beq]; done)) | (refine caldo (hi) ?_ ?_ ?_ ?_ (uX ?_); (focus simp only [go_sem, h1, h2, k1, k2, Bool.true_beq, Bool.false_beq]; done); (focus simp only [go_sem, h1, h2, k1, k2, Bool.true_beq, Bool.false_beq]; done); (focus simp only [go_sem, h1, h2, k1, k2, Bool.true_beq, Bool.false_beq]; done); (focus simp only [go_sem, h1, h2, k1, k2, Bool.true_beq, Bool.false_beq]; done)) | (refine calo (eqCatalog_ok X hX) ?_ ?_ ?_ (uX ?_); (focus simp only [go_sem, h1, h2, k1, k2, Bool.true_beq, Bool.false_beq]; done); (focus simp only [go_sem, h1, h2, k1, k2, Bool.true_beq, Bool.false_beq]; done); (focus simp only [go_sem, h1, h2, k1, k2, Bool.true_beq, Bool.false_beq]; done)) | (refine caldo (eqCatalog_ok X hX) ?_ ?_ ?_ ?_ (uX ?_); (focus simp only [go_sem, h1, h2, k1, k2, Bool.true_beq, Bool.false_beq]; done); (focus simp only [go_sem, h1, h2, k1, k2, Bool.true_beq, Bool.false_beq]; done); (focus simp only [go_sem, h1, h2, k1, k2, Bool.true_beq, Bool.false_beq]; done); (focus simp only [go_sem, h1, h2, k1, k2, Bool.true_beq, Bool.false_beq]; done)) | (refine calo (eqStore_ok s (by omega)) ?_ ?_ ?_ (uX ?_); (focus simp only [go_sem, h1, h2, k1, k2, Bool.true_beq, Bool.false_beq]; done); (focus simp only [go_sem, h1, h2, k1, k2, Bool.true_beq, Bool.false_beq]; done); (focus simp only [go_sem, h1, h2, k1, k2, Bool.true_beq, Bool.false_beq]; done)) | (refine caldo (eqStore_ok s (by omega)) ?_ ?_ ?_ ?_ (uX ?_); (focus simp only [go_sem, h1, h2, k1, k2, Bool.true_beq, Bool.false_beq]; done); (focus simp only [go_sem, h1, h2, k1, k2, Bool.true_beq, Bool.false_beq]; done); (focus simp only [go_sem, h1, h2, k1, k2, Bool.true_beq, Bool.false_beq]; done); (focus simp only [go_sem, h1, h2, k1, k2, Bool.true_beq, Bool.false_beq]; done)) | (refine calo (eqDirS_ok d (by omega)) ?_ ?_ ?_ (uX ?_); (focus simp only [go_sem, h1, h2, k1, k2, Bool.true_beq, Bool.false_beq]; done); (focus simp only [go_sem, h1, h2, k1, k2, Bool.true_beq, Bool.false_beq]; done); (focus simp only [go_sem, h1, h2, k1, k2, Bool.true_beq, Bool.false_beq]; done)) | (refine caldo (eqDirS_ok d (by omega)) ?_ ?_ ?_ ?_ (uX ?_); (focus simp only [go_sem, h1, h2, k1, k2, Bool.true_beq, Bool.false_beq]; done); (focus simp only [go_sem, h1, h2, k1, k2, Bool.true_beq, Bool.false_beq]; done); (focus simp only [go_sem, h1, h2, k1, k2, Bool.true_beq, Bool.false_beq]; done); (focus simp only [go_sem, h1, h2, k1, k2, Bool.true_beq, Bool.false_beq]; done)) | (refine calm (markStore_ok s _ (by omega)) ?_ ?_ (uX ?_); (focus simp only [go_sem]; done); (focus simp only [go_sem, h1, h2, k1, k2, Bool.true_beq, Bool.false_beq]; done)) | (refine calm (markDirS_ok d _ (by omega)) ?_ ?_ (uX ?_); (focus simp only [go_sem]; done); (focus simp only [go_sem, h1, h2, k1, k2, Bool.true_beq, Bool.false_beq]; done)) | (refine calm (markCatalog_ok X _ (by omega)) ?_ ?_ (uX ?_); (focus simp only [go_sem]; done); (focus simp only [go_sem, h1, h2, k1, k2, Bool.true_beq, Bool.false_beq]; done)) | (refine calo (heldCatalog_ok X 1 (by omega)) ?_ ?_ ?_ (uX ?_); (focus simp only [go_sem, h1, h2, k1, k2, Bool.true_beq, Bool.false_beq]; done); (focus simp only [go_sem, h1, h2, k1, k2, Bool.true_beq, Bool.false_beq]; done); (focus simp only [go_sem, h1, h2, k1, k2, Bool.true_beq, Bool.false_beq]; done)) | (refine caldo (heldCatalog_ok X 1 (by omega)) ?_ ?_ ?_ ?_ (uX ?_); (focus simp only [go_sem, h1, h2, k1, k2, Bool.true_beq, Bool.false_beq]; done); (focus simp only [go_sem, h1, h2, k1, k2, Bool.true_beq, Bool.false_beq]; done); (focus simp only [go_sem, h1, h2, k1, k2, Bool.true_beq, Bool.false_beq]; done); (focus simp only [go_sem, h1, h2, k1, k2, Bool.true_beq, Bool.false_beq]; done)) | (refine cC (toStored_ok s (by omega)) ?_ ?_; focus simp only [go_sem, and_self]; done) | (refine cC (toDirSd_ok d (by omega)) ?_ ?_; focus simp only [go_sem, and_self]; done) | (refine And.intro ?_ ?_; focus omega))
    exact retK_ret ⟨⟨_, rfl, by simp only [go_sem]⟩, trivial⟩
end Go.Proofs.YtgglopecipbbfaaGreat
