/- Joined texts. -/
import Derived.Test.YtddimbdeggomaaaGreatZ16
import Derived.Test.YtddimbdeggomaaaGreatZ17
import Derived.Test.YtddimbdeggomaaaGreatZ18
set_option linter.all false
section
set_option maxRecDepth 100000
set_option maxHeartbeats 4000000
namespace Go.Proofs.YtddimbdeggomaaaGreat
open Go Go.Sx Go.RowKit Go.Proofs
theorem implAffe_ok (l : List TDir) (a b : TFile) (h : wDirS l + (wFile a + wFile b) ≤ 4300000) : FnC Tryz.prog 131 [.o (.d (.sl (l.map encDir))), gFile a, gFile b] (.o (.d (.sl ((affA a b l).map encS)))) := (implAff_ok l a b h).pu (by simp only [go_sem, and_self])
theorem specAffe_ok (l : List TDir) (a b : TFile) (h : wDirS l + (wFile a + wFile b) ≤ 4300000) : FnC Tryz.prog 129 [.o (.d (.sl (l.map encDir))), gFile a, gFile b] (.o (.d (.sl ((affA a b l).map encS)))) := (specAff_ok l a b h).pu (by simp only [go_sem, and_self])
theorem affA_len (a b : TFile) (l : List TDir) : (affA a b l).length ≤ wDirS l := by have := affA_w a b l; unfold wStringS at this; omega
theorem specReplaced_ok (s : TStore) (f : TFile) (hs : wStore s ≤ 4300000) (hf : wFile f ≤ 4300000) : FnC Tryz.prog 128 [gStore s, gFile f] (.t [(true, (gStore (repS s f)).cells), (false, [.d (bv (repOK s f))])]) := (specReplace_ok s f hs hf).pu (by simp only [go_sem, and_self])
theorem specFindd_ok (s : TStore) (id : Int) (h : wStore s ≤ 4300000) : FnC Tryz.prog 123 [gStore s, oi id] (.t [(true, (gFile (findF id s.fFiles)).cells), (false, [.d (bv (decide (0 ≤ ixF id s.fFiles)))])]) := (specFind_ok s id h).pu (by simp only [go_sem, and_self])
theorem implFindd_ok (s : TStore) (id : Int) (h : wStore s ≤ 4300000) : FnC Tryz.prog 125 [gStore s, oi id] (.t [(true, (gFile (findF id s.fFiles)).cells), (false, [.d (bv (decide (0 ≤ ixF id s.fFiles)))])]) := (implFind_ok s id h).pu (by simp only [go_sem, and_self])
noncomputable def updB (c : TCatalog) (f : TFile) : Bool := curB c && repOK c.fStore f
def updN (c : TCatalog) (f : TFile) : List ByteArray := affA (findF f.fID c.fStore.fFiles) f c.fDirs
noncomputable def updC (c : TCatalog) (f : TFile) : TCatalog := goC (updB c f) c (repS c.fStore f) c.fDirs (updN c f)
noncomputable def updD (c : TCatalog) (f : TFile) : List TDiff := goD (updB c f) c (repS c.fStore f) c.fDirs (updN c f)
theorem implUpdate_ok (c : TCatalog) (f : TFile) (h : wCatalog c + wFile f ≤ 4300000) : FnC Tryz.prog 54 [gCatalog c, gFile f] (.t [(true, (rCatalog (updC c f)).cells), (false, [.w 158 3 ((updD c f).map encDiff)]), (false, [.d (bv (updB c f))])]) := by
 have hc : wCatalog c = wStore c.fStore + wDirS c.fDirs + wResultS c.fResults := rfl
 have hs : wStore c.fStore = wFieldS c.fStore.fSchema + wFileS c.fStore.fFiles := rfl
 have hw := repS_w c.fStore f
 have hn : (updN c f).length ≤ 4300000 := by have := affA_len (findF f.fID c.fStore.fFiles) f c.fDirs; unfold updN; omega
 have hfw := findF_w f.fID c.fStore.fFiles
 refine ent Tryz.func54 rfl Tryz.call54 rfl (fun C => ?_); simp only [go_sem, st0, Tryz.ntmps54]
 cases h2 : repOK c.fStore f
 ·have e : updB c f = false := by simp [updB, h2]
  have q0 := @h2; refine w1_3 (implReplace_ok c.fStore f (by omega) (by omega)) (implCur_ok c (by omega)) (cpCat_ok c (by omega)) ?_
  exact retK_ret ⟨⟨_, rfl, by simp only [go_sem, updC, updD, e, goC_no, goD_no, List.map_nil]; try simp⟩, by simp [notOne]⟩
 cases h1 : curB c
 ·have e : updB c f = false := by simp [updB, h1]
  have q0 := @h1; have q1 := @h2; refine w2_3 (implReplace_ok c.fStore f (by omega) (by omega)) (implCur_ok c (by omega)) (cpCat_ok c (by omega)) ?_
  exact retK_ret ⟨⟨_, rfl, by simp only [go_sem, updC, updD, e, goC_no, goD_no, List.map_nil]; try simp⟩, by simp [notOne]⟩
 ·have e : updB c f = true := by simp [updB, h1, h2]
  have hev : evB (repS c.fStore f) c.fDirs = true := by unfold evB; rw [cur_s h1, rep_ok h2]; rfl
  have hk := chTo_go c (repS c.fStore f) c.fDirs (updN c f) hev (by omega) (by omega) (by omega) hn
  have ha := implAffe_ok c.fDirs (findF f.fID c.fStore.fFiles) f (by omega)
  unfold updN at hk
  repeat' (with_reducible first | refine nY ?_ | (refine mX ?_; try simp only [go_sem, h1, h2]) | refine kO ?_ (by decide) | (apply rE [8,9,13] [] [0,1,2,3,4,5,6,7] [0,1,2,3,4,5,6,7] ((.c 8 [] [0,1,2,3] (.c 9 [10,11,12] [10,11,12] (.c 13 [14,15] [14,15] .n .n) .n) .n)) (by simp only [go_sem]; rfl) (by simp only [go_sem]; rfl) (by simp only [go_sem]; rfl) (by decide +kernel); (focus simp only [go_sem]; done)) | exact tt_nil | (refine tt_cons (uX ?_) ?_) | refine tn_leaf (aX ?_) ?_ | refine tn_node (aX ?_) ?_ | exact meet_eq | (refine oG ?_; (focus simp only [go_sem]; done)) | (refine uA ?_; simp only [go_sem, h1, h2]; (repeat' first | omega | refine And.intro ?_ ?_); done) | refine regd (by kernel_rfl) ?_ | (refine cC (implReplace_ok c.fStore f (by omega) (by omega)) ?_ ?_; focus simp only [go_sem, and_self]; done) | (refine cC (implCur_ok c (by omega)) ?_ ?_; focus simp only [go_sem, and_self]; done) | (refine cC (implFindd_ok c.fStore f.fID (by omega)) ?_ ?_; focus simp only [go_sem, and_self]; done) | (refine cC (ha) ?_ ?_; focus simp only [go_sem, and_self]; done) | (refine cC (hk) ?_ ?_; focus simp only [go_sem, and_self]; done) | (refine And.intro ?_ ?_; focus omega))
  exact retK_ret ⟨⟨_, rfl, by simp only [go_sem, updC, updD, updN, e]; try simp⟩, by simp [notOne]⟩
theorem specUpdate_ok (c : TCatalog) (f : TFile) (h : wCatalog c + wFile f ≤ 4300000) : FnC Tryz.prog 53 [gCatalog c, gFile f] (.t [(true, (gCatalog (updC c f)).cells), (false, [.d (.sl ((updD c f).map encDiff))]), (false, [.d (bv (updB c f))])]) := by
 have hc : wCatalog c = wStore c.fStore + wDirS c.fDirs + wResultS c.fResults := rfl
 have hs : wStore c.fStore = wFieldS c.fStore.fSchema + wFileS c.fStore.fFiles := rfl
 have hw := repS_w c.fStore f
 have hn : (updN c f).length ≤ 4300000 := by have := affA_len (findF f.fID c.fStore.fFiles) f c.fDirs; unfold updN; omega
 have hfw := findF_w f.fID c.fStore.fFiles
 refine ent Tryz.func53 rfl Tryz.call53 rfl (fun C => ?_); simp only [go_sem, st0, Tryz.ntmps53]
 cases h1 : curB c
 ·have e : updB c f = false := by simp [updB, h1]
  have q0 := @h1; refine w1_4 (l19Cpd_ok c (by omega)) (specFindd_ok c.fStore f.fID (by omega)) (specReplaced_ok c.fStore f (by omega) (by omega)) (specCur_ok c (by omega)) ?_
  first | refine retK_sees (Sees.frz 1 rfl) ?_ | refine retK_sees (Sees.frz 2 rfl) ?_ | refine retK_sees (Sees.frz 3 rfl) ?_ | refine retK_sees (Sees.frz 4 rfl) ?_ | refine retK_sees (Sees.frz 5 rfl) ?_
  simp only [go_sem]
  exact retK_ret ⟨⟨_, rfl, by simp only [go_sem, updC, updD, e, goC_no, goD_no, List.map_nil]; try simp⟩, by simp [notOne]⟩
 cases h2 : repOK c.fStore f
 ·have e : updB c f = false := by simp [updB, h2]
  have q0 := @h1; have q1 := @h2; refine w2_4 (l19Cpd_ok c (by omega)) (specFindd_ok c.fStore f.fID (by omega)) (specReplaced_ok c.fStore f (by omega) (by omega)) (specCur_ok c (by omega)) ?_
  first | refine retK_sees (Sees.frz 1 rfl) ?_ | refine retK_sees (Sees.frz 2 rfl) ?_ | refine retK_sees (Sees.frz 3 rfl) ?_ | refine retK_sees (Sees.frz 4 rfl) ?_ | refine retK_sees (Sees.frz 5 rfl) ?_
  simp only [go_sem]
  exact retK_ret ⟨⟨_, rfl, by simp only [go_sem, updC, updD, e, goC_no, goD_no, List.map_nil]; try simp⟩, by simp [notOne]⟩
 ·have e : updB c f = true := by simp [updB, h1, h2]
  have ha := specAffe_ok c.fDirs (findF f.fID c.fStore.fFiles) f (by omega)
  have hk := specTurnd_ok c (repS c.fStore f) c.fDirs (updN c f) (by omega) (by omega) (by omega) hn
  unfold updN at hk
  repeat' (with_reducible first | refine nY ?_ | (refine mX ?_; try simp only [go_sem, h1, h2]) | refine kO ?_ (by decide) | (apply rE [8,9,13,14] [] [0,1,2,3,4,5,6,7] [0,1,2,3,4,5,6,7] ((.c 8 [] [0,1,2,3] (.c 9 [10,11,12] [10,11,12] (.c 13 [] [10,11,12] (.c 14 [15] [12,15] .n .n) .n) (.c 13 [] [0,1,2,3] (.c 9 [10,11,12] [10,11,12] (.c 14 [15] [12,15] .n .n) .n) .n)) (.c 13 [] [0,1,2,3,4,5,6,7] (.c 8 [] [0,1,2,3] (.c 9 [10,11,12] [10,11,12] (.c 14 [15] [12,15] .n .n) .n) .n) .n))) (by simp only [go_sem]; rfl) (by simp only [go_sem]; rfl) (by simp only [go_sem]; rfl) (by decide +kernel); (focus simp only [go_sem]; done)) | exact tt_nil | (refine tt_cons (uX ?_) ?_) | refine tn_leaf (aX ?_) ?_ | refine tn_node (aX ?_) ?_ | exact meet_eq | (refine oG ?_; (focus simp only [go_sem]; done)) | (refine uA ?_; simp only [go_sem, h1, h2]; (repeat' first | omega | refine And.intro ?_ ?_); done) | refine regd (by kernel_rfl) ?_ | (refine cC (l19Cpd_ok c (by omega)) ?_ ?_; focus simp only [go_sem, and_self]; done) | (refine cC (specFindd_ok c.fStore f.fID (by omega)) ?_ ?_; focus simp only [go_sem, and_self]; done) | (refine cC (specReplaced_ok c.fStore f (by omega) (by omega)) ?_ ?_; focus simp only [go_sem, and_self]; done) | (refine cC (specCur_ok c (by omega)) ?_ ?_; focus simp only [go_sem, and_self]; done) | (refine cC (ha) ?_ ?_; focus simp only [go_sem, and_self]; done) | (refine cC (hk) ?_ ?_; focus simp only [go_sem, and_self]; done) | (refine And.intro ?_ ?_; focus omega))
  exact retK_ret ⟨⟨_, rfl, by simp only [go_sem, updC, updD, updN, e, goC_yes, goD_yes]; try simp⟩, by simp [notOne]⟩
theorem upd_w (c : TCatalog) (f : TFile) (h : wCatalog c + wFile f ≤ 4300000) : wStore (updC c f).fStore ≤ 8600000 ∧ wDirS (updC c f).fDirs ≤ 8600000 ∧ wResultS (updC c f).fResults ≤ 8600000 ∧ wDiffS (updD c f) ≤ 8600000 := by
 have hc : wCatalog c = wStore c.fStore + wDirS c.fDirs + wResultS c.fResults := rfl
 have hw := repS_w c.fStore f
 exact go_w _ c _ _ _ (fun e => by unfold updB at e; rw [Bool.and_eq_true] at e; exact e.1) (by omega) (by omega) (by omega)
end Go.Proofs.YtddimbdeggomaaaGreat
end
section
set_option maxRecDepth 100000
set_option maxHeartbeats 4000000
namespace Go.Proofs.YtddimbdeggomaaaGreat
open Go Go.Sx Go.RowKit Go.Proofs
theorem lawUpdateFile_ok (c : TCatalog) (f : TFile) (hfc : wfCatalog c) (hff : wfFile f) : FnC Tryz.prog 8 [gCatalog c, gFile f] (ob true) := by
 refine ent Tryz.func8 rfl Tryz.call8 rfl (fun C => ?_); simp only [go_sem, st0, Tryz.ntmps8]
 have z1 := szCatalog_ok c 1048576 (by omega) hfc
 by_cases h1 : szOut 1048576 (wCatalog c) < 0
 ·have q0 := @h1; refine w1_1 z1 ?_
  exact retK_ret ⟨⟨_, rfl, by simp only [go_sem]⟩, trivial⟩
 have s1 : wCatalog c ≤ 1048576 := by have := szOut_le h1; omega
 have e1 : szOut 1048576 (wCatalog c) = 1048576 - (wCatalog c : Nat) := szOut_pos (by omega)
 rw [e1] at z1 h1
 have z2 := szFile_ok f (1048576 - (wCatalog c : Nat)) (by omega) hff
 by_cases h2 : szOut (1048576 - (wCatalog c : Nat)) (wFile f) < 0
 ·have q0 := @h1; have q1 := @h2; refine w2_2 z1 z2 ?_
  exact retK_ret ⟨⟨_, rfl, by simp only [go_sem]⟩, trivial⟩
 have s2 : wCatalog c + wFile f ≤ 1048576 := by have := szOut_le h2; omega
 have e2 : szOut (1048576 - (wCatalog c : Nat)) (wFile f) = 1048576 - (wCatalog c : Nat) - (wFile f : Nat) := szOut_pos (by omega)
 rw [e2] at z2 h2
 have b1c : wStore c.fStore = wFieldS c.fStore.fSchema + wFileS c.fStore.fFiles := rfl
 have b2c : wFileS c.fStore.fFiles = c.fStore.fFiles.length + wsum wFile c.fStore.fFiles := rfl
 have b3c : c.fStore.fSchema.length ≤ wFieldS c.fStore.fSchema := by unfold wFieldS; omega
 have b4c : wDirS c.fDirs = c.fDirs.length + wsum wDir c.fDirs := rfl
 have b5c : wResultS c.fResults = c.fResults.length + wsum wResult c.fResults := rfl
 have b6c := csumField c.fStore.fSchema
 have b7c := csumFile c.fStore.fFiles
 have b8c := csumDir c.fDirs
 have b9c := csumResult c.fResults
 have b0c : wCatalog c = wStore c.fStore + wDirS c.fDirs + wResultS c.fResults := rfl
 have f1f := csumAttr f.fAttrs
 have f2f : f.fAttrs.length ≤ wFile f := by unfold wFile wAttrS; omega
 have hi := implUpdate_ok c f (by omega)
 have hk := specUpdate_ok c f (by omega)
 have hC := upd_w c f (by omega)
 generalize (updC c f) = X at *
 generalize (updD c f) = Y at *
 generalize (updB c f) = B at *
 obtain ⟨q1, q2, q3, q4⟩ := hC
 have b1X : wStore X.fStore = wFieldS X.fStore.fSchema + wFileS X.fStore.fFiles := rfl
 have b2X : wFileS X.fStore.fFiles = X.fStore.fFiles.length + wsum wFile X.fStore.fFiles := rfl
 have b3X : X.fStore.fSchema.length ≤ wFieldS X.fStore.fSchema := by unfold wFieldS; omega
 have b4X : wDirS X.fDirs = X.fDirs.length + wsum wDir X.fDirs := rfl
 have b5X : wResultS X.fResults = X.fResults.length + wsum wResult X.fResults := rfl
 have b6X := csumField X.fStore.fSchema
 have b7X := csumFile X.fStore.fFiles
 have b8X := csumDir X.fDirs
 have b9X := csumResult X.fResults
 have b0X : wCatalog X = wStore X.fStore + wDirS X.fDirs + wResultS X.fResults := rfl
 have hX : wCatalog X ≤ 67108864 := by unfold wCatalog; omega
 have k1 : ¬ ((1 : Int) + (csum cnField c.fStore.fSchema : Nat) + (csum cnFile c.fStore.fFiles : Nat) + (csum cnDir c.fDirs : Nat) + (csum cnResult c.fResults : Nat) + (csum cnAttr f.fAttrs : Nat) < 0) := by omega
 have k2 : ¬ ((1 : Int) + (csum cnField X.fStore.fSchema : Nat) + (csum cnFile X.fStore.fFiles : Nat) + (csum cnDir X.fDirs : Nat) + (csum cnResult X.fResults : Nat) < 0) := by omega
 have y1 := csumDiff Y
 have y2 : wDiffS Y = Y.length + wsum wDiff Y := rfl
 have k3 : ¬ ((1 : Int) + (csum cnField X.fStore.fSchema : Nat) + (csum cnFile X.fStore.fFiles : Nat) + (csum cnDir X.fDirs : Nat) + (csum cnResult X.fResults : Nat) + (csum cnDiff Y : Nat) < 0) := by omega
 have hid : FnC Tryz.prog 54 [gCatalog c, gFile f] (.t [(true, (gCatalog X).cells), (false, [.d (.sl (Y.map encDiff))]), (false, [.d (bv B)])]) := hi.pu (by simp only [go_sem, and_self])
 cases B
 all_goals
  repeat' (with_reducible first | refine nY ?_ | (refine mX ?_; try simp only [go_sem, h1, h2, k1, k2, k3, Bool.true_beq, Bool.false_beq]) | refine kO ?_ (by decide) | (refine cC (z1) ?_ ?_; focus simp only [go_sem, and_self]; done) | (refine cC (z2) ?_ ?_; focus simp only [go_sem, and_self]; done) | (refine And.intro ?_ ?_; focus omega))
  repeat' (with_reducible first | refine nX ?_ | (refine mX ?_; try simp only [go_sem]) | refine kO ?_ (by decide) | (apply rE [1,3,4,9,10] [] [0,2] [0,2] ((.c 1 [] [2] (.c 3 [] [] (.c 4 [5,6,7,8] [5,6,7,8] (.c 9 [] [5,6,7,8] (.c 10 [11,12] [7,8,11,12] .n .n) .n) (.c 9 [] [] (.c 4 [5,6,7,8] [5,6,7,8] (.c 10 [11,12] [7,8,11,12] .n .n) .n) .n)) (.c 9 [] [2] (.c 3 [] [] (.c 4 [5,6,7,8] [5,6,7,8] (.c 10 [11,12] [7,8,11,12] .n .n) .n) .n) .n)) (.c 9 [] [0,2] (.c 1 [] [2] (.c 3 [] [] (.c 4 [5,6,7,8] [5,6,7,8] (.c 10 [11,12] [7,8,11,12] .n .n) .n) .n) .n) .n))) (by simp only [go_sem]; rfl) (by simp only [go_sem]; rfl) (by simp only [go_sem]; rfl) (by decide +kernel); (focus simp only [go_sem]; done)) | exact tt_nil | (refine tt_cons (uX ?_) ?_) | refine tn_leaf (aX ?_) ?_ | refine tn_node (aX ?_) ?_ | exact meet_eq | (refine oG ?_; (focus simp only [go_sem]; done)) | (refine uA ?_; simp only [go_sem]; (repeat' first | omega | refine And.intro ?_ ?_); done) | (refine cC (toCatalogd_ok c (by omega)) ?_ ?_; focus simp only [go_sem, and_self]; done) | (refine cC (toFiled_ok f (by omega)) ?_ ?_; focus simp only [go_sem, and_self]; done) | (refine cC (hk) ?_ ?_; focus simp only [go_sem, and_self]; done) | (refine And.intro ?_ ?_; focus omega))
  repeat' (with_reducible first | refine nY ?_ | (refine mX ?_; try simp only [go_sem, h1, h2, k1, k2, k3, Bool.true_beq, Bool.false_beq]) | refine kO ?_ (by decide) | (apply rE [1,3,4,9,10] [] [0,2] [0,2] ((.c 1 [] [2] (.c 3 [] [] (.c 4 [5,6,7,8] [5,6,7,8] (.c 9 [] [5,6,7,8] (.c 10 [11,12] [7,8,11,12] .n .n) .n) (.c 9 [] [] (.c 4 [5,6,7,8] [5,6,7,8] (.c 10 [11,12] [7,8,11,12] .n .n) .n) .n)) (.c 9 [] [2] (.c 3 [] [] (.c 4 [5,6,7,8] [5,6,7,8] (.c 10 [11,12] [7,8,11,12] .n .n) .n) .n) .n)) (.c 9 [] [0,2] (.c 1 [] [2] (.c 3 [] [] (.c 4 [5,6,7,8] [5,6,7,8] (.c 10 [11,12] [7,8,11,12] .n .n) .n) .n) .n) .n))) (by simp only [go_sem]; rfl) (by simp only [go_sem]; rfl) (by simp only [go_sem]; rfl) (by decide +kernel); (focus simp only [go_sem]; done)) | exact tt_nil | (refine tt_cons (uX ?_) ?_) | refine tn_leaf (aX ?_) ?_ | refine tn_node (aX ?_) ?_ | exact meet_eq | (refine oG ?_; (focus simp only [go_sem]; done)) | (refine uA ?_; simp only [go_sem, h1, h2, k1, k2, k3, Bool.true_beq, Bool.false_beq]; (repeat' first | omega | refine And.intro ?_ ?_); done) | refine regd (by kernel_rfl) ?_ | (refine calo (toCatalog_ok c (by omega)) ?_ ?_ ?_ (uX ?_); (focus simp only [go_sem, h1, h2, k1, k2, k3, Bool.true_beq, Bool.false_beq]; done); (focus simp only [go_sem, h1, h2, k1, k2, k3, Bool.true_beq, Bool.false_beq]; done); (focus simp only [go_sem, h1, h2, k1, k2, k3, Bool.true_beq, Bool.false_beq]; done)) | (refine caldo (toCatalog_ok c (by omega)) ?_ ?_ ?_ ?_ (uX ?_); (focus simp only [go_sem, h1, h2, k1, k2, k3, Bool.true_beq, Bool.false_beq]; done); (focus simp only [go_sem, h1, h2, k1, k2, k3, Bool.true_beq, Bool.false_beq]; done); (focus simp only [go_sem, h1, h2, k1, k2, k3, Bool.true_beq, Bool.false_beq]; done); (focus simp only [go_sem, h1, h2, k1, k2, k3, Bool.true_beq, Bool.false_beq]; done)) | (refine calo (toFile_ok f (by omega)) ?_ ?_ ?_ (uX ?_); (focus simp only [go_sem, h1, h2, k1, k2, k3, Bool.true_beq, Bool.false_beq]; done); (focus simp only [go_sem, h1, h2, k1, k2, k3, Bool.true_beq, Bool.false_beq]; done); (focus simp only [go_sem, h1, h2, k1, k2, k3, Bool.true_beq, Bool.false_beq]; done)) | (refine caldo (toFile_ok f (by omega)) ?_ ?_ ?_ ?_ (uX ?_); (focus simp only [go_sem, h1, h2, k1, k2, k3, Bool.true_beq, Bool.false_beq]; done); (focus simp only [go_sem, h1, h2, k1, k2, k3, Bool.true_beq, Bool.false_beq]; done); (focus simp only [go_sem, h1, h2, k1, k2, k3, Bool.true_beq, Bool.false_beq]; done); (focus simp only [go_sem, h1, h2, k1, k2, k3, Bool.true_beq, Bool.false_beq]; done)) | (refine calo (hi) ?_ ?_ ?_ (uX ?_); (focus simp only [go_sem, h1, h2, k1, k2, k3, Bool.true_beq, Bool.false_beq]; done); (focus simp only [go_sem, h1, h2, k1, k2, k3, Bool.true_beq, Bool.false_beq]; done); (focus simp only [go_sem, h1, h2, k1, k2, k3, Bool.true_beq, Bool.false_beq]; done)) | (refine caldo (hi) ?_ ?_ ?_ ?_ (uX ?_); (focus simp only [go_sem, h1, h2, k1, k2, k3, Bool.true_beq, Bool.false_beq]; done); (focus simp only [go_sem, h1, h2, k1, k2, k3, Bool.true_beq, Bool.false_beq]; done); (focus simp only [go_sem, h1, h2, k1, k2, k3, Bool.true_beq, Bool.false_beq]; done); (focus simp only [go_sem, h1, h2, k1, k2, k3, Bool.true_beq, Bool.false_beq]; done)) | (refine calo (eqCatalog_ok X hX) ?_ ?_ ?_ (uX ?_); (focus simp only [go_sem, h1, h2, k1, k2, k3, Bool.true_beq, Bool.false_beq]; done); (focus simp only [go_sem, h1, h2, k1, k2, k3, Bool.true_beq, Bool.false_beq]; done); (focus simp only [go_sem, h1, h2, k1, k2, k3, Bool.true_beq, Bool.false_beq]; done)) | (refine caldo (eqCatalog_ok X hX) ?_ ?_ ?_ ?_ (uX ?_); (focus simp only [go_sem, h1, h2, k1, k2, k3, Bool.true_beq, Bool.false_beq]; done); (focus simp only [go_sem, h1, h2, k1, k2, k3, Bool.true_beq, Bool.false_beq]; done); (focus simp only [go_sem, h1, h2, k1, k2, k3, Bool.true_beq, Bool.false_beq]; done); (focus simp only [go_sem, h1, h2, k1, k2, k3, Bool.true_beq, Bool.false_beq]; done)) | (refine calo (eqDiffS_ok Y (by omega)) ?_ ?_ ?_ (uX ?_); (focus simp only [go_sem, h1, h2, k1, k2, k3, Bool.true_beq, Bool.false_beq]; done); (focus simp only [go_sem, h1, h2, k1, k2, k3, Bool.true_beq, Bool.false_beq]; done); (focus simp only [go_sem, h1, h2, k1, k2, k3, Bool.true_beq, Bool.false_beq]; done)) | (refine caldo (eqDiffS_ok Y (by omega)) ?_ ?_ ?_ ?_ (uX ?_); (focus simp only [go_sem, h1, h2, k1, k2, k3, Bool.true_beq, Bool.false_beq]; done); (focus simp only [go_sem, h1, h2, k1, k2, k3, Bool.true_beq, Bool.false_beq]; done); (focus simp only [go_sem, h1, h2, k1, k2, k3, Bool.true_beq, Bool.false_beq]; done); (focus simp only [go_sem, h1, h2, k1, k2, k3, Bool.true_beq, Bool.false_beq]; done)) | (refine calo (eqCatalog_ok c (by omega)) ?_ ?_ ?_ (uX ?_); (focus simp only [go_sem, h1, h2, k1, k2, k3, Bool.true_beq, Bool.false_beq]; done); (focus simp only [go_sem, h1, h2, k1, k2, k3, Bool.true_beq, Bool.false_beq]; done); (focus simp only [go_sem, h1, h2, k1, k2, k3, Bool.true_beq, Bool.false_beq]; done)) | (refine caldo (eqCatalog_ok c (by omega)) ?_ ?_ ?_ ?_ (uX ?_); (focus simp only [go_sem, h1, h2, k1, k2, k3, Bool.true_beq, Bool.false_beq]; done); (focus simp only [go_sem, h1, h2, k1, k2, k3, Bool.true_beq, Bool.false_beq]; done); (focus simp only [go_sem, h1, h2, k1, k2, k3, Bool.true_beq, Bool.false_beq]; done); (focus simp only [go_sem, h1, h2, k1, k2, k3, Bool.true_beq, Bool.false_beq]; done)) | (refine calo (eqFile_ok f (by omega)) ?_ ?_ ?_ (uX ?_); (focus simp only [go_sem, h1, h2, k1, k2, k3, Bool.true_beq, Bool.false_beq]; done); (focus simp only [go_sem, h1, h2, k1, k2, k3, Bool.true_beq, Bool.false_beq]; done); (focus simp only [go_sem, h1, h2, k1, k2, k3, Bool.true_beq, Bool.false_beq]; done)) | (refine caldo (eqFile_ok f (by omega)) ?_ ?_ ?_ ?_ (uX ?_); (focus simp only [go_sem, h1, h2, k1, k2, k3, Bool.true_beq, Bool.false_beq]; done); (focus simp only [go_sem, h1, h2, k1, k2, k3, Bool.true_beq, Bool.false_beq]; done); (focus simp only [go_sem, h1, h2, k1, k2, k3, Bool.true_beq, Bool.false_beq]; done); (focus simp only [go_sem, h1, h2, k1, k2, k3, Bool.true_beq, Bool.false_beq]; done)) | (refine calm (markCatalog_ok c _ (by omega)) ?_ ?_ (uX ?_); (focus simp only [go_sem]; done); (focus simp only [go_sem, h1, h2, k1, k2, k3, Bool.true_beq, Bool.false_beq]; done)) | (refine calm (markFile_ok f _ (by omega)) ?_ ?_ (uX ?_); (focus simp only [go_sem]; done); (focus simp only [go_sem, h1, h2, k1, k2, k3, Bool.true_beq, Bool.false_beq]; done)) | (refine calm (markCatalog_ok X _ (by omega)) ?_ ?_ (uX ?_); (focus simp only [go_sem]; done); (focus simp only [go_sem, h1, h2, k1, k2, k3, Bool.true_beq, Bool.false_beq]; done)) | (refine calm (markDiffS_ok Y _ (by omega)) ?_ ?_ (uX ?_); (focus simp only [go_sem]; done); (focus simp only [go_sem, h1, h2, k1, k2, k3, Bool.true_beq, Bool.false_beq]; done)) | (refine calo (heldCatalog_ok X 1 (by omega)) ?_ ?_ ?_ (uX ?_); (focus simp only [go_sem, h1, h2, k1, k2, k3, Bool.true_beq, Bool.false_beq]; done); (focus simp only [go_sem, h1, h2, k1, k2, k3, Bool.true_beq, Bool.false_beq]; done); (focus simp only [go_sem, h1, h2, k1, k2, k3, Bool.true_beq, Bool.false_beq]; done)) | (refine caldo (heldCatalog_ok X 1 (by omega)) ?_ ?_ ?_ ?_ (uX ?_); (focus simp only [go_sem, h1, h2, k1, k2, k3, Bool.true_beq, Bool.false_beq]; done); (focus simp only [go_sem, h1, h2, k1, k2, k3, Bool.true_beq, Bool.false_beq]; done); (focus simp only [go_sem, h1, h2, k1, k2, k3, Bool.true_beq, Bool.false_beq]; done); (focus simp only [go_sem, h1, h2, k1, k2, k3, Bool.true_beq, Bool.false_beq]; done)) | (refine calo (heldDiffS_ok Y ((1 : Int) + (csum cnField X.fStore.fSchema : Nat) + (csum cnFile X.fStore.fFiles : Nat) + (csum cnDir X.fDirs : Nat) + (csum cnResult X.fResults : Nat)) (by omega)) ?_ ?_ ?_ (uX ?_); (focus simp only [go_sem, h1, h2, k1, k2, k3, Bool.true_beq, Bool.false_beq]; done); (focus simp only [go_sem, h1, h2, k1, k2, k3, Bool.true_beq, Bool.false_beq]; done); (focus simp only [go_sem, h1, h2, k1, k2, k3, Bool.true_beq, Bool.false_beq]; done)) | (refine caldo (heldDiffS_ok Y ((1 : Int) + (csum cnField X.fStore.fSchema : Nat) + (csum cnFile X.fStore.fFiles : Nat) + (csum cnDir X.fDirs : Nat) + (csum cnResult X.fResults : Nat)) (by omega)) ?_ ?_ ?_ ?_ (uX ?_); (focus simp only [go_sem, h1, h2, k1, k2, k3, Bool.true_beq, Bool.false_beq]; done); (focus simp only [go_sem, h1, h2, k1, k2, k3, Bool.true_beq, Bool.false_beq]; done); (focus simp only [go_sem, h1, h2, k1, k2, k3, Bool.true_beq, Bool.false_beq]; done); (focus simp only [go_sem, h1, h2, k1, k2, k3, Bool.true_beq, Bool.false_beq]; done)) | (refine cC (toCatalogd_ok c (by omega)) ?_ ?_; focus simp only [go_sem, and_self]; done) | (refine cC (toFiled_ok f (by omega)) ?_ ?_; focus simp only [go_sem, and_self]; done) | (refine cC (hid) ?_ ?_; focus simp only [go_sem, and_self]; done) | (refine And.intro ?_ ?_; focus omega))
  exact retK_ret ⟨⟨_, rfl, by simp only [go_sem]⟩, trivial⟩
end Go.Proofs.YtddimbdeggomaaaGreat
end
