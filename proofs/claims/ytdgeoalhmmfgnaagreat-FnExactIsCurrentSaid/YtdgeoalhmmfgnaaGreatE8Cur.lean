/- Evaluate, IsCurrent: both functions; the law of IsCurrent. -/
import Derived.Test.YtdgeoalhmmfgnaaGreatE6Eval
set_option linter.all false
set_option maxRecDepth 100000
set_option maxHeartbeats 4000000
namespace Go.Proofs.YtdgeoalhmmfgnaaGreat
open Go Go.Sx Go.RowKit Go.Proofs
theorem implEv0_ok (s : TStore) (d : List TDir) (hs : wStore s ≤ 1048576) (hd : wDirS d ≤ 1048576) : FnC Tryz.prog 48 [gStore s, .o (.d (.sl (d.map encDir))), .o (.d (.sl [])), .o (.d (.sl ((dirNs d).map encS)))] (.t [(false, [.w 80 2 ((evX s d [] (dirNs d)).1.map encResult)]), (false, [.d (iv ((evX s d [] (dirNs d)).2 : Nat))]), (false, [.d (bv (evB s d))])]) :=
 implEv_ok s d [] (dirNs d) hs hd (by simp [wResultS, wsum]) (by rw [dirNs_len]; unfold wDirS at hd; omega)
theorem implEval_ok (s : TStore) (d : List TDir) (hs : wStore s ≤ 1048576) (hd : wDirS d ≤ 1048576) : FnC Tryz.prog 31 [gStore s, .o (.d (.sl (d.map encDir)))] (.t [(false, [.w 80 2 ((evX s d [] (dirNs d)).1.map encResult)]), (false, [.d (bv (evB s d))])]) := by
 have hl : d.length ≤ 1048576 := by unfold wDirS at hd; omega
 refine ent Tryz.func31 rfl Tryz.call31 rfl (fun C => ?_); simp only [go_sem, st0, Tryz.ntmps31]
 repeat' (with_reducible first | refine nX ?_ | (refine mX ?_; try simp only [go_sem]) | refine kO ?_ (by decide) | refine reg ?_ | (refine rS [3, 4] [13, 14] (by simp only [go_sem]; rfl) (by simp only [go_sem]; rfl) (by decide +kernel) ?_ ?_; (focus simp only [go_sem]; done)) | refine st_cons (aX ?_) (uX ?_) | refine st_nil (aX ?_) ?_ | (refine uA ?_; simp only [go_sem]; (repeat' first | omega | refine And.intro ?_ ?_); done) | refine regd (by kernel_rfl) ?_ | (refine cG (implEv0_ok s d hs hd) ?_ ?_; focus simp only [go_sem, and_self]; done) | (refine cA (implEv0_ok s d hs hd) ?_ ?_; focus simp only [go_sem, and_self]; done) | (refine cD (implEv0_ok s d hs hd) ?_ ?_; focus simp only [go_sem, and_self]; done) | (refine cG (dirNames_ok d hl) ?_ ?_; focus simp only [go_sem, and_self]; done) | (refine cA (dirNames_ok d hl) ?_ ?_; focus simp only [go_sem, and_self]; done) | (refine cD (dirNames_ok d hl) ?_ ?_; focus simp only [go_sem, and_self]; done) | (refine cndt ?_ ?_; (focus simp only [go_sem]; done)) | (refine cndf ?_ ?_; (focus simp only [go_sem]; done)) | (refine And.intro ?_ ?_; focus omega))
 exact retK_ret ⟨⟨_, rfl, by simp only [go_sem]⟩, by simp [notOne]⟩
theorem specEval_ok (s : TStore) (d : List TDir) (hs : wStore s ≤ 1048576) (hd : wDirS d ≤ 1048576) : FnC Tryz.prog 29 [gStore s, .o (.d (.sl (d.map encDir)))] (.t [(false, [.w 80 2 ((evX s d [] (dirNs d)).1.map encResult)]), (false, [.d (bv (evB s d))])]) := by
 refine ent Tryz.func29 rfl Tryz.call29 rfl (fun C => ?_); simp only [go_sem, st0, Tryz.ntmps29]
 repeat' (with_reducible first | refine nX ?_ | (refine mX ?_; try simp only [go_sem]) | refine kO ?_ (by decide) | refine reg ?_ | refine regd (by kernel_rfl) ?_ | (refine cA (specEv_ok s d hs hd) ?_ ?_; focus simp only [go_sem, and_self]; done) | (refine cD (specEv_ok s d hs hd) ?_ ?_; focus simp only [go_sem, and_self]; done) | (refine cndt ?_ ?_; (focus simp only [go_sem]; done)) | (refine cndf ?_ ?_; (focus simp only [go_sem]; done)) | (refine And.intro ?_ ?_; focus omega))
 exact retK_ret ⟨⟨_, rfl, by simp only [go_sem]⟩, by simp [notOne]⟩
theorem evX_w (s : TStore) (d : List TDir) : wResultS (evX s d [] (dirNs d)).1 ≤ 1048576 := by
 unfold evX
 split
 ·rename_i hb
  rw [Bool.and_eq_true] at hb
  obtain ⟨hv, hleast⟩ := resB_yes hb.1
  have h5 := okDirs_len hv
  have h12 := okStore_len hb.2
  have hev := allE_ev (fs := s.fFiles) (ns := dirNs d) (r := []) (fun i (hi : i < d.length) => okDirs_at hv i hi) hleast.clo (levK d (resL d))
  have h0 : wResultS [] = 0 := by simp [wResultS, wsum]
  revert hev
  generalize (allE s.fFiles d (resL d) (dirNs d) (s.fFiles.length + wResultS []) [] (levK d (resL d))).1 = X
  rw [h0]
  intro hev
  have hlen := hev.len
  have hb2 := wsum_bound wResult 18 X fun i hi => by
   obtain ⟨e1, e2⟩ := hev.get i (by omega)
   have h1 := okDirs_name hv i (by omega)
   have h2 := hev.bd i
   unfold wResult
   rw [e1, e2]
   omega
  unfold wResultS
  have := Nat.mul_le_mul_right 18 h5
  rw [hlen] at hb2 ⊢
  omega
 ·simp [wResultS, wsum]
noncomputable def curB (c : TCatalog) : Bool := evB c.fStore c.fDirs && eqL beqResult (evX c.fStore c.fDirs [] (dirNs c.fDirs)).1 c.fResults
theorem implCur_ok (c : TCatalog) (h : wCatalog c ≤ 1048576) : FnC Tryz.prog 8 [gCatalog c] (ob (curB c)) := by
 unfold wCatalog at h
 refine ent Tryz.func8 rfl Tryz.call8 rfl (fun C => ?_); simp only [go_sem, st0, Tryz.ntmps8]
 cases hb : evB c.fStore c.fDirs
 all_goals
  repeat' (with_reducible first | refine nX ?_ | (refine mX ?_; try simp only [go_sem, hb]) | refine kO ?_ (by decide) | refine reg ?_ | refine regd (by kernel_rfl) ?_ | (refine cA (implEval_ok c.fStore c.fDirs (by omega) (by omega)) ?_ ?_; focus simp only [go_sem, and_self]; done) | (refine cD (implEval_ok c.fStore c.fDirs (by omega) (by omega)) ?_ ?_; focus simp only [go_sem, and_self]; done) | (refine cA (implEqualResults_ok (evX c.fStore c.fDirs [] (dirNs c.fDirs)).1 c.fResults (evX_w _ _)) ?_ ?_; focus simp only [go_sem, and_self]; done) | (refine cD (implEqualResults_ok (evX c.fStore c.fDirs [] (dirNs c.fDirs)).1 c.fResults (evX_w _ _)) ?_ ?_; focus simp only [go_sem, and_self]; done) | (refine cndt ?_ ?_; (focus simp only [go_sem]; done)) | (refine cndf ?_ ?_; (focus simp only [go_sem]; done)) | (refine And.intro ?_ ?_; focus omega))
  exact retK_ret ⟨⟨_, rfl, by simp only [go_sem, curB, hb, Bool.true_and, Bool.false_and]⟩, trivial⟩
theorem specCur_ok (c : TCatalog) (h : wCatalog c ≤ 1048576) : FnC Tryz.prog 6 [gCatalog c] (ob (curB c)) := by
 unfold wCatalog at h
 refine ent Tryz.func6 rfl Tryz.call6 rfl (fun C => ?_); simp only [go_sem, st0, Tryz.ntmps6]
 cases hb : evB c.fStore c.fDirs
 all_goals
  repeat' (with_reducible first | refine nX ?_ | (refine mX ?_; try simp only [go_sem, hb]) | refine kO ?_ (by decide) | refine reg ?_ | refine regd (by kernel_rfl) ?_ | (refine cA (specEval_ok c.fStore c.fDirs (by omega) (by omega)) ?_ ?_; focus simp only [go_sem, and_self]; done) | (refine cD (specEval_ok c.fStore c.fDirs (by omega) (by omega)) ?_ ?_; focus simp only [go_sem, and_self]; done) | (refine cA (specEqualResults_ok (evX c.fStore c.fDirs [] (dirNs c.fDirs)).1 c.fResults (evX_w _ _)) ?_ ?_; focus simp only [go_sem, and_self]; done) | (refine cD (specEqualResults_ok (evX c.fStore c.fDirs [] (dirNs c.fDirs)).1 c.fResults (evX_w _ _)) ?_ ?_; focus simp only [go_sem, and_self]; done) | (refine cndt ?_ ?_; (focus simp only [go_sem]; done)) | (refine cndf ?_ ?_; (focus simp only [go_sem]; done)) | (refine And.intro ?_ ?_; focus omega))
  exact retK_ret ⟨⟨_, rfl, by simp only [go_sem, curB, hb, Bool.true_and, Bool.false_and]⟩, trivial⟩
theorem lawIsCurrent_ok (x : TCatalog) (hf : wfCatalog x) : FnC Tryz.prog 3 [gCatalog x] (ob true) := by
 refine ent Tryz.func3 rfl Tryz.call3 rfl (fun C => ?_); simp only [go_sem, st0, Tryz.ntmps3]
 have hz := szCatalog_ok x 1048576 (by omega) hf
 by_cases h : szOut 1048576 (wCatalog x) < 0
 ·repeat' (with_reducible first | refine nX ?_ | (refine mX ?_; try simp only [go_sem, h]) | refine kO ?_ (by decide) | refine reg ?_ | refine regd (by kernel_rfl) ?_ | (refine cA (hz) ?_ ?_; focus simp only [go_sem, and_self]; done) | (refine cD (hz) ?_ ?_; focus simp only [go_sem, and_self]; done) | (refine cndt ?_ ?_; (focus simp only [go_sem]; done)) | (refine cndf ?_ ?_; (focus simp only [go_sem]; done)) | (refine And.intro ?_ ?_; focus omega))
  exact retK_ret ⟨⟨_, rfl, by simp only [go_sem]⟩, trivial⟩
 have hs : wCatalog x ≤ 1048576 := by have := szOut_le h; omega
 cases hb : curB x
 all_goals
  repeat' (with_reducible first | refine nX ?_ | (refine mX ?_; try simp only [go_sem, h, hb, Bool.true_beq, Bool.false_beq]) | refine kO ?_ (by decide) | refine reg ?_ | refine regd (by kernel_rfl) ?_ | (refine cA (hz) ?_ ?_; focus simp only [go_sem, and_self]; done) | (refine cD (hz) ?_ ?_; focus simp only [go_sem, and_self]; done) | (refine cA (toCatalogd_ok x hs) ?_ ?_; focus simp only [go_sem, and_self]; done) | (refine cD (toCatalogd_ok x hs) ?_ ?_; focus simp only [go_sem, and_self]; done) | (refine cA (specCur_ok x hs) ?_ ?_; focus simp only [go_sem, and_self]; done) | (refine cD (specCur_ok x hs) ?_ ?_; focus simp only [go_sem, and_self]; done) | (refine cA (implCur_ok x hs) ?_ ?_; focus simp only [go_sem, and_self]; done) | (refine cD (implCur_ok x hs) ?_ ?_; focus simp only [go_sem, and_self]; done) | (refine cA (eqCatalog_ok x hs) ?_ ?_; focus simp only [go_sem, and_self]; done) | (refine cD (eqCatalog_ok x hs) ?_ ?_; focus simp only [go_sem, and_self]; done) | (refine cndt ?_ ?_; (focus simp only [go_sem]; done)) | (refine cndf ?_ ?_; (focus simp only [go_sem]; done)) | (refine And.intro ?_ ?_; focus omega))
  exact retK_ret ⟨⟨_, rfl, by simp only [go_sem]⟩, trivial⟩
end Go.Proofs.YtdgeoalhmmfgnaaGreat
