/-
  Evaluate, IsCurrent: both functions; the law of IsCurrent.
-/
import Derived.Test.YtgglopecipbbfaaGreatE6Eval
set_option linter.all false
set_option maxRecDepth 100000
set_option maxHeartbeats 4000000
namespace Go.Proofs.YtgglopecipbbfaaGreat
open Go Go.Sx Go.RowKit Go.Proofs

theorem implEv0_ok (s : TStore) (d : List TDir) (hs : wStore s ≤ 4300000) (hd : wDirS d ≤ 4300000) : FnC Tryz.prog 89 [gStore s, .o (.d (.sl (d.map encDir))), .o (.d (.sl [])), .o (.d (.sl ((dirNs d).map encS)))] (.t [(false, [.w 125 2 ((evX s d [] (dirNs d)).1.map encResult)]), (false, [.d (iv ((evX s d [] (dirNs d)).2 : Nat))]), (false, [.d (bv (evB s d))])]) :=
  implEv_ok s d [] (dirNs d) hs hd (by simp [wResultS, wsum]) (by rw [dirNs_len]; unfold wDirS at hd; omega)
theorem implEval_ok (s : TStore) (d : List TDir) (hs : wStore s ≤ 4300000) (hd : wDirS d ≤ 4300000) : FnC Tryz.prog 102 [gStore s, .o (.d (.sl (d.map encDir)))] (.t [(false, [.w 125 2 ((evX s d [] (dirNs d)).1.map encResult)]), (false, [.d (bv (evB s d))])]) := by
  have hl : d.length ≤ 4300000 := by unfold wDirS at hd; omega
  refine ent Tryz.func102 rfl Tryz.call102 rfl (fun C => ?_); simp only [go_sem, st0, Tryz.ntmps102]
  repeat' (with_reducible first | refine nY ?_ | (refine mX ?_; try simp only [go_sem]) | refine kO ?_ (by decide) | (refine rS [3, 4] [13, 14] (by simp only [go_sem]; rfl) (by simp only [go_sem]; rfl) (by decide +kernel) ?_ ?_; (focus simp only [go_sem]; done)) | refine st_cons (aX ?_) (uX ?_) | refine st_nil (aX ?_) ?_ | (refine uA ?_; simp only [go_sem]; (repeat' first | omega | refine And.intro ?_ ?_); done) | refine regd (by kernel_rfl) ?_ | (refine cC (implEv0_ok s d hs hd) ?_ ?_; focus simp only [go_sem, and_self]; done) | (refine cC (dirNames_ok d hl) ?_ ?_; focus simp only [go_sem, and_self]; done) | (refine And.intro ?_ ?_; focus omega))
  exact retK_ret ⟨⟨_, rfl, by simp only [go_sem]⟩, by simp [notOne]⟩
theorem specEval_ok (s : TStore) (d : List TDir) (hs : wStore s ≤ 4300000) (hd : wDirS d ≤ 4300000) : FnC Tryz.prog 99 [gStore s, .o (.d (.sl (d.map encDir)))] (.t [(false, [.w 125 2 ((evX s d [] (dirNs d)).1.map encResult)]), (false, [.d (bv (evB s d))])]) := by
  refine ent Tryz.func99 rfl Tryz.call99 rfl (fun C => ?_); simp only [go_sem, st0, Tryz.ntmps99]
  repeat' (with_reducible first | refine nY ?_ | (refine mX ?_; try simp only [go_sem]) | refine kO ?_ (by decide) | refine regd (by kernel_rfl) ?_ | (refine cC (specEv_ok s d hs hd) ?_ ?_; focus simp only [go_sem, and_self]; done) | (refine And.intro ?_ ?_; focus omega))
  exact retK_ret ⟨⟨_, rfl, by simp only [go_sem]⟩, by simp [notOne]⟩
theorem evX_95 (s : TStore) (d : List TDir) : wResultS (evX s d [] (dirNs d)).1 ≤ 95 := by
  unfold evX
  split
  · rename_i hb
    rw [Bool.and_eq_true] at hb
    obtain ⟨hv, hleast⟩ := resB_yes hb.1
    have h5 := okDirs_len hv
    have h12 := okStore_len hb.2
    have hev := allE_ev (fs := s.fFiles) (ns := dirNs d) (r := []) (fun i (hi : i < d.length) => okDirs_at hv i hi) hleast.clo (levK d (resL d))
    have h0 : wResultS [] = 0 := by simp [wResultS, wsum]
    revert hev
    generalize (allE s.fFiles d (resL d) (dirNs d) (s.fFiles.length + wResultS []) [] (levK d (resL d))).1 = X
    rw [h0]
    intro hev
    have hlen := hev.len
    have hb2 := wsum_bound wResult 18 X fun i hi => by
      obtain ⟨e1, e2⟩ := hev.get i (by omega)
      have h1 := okDirs_name hv i (by omega)
      have h2 := hev.bd i
      unfold wResult
      rw [e1, e2]
      omega
    unfold wResultS
    have := Nat.mul_le_mul_right 18 h5
    rw [hlen] at hb2 ⊢
    omega
  · simp [wResultS, wsum]
theorem evX_w (s : TStore) (d : List TDir) : wResultS (evX s d [] (dirNs d)).1 ≤ 4300000 := Nat.le_trans (evX_95 s d) (by decide)
noncomputable def curB (c : TCatalog) : Bool := evB c.fStore c.fDirs && eqL beqResult (evX c.fStore c.fDirs [] (dirNs c.fDirs)).1 c.fResults
end Go.Proofs.YtgglopecipbbfaaGreat
