/-
  PositiveDeps, NegativeDeps: both of each.
-/
import Derived.Test.YtgglopecipbbfaaGreatQ4Neg
set_option linter.all false
set_option maxRecDepth 100000
set_option maxHeartbeats 4000000
namespace Go.Proofs.YtgglopecipbbfaaGreat
open Go Go.Sx Go.RowKit Go.Proofs

theorem sel_eq (q : List TNode) (b : Bool) (k : Nat) (h : k < q.length) (h2 : k < (negs q).length) : sel q b k = if isDirOp q[k] && ((negs q)[k] == b) then [q[k].fName] else [] := by
  unfold sel; rw [List.getElem?_eq_getElem h, List.getElem?_eq_getElem h2]
theorem dirOp_ok (n : TNode) : FnC Tryz.prog 304 [gNode n] (ob (isDirOp n)) := by
  refine ent Tryz.func304 rfl Tryz.call304 rfl (fun C => ?_); simp only [go_sem, st0, Tryz.ntmps304]
  by_cases c8 : n.fOp = 8
  · have hd : isDirOp n = true := by simp [isDirOp, inB, c8]
    repeat' (with_reducible first | refine nY ?_ | (refine mX ?_; try simp only [go_sem, c8, decide_true]) | refine kO ?_ (by decide) | refine regd (by kernel_rfl) ?_ | (refine And.intro ?_ ?_; focus omega))
    exact retK_ret ⟨⟨_, rfl, by simp only [go_sem, hd]⟩, trivial⟩
  by_cases c9 : n.fOp = 9
  · have hd : isDirOp n = true := by simp [isDirOp, inB, c9]
    repeat' (with_reducible first | refine nY ?_ | (refine mX ?_; try simp only [go_sem, c8, c9, decide_true, decide_false]) | refine kO ?_ (by decide) | refine regd (by kernel_rfl) ?_ | (refine And.intro ?_ ?_; focus omega))
    exact retK_ret ⟨⟨_, rfl, by simp only [go_sem, hd]⟩, trivial⟩
  · have hd : isDirOp n = false := by
      rw [← Bool.not_eq_true]
      simp only [isDirOp, inB, Bool.and_eq_true, decide_eq_true_eq]; omega
    repeat' (with_reducible first | refine nY ?_ | (refine mX ?_; try simp only [go_sem, c8, c9, decide_true, decide_false]) | refine kO ?_ (by decide) | refine regd (by kernel_rfl) ?_ | (refine And.intro ?_ ?_; focus omega))
    exact retK_ret ⟨⟨_, rfl, by simp only [go_sem, hd]⟩, trivial⟩
theorem implDeps_ok (q : List TNode) (b : Bool) (hq : okQ q = true) (hw : wNodeS q ≤ 4300000) : FnC Tryz.prog 290 [.o (.d (.sl (q.map encNode))), ob b] (.o (.w 9 1 ((onceS (depsL q b)).map encS))) := by
  have hl9 := okQ_len hq
  have hnl := negs_len q
  refine ent Tryz.func290 rfl Tryz.call290 rfl (fun C => ?_); simp only [go_sem, st0, Tryz.ntmps290]
  repeat' (with_reducible first | refine nY ?_ | (refine mX ?_; try simp only [go_sem]) | refine kO ?_ (by decide) | refine regd (by kernel_rfl) ?_ | (refine cC (implNeg_ok q hq hw) ?_ ?_; focus simp only [go_sem, and_self]; done) | (refine And.intro ?_ ?_; focus omega))
  refine WP_lp (α := Nat) (fun k => [(5, .o (.s 0)), (8, .o .u), (12, oi k)]) (fun k => [(0, .row 9 1 ((depsK q b k).map encS) true)]) (fun k => k ≤ q.length) (fun k => q.length - k) 0 (fun _ => ?_) ?_ ?_ (fun k hk => ?_)
  · simp only [go_sem]
  · simp only [go_sem]; simp [depsK]
  · simp
  · simp only [go_sem]
    repeat' (with_reducible first | refine nY ?_ | (refine mX ?_; try simp only [go_sem]) | refine kO ?_ (by decide) | refine regd (by kernel_rfl) ?_ | (refine And.intro ?_ ?_; focus omega))
    refine cnd rfl (fun h1 => ?_) (fun h1 => ?_)
    · simp only [decide_eq_true_eq, Int.ofNat_lt] at h1
      have h2 : k < (negs q).length := h1
      have h1 : k < q.length := by omega
      have hdl := depsK_len q b k
      have hs := sel_eq q b k h1 h2
      have ht := depsK_succ q b k
      rw [hs] at ht
      have hl1 : (depsK q b k).length + 1 ≤ 140737488355328 := by omega
      have hl2 : ((depsK q b k).length + 1) * 16 ≤ 140737488355328 := by omega
      cases hd : isDirOp q[k]
      · simp only [hd, Bool.false_and, Bool.false_eq_true, if_false, List.append_nil] at ht
        repeat' (with_reducible first | refine nY ?_ | (refine mX ?_; try simp only [go_sem, h1, h2, hd]) | refine kO ?_ (by decide) | refine regd (by kernel_rfl) ?_ | (refine cC (dirOp_ok q[k]) ?_ ?_; focus simp only [go_sem, and_self]; done) | (refine And.intro ?_ ?_; focus omega))
        refine L_next (k + 1) ?_ ?_ ?_
        · simp only [go_sem, ht]; simp
        · omega
        · omega
      · cases hx : (negs q)[k] <;> cases b
        all_goals
          simp only [hd, hx, Bool.true_and, Bool.true_beq, Bool.false_beq, Bool.not_true, Bool.not_false, Bool.false_eq_true, if_false, if_true, List.append_nil] at ht
          repeat' (with_reducible first | refine nY ?_ | (refine mX ?_; try simp only [go_sem, h1, h2, hd, hx, Bool.true_beq, Bool.false_beq]) | refine kO ?_ (by decide) | refine regd (by kernel_rfl) ?_ | (refine cC (dirOp_ok q[k]) ?_ ?_; focus simp only [go_sem, and_self]; done) | (refine And.intro ?_ ?_; focus omega))
          refine L_next (k + 1) ?_ ?_ ?_
          · simp only [go_sem, ht, List.map_append]; simp
          · omega
          · omega
    · simp only [decide_eq_false_iff_not] at h1
      have e : k = q.length := by omega
      subst e
      have hdl := depsK_len q b q.length
      repeat' (with_reducible first | refine nY ?_ | (refine mX ?_; try simp only [go_sem]) | refine kO ?_ (by decide) | refine regd (by kernel_rfl) ?_ | (refine cC (sortedOnce_ok (depsK q b q.length) (by omega)) ?_ ?_; focus simp only [go_sem, and_self]; done) | (refine And.intro ?_ ?_; focus omega))
      exact retK_ret ⟨⟨_, rfl, by simp only [go_sem, depsL]⟩, trivial⟩
theorem specDeps_ok (q : List TNode) (b : Bool) (hq : okQ q = true) (hw : wNodeS q ≤ 4300000) : FnC Tryz.prog 286 [.o (.d (.sl (q.map encNode))), ob b] (.o (.w 9 1 ((putL (depsL q b)).map encS))) := by
  have hl9 := okQ_len hq
  have hnl := negs_len q
  refine ent Tryz.func286 rfl Tryz.call286 rfl (fun C => ?_); simp only [go_sem, st0, Tryz.ntmps286]
  repeat' (with_reducible first | refine nY ?_ | (refine mX ?_; try simp only [go_sem]) | refine kO ?_ (by decide) | refine regd (by kernel_rfl) ?_ | (refine cC (specNeg_ok q hq hw) ?_ ?_; focus simp only [go_sem, and_self]; done) | (refine And.intro ?_ ?_; focus omega))
  refine WP_frzd 5 0 rfl rfl ?_
  simp only [go_sem]
  refine WP_lp (α := Nat) (fun k => [(5, .o (.d (.sl ((putL (depsK q b k)).map encS)))), (7, oi k), (8, .o .u)]) (fun _ => []) (fun k => k ≤ q.length) (fun k => q.length - k) 0 (fun _ => ?_) ?_ ?_ (fun k hk => ?_)
  · simp only [go_sem]
  · simp only [go_sem]; simp [depsK, putL]
  · simp
  · simp only [go_sem]
    have hdl := depsK_len q b k
    have hlen : (putL (depsK q b k)).length ≤ 4300000 := by have h1 := putL_len (depsK q b k); omega
    repeat' (with_reducible first | refine nY ?_ | (refine mX ?_; try simp only [go_sem]) | refine kO ?_ (by decide) | refine regd (by kernel_rfl) ?_ | (refine And.intro ?_ ?_; focus omega))
    refine cnd rfl (fun h1 => ?_) (fun h1 => ?_)
    · simp only [decide_eq_true_eq, Int.ofNat_lt] at h1
      have h2 : k < (negs q).length := h1
      have h1 : k < q.length := by omega
      have hs := sel_eq q b k h1 h2
      have ht := depsK_succ q b k
      rw [hs] at ht
      cases hd : isDirOp q[k]
      · simp only [hd, Bool.false_and, Bool.false_eq_true, if_false, List.append_nil] at ht
        repeat' (with_reducible first | refine nY ?_ | (refine mX ?_; try simp only [go_sem, h1, h2, hd]) | refine kO ?_ (by decide) | refine regd (by kernel_rfl) ?_ | (refine cC ((l01In_ok q[k].fOp 8 9 : FnC Tryz.prog _ _ (ob (isDirOp q[k])))) ?_ ?_; focus simp only [go_sem, and_self]; done) | (refine And.intro ?_ ?_; focus omega))
        refine L_next (k + 1) ?_ ?_ ?_
        · simp only [go_sem, ht]; simp
        · omega
        · omega
      · cases hx : (negs q)[k] <;> cases b
        all_goals
          simp only [hd, hx, Bool.true_and, Bool.true_beq, Bool.false_beq, Bool.not_true, Bool.not_false, Bool.false_eq_true, if_false, if_true, List.append_nil] at ht
          repeat' (with_reducible first | refine nY ?_ | (refine mX ?_; try simp only [go_sem, h1, h2, hd, hx, Bool.true_beq, Bool.false_beq]) | refine kO ?_ (by decide) | refine regd (by kernel_rfl) ?_ | (refine cC ((l01In_ok q[k].fOp 8 9 : FnC Tryz.prog _ _ (ob (isDirOp q[k])))) ?_ ?_; focus simp only [go_sem, and_self]; done) | (refine cC (l04Put_ok (putL (depsK q _ k)) q[k].fName hlen) ?_ ?_; focus simp only [go_sem, and_self]; done) | (refine And.intro ?_ ?_; focus omega))
          refine L_next (k + 1) ?_ ?_ ?_
          · simp only [go_sem, ht, putL_app]; simp
          · omega
          · omega
    · simp only [decide_eq_false_iff_not] at h1
      have e : k = q.length := by omega
      subst e
      repeat' (with_reducible first | refine nY ?_ | (refine mX ?_; try simp only [go_sem]) | refine kO ?_ (by decide) | refine regd (by kernel_rfl) ?_ | (refine And.intro ?_ ?_; focus omega))
      exact retK_ret ⟨⟨_, rfl, by simp only [go_sem, depsL]⟩, trivial⟩
theorem implPos_ok (q : List TNode) (hq : okQ q = true) (hw : wNodeS q ≤ 4300000) : FnC Tryz.prog 241 [.o (.d (.sl (q.map encNode)))] (.o (.w 9 1 ((onceS (depsL q false)).map encS))) := by
  refine ent Tryz.func241 rfl Tryz.call241 rfl (fun C => ?_); simp only [go_sem, st0, Tryz.ntmps241]
  repeat' (with_reducible first | refine nY ?_ | (refine mX ?_; try simp only [go_sem]) | refine kO ?_ (by decide) | refine regd (by kernel_rfl) ?_ | (refine cC (implDeps_ok q false hq hw) ?_ ?_; focus simp only [go_sem, and_self]; done) | (refine And.intro ?_ ?_; focus omega))
  exact retK_ret ⟨⟨_, rfl, by simp only [go_sem]⟩, trivial⟩
theorem implNegD_ok (q : List TNode) (hq : okQ q = true) (hw : wNodeS q ≤ 4300000) : FnC Tryz.prog 242 [.o (.d (.sl (q.map encNode)))] (.o (.w 9 1 ((onceS (depsL q true)).map encS))) := by
  refine ent Tryz.func242 rfl Tryz.call242 rfl (fun C => ?_); simp only [go_sem, st0, Tryz.ntmps242]
  repeat' (with_reducible first | refine nY ?_ | (refine mX ?_; try simp only [go_sem]) | refine kO ?_ (by decide) | refine regd (by kernel_rfl) ?_ | (refine cC (implDeps_ok q true hq hw) ?_ ?_; focus simp only [go_sem, and_self]; done) | (refine And.intro ?_ ?_; focus omega))
  exact retK_ret ⟨⟨_, rfl, by simp only [go_sem]⟩, trivial⟩
theorem specPos_ok (q : List TNode) (hq : okQ q = true) (hw : wNodeS q ≤ 4300000) : FnC Tryz.prog 234 [.o (.d (.sl (q.map encNode)))] (.o (.w 9 1 ((putL (depsL q false)).map encS))) := by
  refine ent Tryz.func234 rfl Tryz.call234 rfl (fun C => ?_); simp only [go_sem, st0, Tryz.ntmps234]
  repeat' (with_reducible first | refine nY ?_ | (refine mX ?_; try simp only [go_sem]) | refine kO ?_ (by decide) | refine regd (by kernel_rfl) ?_ | (refine cC (specDeps_ok q false hq hw) ?_ ?_; focus simp only [go_sem, and_self]; done) | (refine And.intro ?_ ?_; focus omega))
  exact retK_ret ⟨⟨_, rfl, by simp only [go_sem]⟩, trivial⟩
theorem specNegD_ok (q : List TNode) (hq : okQ q = true) (hw : wNodeS q ≤ 4300000) : FnC Tryz.prog 236 [.o (.d (.sl (q.map encNode)))] (.o (.w 9 1 ((putL (depsL q true)).map encS))) := by
  refine ent Tryz.func236 rfl Tryz.call236 rfl (fun C => ?_); simp only [go_sem, st0, Tryz.ntmps236]
  repeat' (with_reducible first | refine nY ?_ | (refine mX ?_; try simp only [go_sem]) | refine kO ?_ (by decide) | refine regd (by kernel_rfl) ?_ | (refine cC (specDeps_ok q true hq hw) ?_ ?_; focus simp only [go_sem, and_self]; done) | (refine And.intro ?_ ?_; focus omega))
  exact retK_ret ⟨⟨_, rfl, by simp only [go_sem]⟩, trivial⟩
end Go.Proofs.YtgglopecipbbfaaGreat
