/-
  slices.Max, MaxStratum, Matches, SelectFiles.
-/
import Derived.Test.YtgglopecipbbfaaGreatQ9Strata
import Derived.Test.YtgglopecipbbfaaGreatH22Match
import Derived.Test.YtgglopecipbbfaaGreatE3Loop
set_option linter.all false
set_option maxRecDepth 100000
set_option maxHeartbeats 4000000
namespace Go.Proofs.YtgglopecipbbfaaGreat
open Go Go.Sx Go.RowKit Go.Proofs

/-- The greatest level; -1 without any. -/
def topF : List Nat → Int → Int
  | [], m => m
  | x :: l, m => topF l (if (x : Int) > m then (x : Int) else m)
def topL (L : List Nat) : Int := topF L (-1)
theorem topF_drop (L : List Nat) (k : Nat) (m : Int) (h : k < L.length) : topF (L.drop k) m = topF (L.drop (k + 1)) (if (L[k] : Int) > m then (L[k] : Int) else m) := by
  rw [List.drop_eq_getElem_cons h, topF]
theorem matchQ_impl (q : List TNode) (f : TFile) (R : List TResult) (hq : wNodeS q ≤ 4300000) (hf : wFile f ≤ 4300000) (hR : wResultS R ≤ 67108864) : FnC Tryz.prog 247 [.o (.d (.sl (q.map encNode))), gFile f, .o (.d (.sl (R.map encResult)))] (ob (pr q R f)) := by
  refine ent Tryz.func247 rfl Tryz.call247 rfl (fun C => ?_); simp only [go_sem, st0, Tryz.ntmps247]
  cases hv : okQ q
  · repeat' (with_reducible first | refine nY ?_ | (refine mX ?_; try simp only [go_sem, hv]) | refine kO ?_ (by decide) | refine regd (by kernel_rfl) ?_ | (refine cC (implIsValidQuery_ok q hq) ?_ ?_; focus simp only [go_sem, and_self]; done) | (refine And.intro ?_ ?_; focus omega))
    exact retK_ret ⟨⟨_, rfl, by simp only [go_sem, pr, hv, Bool.false_and]⟩, trivial⟩
  · have hl := okQ_len hv
    have hx : (q.length : Int) - 1 = ((q.length - 1 : Nat) : Int) := by omega
    repeat' (with_reducible first | refine nY ?_ | (refine mX ?_; try simp only [go_sem, hv, hx]) | refine kO ?_ (by decide) | refine regd (by kernel_rfl) ?_ | (refine cC (implIsValidQuery_ok q hq) ?_ ?_; focus simp only [go_sem, and_self]; done) | (refine cC (implMatch_ok q f R hv hf hR q.length (q.length - 1) (by omega) (by omega)) ?_ ?_; focus simp only [go_sem, and_self]; done) | (refine And.intro ?_ ?_; focus omega))
    exact retK_ret ⟨⟨_, rfl, by simp only [go_sem, pr, hv, Bool.true_and]⟩, trivial⟩
theorem matchQ_spec (q : List TNode) (f : TFile) (R : List TResult) (hq : wNodeS q ≤ 4300000) (hf : wFile f ≤ 4300000) (hR : wResultS R ≤ 67108864) : FnC Tryz.prog 159 [.o (.d (.sl (q.map encNode))), gFile f, .o (.d (.sl (R.map encResult)))] (ob (pr q R f)) := by
  refine ent Tryz.func159 rfl Tryz.call159 rfl (fun C => ?_); simp only [go_sem, st0, Tryz.ntmps159]
  cases hv : okQ q
  · repeat' (with_reducible first | refine nY ?_ | (refine mX ?_; try simp only [go_sem, hv]) | refine kO ?_ (by decide) | refine regd (by kernel_rfl) ?_ | (refine cC (specIsValidQuery_ok q hq) ?_ ?_; focus simp only [go_sem, and_self]; done) | (refine And.intro ?_ ?_; focus omega))
    exact retK_ret ⟨⟨_, rfl, by simp only [go_sem, pr, hv, Bool.false_and]⟩, trivial⟩
  · have hl := okQ_len hv
    have hx : (q.length : Int) - 1 = ((q.length - 1 : Nat) : Int) := by omega
    repeat' (with_reducible first | refine nY ?_ | (refine mX ?_; try simp only [go_sem, hv, hx]) | refine kO ?_ (by decide) | refine regd (by kernel_rfl) ?_ | (refine cC (specIsValidQuery_ok q hq) ?_ ?_; focus simp only [go_sem, and_self]; done) | (refine cC (specMatch_ok q f R hv hf hR q.length (q.length - 1) (by omega) (by omega)) ?_ ?_; focus simp only [go_sem, and_self]; done) | (refine And.intro ?_ ?_; focus omega))
    exact retK_ret ⟨⟨_, rfl, by simp only [go_sem, pr, hv, Bool.true_and]⟩, trivial⟩
theorem sel_impl (s : TStore) (q : List TNode) (R : List TResult) (hs : wStore s ≤ 4300000) (hq : wNodeS q ≤ 4300000) (hR : wResultS R ≤ 67108864) : FnC Tryz.prog 167 [gStore s, .o (.d (.sl (q.map encNode))), .o (.d (.sl (R.map encResult)))] (.o (.w 3 1 ((selF s.fFiles q R).map encI))) := by
  unfold wStore wFileS at hs
  refine ent Tryz.func167 rfl Tryz.call167 rfl (fun C => ?_); simp only [go_sem, st0, Tryz.ntmps167]
  repeat' (with_reducible first | refine nY ?_ | (refine mX ?_; try simp only [go_sem]) | refine kO ?_ (by decide) | refine regd (by kernel_rfl) ?_ | (refine And.intro ?_ ?_; focus omega))
  refine WP_lp (α := Nat) (fun k => [(7, .o (.s 1)), (10, .o .u), (14, oi k)]) (fun k => [(1, .row 3 1 ((idsOf ((s.fFiles.take k).filter (pr q R))).map encI) true)]) (fun k => k ≤ s.fFiles.length) (fun k => s.fFiles.length - k) 0 (fun _ => ?_) ?_ ?_ (fun k hk => ?_)
  · simp only [go_sem]
  · simp only [go_sem]; simp [idsOf]
  · simp
  · simp only [go_sem]
    repeat' (with_reducible first | refine nY ?_ | (refine mX ?_; try simp only [go_sem]) | refine kO ?_ (by decide) | refine regd (by kernel_rfl) ?_ | (refine And.intro ?_ ?_; focus omega))
    refine cnd rfl (fun h => ?_) (fun h => ?_)
    · simp only [decide_eq_true_eq, Int.ofNat_lt] at h
      have hw := wsum_get wFile s.fFiles h
      have ht : s.fFiles.take (k + 1) = s.fFiles.take k ++ [s.fFiles[k]] := List.take_succ_eq_append_getElem h
      have hl : (idsOf ((s.fFiles.take k).filter (pr q R))).length ≤ k := by
        unfold idsOf; rw [List.length_map]
        exact Nat.le_trans (List.length_filter_le _ _) (by rw [List.length_take]; omega)
      have hl1 : (idsOf ((s.fFiles.take k).filter (pr q R))).length + 1 ≤ 140737488355328 := by omega
      have hl2 : ((idsOf ((s.fFiles.take k).filter (pr q R))).length + 1) * 8 ≤ 140737488355328 := by omega
      cases hm : pr q R s.fFiles[k]
      · have hf : idsOf ((s.fFiles.take (k + 1)).filter (pr q R)) = idsOf ((s.fFiles.take k).filter (pr q R)) := by rw [ht, List.filter_append]; simp [hm]
        repeat' (with_reducible first | refine nY ?_ | (refine mX ?_; try simp only [go_sem, h, hm]) | refine kO ?_ (by decide) | refine regd (by kernel_rfl) ?_ | (refine cC (matchQ_impl q s.fFiles[k] R hq (by omega) hR) ?_ ?_; focus simp only [go_sem, and_self]; done) | (refine And.intro ?_ ?_; focus omega))
        refine L_next (k + 1) ?_ ?_ ?_
        · simp only [go_sem, hf]; simp
        · omega
        · omega
      · have hf : idsOf ((s.fFiles.take (k + 1)).filter (pr q R)) = idsOf ((s.fFiles.take k).filter (pr q R)) ++ [s.fFiles[k].fID] := by rw [ht, List.filter_append]; simp [hm, idsOf]
        repeat' (with_reducible first | refine nY ?_ | (refine mX ?_; try simp only [go_sem, h, hm]) | refine kO ?_ (by decide) | refine regd (by kernel_rfl) ?_ | (refine cC (matchQ_impl q s.fFiles[k] R hq (by omega) hR) ?_ ?_; focus simp only [go_sem, and_self]; done) | (refine And.intro ?_ ?_; focus omega))
        refine L_next (k + 1) ?_ ?_ ?_
        · simp only [go_sem, hf, List.map_append]; simp
        · omega
        · omega
    · simp only [decide_eq_false_iff_not] at h
      have e : k = s.fFiles.length := by omega
      subst e
      repeat' (with_reducible first | refine nY ?_ | (refine mX ?_; try simp only [go_sem]) | refine kO ?_ (by decide) | refine regd (by kernel_rfl) ?_ | (refine And.intro ?_ ?_; focus omega))
      exact retK_ret ⟨⟨_, rfl, by simp only [go_sem, selF, List.take_length]⟩, trivial⟩
theorem sel_spec (s : TStore) (q : List TNode) (R : List TResult) (hs : wStore s ≤ 4300000) (hq : wNodeS q ≤ 4300000) (hR : wResultS R ≤ 67108864) : FnC Tryz.prog 84 [gStore s, .o (.d (.sl (q.map encNode))), .o (.d (.sl (R.map encResult)))] (.o (.w 3 1 ((selF s.fFiles q R).map encI))) := by
  unfold wStore wFileS at hs
  refine ent Tryz.func84 rfl Tryz.call84 rfl (fun C => ?_); simp only [go_sem, st0, Tryz.ntmps84]
  repeat' (with_reducible first | refine nY ?_ | (refine mX ?_; try simp only [go_sem]) | refine kO ?_ (by decide) | refine regd (by kernel_rfl) ?_ | (refine And.intro ?_ ?_; focus omega))
  refine WP_lp (α := Nat) (fun k => [(7, .o (.s 1)), (9, .o .u), (8, oi k)]) (fun k => [(1, .row 3 1 ((idsOf ((s.fFiles.take k).filter (pr q R))).map encI) true)]) (fun k => k ≤ s.fFiles.length) (fun k => s.fFiles.length - k) 0 (fun _ => ?_) ?_ ?_ (fun k hk => ?_)
  · simp only [go_sem]
  · simp only [go_sem]; simp [idsOf]
  · simp
  · simp only [go_sem]
    repeat' (with_reducible first | refine nY ?_ | (refine mX ?_; try simp only [go_sem]) | refine kO ?_ (by decide) | refine regd (by kernel_rfl) ?_ | (refine And.intro ?_ ?_; focus omega))
    refine cnd rfl (fun h => ?_) (fun h => ?_)
    · simp only [decide_eq_true_eq, Int.ofNat_lt] at h
      have hw := wsum_get wFile s.fFiles h
      have ht : s.fFiles.take (k + 1) = s.fFiles.take k ++ [s.fFiles[k]] := List.take_succ_eq_append_getElem h
      have hl : (idsOf ((s.fFiles.take k).filter (pr q R))).length ≤ k := by
        unfold idsOf; rw [List.length_map]
        exact Nat.le_trans (List.length_filter_le _ _) (by rw [List.length_take]; omega)
      have hl1 : (idsOf ((s.fFiles.take k).filter (pr q R))).length + 1 ≤ 140737488355328 := by omega
      have hl2 : ((idsOf ((s.fFiles.take k).filter (pr q R))).length + 1) * 8 ≤ 140737488355328 := by omega
      cases hm : pr q R s.fFiles[k]
      · have hf : idsOf ((s.fFiles.take (k + 1)).filter (pr q R)) = idsOf ((s.fFiles.take k).filter (pr q R)) := by rw [ht, List.filter_append]; simp [hm]
        repeat' (with_reducible first | refine nY ?_ | (refine mX ?_; try simp only [go_sem, h, hm]) | refine kO ?_ (by decide) | refine regd (by kernel_rfl) ?_ | (refine cC (matchQ_spec q s.fFiles[k] R hq (by omega) hR) ?_ ?_; focus simp only [go_sem, and_self]; done) | (refine And.intro ?_ ?_; focus omega))
        refine L_next (k + 1) ?_ ?_ ?_
        · simp only [go_sem, hf]; simp
        · omega
        · omega
      · have hf : idsOf ((s.fFiles.take (k + 1)).filter (pr q R)) = idsOf ((s.fFiles.take k).filter (pr q R)) ++ [s.fFiles[k].fID] := by rw [ht, List.filter_append]; simp [hm, idsOf]
        repeat' (with_reducible first | refine nY ?_ | (refine mX ?_; try simp only [go_sem, h, hm]) | refine kO ?_ (by decide) | refine regd (by kernel_rfl) ?_ | (refine cC (matchQ_spec q s.fFiles[k] R hq (by omega) hR) ?_ ?_; focus simp only [go_sem, and_self]; done) | (refine And.intro ?_ ?_; focus omega))
        refine L_next (k + 1) ?_ ?_ ?_
        · simp only [go_sem, hf, List.map_append]; simp
        · omega
        · omega
    · simp only [decide_eq_false_iff_not] at h
      have e : k = s.fFiles.length := by omega
      subst e
      repeat' (with_reducible first | refine nY ?_ | (refine mX ?_; try simp only [go_sem]) | refine kO ?_ (by decide) | refine regd (by kernel_rfl) ?_ | (refine And.intro ?_ ?_; focus omega))
      exact retK_ret ⟨⟨_, rfl, by simp only [go_sem, selF, List.take_length]⟩, trivial⟩
theorem resL_nil (d : List TDir) (h : resB d = false) : resL d = [] := by
  unfold resB at h
  unfold resL
  split
  · rename_i hv
    rw [if_pos hv] at h
    apply levs_no
    intro hx
    obtain ⟨F, hF⟩ := hx
    rw [strat_yes hF] at h; cases h
  · rfl
theorem maxI_ok (A : List Nat) (h : 0 < A.length) (hl : A.length ≤ 4300000) : FnC Tryz.prog 246 [.o (.d (.sl (A.map encN)))] (oi (topL A)) := by
  have h1 : ¬ (A.length : Int) < 1 := by omega
  have hst : topL A = topF (A.drop 1) (A[0] : Int) := by
    have := topF_drop A 0 (-1) h
    rw [List.drop_zero] at this
    unfold topL
    rw [this, if_pos (by omega)]
  refine ent Tryz.func246 rfl Tryz.call246 rfl (fun C => ?_); simp only [go_sem, st0, Tryz.ntmps246]
  repeat' (with_reducible first | refine nY ?_ | (refine mX ?_; try simp only [go_sem, h, h1, decide_false, Int.toNat_zero, Int.le_refl]) | refine kO ?_ (by decide) | refine regd (by kernel_rfl) ?_ | (refine And.intro ?_ ?_; focus omega))
  refine WP_lp (α := Nat × Int) (fun x => [(3, oi x.2), (4, oi x.1)]) (fun _ => []) (fun x => 1 ≤ x.1 ∧ x.1 ≤ A.length ∧ topL A = topF (A.drop x.1) x.2) (fun x => A.length - x.1) (1, (A[0] : Int)) (fun _ => ?_) ?_ ?_ (fun x hx => ?_)
  · simp only [go_sem]
  · simp only [go_sem]; simp
  · exact ⟨by simp, by simp only; omega, hst⟩
  · obtain ⟨k, m⟩ := x
    obtain ⟨hk1, hk, hq⟩ := hx
    simp only at hk1 hk hq
    simp only [go_sem]
    repeat' (with_reducible first | refine nY ?_ | (refine mX ?_; try simp only [go_sem]) | refine kO ?_ (by decide) | refine regd (by kernel_rfl) ?_ | (refine And.intro ?_ ?_; focus omega))
    refine cnd rfl (fun h2 => ?_) (fun h2 => ?_)
    · simp only [decide_eq_true_eq, Int.ofNat_lt] at h2
      rw [topF_drop A k m h2] at hq
      repeat' (with_reducible first | refine nY ?_ | (refine mX ?_; try simp only [go_sem, h2]) | refine kO ?_ (by decide) | refine regd (by kernel_rfl) ?_ | (refine And.intro ?_ ?_; focus omega))
      refine L_next (k + 1, mxI m (A[k] : Int)) ?_ ?_ ?_
      · simp only [go_sem]; simp
      · exact ⟨by simp, by simp only; omega, hq⟩
      · simp only; omega
    · simp only [decide_eq_false_iff_not] at h2
      have e : k = A.length := by omega
      subst e
      rw [List.drop_length, topF] at hq
      repeat' (with_reducible first | refine nY ?_ | (refine mX ?_; try simp only [go_sem]) | refine kO ?_ (by decide) | refine regd (by kernel_rfl) ?_ | (refine And.intro ?_ ?_; focus omega))
      exact retK_ret ⟨⟨_, rfl, by simp only [go_sem, hq]⟩, trivial⟩
theorem implTop_ok (d : List TDir) (hd : wDirS d ≤ 4300000) (hl : (resL d).length ≤ 4300000) : FnC Tryz.prog 166 [.o (.d (.sl (d.map encDir)))] (oi (topL (resL d))) := by
  refine ent Tryz.func166 rfl Tryz.call166 rfl (fun C => ?_); simp only [go_sem, st0, Tryz.ntmps166]
  cases hb : resB d
  · have e := resL_nil d hb
    repeat' (with_reducible first | refine nY ?_ | (refine mX ?_; try simp only [go_sem, hb]) | refine kO ?_ (by decide) | refine regd (by kernel_rfl) ?_ | (refine cC (implStrata_ok d hd) ?_ ?_; focus simp only [go_sem, and_self]; done) | (refine And.intro ?_ ?_; focus omega))
    exact retK_ret ⟨⟨_, rfl, by simp only [go_sem, e, topL, topF]⟩, trivial⟩
  · by_cases h0 : 0 < (resL d).length
    · have hn : ¬ ((resL d).length : Int) = 0 := by omega
      repeat' (with_reducible first | refine nY ?_ | (refine mX ?_; try simp only [go_sem, hb, hn, decide_false]) | refine kO ?_ (by decide) | refine regd (by kernel_rfl) ?_ | (refine cC (implStrata_ok d hd) ?_ ?_; focus simp only [go_sem, and_self]; done) | (refine cC (maxI_ok (resL d) h0 hl) ?_ ?_; focus simp only [go_sem, and_self]; done) | (refine And.intro ?_ ?_; focus omega))
      exact retK_ret ⟨⟨_, rfl, by simp only [go_sem]⟩, trivial⟩
    · have hn : ((resL d).length : Int) = 0 := by omega
      have e : resL d = [] := List.eq_nil_of_length_eq_zero (by omega)
      repeat' (with_reducible first | refine nY ?_ | (refine mX ?_; try simp only [go_sem, hb, hn, decide_true]) | refine kO ?_ (by decide) | refine regd (by kernel_rfl) ?_ | (refine cC (implStrata_ok d hd) ?_ ?_; focus simp only [go_sem, and_self]; done) | (refine And.intro ?_ ?_; focus omega))
      exact retK_ret ⟨⟨_, rfl, by simp only [go_sem, e, topL, topF]⟩, trivial⟩
theorem specTop_ok (d : List TDir) (hd : wDirS d ≤ 4300000) (hl : (resL d).length ≤ 4300000) : FnC Tryz.prog 83 [.o (.d (.sl (d.map encDir)))] (oi (topL (resL d))) := by
  refine ent Tryz.func83 rfl Tryz.call83 rfl (fun C => ?_); simp only [go_sem, st0, Tryz.ntmps83]
  repeat' (with_reducible first | refine nY ?_ | (refine mX ?_; try simp only [go_sem]) | refine kO ?_ (by decide) | refine regd (by kernel_rfl) ?_ | (refine cC (specStrata_ok d hd) ?_ ?_; focus simp only [go_sem, and_self]; done) | (refine And.intro ?_ ?_; focus omega))
  generalize resL d = A at *
  refine WP_lp (α := Nat × Int) (fun x => [(5, oi x.2), (6, oi x.1)]) (fun _ => []) (fun x => x.1 ≤ A.length ∧ topL A = topF (A.drop x.1) x.2) (fun x => A.length - x.1) (0, -1) (fun _ => ?_) ?_ ?_ (fun x hx => ?_)
  · simp only [go_sem]
  · simp only [go_sem]; simp
  · simp [topL]
  · obtain ⟨k, m⟩ := x
    obtain ⟨hk, hq⟩ := hx
    simp only at hk hq
    simp only [go_sem]
    repeat' (with_reducible first | refine nY ?_ | (refine mX ?_; try simp only [go_sem]) | refine kO ?_ (by decide) | refine regd (by kernel_rfl) ?_ | (refine And.intro ?_ ?_; focus omega))
    refine cnd rfl (fun h2 => ?_) (fun h2 => ?_)
    · simp only [decide_eq_true_eq, Int.ofNat_lt] at h2
      rw [topF_drop A k m h2] at hq
      repeat' (with_reducible first | refine nY ?_ | (refine mX ?_; try simp only [go_sem, h2]) | refine kO ?_ (by decide) | refine regd (by kernel_rfl) ?_ | (refine And.intro ?_ ?_; focus omega))
      by_cases hc : m < (A[k] : Int)
      · rw [if_pos hc] at hq
        refine cnd (b := decide (m < (A[k] : Int))) rfl (fun _ => ?_) (fun hx => ?_)
        · repeat' (with_reducible first | refine nY ?_ | (refine mX ?_; try simp only [go_sem, h2]) | refine kO ?_ (by decide) | refine regd (by kernel_rfl) ?_ | (refine And.intro ?_ ?_; focus omega))
          refine L_next (k + 1, (A[k] : Int)) ?_ ?_ ?_
          · simp only [go_sem]; simp
          · exact ⟨by simp only; omega, hq⟩
          · simp only; omega
        · simp [hc] at hx
      · rw [if_neg hc] at hq
        refine cnd (b := decide (m < (A[k] : Int))) rfl (fun hx => ?_) (fun _ => ?_)
        · simp [hc] at hx
        · repeat' (with_reducible first | refine nY ?_ | (refine mX ?_; try simp only [go_sem, h2]) | refine kO ?_ (by decide) | refine regd (by kernel_rfl) ?_ | (refine And.intro ?_ ?_; focus omega))
          refine L_next (k + 1, m) ?_ ?_ ?_
          · simp only [go_sem]; simp
          · exact ⟨by simp only; omega, hq⟩
          · simp only; omega
    · simp only [decide_eq_false_iff_not] at h2
      have e : k = A.length := by omega
      subst e
      rw [List.drop_length, topF] at hq
      repeat' (with_reducible first | refine nY ?_ | (refine mX ?_; try simp only [go_sem]) | refine kO ?_ (by decide) | refine regd (by kernel_rfl) ?_ | (refine And.intro ?_ ?_; focus omega))
      exact retK_ret ⟨⟨_, rfl, by simp only [go_sem, hq]⟩, trivial⟩
end Go.Proofs.YtgglopecipbbfaaGreat
