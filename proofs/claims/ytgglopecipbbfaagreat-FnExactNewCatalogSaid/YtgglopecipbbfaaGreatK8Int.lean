/-
  slices.Index and slices.Contains at int.
-/
import Derived.Test.YtgglopecipbbfaaGreatC10Unaff
import Derived.Test.YtgglopecipbbfaaGreatC1Clone
import Derived.Test.YtgglopecipbbfaaGreatK7Match
set_option linter.all false
set_option maxRecDepth 100000
set_option maxHeartbeats 4000000
namespace Go.Proofs.YtgglopecipbbfaaGreat
open Go Go.Sx Go.RowKit Go.Proofs

theorem hasI_drop (l : List Int) (s : Int) (k : Nat) (h : k < l.length) : hasI (l.drop k) s = (decide (l[k] = s) || hasI (l.drop (k + 1)) s) := by
  rw [List.drop_eq_getElem_cons h]; rfl
theorem indexI_ok (l : List Int) (s : Int) (hl : l.length ≤ 67108864) : FnC Tryz.prog 331 [.o (.d (.sl (l.map encI))), oi s] (oi (idxP (fun x => decide (s = x)) l 0)) := by
  refine ent Tryz.func331 rfl Tryz.call331 rfl (fun C => ?_); simp only [go_sem, st0, Tryz.ntmps331]
  repeat' (with_reducible first | refine nY ?_ | (refine mX ?_; try simp only [go_sem]) | refine kO ?_ (by decide) | (refine And.intro ?_ ?_; focus omega))
  refine WP_lp (α := Nat) (fun k => [(8, oi k)]) (fun _ => []) (fun k => k ≤ l.length ∧ idxP (fun x => decide (s = x)) l 0 = idxP (fun x => decide (s = x)) (l.drop k) k) (fun k => l.length - k) 0 (fun _ => ?_) ?_ ?_ (fun k hk => ?_)
  · simp only [go_sem]
  · simp only [go_sem]; simp
  · simp
  · obtain ⟨hk, hq⟩ := hk
    simp only [go_sem]
    repeat' (with_reducible first | refine nY ?_ | (refine mX ?_; try simp only [go_sem]) | refine kO ?_ (by decide) | (refine And.intro ?_ ?_; focus omega))
    refine cnd rfl (fun h => ?_) (fun h => ?_)
    · simp only [decide_eq_true_eq, Int.ofNat_lt] at h
      have hd := List.drop_eq_getElem_cons h
      rw [hd, idxP] at hq
      repeat' (with_reducible first | refine nY ?_ | (refine mX ?_; try simp only [go_sem, h]) | refine kO ?_ (by decide) | (refine And.intro ?_ ?_; focus omega))
      refine cnd (b := decide (s = l[k])) rfl (fun h2 => ?_) (fun h2 => ?_)
      · rw [if_pos h2] at hq
        repeat' (with_reducible first | refine nY ?_ | (refine mX ?_; try simp only [go_sem]) | refine kO ?_ (by decide) | (refine And.intro ?_ ?_; focus omega))
        exact retK_ret ⟨⟨_, rfl, by simp only [go_sem, hq]⟩, trivial⟩
      · rw [if_neg (by simp [h2])] at hq
        repeat' (with_reducible first | refine nY ?_ | (refine mX ?_; try simp only [go_sem]) | refine kO ?_ (by decide) | (refine And.intro ?_ ?_; focus omega))
        refine L_next (k + 1) ?_ ?_ ?_
        · simp only [go_sem]; simp
        · rw [hq]; exact ⟨h, by simp⟩
        · omega
    · simp only [decide_eq_false_iff_not] at h
      have e : k = l.length := by omega
      subst e
      simp only [List.drop_length, idxP] at hq
      repeat' (with_reducible first | refine nY ?_ | (refine mX ?_; try simp only [go_sem]) | refine kO ?_ (by decide) | (refine And.intro ?_ ?_; focus omega))
      exact retK_ret ⟨⟨_, rfl, by simp only [go_sem, hq]⟩, trivial⟩
theorem hasI_idx (l : List Int) (s : Int) : decide (0 ≤ idxP (fun x => decide (s = x)) l 0) = hasI l s := by
  rw [idxP_any]; unfold hasI
  congr 1; funext x; congr 1; exact propext eq_comm
theorem containsI_ok (l : List Int) (s : Int) (hl : l.length ≤ 67108864) : FnC Tryz.prog 311 [.o (.d (.sl (l.map encI))), oi s] (ob (hasI l s)) := by
  refine ent Tryz.func311 rfl Tryz.call311 rfl (fun C => ?_); simp only [go_sem, st0, Tryz.ntmps311]
  repeat' (with_reducible first | refine nY ?_ | (refine mX ?_; try simp only [go_sem]) | refine kO ?_ (by decide) | (refine cC (indexI_ok l s hl) ?_ ?_; focus simp only [go_sem, and_self]; done) | (refine And.intro ?_ ?_; focus omega))
  exact retK_ret ⟨⟨_, rfl, by simp only [go_sem, hasI_idx]⟩, trivial⟩
theorem implContainsID_ok (l : List Int) (s : Int) (hl : l.length ≤ 67108864) : FnC Tryz.prog 281 [.o (.d (.sl (l.map encI))), oi s] (ob (hasI l s)) := by
  refine ent Tryz.func281 rfl Tryz.call281 rfl (fun C => ?_); simp only [go_sem, st0, Tryz.ntmps281]
  repeat' (with_reducible first | refine nY ?_ | (refine mX ?_; try simp only [go_sem]) | refine kO ?_ (by decide) | (refine cC (containsI_ok l s hl) ?_ ?_; focus simp only [go_sem, and_self]; done) | (refine And.intro ?_ ?_; focus omega))
  exact retK_ret ⟨⟨_, rfl, by simp only [go_sem]⟩, trivial⟩
theorem specContainsID_ok (l : List Int) (s : Int) (hl : l.length ≤ 67108864) : FnC Tryz.prog 278 [.o (.d (.sl (l.map encI))), oi s] (ob (hasI l s)) := by
  refine ent Tryz.func278 rfl Tryz.call278 rfl (fun C => ?_); simp only [go_sem, st0, Tryz.ntmps278]
  repeat' (with_reducible first | refine nY ?_ | (refine mX ?_; try simp only [go_sem]) | refine kO ?_ (by decide) | (refine And.intro ?_ ?_; focus omega))
  refine WP_lp (α := Nat) (fun k => [(5, oi k)]) (fun k => []) (fun k => k ≤ l.length ∧ hasI (l.drop k) s = hasI l s) (fun k => l.length - k) 0 (fun _ => ?_) ?_ ?_ (fun k hk => ?_)
  · simp only [go_sem]; try simp
  · simp only [go_sem]; try simp
  · simp
  · simp only [go_sem]
    obtain ⟨hk, hg⟩ := hk
    repeat' (with_reducible first | refine nY ?_ | (refine mX ?_; try simp only [go_sem]) | refine kO ?_ (by decide) | (refine And.intro ?_ ?_; focus omega))
    refine cnd rfl (fun h1 => ?_) (fun h1 => ?_)
    · simp only [decide_eq_true_eq, Int.ofNat_lt] at h1
      have hd := hasI_drop l s k h1
      rw [hg] at hd
      repeat' (with_reducible first | refine nY ?_ | (refine mX ?_; try simp only [go_sem, h1]) | refine kO ?_ (by decide) | (refine And.intro ?_ ?_; focus omega))
      refine cnd rfl (fun hv => ?_) (fun hv => ?_)
      · rw [hv, Bool.true_or] at hd
        repeat' (with_reducible first | refine nY ?_ | (refine mX ?_; try simp only [go_sem]) | refine kO ?_ (by decide) | (refine And.intro ?_ ?_; focus omega))
        exact retK_ret ⟨⟨_, rfl, by simp only [go_sem, hd]⟩, trivial⟩
      · rw [hv, Bool.false_or] at hd
        repeat' (with_reducible first | refine nY ?_ | (refine mX ?_; try simp only [go_sem]) | refine kO ?_ (by decide) | (refine And.intro ?_ ?_; focus omega))
        refine L_next (k + 1) ?_ ?_ ?_
        · simp only [go_sem]; try simp
        · exact ⟨by omega, hd.symm⟩
        · omega
    · simp only [decide_eq_false_iff_not] at h1
      have e : k = l.length := by omega
      subst e
      have hn : hasI l s = false := by rw [← hg, List.drop_length]; rfl
      repeat' (with_reducible first | refine nY ?_ | (refine mX ?_; try simp only [go_sem]) | refine kO ?_ (by decide) | (refine And.intro ?_ ?_; focus omega))
      exact retK_ret ⟨⟨_, rfl, by simp only [go_sem, hn]⟩, trivial⟩
theorem resIDs_drop (s : ByteArray) (l : List TResult) (k : Nat) (h : k < l.length) : resIDs s (l.drop k) = if l[k].fName = s then l[k].fIDs else resIDs s (l.drop (k + 1)) := by
  rw [List.drop_eq_getElem_cons h]; rfl
theorem implResIDs_ok (l : List TResult) (s : ByteArray) (hl : wResultS l ≤ 67108864) : FnC Tryz.prog 165 [.o (.d (.sl (l.map encResult))), os s] (.o (.w 3 1 ((resIDs s l).map encI))) := by
  unfold wResultS at hl
  generalize hg : resIDs s l = res
  refine ent Tryz.func165 rfl Tryz.call165 rfl (fun C => ?_); simp only [go_sem, st0, Tryz.ntmps165]
  repeat' (with_reducible first | refine nY ?_ | (refine mX ?_; try simp only [go_sem]) | refine kO ?_ (by decide) | (refine And.intro ?_ ?_; focus omega))
  refine WP_lp (α := Nat) (fun k => [(9, oi k)]) (fun k => []) (fun k => k ≤ l.length ∧ resIDs s (l.drop k) = res) (fun k => l.length - k) 0 (fun _ => ?_) ?_ ?_ (fun k hk => ?_)
  · simp only [go_sem]; try simp
  · simp only [go_sem]; try simp
  · simp [hg]
  · simp only [go_sem]
    obtain ⟨hk, hq⟩ := hk
    repeat' (with_reducible first | refine nY ?_ | (refine mX ?_; try simp only [go_sem]) | refine kO ?_ (by decide) | (refine And.intro ?_ ?_; focus omega))
    refine cnd rfl (fun h1 => ?_) (fun h1 => ?_)
    · simp only [decide_eq_true_eq, Int.ofNat_lt] at h1
      rw [resIDs_drop s l k h1] at hq
      by_cases hv : l[k].fName = s
      · rw [if_pos hv] at hq
        have hw := wsum_get wResult l h1
        have hwl : l[k].fIDs.length ≤ wResult l[k] := by unfold wResult; omega
        repeat' (with_reducible first | refine nY ?_ | (refine mX ?_; try simp only [go_sem, h1, hv]) | refine kO ?_ (by decide) | (refine cC (cloneInt_ok l[k].fIDs (by omega)) ?_ ?_; focus simp only [go_sem, and_self]; done) | (refine And.intro ?_ ?_; focus omega))
        exact retK_ret ⟨⟨_, rfl, by simp only [go_sem, hq]⟩, trivial⟩
      · rw [if_neg hv] at hq
        repeat' (with_reducible first | refine nY ?_ | (refine mX ?_; try simp only [go_sem, h1, hv]) | refine kO ?_ (by decide) | (refine And.intro ?_ ?_; focus omega))
        refine L_next (k + 1) ?_ ?_ ?_
        · simp only [go_sem]; try simp
        · exact ⟨by omega, hq⟩
        · omega
    · simp only [decide_eq_false_iff_not] at h1
      have e : k = l.length := by omega
      subst e
      rw [List.drop_length] at hq
      have hn : res = [] := hq.symm
      subst hn
      repeat' (with_reducible first | refine nY ?_ | (refine mX ?_; try simp only [go_sem]) | refine kO ?_ (by decide) | (refine And.intro ?_ ?_; focus omega))
      exact retK_ret ⟨⟨_, rfl, by simp only [go_sem]⟩, trivial⟩
theorem specResIDs_ok (l : List TResult) (s : ByteArray) (hl : wResultS l ≤ 67108864) : FnC Tryz.prog 81 [.o (.d (.sl (l.map encResult))), os s] (.o (.w 3 1 ((resIDs s l).map encI))) := by
  unfold wResultS at hl
  generalize hg : resIDs s l = res
  refine ent Tryz.func81 rfl Tryz.call81 rfl (fun C => ?_); simp only [go_sem, st0, Tryz.ntmps81]
  repeat' (with_reducible first | refine nY ?_ | (refine mX ?_; try simp only [go_sem]) | refine kO ?_ (by decide) | (refine And.intro ?_ ?_; focus omega))
  refine WP_lp (α := Nat) (fun k => [(5, oi k)]) (fun k => []) (fun k => k ≤ l.length ∧ resIDs s (l.drop k) = res) (fun k => l.length - k) 0 (fun _ => ?_) ?_ ?_ (fun k hk => ?_)
  · simp only [go_sem]; try simp
  · simp only [go_sem]; try simp
  · simp [hg]
  · simp only [go_sem]
    obtain ⟨hk, hq⟩ := hk
    repeat' (with_reducible first | refine nY ?_ | (refine mX ?_; try simp only [go_sem]) | refine kO ?_ (by decide) | (refine And.intro ?_ ?_; focus omega))
    refine cnd rfl (fun h1 => ?_) (fun h1 => ?_)
    · simp only [decide_eq_true_eq, Int.ofNat_lt] at h1
      rw [resIDs_drop s l k h1] at hq
      by_cases hv : l[k].fName = s
      · rw [if_pos hv] at hq
        have hw := wsum_get wResult l h1
        have hwl : l[k].fIDs.length ≤ wResult l[k] := by unfold wResult; omega
        repeat' (with_reducible first | refine nY ?_ | (refine mX ?_; try simp only [go_sem, h1, hv]) | refine kO ?_ (by decide) | (refine And.intro ?_ ?_; focus omega))
        exact retK_ret ⟨⟨_, rfl, by simp only [go_sem, hq]⟩, trivial⟩
      · rw [if_neg hv] at hq
        repeat' (with_reducible first | refine nY ?_ | (refine mX ?_; try simp only [go_sem, h1, hv]) | refine kO ?_ (by decide) | (refine And.intro ?_ ?_; focus omega))
        refine L_next (k + 1) ?_ ?_ ?_
        · simp only [go_sem]; try simp
        · exact ⟨by omega, hq⟩
        · omega
    · simp only [decide_eq_false_iff_not] at h1
      have e : k = l.length := by omega
      subst e
      rw [List.drop_length] at hq
      have hn : res = [] := hq.symm
      subst hn
      repeat' (with_reducible first | refine nY ?_ | (refine mX ?_; try simp only [go_sem]) | refine kO ?_ (by decide) | (refine And.intro ?_ ?_; focus omega))
      exact retK_ret ⟨⟨_, rfl, by simp only [go_sem]⟩, trivial⟩
end Go.Proofs.YtgglopecipbbfaaGreat
