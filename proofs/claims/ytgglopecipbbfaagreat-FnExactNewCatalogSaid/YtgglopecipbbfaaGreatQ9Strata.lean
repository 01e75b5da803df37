/-
  Strata of the reference, IsStratified, IsValidSnapshot; the law.
-/
import Derived.Test.YtgglopecipbbfaaGreatQ8Spec
import Derived.Test.YtgglopecipbbfaaGreatH2
set_option linter.all false
set_option maxRecDepth 100000
set_option maxHeartbeats 4000000
namespace Go.Proofs.YtgglopecipbbfaaGreat
open Go Go.Sx Go.RowKit Go.Proofs

theorem take_eq_succ (A B : List Nat) (k : Nat) (hA : k < A.length) (hB : k < B.length) (h : A.take k = B.take k) (e : A[k] = B[k]) : A.take (k + 1) = B.take (k + 1) := by
  rw [List.take_succ_eq_append_getElem hA, List.take_succ_eq_append_getElem hB, h, e]
theorem ints_ok (A B : List Nat) (hA : A.length ≤ 4300000) (hB : B.length ≤ 4300000) : FnC Tryz.prog 85 [.o (.d (.sl (A.map encN))), .o (.d (.sl (B.map encN)))] (ob (decide (A = B))) := by
  refine ent Tryz.func85 rfl Tryz.call85 rfl (fun C => ?_); simp only [go_sem, st0, Tryz.ntmps85]
  by_cases hl : A.length = B.length
  · have hli : ((A.length : Nat) : Int) = ((B.length : Nat) : Int) := by omega
    repeat' (with_reducible first | refine nY ?_ | (refine mX ?_; try simp only [go_sem, hli, decide_true]) | refine kO ?_ (by decide) | refine regd (by kernel_rfl) ?_ | (refine And.intro ?_ ?_; focus omega))
    refine WP_lp (α := Nat) (fun k => [(5, oi k)]) (fun _ => []) (fun k => k ≤ A.length ∧ A.take k = B.take k) (fun k => A.length - k) 0 (fun _ => ?_) ?_ ?_ (fun k hk => ?_)
    · simp only [go_sem]
    · simp only [go_sem]; simp
    · simp
    · obtain ⟨hk, hq⟩ := hk
      simp only [go_sem]
      repeat' (with_reducible first | refine nY ?_ | (refine mX ?_; try simp only [go_sem]) | refine kO ?_ (by decide) | refine regd (by kernel_rfl) ?_ | (refine And.intro ?_ ?_; focus omega))
      refine cnd rfl (fun h => ?_) (fun h => ?_)
      · simp only [decide_eq_true_eq, Int.ofNat_lt] at h
        have h2 : k < B.length := by omega
        by_cases he : A[k] = B[k]
        · have hei : ((A[k] : Nat) : Int) = ((B[k] : Nat) : Int) := by omega
          repeat' (with_reducible first | refine nY ?_ | (refine mX ?_; try simp only [go_sem, h, h2, hei, decide_true]) | refine kO ?_ (by decide) | refine regd (by kernel_rfl) ?_ | (refine And.intro ?_ ?_; focus omega))
          refine L_next (k + 1) ?_ ?_ ?_
          · simp only [go_sem]; simp
          · exact ⟨by omega, take_eq_succ A B k h h2 hq he⟩
          · omega
        · have hei : ¬ ((A[k] : Nat) : Int) = ((B[k] : Nat) : Int) := by omega
          have hne : decide (A = B) = false := decide_eq_false fun e => he (by subst e; rfl)
          repeat' (with_reducible first | refine nY ?_ | (refine mX ?_; try simp only [go_sem, h, h2, hei, decide_false]) | refine kO ?_ (by decide) | refine regd (by kernel_rfl) ?_ | (refine And.intro ?_ ?_; focus omega))
          exact retK_ret ⟨⟨_, rfl, by simp only [go_sem, hne]⟩, trivial⟩
      · simp only [decide_eq_false_iff_not] at h
        have e : k = A.length := by omega
        subst e
        rw [List.take_length, hl, List.take_length] at hq
        have hy : decide (A = B) = true := decide_eq_true hq
        repeat' (with_reducible first | refine nY ?_ | (refine mX ?_; try simp only [go_sem]) | refine kO ?_ (by decide) | refine regd (by kernel_rfl) ?_ | (refine And.intro ?_ ?_; focus omega))
        exact retK_ret ⟨⟨_, rfl, by simp only [go_sem, hy]⟩, trivial⟩
  · have hli : ¬ ((A.length : Nat) : Int) = ((B.length : Nat) : Int) := by omega
    have hne : decide (A = B) = false := decide_eq_false fun e => hl (by rw [e])
    repeat' (with_reducible first | refine nY ?_ | (refine mX ?_; try simp only [go_sem, hli, decide_false]) | refine kO ?_ (by decide) | refine regd (by kernel_rfl) ?_ | (refine And.intro ?_ ?_; focus omega))
    exact retK_ret ⟨⟨_, rfl, by simp only [go_sem, hne]⟩, trivial⟩
theorem specStrata_ok (d : List TDir) (hd : wDirS d ≤ 4300000) : FnC Tryz.prog 79 [.o (.d (.sl (d.map encDir)))] (.t [(false, [.d (.sl ((resL d).map encN))]), (false, [.d (bv (resB d))])]) := by
  have hd0 : d.length + wsum wDir d ≤ 4300000 := hd
  refine ent Tryz.func79 rfl Tryz.call79 rfl (fun C => ?_); simp only [go_sem, st0, Tryz.ntmps79]
  cases hv : okDirs d
  · have e1 : resL d = [] := by simp [resL, hv]
    have e2 : resB d = false := by simp [resB, hv]
    repeat' (with_reducible first | refine nY ?_ | (refine mX ?_; try simp only [go_sem, hv]) | refine kO ?_ (by decide) | refine regd (by kernel_rfl) ?_ | (refine cC (specVDirs_ok d hd) ?_ ?_; focus simp only [go_sem, and_self]; done) | (refine And.intro ?_ ?_; focus omega))
    refine retK_sees (Sees.frz 0 rfl) ?_
    simp only [go_sem]
    exact retK_ret ⟨⟨_, rfl, by simp only [go_sem, e1, e2, List.map_nil]⟩, by simp [notOne]⟩
  have e1 : resL d = levs d.length (EE d) := by simp [resL, hv]
  have e2 : resB d = strat d.length (EE d) := by simp [resB, hv]
  have hl5 := okDirs_len hv
  have hsq : d.length * d.length ≤ 25 := Nat.mul_le_mul hl5 hl5
  have hmul : ((d.length : Nat) : Int) * ((d.length : Nat) : Int) = ((d.length * d.length : Nat) : Int) := by rw [Int.natCast_mul]
  have hends := upsN_ends (EE_edges d) (edgesA d) (fun x => Iff.rfl) (d.length * d.length + 2) (by omega)
  have hEl := edgesK_len d hv d.length
  have hEok : ∀ x ∈ edgesA d, x.1 < (List.replicate d.length 0).length ∧ x.2.2 ≤ 1 := fun x hx => by rw [List.length_replicate]; exact edgesK_ok d d.length x hx
  have hEl2 : (edgesA d).length ≤ 90 := by have : edgesA d = edgesK d d.length := rfl; rw [this]; omega
  have hbd := upsN_bound (edgesA d) (List.replicate d.length 0) hEok (fun j => lv_rep _ j)
  have hlen : ∀ r, (upsN (edgesA d) r (List.replicate d.length 0)).length = d.length := fun r => by rw [upsN_len]; simp
  generalize hN2 : d.length * d.length = N2 at *
  have hB : ∀ r, r ≤ N2 + 2 → ∀ j, lv (upsN (edgesA d) r (List.replicate d.length 0)) j ≤ 1000000 := fun r hr j => by
    have h1 := hbd r j
    have h2 : r * (edgesA d).length ≤ 27 * 90 := Nat.mul_le_mul (by omega) hEl2
    omega
  repeat' (with_reducible first | refine nY ?_ | (refine mX ?_; try simp only [go_sem, hv]) | refine kO ?_ (by decide) | refine regd (by kernel_rfl) ?_ | (refine cC (specVDirs_ok d hd) ?_ ?_; focus simp only [go_sem, and_self]; done) | (refine And.intro ?_ ?_; focus omega))
  refine WP_lp (α := Nat) (fun r => [(4, .o (.s 0)), (12, .o .u), (5, oi r)]) (fun r => [(0, .row 3 1 ((upsN (edgesA d) r (List.replicate d.length 0)).map encN) true)]) (fun r => r ≤ N2 + 2) (fun r => N2 + 2 - r) 0 (fun _ => ?_) ?_ ?_ (fun r hr => ?_)
  · simp only [go_sem]
  · simp only [go_sem]; simp [upsN, encN]
  · simp
  · simp only [go_sem]
    repeat' (with_reducible first | refine nY ?_ | (refine mX ?_; try simp only [go_sem, hmul]) | refine kO ?_ (by decide) | refine regd (by kernel_rfl) ?_ | (refine And.intro ?_ ?_; focus omega))
    refine cnd rfl (fun h => ?_) (fun h => ?_)
    · simp only [decide_eq_true_eq] at h
      repeat' (with_reducible first | refine nY ?_ | (refine mX ?_; try simp only [go_sem]) | refine kO ?_ (by decide) | refine regd (by kernel_rfl) ?_ | (refine cC (raise_ok d (upsN (edgesA d) r (List.replicate d.length 0)) hv hd (hlen r) (hB r hr)) ?_ ?_; focus simp only [go_sem, and_self]; done) | (refine And.intro ?_ ?_; focus omega))
      refine L_nexts [(0, 1)] (r + 1) (by simp only [go_sem]; rfl) ?_ ?_ ?_
      · simp only [go_sem, upsN]; simp
      · omega
      · omega
    · simp only [decide_eq_false_iff_not] at h
      have e : r = N2 + 2 := by omega
      subst e
      have hLl := hlen (N2 + 2)
      have hLB := hB (N2 + 2) (by omega)
      simp only at hends
      generalize upsN (edgesA d) (N2 + 2) (List.replicate d.length 0) = L at *
      have hUl : (ups (edgesA d) L).length = d.length := by rw [ups_len]; exact hLl
      by_cases hs : ups (edgesA d) L = L
      · rw [if_pos hs] at hends
        have f1 := levs_eq hends
        have f2 := strat_yes hends.clo
        have hy : decide (ups (edgesA d) L = L) = true := decide_eq_true hs
        repeat' (with_reducible first | refine nY ?_ | (refine mX ?_; try simp only [go_sem, hy]) | refine kO ?_ (by decide) | refine regd (by kernel_rfl) ?_ | (refine cC (raise_ok d L hv hd hLl hLB) ?_ ?_; focus simp only [go_sem, and_self]; done) | (refine cC (ints_ok (ups (edgesA d) L) L (by omega) (by omega)) ?_ ?_; focus simp only [go_sem, and_self]; done) | (refine And.intro ?_ ?_; focus omega))
        exact retK_ret ⟨⟨_, rfl, by simp only [go_sem, e1, e2, f1, f2]⟩, by simp [notOne]⟩
      · rw [if_neg hs] at hends
        have f1 := levs_no hends
        have f2 := strat_no hends
        have hy : decide (ups (edgesA d) L = L) = false := decide_eq_false hs
        repeat' (with_reducible first | refine nY ?_ | (refine mX ?_; try simp only [go_sem, hy]) | refine kO ?_ (by decide) | refine regd (by kernel_rfl) ?_ | (refine cC (raise_ok d L hv hd hLl hLB) ?_ ?_; focus simp only [go_sem, and_self]; done) | (refine cC (ints_ok (ups (edgesA d) L) L (by omega) (by omega)) ?_ ?_; focus simp only [go_sem, and_self]; done) | (refine And.intro ?_ ?_; focus omega))
        refine retK_sees (Sees.frz 2 rfl) ?_
        simp only [go_sem]
        exact retK_ret ⟨⟨_, rfl, by simp only [go_sem, e1, e2, f1, f2, List.map_nil]⟩, by simp [notOne]⟩
end Go.Proofs.YtgglopecipbbfaaGreat
