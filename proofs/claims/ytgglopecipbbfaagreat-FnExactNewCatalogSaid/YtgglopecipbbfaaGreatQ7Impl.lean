/-
  Strata of the program.
-/
import Derived.Test.YtgglopecipbbfaaGreatQ6Above
set_option linter.all false
set_option maxRecDepth 100000
set_option maxHeartbeats 4000000
namespace Go.Proofs.YtgglopecipbbfaaGreat
open Go Go.Sx Go.RowKit Go.Proofs

theorem okDirs_at {d : List TDir} (h : okDirs d = true) (i : Nat) (hi : i < d.length) : okQ d[i].fQuery = true := by
  unfold okDirs at h
  simp only [Bool.and_eq_true, List.all_eq_true, List.mem_range] at h
  have := h.1 i hi
  unfold okDirAt at this
  rw [List.getElem?_eq_getElem hi] at this
  simp only [Bool.and_eq_true] at this
  exact this.2.2
theorem okDirs_len {d : List TDir} (h : okDirs d = true) : d.length ≤ 5 := by
  unfold okDirs at h
  simp only [Bool.and_eq_true, decide_eq_true_eq] at h
  omega
theorem implPosd_ok (q : List TNode) (hq : okQ q = true) (hw : wNodeS q ≤ 4300000) : FnC Tryz.prog 241 [.o (.d (.sl (q.map encNode)))] (.o (.d (.sl ((onceS (depsL q false)).map encS)))) := (implPos_ok q hq hw).pu (by simp only [go_sem, and_self])
theorem implNegd_ok (q : List TNode) (hq : okQ q = true) (hw : wNodeS q ≤ 4300000) : FnC Tryz.prog 242 [.o (.d (.sl (q.map encNode)))] (.o (.d (.sl ((onceS (depsL q true)).map encS)))) := (implNegD_ok q hq hw).pu (by simp only [go_sem, and_self])
theorem above0_ok (d : List TDir) (L : List Nat) (names : List ByteArray) (hd : d.length ≤ 4300000) (hL : L.length = d.length) (hn : names.length ≤ 4300000) (hB : ∀ j, lv L j ≤ 1000000) : FnC Tryz.prog 240 [.o (.d (.sl (d.map encDir))), .o (.d (.sl (L.map encN))), .o (.d (.sl (names.map encS))), oi 0] (oi (abv d L 0 names 0 : Nat)) := above_ok d L 0 names hd hL hn hB (by omega)
theorem above1_ok (d : List TDir) (L : List Nat) (names : List ByteArray) (hd : d.length ≤ 4300000) (hL : L.length = d.length) (hn : names.length ≤ 4300000) (hB : ∀ j, lv L j ≤ 1000000) : FnC Tryz.prog 240 [.o (.d (.sl (d.map encDir))), .o (.d (.sl (L.map encN))), .o (.d (.sl (names.map encS))), oi 1] (oi (abv d L 1 names 0 : Nat)) := above_ok d L 1 names hd hL hn hB (by omega)
noncomputable def resL (d : List TDir) : List Nat := if okDirs d then levs d.length (EE d) else []
noncomputable def resB (d : List TDir) : Bool := if okDirs d then strat d.length (EE d) else false
theorem setN1 (L : List Nat) (i v : Nat) : (L.map encN).set i [D.v (Value.int .i64 (v : Int))] = (L.set i v).map encN := by rw [List.map_set]; rfl
structure Pass (d : List TDir) (L : List Nat) (i : Nat) (M : List Nat) (ch : Bool) : Prop where
  low : Low d M
  no : ch = false → M = L ∧ ∀ j, (hj : j < d.length) → j < i → leastOf d L d[j] ≤ lv L j
  yes : ch = true → sumN L < sumN M
theorem Pass.start {d : List TDir} {L : List Nat} (h : Low d L) : Pass d L 0 L false := ⟨h, fun _ => ⟨rfl, fun j _ hj => by omega⟩, fun h => by cases h⟩
theorem Pass.keep {d : List TDir} {L M : List Nat} {i : Nat} {ch : Bool} (h : Pass d L i M ch) (hi : i < d.length) (hle : ¬ leastOf d M d[i] > lv M i) : Pass d L (i + 1) M ch := by
  refine ⟨h.low, fun hc => ⟨(h.no hc).1, fun j hj hlt => ?_⟩, h.yes⟩
  by_cases e : j = i
  · subst e
    have := (h.no hc).1
    subst this
    omega
  · exact (h.no hc).2 j hj (by omega)
theorem Pass.set {d : List TDir} {L M : List Nat} {i : Nat} {ch : Bool} (h : Pass d L i M ch) (hi : i < d.length) (ho : ¬ leastOf d M d[i] > d.length) (hgt : leastOf d M d[i] > lv M i) : Pass d L (i + 1) (M.set i (leastOf d M d[i])) true := by
  have hl : i < M.length := by rw [h.low.len]; exact hi
  have hs := sumN_set M i (leastOf d M d[i]) hl
  refine ⟨h.low.set hi ho, fun hc => (by cases hc), fun _ => ?_⟩
  cases ch with
  | false =>
    have := (h.no rfl).1
    subst this
    omega
  | true =>
    have := h.yes rfl
    omega
theorem implStrata_ok (d : List TDir) (hd : wDirS d ≤ 4300000) : FnC Tryz.prog 162 [.o (.d (.sl (d.map encDir)))] (.t [(false, [.w 3 1 ((resL d).map encN)]), (false, [.d (bv (resB d))])]) := by
  have hd0 : d.length + wsum wDir d ≤ 4300000 := hd
  refine ent Tryz.func162 rfl Tryz.call162 rfl (fun C => ?_); simp only [go_sem, st0, Tryz.ntmps162]
  cases hv : okDirs d
  · have e1 : resL d = [] := by simp [resL, hv]
    have e2 : resB d = false := by simp [resB, hv]
    repeat' (with_reducible first | refine nY ?_ | (refine mX ?_; try simp only [go_sem, hv]) | refine kO ?_ (by decide) | refine regd (by kernel_rfl) ?_ | (refine cC (implVDirs_ok d hd) ?_ ?_; focus simp only [go_sem, and_self]; done) | (refine And.intro ?_ ?_; focus omega))
    exact retK_ret ⟨⟨_, rfl, by simp only [go_sem, e1, e2]⟩, by simp [notOne]⟩
  have e1 : resL d = levs d.length (EE d) := by simp [resL, hv]
  have e2 : resB d = strat d.length (EE d) := by simp [resB, hv]
  have hl5 := okDirs_len hv
  repeat' (with_reducible first | refine nY ?_ | (refine mX ?_; try simp only [go_sem, hv]) | refine kO ?_ (by decide) | refine regd (by kernel_rfl) ?_ | (refine cC (implVDirs_ok d hd) ?_ ?_; focus simp only [go_sem, and_self]; done) | (refine And.intro ?_ ?_; focus omega))
  refine WP_lp (α := List Nat × Bool) (fun x => [(5, ob x.2)]) (fun x => [(0, .row 3 1 (x.1.map encN) true)]) (fun x => Low d x.1 ∧ (x.2 = false → ∀ i, (hi : i < d.length) → leastOf d x.1 d[i] ≤ lv x.1 i)) (fun x => if x.2 then d.length * d.length - sumN x.1 + 1 else 0) (List.replicate d.length 0, true) (fun _ => ?_) ?_ ?_ (fun x hx => ?_)
  · simp only [go_sem]
  · simp only [go_sem]; simp [encN]
  · exact ⟨Low.start d, fun h => by cases h⟩
  · obtain ⟨L, ch⟩ := x
    obtain ⟨hlow, hdone⟩ := hx
    simp only at hlow hdone
    simp only [go_sem]
    repeat' (with_reducible first | refine nY ?_ | (refine mX ?_; try simp only [go_sem]) | refine kO ?_ (by decide) | refine regd (by kernel_rfl) ?_ | (refine And.intro ?_ ?_; focus omega))
    refine cnd rfl (fun h => ?_) (fun h => ?_)
    · subst h
      repeat' (with_reducible first | refine nY ?_ | (refine mX ?_; try simp only [go_sem]) | refine kO ?_ (by decide) | refine regd (by kernel_rfl) ?_ | (refine And.intro ?_ ?_; focus omega))
      refine WP_lp (α := Nat × List Nat × Bool) (fun x => [(5, ob x.2.2), (18, oi x.1)]) (fun x => [(0, .row 3 1 (x.2.1.map encN) true)]) (fun x => x.1 ≤ d.length ∧ Pass d L x.1 x.2.1 x.2.2) (fun x => d.length - x.1) (0, L, false) (fun _ => ?_) ?_ ?_ (fun x hx => ?_)
      · simp only [go_sem]
      · simp only [go_sem]; simp
      · exact ⟨by simp, Pass.start hlow⟩
      · obtain ⟨i, M, c⟩ := x
        obtain ⟨hi, hp⟩ := hx
        simp only at hi hp
        simp only [go_sem]
        repeat' (with_reducible first | refine nY ?_ | (refine mX ?_; try simp only [go_sem]) | refine kO ?_ (by decide) | refine regd (by kernel_rfl) ?_ | (refine And.intro ?_ ?_; focus omega))
        refine cnd rfl (fun h => ?_) (fun h => ?_)
        · simp only [decide_eq_true_eq, Int.ofNat_lt] at h
          have hq := okDirs_at hv i h
          have hq9 := okQ_len hq
          have hwd := wsum_get wDir d h
          have hwq : wNodeS d[i].fQuery ≤ wDir d[i] := by unfold wDir; omega
          have hML : M.length = d.length := hp.low.len
          have hiM : i < M.length := by omega
          have hB : ∀ j, lv M j ≤ 1000000 := fun j => by have := hp.low.small j; omega
          have ho1 := onceS_len (depsL d[i].fQuery false)
          have ho2 := onceS_len (depsL d[i].fQuery true)
          have ho3 := depsK_len d[i].fQuery false d[i].fQuery.length
          have ho4 := depsK_len d[i].fQuery true d[i].fQuery.length
          have hk1 : (onceS (depsL d[i].fQuery false)).length ≤ 4300000 := by unfold depsL at ho1 ⊢; omega
          have hk2 : (onceS (depsL d[i].fQuery true)).length ≤ 4300000 := by unfold depsL at ho2 ⊢; omega
          have hmx : mxI (abv d M 0 (onceS (depsL d[i].fQuery false)) 0 : Nat) (abv d M 1 (onceS (depsL d[i].fQuery true)) 0 : Nat) = ((leastOf d M d[i] : Nat) : Int) := by
            rw [mxI_nat]; rfl
          have hg := lv_get M i hiM
          repeat' (with_reducible first | refine nY ?_ | (refine mX ?_; try simp only [go_sem, h, hmx]) | refine kO ?_ (by decide) | refine regd (by kernel_rfl) ?_ | (refine cC (implPosd_ok d[i].fQuery hq (by omega)) ?_ ?_; focus simp only [go_sem, and_self]; done) | (refine cC (implNegd_ok d[i].fQuery hq (by omega)) ?_ ?_; focus simp only [go_sem, and_self]; done) | (refine calo (above0_ok d M (onceS (depsL d[i].fQuery false)) (by omega) hML hk1 hB) ?_ ?_ ?_ (uX ?_); (focus simp only [go_sem, h, hmx]; done); (focus simp only [go_sem, h, hmx]; done); (focus simp only [go_sem, h, hmx]; done)) | (refine caldo (above0_ok d M (onceS (depsL d[i].fQuery false)) (by omega) hML hk1 hB) ?_ ?_ ?_ ?_ (uX ?_); (focus simp only [go_sem, h, hmx]; done); (focus simp only [go_sem, h, hmx]; done); (focus simp only [go_sem, h, hmx]; done); (focus simp only [go_sem, h, hmx]; done)) | (refine calo (above1_ok d M (onceS (depsL d[i].fQuery true)) (by omega) hML hk2 hB) ?_ ?_ ?_ (uX ?_); (focus simp only [go_sem, h, hmx]; done); (focus simp only [go_sem, h, hmx]; done); (focus simp only [go_sem, h, hmx]; done)) | (refine caldo (above1_ok d M (onceS (depsL d[i].fQuery true)) (by omega) hML hk2 hB) ?_ ?_ ?_ ?_ (uX ?_); (focus simp only [go_sem, h, hmx]; done); (focus simp only [go_sem, h, hmx]; done); (focus simp only [go_sem, h, hmx]; done); (focus simp only [go_sem, h, hmx]; done)) | (refine And.intro ?_ ?_; focus omega))
          refine cnd rfl (fun ho => ?_) (fun ho => ?_)
          · simp only [decide_eq_true_eq, Int.ofNat_lt] at ho
            have hno := hp.low.over h ho
            have f1 := levs_no hno
            have f2 := strat_no hno
            repeat' (with_reducible first | refine nY ?_ | (refine mX ?_; try simp only [go_sem]) | refine kO ?_ (by decide) | refine regd (by kernel_rfl) ?_ | (refine And.intro ?_ ?_; focus omega))
            exact retK_ret ⟨⟨_, rfl, by simp only [go_sem, e1, e2, f1, f2]⟩, by simp [notOne]⟩
          · simp only [decide_eq_false_iff_not, Int.ofNat_lt] at ho
            repeat' (with_reducible first | refine nY ?_ | (refine mX ?_; try simp only [go_sem, h, hiM, hg]) | refine kO ?_ (by decide) | refine regd (by kernel_rfl) ?_ | (refine And.intro ?_ ?_; focus omega))
            refine cnd rfl (fun hgt => ?_) (fun hgt => ?_)
            · simp only [decide_eq_true_eq, Int.ofNat_lt] at hgt
              repeat' (with_reducible first | refine nY ?_ | (refine mX ?_; try simp only [go_sem, h, hiM, hg]) | refine kO ?_ (by decide) | refine regd (by kernel_rfl) ?_ | (refine And.intro ?_ ?_; focus omega))
              refine L_next (i + 1, M.set i (leastOf d M d[i]), true) ?_ ?_ ?_
              · simp only [go_sem, ← setN1]; simp
              · exact ⟨by simp only; omega, hp.set h ho hgt⟩
              · simp only; omega
            · simp only [decide_eq_false_iff_not, Int.ofNat_lt] at hgt
              repeat' (with_reducible first | refine nY ?_ | (refine mX ?_; try simp only [go_sem, h, hiM, hg]) | refine kO ?_ (by decide) | refine regd (by kernel_rfl) ?_ | (refine And.intro ?_ ?_; focus omega))
              refine L_next (i + 1, M, c) ?_ ?_ ?_
              · simp only [go_sem]; simp
              · exact ⟨by simp only; omega, hp.keep h hgt⟩
              · simp only; omega
        · simp only [decide_eq_false_iff_not] at h
          have e : i = d.length := by omega
          subst e
          repeat' (with_reducible first | refine nY ?_ | (refine mX ?_; try simp only [go_sem]) | refine kO ?_ (by decide) | refine regd (by kernel_rfl) ?_ | (refine And.intro ?_ ?_; focus omega))
          refine L_next (M, c) ?_ ?_ ?_
          · simp only [go_sem]; simp
          · exact ⟨hp.low, fun hc i hi => by
              simp only at hc
              obtain ⟨h1, h2⟩ := hp.no hc
              subst h1
              exact h2 i hi hi⟩
          · have hs := hp.low.sum
            simp only
            cases c with
            | false => simp
            | true =>
              have := hp.yes rfl
              simp only [if_true]
              omega
    · subst h
      have hL := hlow.done (hdone rfl)
      have f1 := levs_eq hL
      have f2 := strat_yes hL.clo
      repeat' (with_reducible first | refine nY ?_ | (refine mX ?_; try simp only [go_sem]) | refine kO ?_ (by decide) | refine regd (by kernel_rfl) ?_ | (refine And.intro ?_ ?_; focus omega))
      exact retK_ret ⟨⟨_, rfl, by simp only [go_sem, e1, e2, f1, f2]⟩, by simp [notOne]⟩
end Go.Proofs.YtgglopecipbbfaaGreat
