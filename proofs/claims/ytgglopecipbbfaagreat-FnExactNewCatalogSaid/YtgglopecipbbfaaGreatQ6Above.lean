/-
  dirAt, l11Place, strataAbove.
-/
import Derived.Test.YtgglopecipbbfaaGreatQ5Plain
import Derived.Test.YtgglopecipbbfaaGreatK1Lib
set_option linter.all false
set_option maxRecDepth 100000
set_option maxHeartbeats 4000000
namespace Go.Proofs.YtgglopecipbbfaaGreat
open Go Go.Sx Go.RowKit Go.Proofs

@[go_sem] def encN (n : Nat) : List D := [iv (n : Int)]
theorem dirAtF_ok (nm : ByteArray) (x : TDir) : FnC Tryz.prog 267 [gDir x, .o (.q [sv nm])] (ob (decide (x.fName = nm))) := by
  refine ent Tryz.func267 rfl Tryz.call267 rfl (fun C => ?_); simp only [go_sem, st0, Tryz.ntmps267]
  repeat' (with_reducible first | refine nY ?_ | (refine mX ?_; try simp only [go_sem]) | refine kO ?_ (by decide) | refine regd (by kernel_rfl) ?_ | (refine And.intro ?_ ?_; focus omega))
  exact retK_ret ⟨⟨_, rfl, by simp only [go_sem]⟩, trivial⟩
theorem dirAt_ok (d : List TDir) (nm : ByteArray) (hl : d.length ≤ 4300000) : FnC Tryz.prog 198 [.o (.d (.sl (d.map encDir))), os nm] (oi (placeD d nm)) := by
  refine ent Tryz.func198 rfl Tryz.call198 rfl (fun C => ?_); simp only [go_sem, st0, Tryz.ntmps198]
  repeat' (with_reducible first | refine nY ?_ | (refine mX ?_; try simp only [go_sem]) | refine kO ?_ (by decide) | refine regd (by kernel_rfl) ?_ | (refine cC (indexFuncDir_ok _ _ (fun x => decide (x.fName = nm)) d (fun y _ => dirAtF_ok nm y) (by omega)) ?_ ?_; focus simp only [go_sem, and_self]; done) | (refine And.intro ?_ ?_; focus omega))
  exact retK_ret ⟨⟨_, rfl, by simp only [go_sem, placeD]⟩, trivial⟩
theorem l11Place_ok (d : List TDir) (nm : ByteArray) (hl : d.length ≤ 4300000) : FnC Tryz.prog 235 [.o (.d (.sl (d.map encDir))), os nm] (oi (placeD d nm)) := by
  refine ent Tryz.func235 rfl Tryz.call235 rfl (fun C => ?_); simp only [go_sem, st0, Tryz.ntmps235]
  repeat' (with_reducible first | refine nY ?_ | (refine mX ?_; try simp only [go_sem]) | refine kO ?_ (by decide) | refine regd (by kernel_rfl) ?_ | (refine And.intro ?_ ?_; focus omega))
  refine WP_lp (α := Nat) (fun k => [(5, oi k)]) (fun _ => []) (fun k => k ≤ d.length ∧ placeD d nm = idxP (fun x => decide (x.fName = nm)) (d.drop k) k) (fun k => d.length - k) 0 (fun _ => ?_) ?_ ?_ (fun k hk => ?_)
  · simp only [go_sem]
  · simp only [go_sem]; simp
  · simp [placeD]
  · obtain ⟨hk, hq⟩ := hk
    simp only [go_sem]
    repeat' (with_reducible first | refine nY ?_ | (refine mX ?_; try simp only [go_sem]) | refine kO ?_ (by decide) | refine regd (by kernel_rfl) ?_ | (refine And.intro ?_ ?_; focus omega))
    refine cnd rfl (fun h => ?_) (fun h => ?_)
    · simp only [decide_eq_true_eq, Int.ofNat_lt] at h
      have hd := List.drop_eq_getElem_cons h
      rw [hd, idxP] at hq
      by_cases h2 : d[k].fName = nm
      · rw [if_pos (by simp [h2])] at hq
        repeat' (with_reducible first | refine nY ?_ | (refine mX ?_; try simp only [go_sem, h, h2, decide_true]) | refine kO ?_ (by decide) | refine regd (by kernel_rfl) ?_ | (refine And.intro ?_ ?_; focus omega))
        exact retK_ret ⟨⟨_, rfl, by simp only [go_sem, hq]⟩, trivial⟩
      · rw [if_neg (by simp [h2])] at hq
        repeat' (with_reducible first | refine nY ?_ | (refine mX ?_; try simp only [go_sem, h, h2, decide_false]) | refine kO ?_ (by decide) | refine regd (by kernel_rfl) ?_ | (refine And.intro ?_ ?_; focus omega))
        refine L_next (k + 1) ?_ ?_ ?_
        · simp only [go_sem]; simp
        · rw [hq]; exact ⟨h, by simp⟩
        · omega
    · simp only [decide_eq_false_iff_not] at h
      have e : k = d.length := by omega
      subst e
      simp only [List.drop_length, idxP] at hq
      repeat' (with_reducible first | refine nY ?_ | (refine mX ?_; try simp only [go_sem]) | refine kO ?_ (by decide) | refine regd (by kernel_rfl) ?_ | (refine And.intro ?_ ?_; focus omega))
      exact retK_ret ⟨⟨_, rfl, by simp only [go_sem, hq]⟩, trivial⟩
theorem lv_get (L : List Nat) (i : Nat) (h : i < L.length) : L[i] = lv L i := by simp [lv, List.getD_eq_getElem?_getD, h]
def mxN (a b : Nat) : Nat := if b > a then b else a
theorem mxI_nat (a b : Nat) : mxI (a : Int) (b : Int) = ((mxN a b : Nat) : Int) := by
  unfold mxI mxN
  split <;> split <;> omega
theorem above_ok (d : List TDir) (L : List Nat) (w : Nat) (names : List ByteArray) (hd : d.length ≤ 4300000) (hL : L.length = d.length) (hn : names.length ≤ 4300000) (hB : ∀ j, lv L j ≤ 1000000) (hw : w ≤ 1) : FnC Tryz.prog 240 [.o (.d (.sl (d.map encDir))), .o (.d (.sl (L.map encN))), .o (.d (.sl (names.map encS))), oi (w : Nat)] (oi (abv d L w names 0 : Nat)) := by
  refine ent Tryz.func240 rfl Tryz.call240 rfl (fun C => ?_); simp only [go_sem, st0, Tryz.ntmps240]
  repeat' (with_reducible first | refine nY ?_ | (refine mX ?_; try simp only [go_sem]) | refine kO ?_ (by decide) | refine regd (by kernel_rfl) ?_ | (refine And.intro ?_ ?_; focus omega))
  refine WP_lp (α := Nat × Nat) (fun x => [(9, oi (x.2 : Nat)), (15, oi x.1)]) (fun _ => []) (fun x => x.1 ≤ names.length ∧ abv d L w names 0 = abv d L w (names.drop x.1) x.2 ∧ x.2 ≤ 1000001) (fun x => names.length - x.1) (0, 0) (fun _ => ?_) ?_ ?_ (fun x hx => ?_)
  · simp only [go_sem]
  · simp only [go_sem]; simp
  · simp
  · obtain ⟨k, m⟩ := x
    obtain ⟨hk, hq, hm⟩ := hx
    simp only at hk hq hm
    simp only [go_sem]
    repeat' (with_reducible first | refine nY ?_ | (refine mX ?_; try simp only [go_sem]) | refine kO ?_ (by decide) | refine regd (by kernel_rfl) ?_ | (refine And.intro ?_ ?_; focus omega))
    refine cnd rfl (fun h => ?_) (fun h => ?_)
    · simp only [decide_eq_true_eq, Int.ofNat_lt] at h
      rw [abv_drop d L w names k m h] at hq
      rcases placeD_cases d names[k] with hp | ⟨p, hp, hpl⟩
      · rw [if_neg (by omega)] at hq
        repeat' (with_reducible first | refine nY ?_ | (refine mX ?_; try simp only [go_sem, h, hp, decide_true, decide_false]) | refine kO ?_ (by decide) | refine regd (by kernel_rfl) ?_ | (refine cC (dirAt_ok d names[k] hd) ?_ ?_; focus simp only [go_sem, and_self]; done) | (refine And.intro ?_ ?_; focus omega))
        refine L_next (k + 1, m) ?_ ?_ ?_
        · simp only [go_sem]; simp
        · exact ⟨by simp only; omega, hq, hm⟩
        · simp only; omega
      · have hpL : p < L.length := by omega
        have hb := hB p
        have hg := lv_get L p hpL
        have hge : (0 : Int) ≤ (p : Int) := by omega
        have hs : ((lv L p : Nat) : Int) + (w : Int) = ((lv L p + w : Nat) : Int) := by omega
        have hmx := mxI_nat m (lv L p + w)
        rw [if_pos (by omega), hp, Int.toNat_natCast] at hq
        repeat' (with_reducible first | refine nY ?_ | (refine mX ?_; try simp only [go_sem, h, hp, hge, hpL, hg, hs, hmx, decide_true, decide_false, Int.toNat_natCast]) | refine kO ?_ (by decide) | refine regd (by kernel_rfl) ?_ | (refine cC (dirAt_ok d names[k] hd) ?_ ?_; focus simp only [go_sem, and_self]; done) | (refine And.intro ?_ ?_; focus omega))
        refine L_next (k + 1, mxN m (lv L p + w)) ?_ ?_ ?_
        · simp only [go_sem]; simp
        · exact ⟨by simp only; omega, hq, by simp only [mxN]; split <;> omega⟩
        · simp only; omega
    · simp only [decide_eq_false_iff_not] at h
      have e : k = names.length := by omega
      subst e
      rw [List.drop_length, abv] at hq
      repeat' (with_reducible first | refine nY ?_ | (refine mX ?_; try simp only [go_sem]) | refine kO ?_ (by decide) | refine regd (by kernel_rfl) ?_ | (refine And.intro ?_ ?_; focus omega))
      exact retK_ret ⟨⟨_, rfl, by simp only [go_sem, hq]⟩, trivial⟩
end Go.Proofs.YtgglopecipbbfaaGreat
