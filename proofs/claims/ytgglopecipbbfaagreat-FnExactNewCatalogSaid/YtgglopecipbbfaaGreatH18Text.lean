/-
  Texts and values: IsValidString, IsValidAttrName, IsValidValue.
-/
import Derived.Test.YtgglopecipbbfaaGreatH2
set_option linter.all false
set_option maxRecDepth 100000
set_option maxHeartbeats 4000000
namespace Go.Proofs.YtgglopecipbbfaaGreat
open Go Go.Sx Go.RowKit Go.Proofs

def low (s : ByteArray) (k : Nat) : Bool := inB (byteAt s k) 97 122
def allLow (s : ByteArray) : Bool := (List.range s.size).all (low s)
def isText (s : ByteArray) (n : Int) : Bool := allLow s && inB s.size 1 n
theorem l02Text_ok (s : ByteArray) (n : Int) (hs : s.size ≤ 4300000) : FnC Tryz.prog 283 [os s, oi n] (ob (isText s n)) := by
  refine ent Tryz.func283 rfl Tryz.call283 rfl (fun C => ?_); simp only [go_sem, st0, Tryz.ntmps283]
  repeat' (with_reducible first | refine nY ?_ | (refine mX ?_; try simp only [go_sem]) | refine kO ?_ (by decide) | (refine And.intro ?_ ?_; focus omega))
  refine WP_lp (α := Nat) (fun k => [(5, oi k)]) (fun _ => []) (fun k => k ≤ s.size ∧ allLow s = ((List.range s.size).drop k).all (low s)) (fun k => s.size - k) 0 (fun _ => ?_) ?_ ?_ (fun k hk => ?_)
  · simp only [go_sem]
  · simp only [go_sem]; simp
  · simp [allLow]
  · obtain ⟨hk, hq⟩ := hk
    simp only [go_sem]
    repeat' (with_reducible first | refine nY ?_ | (refine mX ?_; try simp only [go_sem]) | refine kO ?_ (by decide) | (refine And.intro ?_ ?_; focus omega))
    refine cnd rfl (fun h => ?_) (fun h => ?_)
    · simp only [decide_eq_true_eq, Int.ofNat_lt] at h
      have h' : k < (List.range s.size).length := by simpa using h
      have hd := List.drop_eq_getElem_cons h'
      rw [hd, List.all_cons, List.getElem_range] at hq
      have hb := byteAt_le s k
      by_cases h1 : byteAt s k < 97
      · have hf : allLow s = false := by rw [hq]; simp [low, inB]; omega
        repeat' (with_reducible first | refine nY ?_ | (refine mX ?_; try simp only [go_sem, h, h1]) | refine kO ?_ (by decide) | (refine And.intro ?_ ?_; focus omega))
        exact retK_ret ⟨⟨_, rfl, by simp only [go_sem, isText, hf, Bool.false_and]⟩, trivial⟩
      by_cases h2 : 122 < byteAt s k
      · have hf : allLow s = false := by rw [hq]; simp [low, inB]; omega
        repeat' (with_reducible first | refine nY ?_ | (refine mX ?_; try simp only [go_sem, h, h1, h2, decide_false]) | refine kO ?_ (by decide) | (refine And.intro ?_ ?_; focus omega))
        exact retK_ret ⟨⟨_, rfl, by simp only [go_sem, isText, hf, Bool.false_and]⟩, trivial⟩
      · repeat' (with_reducible first | refine nY ?_ | (refine mX ?_; try simp only [go_sem, h, h1, h2, decide_false]) | refine kO ?_ (by decide) | (refine And.intro ?_ ?_; focus omega))
        refine L_next (k + 1) ?_ ?_ ?_
        · simp only [go_sem]; simp
        · refine ⟨h, ?_⟩
          have hl : low s k = true := by simp [low, inB]; omega
          rw [hq, hl]; simp
        · omega
    · simp only [decide_eq_false_iff_not] at h
      have e : k = s.size := by omega
      have hq' : allLow s = true := by
        rw [hq, List.drop_of_length_le (by simp [e])]; rfl
      repeat' (with_reducible first | refine nY ?_ | (refine mX ?_; try simp only [go_sem]) | refine kO ?_ (by decide) | (refine cC (l01In_ok s.size 1 n) ?_ ?_; focus simp only [go_sem, and_self]; done) | (refine And.intro ?_ ?_; focus omega))
      refine retK_ret ⟨⟨_, rfl, ?_⟩, ?_⟩
      · simp only [go_sem, isText, hq']
      · trivial

theorem specIsValidAttrName_ok (s : ByteArray) (hs : s.size ≤ 4300000) : FnC Tryz.prog 238 [os s] (ob (isText s 1)) := by
  refine ent Tryz.func238 rfl Tryz.call238 rfl (fun C => ?_); simp only [go_sem, st0, Tryz.ntmps238]
  repeat' (with_reducible first | refine nY ?_ | (refine mX ?_; try simp only [go_sem]) | refine kO ?_ (by decide) | (refine cC (l02Text_ok s 1 hs) ?_ ?_; focus simp only [go_sem, and_self]; done) | (refine And.intro ?_ ?_; focus omega))
  refine retK_ret ⟨⟨_, rfl, ?_⟩, ?_⟩
  · simp only [go_sem]
  · trivial
theorem isText1 (s : ByteArray) : isText s 1 = (decide ((s.size : Int) = 1) && low s 0) := by
  unfold isText allLow inB
  rcases Nat.lt_trichotomy s.size 1 with h | h | h
  · have : s.size = 0 := by omega
    simp [this]
  · simp [h, List.range_succ]
  · have h1 : ¬ ((s.size : Int) ≤ 1) := by omega
    have h2 : ¬ ((s.size : Int) = 1) := by omega
    simp [h1, h2]
theorem implIsValidAttrName_ok (s : ByteArray) : FnC Tryz.prog 291 [os s] (ob (isText s 1)) := by
  rw [isText1]
  refine ent Tryz.func291 rfl Tryz.call291 rfl (fun C => ?_); simp only [go_sem, st0, Tryz.ntmps291]
  by_cases h0 : (s.size : Int) = 1
  · have h0' : 0 < s.size := by omega
    by_cases h1 : 97 ≤ byteAt s 0 <;> by_cases h2 : byteAt s 0 ≤ 122
    all_goals
      repeat' (with_reducible first | refine nY ?_ | (refine mX ?_; try simp only [go_sem, h0, h0', h1, h2, decide_false, Int.toNat_zero, Int.le_refl]) | refine kO ?_ (by decide) | (refine And.intro ?_ ?_; focus omega))
      refine retK_ret ⟨⟨_, rfl, ?_⟩, ?_⟩
      · simp only [go_sem]; simp [h0, h1, h2, low, inB]
      · trivial
  · repeat' (with_reducible first | refine nY ?_ | (refine mX ?_; try simp only [go_sem, h0, decide_false]) | refine kO ?_ (by decide) | (refine And.intro ?_ ?_; focus omega))
    refine retK_ret ⟨⟨_, rfl, ?_⟩, ?_⟩
    · simp only [go_sem]; simp [h0]
    · trivial

theorem specIsValidString_ok (s : ByteArray) (hs : s.size ≤ 4300000) : FnC Tryz.prog 232 [os s] (ob (isText s 6)) := by
  refine ent Tryz.func232 rfl Tryz.call232 rfl (fun C => ?_); simp only [go_sem, st0, Tryz.ntmps232]
  repeat' (with_reducible first | refine nY ?_ | (refine mX ?_; try simp only [go_sem]) | refine kO ?_ (by decide) | (refine cC (l02Text_ok s 6 hs) ?_ ?_; focus simp only [go_sem, and_self]; done) | (refine And.intro ?_ ?_; focus omega))
  exact retK_ret ⟨⟨_, rfl, by simp only [go_sem]⟩, trivial⟩
theorem implIsValidString_ok (s : ByteArray) (hs : s.size ≤ 4300000) : FnC Tryz.prog 270 [os s] (ob (isText s 6)) := by
  refine ent Tryz.func270 rfl Tryz.call270 rfl (fun C => ?_); simp only [go_sem, st0, Tryz.ntmps270]
  repeat' (with_reducible first | refine nY ?_ | (refine mX ?_; try simp only [go_sem]) | refine kO ?_ (by decide) | (refine And.intro ?_ ?_; focus omega))
  refine WP_lp (α := Nat) (fun k => [(6, oi k)]) (fun _ => []) (fun k => k ≤ s.size ∧ allLow s = ((List.range s.size).drop k).all (low s)) (fun k => s.size - k) 0 (fun _ => ?_) ?_ ?_ (fun k hk => ?_)
  · simp only [go_sem]
  · simp only [go_sem]; simp
  · simp [allLow]
  · obtain ⟨hk, hq⟩ := hk
    simp only [go_sem]
    repeat' (with_reducible first | refine nY ?_ | (refine mX ?_; try simp only [go_sem]) | refine kO ?_ (by decide) | (refine And.intro ?_ ?_; focus omega))
    refine cnd rfl (fun h => ?_) (fun h => ?_)
    · simp only [decide_eq_true_eq, Int.ofNat_lt] at h
      have h' : k < (List.range s.size).length := by simpa using h
      have hd := List.drop_eq_getElem_cons h'
      rw [hd, List.all_cons, List.getElem_range] at hq
      have hb := byteAt_le s k
      by_cases h1 : byteAt s k < 97
      · have hf : allLow s = false := by rw [hq]; simp [low, inB]; omega
        repeat' (with_reducible first | refine nY ?_ | (refine mX ?_; try simp only [go_sem, h, h1]) | refine kO ?_ (by decide) | (refine And.intro ?_ ?_; focus omega))
        exact retK_ret ⟨⟨_, rfl, by simp only [go_sem, isText, hf, Bool.false_and]⟩, trivial⟩
      by_cases h2 : 122 < byteAt s k
      · have hf : allLow s = false := by rw [hq]; simp [low, inB]; omega
        repeat' (with_reducible first | refine nY ?_ | (refine mX ?_; try simp only [go_sem, h, h1, h2, decide_false]) | refine kO ?_ (by decide) | (refine And.intro ?_ ?_; focus omega))
        exact retK_ret ⟨⟨_, rfl, by simp only [go_sem, isText, hf, Bool.false_and]⟩, trivial⟩
      · repeat' (with_reducible first | refine nY ?_ | (refine mX ?_; try simp only [go_sem, h, h1, h2, decide_false]) | refine kO ?_ (by decide) | (refine And.intro ?_ ?_; focus omega))
        refine L_next (k + 1) ?_ ?_ ?_
        · simp only [go_sem]; simp
        · refine ⟨h, ?_⟩
          have hl : low s k = true := by simp [low, inB]; omega
          rw [hq, hl]; simp
        · omega
    · simp only [decide_eq_false_iff_not] at h
      have e : k = s.size := by omega
      have hq' : allLow s = true := by
        rw [hq, List.drop_of_length_le (by simp [e])]; rfl
      repeat' (with_reducible first | refine nY ?_ | (refine mX ?_; try simp only [go_sem]) | refine kO ?_ (by decide) | (refine cC (within_ok s.size 1 6) ?_ ?_; focus simp only [go_sem, and_self]; done) | (refine And.intro ?_ ?_; focus omega))
      refine retK_ret ⟨⟨_, rfl, ?_⟩, ?_⟩
      · simp only [go_sem, isText, hq']
      · trivial
def okVal (v : TValue) : Bool :=
  if v.fKind = 0 then decide (v.fInt = 0) && decide (v.fStr = ⟨#[]⟩)
  else if v.fKind = 1 then inB v.fInt 0 999 && decide (v.fStr = ⟨#[]⟩)
  else if v.fKind = 2 then isText v.fStr 6 && decide (v.fInt = 0) else false
theorem implIsValidValue_ok (v : TValue) (hs : v.fStr.size ≤ 4300000) : FnC Tryz.prog 293 [gValue v] (ob (okVal v)) := by
  refine ent Tryz.func293 rfl Tryz.call293 rfl (fun C => ?_); simp only [go_sem, st0, Tryz.ntmps293]
  by_cases h0 : v.fKind = 0
  · repeat' (with_reducible first | refine nY ?_ | (refine mX ?_; try simp only [go_sem, h0, decide_true]) | refine kO ?_ (by decide) | (refine And.intro ?_ ?_; focus omega))
    exact retK_ret ⟨⟨_, rfl, by simp only [go_sem, okVal, h0, if_true, decide_true, Bool.true_and]⟩, trivial⟩
  by_cases h1 : v.fKind = 1
  · cases hb : inB v.fInt 0 999
    · repeat' (with_reducible first | refine nY ?_ | (refine mX ?_; try simp only [go_sem, h0, h1, decide_true, decide_false, hb]) | refine kO ?_ (by decide) | (refine cC (within_ok v.fInt 0 999) ?_ ?_; focus simp only [go_sem, and_self]; done) | (refine And.intro ?_ ?_; focus omega))
      exact retK_ret ⟨⟨_, rfl, by simp only [go_sem, okVal, h0, h1, hb, if_true, if_false, Bool.false_and]⟩, trivial⟩
    · repeat' (with_reducible first | refine nY ?_ | (refine mX ?_; try simp only [go_sem, h0, h1, decide_true, decide_false, hb]) | refine kO ?_ (by decide) | (refine cC (within_ok v.fInt 0 999) ?_ ?_; focus simp only [go_sem, and_self]; done) | (refine And.intro ?_ ?_; focus omega))
      exact retK_ret ⟨⟨_, rfl, by simp only [go_sem, okVal, h0, h1, hb, if_true, if_false, Bool.true_and]⟩, trivial⟩
  by_cases h2 : v.fKind = 2
  · cases hb : isText v.fStr 6
    · repeat' (with_reducible first | refine nY ?_ | (refine mX ?_; try simp only [go_sem, h0, h1, h2, decide_true, decide_false, hb]) | refine kO ?_ (by decide) | (refine cC (implIsValidString_ok v.fStr hs) ?_ ?_; focus simp only [go_sem, and_self]; done) | (refine And.intro ?_ ?_; focus omega))
      exact retK_ret ⟨⟨_, rfl, by simp only [go_sem, okVal, h0, h1, h2, hb, if_true, if_false, Bool.false_and]⟩, trivial⟩
    · repeat' (with_reducible first | refine nY ?_ | (refine mX ?_; try simp only [go_sem, h0, h1, h2, decide_true, decide_false, hb]) | refine kO ?_ (by decide) | (refine cC (implIsValidString_ok v.fStr hs) ?_ ?_; focus simp only [go_sem, and_self]; done) | (refine And.intro ?_ ?_; focus omega))
      exact retK_ret ⟨⟨_, rfl, by simp only [go_sem, okVal, h0, h1, h2, hb, if_true, if_false, Bool.true_and]⟩, trivial⟩
  · repeat' (with_reducible first | refine nY ?_ | (refine mX ?_; try simp only [go_sem, h0, h1, h2, decide_false]) | refine kO ?_ (by decide) | (refine And.intro ?_ ?_; focus omega))
    exact retK_ret ⟨⟨_, rfl, by simp only [go_sem, okVal, h0, h1, h2, if_false]⟩, trivial⟩
theorem specIsValidValue_ok (v : TValue) (hs : v.fStr.size ≤ 4300000) : FnC Tryz.prog 287 [gValue v] (ob (okVal v)) := by
  refine ent Tryz.func287 rfl Tryz.call287 rfl (fun C => ?_); simp only [go_sem, st0, Tryz.ntmps287]
  by_cases h0 : v.fKind = 0
  · repeat' (with_reducible first | refine nY ?_ | (refine mX ?_; try simp only [go_sem, h0, decide_true]) | refine kO ?_ (by decide) | (refine And.intro ?_ ?_; focus omega))
    exact retK_ret ⟨⟨_, rfl, by simp only [go_sem, okVal, h0, if_true, decide_true, Bool.true_and]⟩, trivial⟩
  by_cases h1 : v.fKind = 1
  · cases hb : inB v.fInt 0 999
    · repeat' (with_reducible first | refine nY ?_ | (refine mX ?_; try simp only [go_sem, h0, h1, decide_true, decide_false, hb]) | refine kO ?_ (by decide) | (refine cC (l01In_ok v.fInt 0 999) ?_ ?_; focus simp only [go_sem, and_self]; done) | (refine And.intro ?_ ?_; focus omega))
      exact retK_ret ⟨⟨_, rfl, by simp only [go_sem, okVal, h0, h1, hb, if_true, if_false, Bool.false_and]⟩, trivial⟩
    · repeat' (with_reducible first | refine nY ?_ | (refine mX ?_; try simp only [go_sem, h0, h1, decide_true, decide_false, hb]) | refine kO ?_ (by decide) | (refine cC (l01In_ok v.fInt 0 999) ?_ ?_; focus simp only [go_sem, and_self]; done) | (refine And.intro ?_ ?_; focus omega))
      exact retK_ret ⟨⟨_, rfl, by simp only [go_sem, okVal, h0, h1, hb, if_true, if_false, Bool.true_and]⟩, trivial⟩
  by_cases h2 : v.fKind = 2
  · cases hb : isText v.fStr 6
    · repeat' (with_reducible first | refine nY ?_ | (refine mX ?_; try simp only [go_sem, h0, h1, h2, decide_true, decide_false, hb]) | refine kO ?_ (by decide) | (refine cC (specIsValidString_ok v.fStr hs) ?_ ?_; focus simp only [go_sem, and_self]; done) | (refine And.intro ?_ ?_; focus omega))
      exact retK_ret ⟨⟨_, rfl, by simp only [go_sem, okVal, h0, h1, h2, hb, if_true, if_false, Bool.false_and]⟩, trivial⟩
    · repeat' (with_reducible first | refine nY ?_ | (refine mX ?_; try simp only [go_sem, h0, h1, h2, decide_true, decide_false, hb]) | refine kO ?_ (by decide) | (refine cC (specIsValidString_ok v.fStr hs) ?_ ?_; focus simp only [go_sem, and_self]; done) | (refine And.intro ?_ ?_; focus omega))
      exact retK_ret ⟨⟨_, rfl, by simp only [go_sem, okVal, h0, h1, h2, hb, if_true, if_false, Bool.true_and]⟩, trivial⟩
  · repeat' (with_reducible first | refine nY ?_ | (refine mX ?_; try simp only [go_sem, h0, h1, h2, decide_false]) | refine kO ?_ (by decide) | (refine And.intro ?_ ?_; focus omega))
    exact retK_ret ⟨⟨_, rfl, by simp only [go_sem, okVal, h0, h1, h2, if_false]⟩, trivial⟩
end Go.Proofs.YtgglopecipbbfaaGreat
