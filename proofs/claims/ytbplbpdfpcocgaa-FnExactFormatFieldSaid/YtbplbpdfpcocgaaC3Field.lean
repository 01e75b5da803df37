/-
  FormatField: both functions and what they call; the helpers of Field.
-/
import Derived.Test.YtbplbpdfpcocgaaC2Quota
set_option linter.all false
namespace Go.Proofs.Ytbplbpdfpcocgaa
open Go Go.Sx Go.RowKit Go.Proofs

def low (s : ByteArray) (k : Nat) : Bool := inB (byteAt s k) 97 122
def allLow (s : ByteArray) : Bool := (List.range s.size).all (low s)
def isText (s : ByteArray) (n : Int) : Bool := allLow s && inB s.size 1 n
theorem l02Text_ok (s : ByteArray) (n : Int) (hs : s.size ≤ 1048576) : FnC Try.prog 56 [os s, oi n] (ob (isText s n)) := by
  refine ent Try.func56 rfl Try.call56 rfl (fun C => ?_)
  simp only [go_sem, st0, Try.ntmps56]
  repeat' (with_reducible first | refine WP_ret ?_ | refine WP_skip ?_ | refine WP_exit ?_ | refine WP_seq ?_ | refine WP_block ?_ | refine K_code ?_ | refine K_blk ?_ | refine K_code_ret ?_ | refine K_blk_ret ?_ | refine K_code_exit ?_ | refine K_blk_exit_same ?_ | refine K_blk_exit_other (by decide) ?_ | refine K_nil ?_ | refine L_ret ?_ | refine L_exit ?_ | (refine reg ?_; simp only [go_sem]) | (refine regd (by kernel_rfl) ?_; simp only [go_sem]) | (refine cndt ?_ ?_; (focus (simp only [go_sem]; done))) | (refine cndf ?_ ?_; (focus (simp only [go_sem]; done))) | (refine And.intro ?_ ?_; (focus omega)))
  refine WP_lp (α := Nat) (fun k => [(5, oi k)]) (fun _ => []) (fun k => k ≤ s.size ∧ allLow s = ((List.range s.size).drop k).all (low s)) (fun k => s.size - k) 0 (fun _ => ?_) ?_ ?_ (fun k hk => ?_)
  · simp only [go_sem]
  · simp only [go_sem]; simp
  · simp [allLow]
  · obtain ⟨hk, hq⟩ := hk
    simp only [go_sem]
    repeat' (with_reducible first | refine WP_ret ?_ | refine WP_skip ?_ | refine WP_exit ?_ | refine WP_seq ?_ | refine WP_block ?_ | refine K_code ?_ | refine K_blk ?_ | refine K_code_ret ?_ | refine K_blk_ret ?_ | refine K_code_exit ?_ | refine K_blk_exit_same ?_ | refine K_blk_exit_other (by decide) ?_ | refine K_nil ?_ | refine L_ret ?_ | refine L_exit ?_ | (refine reg ?_; simp only [go_sem]) | (refine regd (by kernel_rfl) ?_; simp only [go_sem]) | (refine cndt ?_ ?_; (focus (simp only [go_sem]; done))) | (refine cndf ?_ ?_; (focus (simp only [go_sem]; done))) | (refine And.intro ?_ ?_; (focus omega)))
    refine cnd rfl (fun h => ?_) (fun h => ?_)
    · simp only [decide_eq_true_eq, Int.ofNat_lt] at h
      have h' : k < (List.range s.size).length := by simpa using h
      have hd := List.drop_eq_getElem_cons h'
      rw [hd, List.all_cons, List.getElem_range] at hq
      have hb := byteAt_le s k
      by_cases h1 : byteAt s k < 97
      · have hf : allLow s = false := by rw [hq]; simp [low, inB]; omega
        repeat' (with_reducible first | refine WP_ret ?_ | refine WP_skip ?_ | refine WP_exit ?_ | refine WP_seq ?_ | refine WP_block ?_ | refine K_code ?_ | refine K_blk ?_ | refine K_code_ret ?_ | refine K_blk_ret ?_ | refine K_code_exit ?_ | refine K_blk_exit_same ?_ | refine K_blk_exit_other (by decide) ?_ | refine K_nil ?_ | refine L_ret ?_ | refine L_exit ?_ | (refine reg ?_; simp only [go_sem, h, h1]) | (refine regd (by kernel_rfl) ?_; simp only [go_sem, h, h1]) | (refine cndt ?_ ?_; (focus (simp only [go_sem]; done))) | (refine cndf ?_ ?_; (focus (simp only [go_sem]; done))) | (refine And.intro ?_ ?_; (focus omega)))
        exact retK_ret ⟨⟨_, rfl, by simp only [go_sem, isText, hf, Bool.false_and]⟩, trivial⟩
      by_cases h2 : 122 < byteAt s k
      · have hf : allLow s = false := by rw [hq]; simp [low, inB]; omega
        repeat' (with_reducible first | refine WP_ret ?_ | refine WP_skip ?_ | refine WP_exit ?_ | refine WP_seq ?_ | refine WP_block ?_ | refine K_code ?_ | refine K_blk ?_ | refine K_code_ret ?_ | refine K_blk_ret ?_ | refine K_code_exit ?_ | refine K_blk_exit_same ?_ | refine K_blk_exit_other (by decide) ?_ | refine K_nil ?_ | refine L_ret ?_ | refine L_exit ?_ | (refine reg ?_; simp only [go_sem, h, h1, h2, decide_false]) | (refine regd (by kernel_rfl) ?_; simp only [go_sem, h, h1, h2, decide_false]) | (refine cndt ?_ ?_; (focus (simp only [go_sem]; done))) | (refine cndf ?_ ?_; (focus (simp only [go_sem]; done))) | (refine And.intro ?_ ?_; (focus omega)))
        exact retK_ret ⟨⟨_, rfl, by simp only [go_sem, isText, hf, Bool.false_and]⟩, trivial⟩
      · repeat' (with_reducible first | refine WP_ret ?_ | refine WP_skip ?_ | refine WP_exit ?_ | refine WP_seq ?_ | refine WP_block ?_ | refine K_code ?_ | refine K_blk ?_ | refine K_code_ret ?_ | refine K_blk_ret ?_ | refine K_code_exit ?_ | refine K_blk_exit_same ?_ | refine K_blk_exit_other (by decide) ?_ | refine K_nil ?_ | refine L_ret ?_ | refine L_exit ?_ | (refine reg ?_; simp only [go_sem, h, h1, h2, decide_false]) | (refine regd (by kernel_rfl) ?_; simp only [go_sem, h, h1, h2, decide_false]) | (refine cndt ?_ ?_; (focus (simp only [go_sem]; done))) | (refine cndf ?_ ?_; (focus (simp only [go_sem]; done))) | (refine And.intro ?_ ?_; (focus omega)))
        refine L_next (k + 1) ?_ ?_ ?_
        · simp only [go_sem]; simp
        · refine ⟨h, ?_⟩
          have hl : low s k = true := by simp [low, inB]; omega
          rw [hq, hl]; simp
        · omega
    · simp only [decide_eq_false_iff_not] at h
      have e : k = s.size := by omega
      have hq' : allLow s = true := by
        rw [hq, List.drop_of_length_le (by simp [e])]; rfl
      repeat' (with_reducible first | refine WP_ret ?_ | refine WP_skip ?_ | refine WP_exit ?_ | refine WP_seq ?_ | refine WP_block ?_ | refine K_code ?_ | refine K_blk ?_ | refine K_code_ret ?_ | refine K_blk_ret ?_ | refine K_code_exit ?_ | refine K_blk_exit_same ?_ | refine K_blk_exit_other (by decide) ?_ | refine K_nil ?_ | refine L_ret ?_ | refine L_exit ?_ | (refine reg ?_; simp only [go_sem]) | (refine regd (by kernel_rfl) ?_; simp only [go_sem]) | (refine cal (l01In_ok s.size 1 n) ?_ ?_ ?_; (focus (simp only [go_sem]; done)); (focus (simp only [go_sem]; done)); simp only [go_sem]) | (refine cald (l01In_ok s.size 1 n) ?_ ?_ ?_ ?_; (focus (simp only [go_sem]; done)); (focus (simp only [go_sem]; done)); (focus (simp only [go_sem]; done)); simp only [go_sem]) | (refine cndt ?_ ?_; (focus (simp only [go_sem]; done))) | (refine cndf ?_ ?_; (focus (simp only [go_sem]; done))) | (refine And.intro ?_ ?_; (focus omega)))
      refine retK_ret ⟨⟨_, rfl, ?_⟩, ?_⟩
      · simp only [go_sem, isText, hq']
      · trivial

theorem specIsValidAttrName_ok (s : ByteArray) (hs : s.size ≤ 1048576) : FnC Try.prog 43 [os s] (ob (isText s 1)) := by
  refine ent Try.func43 rfl Try.call43 rfl (fun C => ?_)
  simp only [go_sem, st0, Try.ntmps43]
  repeat' (with_reducible first | refine WP_ret ?_ | refine WP_skip ?_ | refine WP_exit ?_ | refine WP_seq ?_ | refine WP_block ?_ | refine K_code ?_ | refine K_blk ?_ | refine K_code_ret ?_ | refine K_blk_ret ?_ | refine K_code_exit ?_ | refine K_blk_exit_same ?_ | refine K_blk_exit_other (by decide) ?_ | refine K_nil ?_ | refine L_ret ?_ | refine L_exit ?_ | (refine reg ?_; simp only [go_sem]) | (refine regd (by kernel_rfl) ?_; simp only [go_sem]) | (refine cal (l02Text_ok s 1 hs) ?_ ?_ ?_; (focus (simp only [go_sem]; done)); (focus (simp only [go_sem]; done)); simp only [go_sem]) | (refine cald (l02Text_ok s 1 hs) ?_ ?_ ?_ ?_; (focus (simp only [go_sem]; done)); (focus (simp only [go_sem]; done)); (focus (simp only [go_sem]; done)); simp only [go_sem]) | (refine cndt ?_ ?_; (focus (simp only [go_sem]; done))) | (refine cndf ?_ ?_; (focus (simp only [go_sem]; done))) | (refine And.intro ?_ ?_; (focus omega)))
  refine retK_ret ⟨⟨_, rfl, ?_⟩, ?_⟩
  · simp only [go_sem]
  · trivial
theorem isText1 (s : ByteArray) : isText s 1 = (decide ((s.size : Int) = 1) && low s 0) := by
  unfold isText allLow inB
  rcases Nat.lt_trichotomy s.size 1 with h | h | h
  · have : s.size = 0 := by omega
    simp [this]
  · simp [h, List.range_succ]
  · have h1 : ¬ ((s.size : Int) ≤ 1) := by omega
    have h2 : ¬ ((s.size : Int) = 1) := by omega
    simp [h1, h2]
theorem implIsValidAttrName_ok (s : ByteArray) : FnC Try.prog 44 [os s] (ob (isText s 1)) := by
  rw [isText1]
  refine ent Try.func44 rfl Try.call44 rfl (fun C => ?_)
  simp only [go_sem, st0, Try.ntmps44]
  by_cases h0 : (s.size : Int) = 1
  · have h0' : 0 < s.size := by omega
    by_cases h1 : 97 ≤ byteAt s 0 <;> by_cases h2 : byteAt s 0 ≤ 122
    all_goals
      repeat' (with_reducible first | refine WP_ret ?_ | refine WP_skip ?_ | refine WP_exit ?_ | refine WP_seq ?_ | refine WP_block ?_ | refine K_code ?_ | refine K_blk ?_ | refine K_code_ret ?_ | refine K_blk_ret ?_ | refine K_code_exit ?_ | refine K_blk_exit_same ?_ | refine K_blk_exit_other (by decide) ?_ | refine K_nil ?_ | refine L_ret ?_ | refine L_exit ?_ | (refine reg ?_; simp only [go_sem, h0, h0', h1, h2, decide_false, Int.toNat_zero, Int.le_refl]) | (refine regd (by kernel_rfl) ?_; simp only [go_sem, h0, h0', h1, h2, decide_false, Int.toNat_zero, Int.le_refl]) | (refine cndt ?_ ?_; (focus (simp only [go_sem]; done))) | (refine cndf ?_ ?_; (focus (simp only [go_sem]; done))) | (refine And.intro ?_ ?_; (focus omega)))
      refine retK_ret ⟨⟨_, rfl, ?_⟩, ?_⟩
      · simp only [go_sem]; simp [h0, h1, h2, low, inB]
      · trivial
  · repeat' (with_reducible first | refine WP_ret ?_ | refine WP_skip ?_ | refine WP_exit ?_ | refine WP_seq ?_ | refine WP_block ?_ | refine K_code ?_ | refine K_blk ?_ | refine K_code_ret ?_ | refine K_blk_ret ?_ | refine K_code_exit ?_ | refine K_blk_exit_same ?_ | refine K_blk_exit_other (by decide) ?_ | refine K_nil ?_ | refine L_ret ?_ | refine L_exit ?_ | (refine reg ?_; simp only [go_sem, h0, decide_false]) | (refine regd (by kernel_rfl) ?_; simp only [go_sem, h0, decide_false]) | (refine cndt ?_ ?_; (focus (simp only [go_sem]; done))) | (refine cndf ?_ ?_; (focus (simp only [go_sem]; done))) | (refine And.intro ?_ ?_; (focus omega)))
    refine retK_ret ⟨⟨_, rfl, ?_⟩, ?_⟩
    · simp only [go_sem]; simp [h0]
    · trivial

structure Field where
  name : ByteArray
  kind : Int
@[go_sem] def encField (f : Field) : List D := [sv f.name, iv f.kind]
@[go_sem] def gField (f : Field) : SV := .g [.d (sv f.name), .d (iv f.kind)]
def fmtF (f : Field) : ByteArray :=
  if isText f.name 1 = true then
    if f.kind = 1 then ⟨#[102, 105, 101, 108, 100, 32]⟩ ++ f.name ++ ⟨#[32, 105, 110, 116]⟩
    else if f.kind = 2 then ⟨#[102, 105, 101, 108, 100, 32]⟩ ++ f.name ++ ⟨#[32, 115, 116, 114, 105, 110, 103]⟩ else ⟨#[]⟩
  else ⟨#[]⟩
theorem specFormatField_ok (f : Field) (hf : f.name.size ≤ 1048576) : FnC Try.prog 17 [gField f] (os (fmtF f)) := by
  refine ent Try.func17 rfl Try.call17 rfl (fun C => ?_)
  simp only [go_sem, st0, Try.ntmps17]
  cases ht : isText f.name 1
  · repeat' (with_reducible first | refine WP_ret ?_ | refine WP_skip ?_ | refine WP_exit ?_ | refine WP_seq ?_ | refine WP_block ?_ | refine K_code ?_ | refine K_blk ?_ | refine K_code_ret ?_ | refine K_blk_ret ?_ | refine K_code_exit ?_ | refine K_blk_exit_same ?_ | refine K_blk_exit_other (by decide) ?_ | refine K_nil ?_ | refine L_ret ?_ | refine L_exit ?_ | (refine reg ?_; simp only [go_sem, ht]) | (refine regd (by kernel_rfl) ?_; simp only [go_sem, ht]) | (refine cal (specIsValidAttrName_ok f.name hf) ?_ ?_ ?_; (focus (simp only [go_sem]; done)); (focus (simp only [go_sem]; done)); simp only [go_sem, ht]) | (refine cald (specIsValidAttrName_ok f.name hf) ?_ ?_ ?_ ?_; (focus (simp only [go_sem]; done)); (focus (simp only [go_sem]; done)); (focus (simp only [go_sem]; done)); simp only [go_sem, ht]) | (refine cndt ?_ ?_; (focus (simp only [go_sem]; done))) | (refine cndf ?_ ?_; (focus (simp only [go_sem]; done))) | (refine And.intro ?_ ?_; (focus omega)))
    exact retK_ret ⟨⟨_, rfl, by simp only [go_sem, fmtF, ht]⟩, trivial⟩
  by_cases h1 : f.kind = 1
  · repeat' (with_reducible first | refine WP_ret ?_ | refine WP_skip ?_ | refine WP_exit ?_ | refine WP_seq ?_ | refine WP_block ?_ | refine K_code ?_ | refine K_blk ?_ | refine K_code_ret ?_ | refine K_blk_ret ?_ | refine K_code_exit ?_ | refine K_blk_exit_same ?_ | refine K_blk_exit_other (by decide) ?_ | refine K_nil ?_ | refine L_ret ?_ | refine L_exit ?_ | (refine reg ?_; simp only [go_sem, ht, h1]) | (refine regd (by kernel_rfl) ?_; simp only [go_sem, ht, h1]) | (refine cal (specIsValidAttrName_ok f.name hf) ?_ ?_ ?_; (focus (simp only [go_sem]; done)); (focus (simp only [go_sem]; done)); simp only [go_sem, ht, h1]) | (refine cald (specIsValidAttrName_ok f.name hf) ?_ ?_ ?_ ?_; (focus (simp only [go_sem]; done)); (focus (simp only [go_sem]; done)); (focus (simp only [go_sem]; done)); simp only [go_sem, ht, h1]) | (refine cndt ?_ ?_; (focus (simp only [go_sem]; done))) | (refine cndf ?_ ?_; (focus (simp only [go_sem]; done))) | (refine And.intro ?_ ?_; (focus omega)))
    exact retK_ret ⟨⟨_, rfl, by simp only [go_sem, fmtF, ht, h1]⟩, trivial⟩
  by_cases h2 : f.kind = 2
  · repeat' (with_reducible first | refine WP_ret ?_ | refine WP_skip ?_ | refine WP_exit ?_ | refine WP_seq ?_ | refine WP_block ?_ | refine K_code ?_ | refine K_blk ?_ | refine K_code_ret ?_ | refine K_blk_ret ?_ | refine K_code_exit ?_ | refine K_blk_exit_same ?_ | refine K_blk_exit_other (by decide) ?_ | refine K_nil ?_ | refine L_ret ?_ | refine L_exit ?_ | (refine reg ?_; simp only [go_sem, ht, h1, h2, decide_false]) | (refine regd (by kernel_rfl) ?_; simp only [go_sem, ht, h1, h2, decide_false]) | (refine cal (specIsValidAttrName_ok f.name hf) ?_ ?_ ?_; (focus (simp only [go_sem]; done)); (focus (simp only [go_sem]; done)); simp only [go_sem, ht, h1, h2, decide_false]) | (refine cald (specIsValidAttrName_ok f.name hf) ?_ ?_ ?_ ?_; (focus (simp only [go_sem]; done)); (focus (simp only [go_sem]; done)); (focus (simp only [go_sem]; done)); simp only [go_sem, ht, h1, h2, decide_false]) | (refine cndt ?_ ?_; (focus (simp only [go_sem]; done))) | (refine cndf ?_ ?_; (focus (simp only [go_sem]; done))) | (refine And.intro ?_ ?_; (focus omega)))
    exact retK_ret ⟨⟨_, rfl, by simp only [go_sem, fmtF, ht, h1, h2]⟩, trivial⟩
  · repeat' (with_reducible first | refine WP_ret ?_ | refine WP_skip ?_ | refine WP_exit ?_ | refine WP_seq ?_ | refine WP_block ?_ | refine K_code ?_ | refine K_blk ?_ | refine K_code_ret ?_ | refine K_blk_ret ?_ | refine K_code_exit ?_ | refine K_blk_exit_same ?_ | refine K_blk_exit_other (by decide) ?_ | refine K_nil ?_ | refine L_ret ?_ | refine L_exit ?_ | (refine reg ?_; simp only [go_sem, ht, h1, h2, decide_false]) | (refine regd (by kernel_rfl) ?_; simp only [go_sem, ht, h1, h2, decide_false]) | (refine cal (specIsValidAttrName_ok f.name hf) ?_ ?_ ?_; (focus (simp only [go_sem]; done)); (focus (simp only [go_sem]; done)); simp only [go_sem, ht, h1, h2, decide_false]) | (refine cald (specIsValidAttrName_ok f.name hf) ?_ ?_ ?_ ?_; (focus (simp only [go_sem]; done)); (focus (simp only [go_sem]; done)); (focus (simp only [go_sem]; done)); simp only [go_sem, ht, h1, h2, decide_false]) | (refine cndt ?_ ?_; (focus (simp only [go_sem]; done))) | (refine cndf ?_ ?_; (focus (simp only [go_sem]; done))) | (refine And.intro ?_ ?_; (focus omega)))
    exact retK_ret ⟨⟨_, rfl, by simp only [go_sem, fmtF, ht, h1, h2]⟩, trivial⟩
theorem implFormatField_ok (f : Field) (hf : f.name.size ≤ 1048576) : FnC Try.prog 19 [gField f] (os (fmtF f)) := by
  refine ent Try.func19 rfl Try.call19 rfl (fun C => ?_)
  simp only [go_sem, st0, Try.ntmps19]
  cases ht : isText f.name 1
  · repeat' (with_reducible first | refine WP_ret ?_ | refine WP_skip ?_ | refine WP_exit ?_ | refine WP_seq ?_ | refine WP_block ?_ | refine K_code ?_ | refine K_blk ?_ | refine K_code_ret ?_ | refine K_blk_ret ?_ | refine K_code_exit ?_ | refine K_blk_exit_same ?_ | refine K_blk_exit_other (by decide) ?_ | refine K_nil ?_ | refine L_ret ?_ | refine L_exit ?_ | (refine reg ?_; simp only [go_sem, ht]) | (refine regd (by kernel_rfl) ?_; simp only [go_sem, ht]) | (refine cal (implIsValidAttrName_ok f.name) ?_ ?_ ?_; (focus (simp only [go_sem]; done)); (focus (simp only [go_sem]; done)); simp only [go_sem, ht]) | (refine cald (implIsValidAttrName_ok f.name) ?_ ?_ ?_ ?_; (focus (simp only [go_sem]; done)); (focus (simp only [go_sem]; done)); (focus (simp only [go_sem]; done)); simp only [go_sem, ht]) | (refine cndt ?_ ?_; (focus (simp only [go_sem]; done))) | (refine cndf ?_ ?_; (focus (simp only [go_sem]; done))) | (refine And.intro ?_ ?_; (focus omega)))
    exact retK_ret ⟨⟨_, rfl, by simp only [go_sem, fmtF, ht]⟩, trivial⟩
  by_cases h1 : f.kind = 1
  · repeat' (with_reducible first | refine WP_ret ?_ | refine WP_skip ?_ | refine WP_exit ?_ | refine WP_seq ?_ | refine WP_block ?_ | refine K_code ?_ | refine K_blk ?_ | refine K_code_ret ?_ | refine K_blk_ret ?_ | refine K_code_exit ?_ | refine K_blk_exit_same ?_ | refine K_blk_exit_other (by decide) ?_ | refine K_nil ?_ | refine L_ret ?_ | refine L_exit ?_ | (refine reg ?_; simp only [go_sem, ht, h1]) | (refine regd (by kernel_rfl) ?_; simp only [go_sem, ht, h1]) | (refine cal (implIsValidAttrName_ok f.name) ?_ ?_ ?_; (focus (simp only [go_sem]; done)); (focus (simp only [go_sem]; done)); simp only [go_sem, ht, h1]) | (refine cald (implIsValidAttrName_ok f.name) ?_ ?_ ?_ ?_; (focus (simp only [go_sem]; done)); (focus (simp only [go_sem]; done)); (focus (simp only [go_sem]; done)); simp only [go_sem, ht, h1]) | (refine cndt ?_ ?_; (focus (simp only [go_sem]; done))) | (refine cndf ?_ ?_; (focus (simp only [go_sem]; done))) | (refine And.intro ?_ ?_; (focus omega)))
    exact retK_ret ⟨⟨_, rfl, by simp only [go_sem, fmtF, ht, h1]⟩, trivial⟩
  by_cases h2 : f.kind = 2
  · repeat' (with_reducible first | refine WP_ret ?_ | refine WP_skip ?_ | refine WP_exit ?_ | refine WP_seq ?_ | refine WP_block ?_ | refine K_code ?_ | refine K_blk ?_ | refine K_code_ret ?_ | refine K_blk_ret ?_ | refine K_code_exit ?_ | refine K_blk_exit_same ?_ | refine K_blk_exit_other (by decide) ?_ | refine K_nil ?_ | refine L_ret ?_ | refine L_exit ?_ | (refine reg ?_; simp only [go_sem, ht, h1, h2, decide_false]) | (refine regd (by kernel_rfl) ?_; simp only [go_sem, ht, h1, h2, decide_false]) | (refine cal (implIsValidAttrName_ok f.name) ?_ ?_ ?_; (focus (simp only [go_sem]; done)); (focus (simp only [go_sem]; done)); simp only [go_sem, ht, h1, h2, decide_false]) | (refine cald (implIsValidAttrName_ok f.name) ?_ ?_ ?_ ?_; (focus (simp only [go_sem]; done)); (focus (simp only [go_sem]; done)); (focus (simp only [go_sem]; done)); simp only [go_sem, ht, h1, h2, decide_false]) | (refine cndt ?_ ?_; (focus (simp only [go_sem]; done))) | (refine cndf ?_ ?_; (focus (simp only [go_sem]; done))) | (refine And.intro ?_ ?_; (focus omega)))
    exact retK_ret ⟨⟨_, rfl, by simp only [go_sem, fmtF, ht, h1, h2]⟩, trivial⟩
  · repeat' (with_reducible first | refine WP_ret ?_ | refine WP_skip ?_ | refine WP_exit ?_ | refine WP_seq ?_ | refine WP_block ?_ | refine K_code ?_ | refine K_blk ?_ | refine K_code_ret ?_ | refine K_blk_ret ?_ | refine K_code_exit ?_ | refine K_blk_exit_same ?_ | refine K_blk_exit_other (by decide) ?_ | refine K_nil ?_ | refine L_ret ?_ | refine L_exit ?_ | (refine reg ?_; simp only [go_sem, ht, h1, h2, decide_false]) | (refine regd (by kernel_rfl) ?_; simp only [go_sem, ht, h1, h2, decide_false]) | (refine cal (implIsValidAttrName_ok f.name) ?_ ?_ ?_; (focus (simp only [go_sem]; done)); (focus (simp only [go_sem]; done)); simp only [go_sem, ht, h1, h2, decide_false]) | (refine cald (implIsValidAttrName_ok f.name) ?_ ?_ ?_ ?_; (focus (simp only [go_sem]; done)); (focus (simp only [go_sem]; done)); (focus (simp only [go_sem]; done)); simp only [go_sem, ht, h1, h2, decide_false]) | (refine cndt ?_ ?_; (focus (simp only [go_sem]; done))) | (refine cndf ?_ ?_; (focus (simp only [go_sem]; done))) | (refine And.intro ?_ ?_; (focus omega)))
    exact retK_ret ⟨⟨_, rfl, by simp only [go_sem, fmtF, ht, h1, h2]⟩, trivial⟩
theorem toField_ok (f : Field) : FnC Try.prog 18 [gField f] (gField f) := by
  refine ent Try.func18 rfl Try.call18 rfl (fun C => ?_)
  simp only [go_sem, st0, Try.ntmps18]
  repeat' (with_reducible first | refine WP_ret ?_ | refine WP_skip ?_ | refine WP_exit ?_ | refine WP_seq ?_ | refine WP_block ?_ | refine K_code ?_ | refine K_blk ?_ | refine K_code_ret ?_ | refine K_blk_ret ?_ | refine K_code_exit ?_ | refine K_blk_exit_same ?_ | refine K_blk_exit_other (by decide) ?_ | refine K_nil ?_ | refine L_ret ?_ | refine L_exit ?_ | (refine reg ?_; simp only [go_sem]) | (refine regd (by kernel_rfl) ?_; simp only [go_sem]) | (refine cndt ?_ ?_; (focus (simp only [go_sem]; done))) | (refine cndf ?_ ?_; (focus (simp only [go_sem]; done))) | (refine And.intro ?_ ?_; (focus omega)))
  exact retK_ret ⟨⟨_, rfl, by simp only [go_sem]⟩, trivial⟩
def szField (f : Field) (n : Int) : Int := if n - f.name.size < 0 then -1 else n - f.name.size
theorem szField_ok (f : Field) (n : Int) (h0 : 0 ≤ n ∧ n ≤ 1048576) (hf : f.name.size ≤ 9223372036854775807) : FnC Try.prog 16 [gField f, oi n] (oi (szField f n)) := by
  refine ent Try.func16 rfl Try.call16 rfl (fun C => ?_)
  simp only [go_sem, st0, Try.ntmps16]
  by_cases h : n - f.name.size < 0
  all_goals
    repeat' (with_reducible first | refine WP_ret ?_ | refine WP_skip ?_ | refine WP_exit ?_ | refine WP_seq ?_ | refine WP_block ?_ | refine K_code ?_ | refine K_blk ?_ | refine K_code_ret ?_ | refine K_blk_ret ?_ | refine K_code_exit ?_ | refine K_blk_exit_same ?_ | refine K_blk_exit_other (by decide) ?_ | refine K_nil ?_ | refine L_ret ?_ | refine L_exit ?_ | (refine reg ?_; simp only [go_sem, h, decide_false]) | (refine regd (by kernel_rfl) ?_; simp only [go_sem, h, decide_false]) | (refine cndt ?_ ?_; (focus (simp only [go_sem]; done))) | (refine cndf ?_ ?_; (focus (simp only [go_sem]; done))) | (refine And.intro ?_ ?_; (focus omega)))
    exact retK_ret ⟨⟨_, rfl, by simp only [go_sem, szField, h]⟩, trivial⟩
theorem szField_le {f : Field} {n : Int} (h : ¬ szField f n < 0) : f.name.size ≤ n := by
  unfold szField at h
  split at h <;> omega

theorem lawFormatField_ok (f : Field) (hf : f.name.size ≤ 9223372036854775807) : FnC Try.prog 5 [gField f] (ob true) := by
  refine ent Try.func5 rfl Try.call5 rfl (fun C => ?_)
  simp only [go_sem, st0, Try.ntmps5]
  by_cases h : szField f 1048576 < 0
  · repeat' (with_reducible first | refine WP_ret ?_ | refine WP_skip ?_ | refine WP_exit ?_ | refine WP_seq ?_ | refine WP_block ?_ | refine K_code ?_ | refine K_blk ?_ | refine K_code_ret ?_ | refine K_blk_ret ?_ | refine K_code_exit ?_ | refine K_blk_exit_same ?_ | refine K_blk_exit_other (by decide) ?_ | refine K_nil ?_ | refine L_ret ?_ | refine L_exit ?_ | (refine reg ?_; simp only [go_sem, h]) | (refine regd (by kernel_rfl) ?_; simp only [go_sem, h]) | (refine cal (szField_ok f 1048576 (by omega) hf) ?_ ?_ ?_; (focus (simp only [go_sem]; done)); (focus (simp only [go_sem]; done)); simp only [go_sem, h]) | (refine cald (szField_ok f 1048576 (by omega) hf) ?_ ?_ ?_ ?_; (focus (simp only [go_sem]; done)); (focus (simp only [go_sem]; done)); (focus (simp only [go_sem]; done)); simp only [go_sem, h]) | (refine cndt ?_ ?_; (focus (simp only [go_sem]; done))) | (refine cndf ?_ ?_; (focus (simp only [go_sem]; done))) | (refine And.intro ?_ ?_; (focus omega)))
    exact retK_ret ⟨⟨_, rfl, by simp only [go_sem]⟩, trivial⟩
  · have hs : f.name.size ≤ 1048576 := by have := szField_le h; omega
    repeat' (with_reducible first | refine WP_ret ?_ | refine WP_skip ?_ | refine WP_exit ?_ | refine WP_seq ?_ | refine WP_block ?_ | refine K_code ?_ | refine K_blk ?_ | refine K_code_ret ?_ | refine K_blk_ret ?_ | refine K_code_exit ?_ | refine K_blk_exit_same ?_ | refine K_blk_exit_other (by decide) ?_ | refine K_nil ?_ | refine L_ret ?_ | refine L_exit ?_ | (refine reg ?_; simp only [go_sem, h, decide_false]) | (refine regd (by kernel_rfl) ?_; simp only [go_sem, h, decide_false]) | (refine cal (szField_ok f 1048576 (by omega) hf) ?_ ?_ ?_; (focus (simp only [go_sem]; done)); (focus (simp only [go_sem]; done)); simp only [go_sem, h, decide_false]) | (refine cald (szField_ok f 1048576 (by omega) hf) ?_ ?_ ?_ ?_; (focus (simp only [go_sem]; done)); (focus (simp only [go_sem]; done)); (focus (simp only [go_sem]; done)); simp only [go_sem, h, decide_false]) | (refine cal (toField_ok f) ?_ ?_ ?_; (focus (simp only [go_sem]; done)); (focus (simp only [go_sem]; done)); simp only [go_sem, h, decide_false]) | (refine cald (toField_ok f) ?_ ?_ ?_ ?_; (focus (simp only [go_sem]; done)); (focus (simp only [go_sem]; done)); (focus (simp only [go_sem]; done)); simp only [go_sem, h, decide_false]) | (refine cal (specFormatField_ok f hs) ?_ ?_ ?_; (focus (simp only [go_sem]; done)); (focus (simp only [go_sem]; done)); simp only [go_sem, h, decide_false]) | (refine cald (specFormatField_ok f hs) ?_ ?_ ?_ ?_; (focus (simp only [go_sem]; done)); (focus (simp only [go_sem]; done)); (focus (simp only [go_sem]; done)); simp only [go_sem, h, decide_false]) | (refine cal (implFormatField_ok f hs) ?_ ?_ ?_; (focus (simp only [go_sem]; done)); (focus (simp only [go_sem]; done)); simp only [go_sem, h, decide_false]) | (refine cald (implFormatField_ok f hs) ?_ ?_ ?_ ?_; (focus (simp only [go_sem]; done)); (focus (simp only [go_sem]; done)); (focus (simp only [go_sem]; done)); simp only [go_sem, h, decide_false]) | (refine cndt ?_ ?_; (focus (simp only [go_sem]; done))) | (refine cndf ?_ ?_; (focus (simp only [go_sem]; done))) | (refine And.intro ?_ ?_; (focus omega)))
    exact retK_ret ⟨⟨_, rfl, by simp only [go_sem]⟩, trivial⟩
end Go.Proofs.Ytbplbpdfpcocgaa
