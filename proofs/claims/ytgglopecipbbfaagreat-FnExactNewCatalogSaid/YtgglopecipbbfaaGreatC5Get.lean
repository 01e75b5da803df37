/-
  GetAttr, both.
-/
import Derived.Test.YtgglopecipbbfaaGreatH1
set_option linter.all false
namespace Go.Proofs.YtgglopecipbbfaaGreat
open Go Go.Sx Go.RowKit Go.Proofs

def getAttr (name : ByteArray) : List TAttr → TValue
  | [] => ⟨0, 0, ⟨#[]⟩⟩
  | a :: r => if a.fName = name then a.fValue else getAttr name r

theorem implGetAttr_ok (x : TFile) (name : ByteArray) (h : wFile x ≤ 4300000) : FnC Tryz.prog 298 [gFile x, os name] (gValue (getAttr name x.fAttrs)) := by
  unfold wFile wAttrS at h
  generalize hg : getAttr name x.fAttrs = res
  refine ent Tryz.func298 rfl Tryz.call298 rfl (fun C => ?_); simp only [go_sem, st0, Tryz.ntmps298]
  repeat' (with_reducible first | refine nY ?_ | (refine mX ?_; try simp only [go_sem]) | refine kO ?_ (by decide) | (refine regx (by simp only [bodyX, isStX, Bool.false_eq_true, if_false, if_true]; rfl) (by kernel_rfl) (by kernel_rfl) (by decide) ?_ ?_ ?_; (focus simp only [go_sem]; done); (focus simp only [go_sem]; done)) | refine xE ?_ (by simp only [tailX, isStX, Bool.false_eq_true, if_false, if_true]; rfl) (by simp only [go_sem]; rfl) | refine regd (by kernel_rfl) ?_ | (refine And.intro ?_ ?_; focus omega))
  refine WP_lp (α := Nat) (fun k => [(10, oi k)]) (fun _ => []) (fun k => k ≤ x.fAttrs.length ∧ getAttr name (x.fAttrs.drop k) = res) (fun k => x.fAttrs.length - k) 0 (fun _ => ?_) ?_ ?_ (fun k hk => ?_)
  · simp only [go_sem]
  · simp only [go_sem]; simp
  · simp [hg]
  · obtain ⟨hk, hq⟩ := hk
    simp only [go_sem]
    repeat' (with_reducible first | refine nY ?_ | (refine mX ?_; try simp only [go_sem]) | refine kO ?_ (by decide) | (refine regx (by simp only [bodyX, isStX, Bool.false_eq_true, if_false, if_true]; rfl) (by kernel_rfl) (by kernel_rfl) (by decide) ?_ ?_ ?_; (focus simp only [go_sem]; done); (focus simp only [go_sem]; done)) | refine xE ?_ (by simp only [tailX, isStX, Bool.false_eq_true, if_false, if_true]; rfl) (by simp only [go_sem]; rfl) | refine regd (by kernel_rfl) ?_ | (refine And.intro ?_ ?_; focus omega))
    refine cnd rfl (fun h => ?_) (fun h => ?_)
    · simp only [decide_eq_true_eq, Int.ofNat_lt] at h
      have hd := List.drop_eq_getElem_cons h
      rw [hd, getAttr] at hq
      by_cases h1 : x.fAttrs[k].fName = name
      · rw [if_pos h1] at hq
        subst hq
        repeat' (with_reducible first | refine nY ?_ | (refine mX ?_; try simp only [go_sem, h, h1]) | refine kO ?_ (by decide) | (refine regx (by simp only [bodyX, isStX, Bool.false_eq_true, if_false, if_true]; rfl) (by kernel_rfl) (by kernel_rfl) (by decide) ?_ ?_ ?_; (focus simp only [go_sem]; done); (focus simp only [go_sem]; done)) | refine xE ?_ (by simp only [tailX, isStX, Bool.false_eq_true, if_false, if_true]; rfl) (by simp only [go_sem]; rfl) | refine regd (by kernel_rfl) ?_ | (refine And.intro ?_ ?_; focus omega))
        exact retK_ret ⟨⟨_, rfl, by simp only [go_sem]⟩, trivial⟩
      · rw [if_neg h1] at hq
        repeat' (with_reducible first | refine nY ?_ | (refine mX ?_; try simp only [go_sem, h, h1]) | refine kO ?_ (by decide) | (refine regx (by simp only [bodyX, isStX, Bool.false_eq_true, if_false, if_true]; rfl) (by kernel_rfl) (by kernel_rfl) (by decide) ?_ ?_ ?_; (focus simp only [go_sem]; done); (focus simp only [go_sem]; done)) | refine xE ?_ (by simp only [tailX, isStX, Bool.false_eq_true, if_false, if_true]; rfl) (by simp only [go_sem]; rfl) | refine regd (by kernel_rfl) ?_ | (refine And.intro ?_ ?_; focus omega))
        refine L_next (k + 1) ?_ ?_ ?_
        · simp only [go_sem]; simp
        · exact ⟨h, hq⟩
        · omega
    · simp only [decide_eq_false_iff_not] at h
      have e : k = x.fAttrs.length := by omega
      rw [e, List.drop_length, getAttr] at hq
      subst hq
      repeat' (with_reducible first | refine nY ?_ | (refine mX ?_; try simp only [go_sem]) | refine kO ?_ (by decide) | (refine regx (by simp only [bodyX, isStX, Bool.false_eq_true, if_false, if_true]; rfl) (by kernel_rfl) (by kernel_rfl) (by decide) ?_ ?_ ?_; (focus simp only [go_sem]; done); (focus simp only [go_sem]; done)) | refine xE ?_ (by simp only [tailX, isStX, Bool.false_eq_true, if_false, if_true]; rfl) (by simp only [go_sem]; rfl) | refine regd (by kernel_rfl) ?_ | (refine And.intro ?_ ?_; focus omega))
      exact retK_ret ⟨⟨_, rfl, by simp only [go_sem]⟩, trivial⟩
theorem specGetAttr_ok (x : TFile) (name : ByteArray) (h : wFile x ≤ 4300000) : FnC Tryz.prog 289 [gFile x, os name] (gValue (getAttr name x.fAttrs)) := by
  unfold wFile wAttrS at h
  generalize hg : getAttr name x.fAttrs = res
  refine ent Tryz.func289 rfl Tryz.call289 rfl (fun C => ?_); simp only [go_sem, st0, Tryz.ntmps289]
  repeat' (with_reducible first | refine nY ?_ | (refine mX ?_; try simp only [go_sem]) | refine kO ?_ (by decide) | (refine regx (by simp only [bodyX, isStX, Bool.false_eq_true, if_false, if_true]; rfl) (by kernel_rfl) (by kernel_rfl) (by decide) ?_ ?_ ?_; (focus simp only [go_sem]; done); (focus simp only [go_sem]; done)) | refine xE ?_ (by simp only [tailX, isStX, Bool.false_eq_true, if_false, if_true]; rfl) (by simp only [go_sem]; rfl) | refine regd (by kernel_rfl) ?_ | (refine And.intro ?_ ?_; focus omega))
  refine WP_lp (α := Nat) (fun k => [(5, oi k)]) (fun _ => []) (fun k => k ≤ x.fAttrs.length ∧ getAttr name (x.fAttrs.drop k) = res) (fun k => x.fAttrs.length - k) 0 (fun _ => ?_) ?_ ?_ (fun k hk => ?_)
  · simp only [go_sem]
  · simp only [go_sem]; simp
  · simp [hg]
  · obtain ⟨hk, hq⟩ := hk
    simp only [go_sem]
    repeat' (with_reducible first | refine nY ?_ | (refine mX ?_; try simp only [go_sem]) | refine kO ?_ (by decide) | (refine regx (by simp only [bodyX, isStX, Bool.false_eq_true, if_false, if_true]; rfl) (by kernel_rfl) (by kernel_rfl) (by decide) ?_ ?_ ?_; (focus simp only [go_sem]; done); (focus simp only [go_sem]; done)) | refine xE ?_ (by simp only [tailX, isStX, Bool.false_eq_true, if_false, if_true]; rfl) (by simp only [go_sem]; rfl) | refine regd (by kernel_rfl) ?_ | (refine And.intro ?_ ?_; focus omega))
    refine cnd rfl (fun h => ?_) (fun h => ?_)
    · simp only [decide_eq_true_eq, Int.ofNat_lt] at h
      have hd := List.drop_eq_getElem_cons h
      rw [hd, getAttr] at hq
      by_cases h1 : x.fAttrs[k].fName = name
      · rw [if_pos h1] at hq
        subst hq
        repeat' (with_reducible first | refine nY ?_ | (refine mX ?_; try simp only [go_sem, h, h1]) | refine kO ?_ (by decide) | (refine regx (by simp only [bodyX, isStX, Bool.false_eq_true, if_false, if_true]; rfl) (by kernel_rfl) (by kernel_rfl) (by decide) ?_ ?_ ?_; (focus simp only [go_sem]; done); (focus simp only [go_sem]; done)) | refine xE ?_ (by simp only [tailX, isStX, Bool.false_eq_true, if_false, if_true]; rfl) (by simp only [go_sem]; rfl) | refine regd (by kernel_rfl) ?_ | (refine And.intro ?_ ?_; focus omega))
        exact retK_ret ⟨⟨_, rfl, by simp only [go_sem]⟩, trivial⟩
      · rw [if_neg h1] at hq
        repeat' (with_reducible first | refine nY ?_ | (refine mX ?_; try simp only [go_sem, h, h1]) | refine kO ?_ (by decide) | (refine regx (by simp only [bodyX, isStX, Bool.false_eq_true, if_false, if_true]; rfl) (by kernel_rfl) (by kernel_rfl) (by decide) ?_ ?_ ?_; (focus simp only [go_sem]; done); (focus simp only [go_sem]; done)) | refine xE ?_ (by simp only [tailX, isStX, Bool.false_eq_true, if_false, if_true]; rfl) (by simp only [go_sem]; rfl) | refine regd (by kernel_rfl) ?_ | (refine And.intro ?_ ?_; focus omega))
        refine L_next (k + 1) ?_ ?_ ?_
        · simp only [go_sem]; simp
        · exact ⟨h, hq⟩
        · omega
    · simp only [decide_eq_false_iff_not] at h
      have e : k = x.fAttrs.length := by omega
      rw [e, List.drop_length, getAttr] at hq
      subst hq
      repeat' (with_reducible first | refine nY ?_ | (refine mX ?_; try simp only [go_sem]) | refine kO ?_ (by decide) | (refine regx (by simp only [bodyX, isStX, Bool.false_eq_true, if_false, if_true]; rfl) (by kernel_rfl) (by kernel_rfl) (by decide) ?_ ?_ ?_; (focus simp only [go_sem]; done); (focus simp only [go_sem]; done)) | refine xE ?_ (by simp only [tailX, isStX, Bool.false_eq_true, if_false, if_true]; rfl) (by simp only [go_sem]; rfl) | refine regd (by kernel_rfl) ?_ | (refine And.intro ?_ ?_; focus omega))
      exact retK_ret ⟨⟨_, rfl, by simp only [go_sem]⟩, trivial⟩
end Go.Proofs.YtgglopecipbbfaaGreat
