/- slices.Clone, slices.IndexFunc. -/
import Derived.Test.YtdgeoalhmmfgnaaGreatK0Str
import Derived.Test.YtdgeoalhmmfgnaaGreatH2
set_option linter.all false
set_option maxRecDepth 100000
set_option maxHeartbeats 4000000
namespace Go.Proofs.YtdgeoalhmmfgnaaGreat
open Go Go.Sx Go.RowKit Go.Proofs
theorem indexFuncDir_ok (f : Nat) (c : List D) (p : TDir → Bool) (l : List TDir) (hf : ∀ s ∈ l, FnC Tryz.prog f [gDir s, .o (.q c)] (ob (p s))) (hl : l.length ≤ 2097152) : FnC Tryz.prog 140 [.o (.d (.sl (l.map encDir))), .o (.f f [c])] (oi (idxP p l 0)) := by
 refine ent Tryz.func140 rfl Tryz.call140 rfl (fun C => ?_); simp only [go_sem, st0, Tryz.ntmps140]
 repeat' (with_reducible first | refine nX ?_ | (refine mX ?_; try simp only [go_sem]) | refine kO ?_ (by decide) | refine reg ?_ | (refine regx (by simp only [bodyX, isStX, Bool.false_eq_true, if_false, if_true]; rfl) (by kernel_rfl) (by kernel_rfl) (by decide) ?_ ?_ ?_; (focus simp only [go_sem]; done); (focus simp only [go_sem]; done)) | refine xE ?_ (by simp only [tailX, isStX, Bool.false_eq_true, if_false, if_true]; rfl) (by simp only [go_sem]; rfl) | refine regd (by kernel_rfl) ?_ | (refine cndt ?_ ?_; (focus simp only [go_sem]; done)) | (refine cndf ?_ ?_; (focus simp only [go_sem]; done)) | (refine And.intro ?_ ?_; focus omega))
 refine WP_lp (α := Nat) (fun k => [(8, oi k)]) (fun _ => []) (fun k => k ≤ l.length ∧ idxP p l 0 = idxP p (l.drop k) k) (fun k => l.length - k) 0 (fun _ => ?_) ?_ ?_ (fun k hk => ?_)
 ·simp only [go_sem]
 ·simp only [go_sem]; simp
 ·simp
 ·obtain ⟨hk, hq⟩ := hk
  simp only [go_sem]
  repeat' (with_reducible first | refine nX ?_ | (refine mX ?_; try simp only [go_sem]) | refine kO ?_ (by decide) | refine reg ?_ | (refine regx (by simp only [bodyX, isStX, Bool.false_eq_true, if_false, if_true]; rfl) (by kernel_rfl) (by kernel_rfl) (by decide) ?_ ?_ ?_; (focus simp only [go_sem]; done); (focus simp only [go_sem]; done)) | refine xE ?_ (by simp only [tailX, isStX, Bool.false_eq_true, if_false, if_true]; rfl) (by simp only [go_sem]; rfl) | refine regd (by kernel_rfl) ?_ | (refine cndt ?_ ?_; (focus simp only [go_sem]; done)) | (refine cndf ?_ ?_; (focus simp only [go_sem]; done)) | (refine And.intro ?_ ?_; focus omega))
  refine cnd rfl (fun h => ?_) (fun h => ?_)
  ·simp only [decide_eq_true_eq, Int.ofNat_lt] at h
   have hd := List.drop_eq_getElem_cons h
   rw [hd, idxP] at hq
   repeat' (with_reducible first | refine nX ?_ | (refine mX ?_; try simp only [go_sem, h]) | refine kO ?_ (by decide) | refine reg ?_ | (refine regx (by simp only [bodyX, isStX, Bool.false_eq_true, if_false, if_true]; rfl) (by kernel_rfl) (by kernel_rfl) (by decide) ?_ ?_ ?_; (focus simp only [go_sem]; done); (focus simp only [go_sem]; done)) | refine xE ?_ (by simp only [tailX, isStX, Bool.false_eq_true, if_false, if_true]; rfl) (by simp only [go_sem]; rfl) | refine regd (by kernel_rfl) ?_ | (refine cA (hf l[k] (List.getElem_mem h)) ?_ ?_; focus simp only [go_sem, and_self]; done) | (refine cX (hf l[k] (List.getElem_mem h)) ?_ ?_; focus simp only [go_sem, and_self]; done) | (refine cY (hf l[k] (List.getElem_mem h)) ?_ ?_; focus simp only [go_sem, and_self]; done) | (refine cD (hf l[k] (List.getElem_mem h)) ?_ ?_; focus simp only [go_sem, and_self]; done) | (refine cndt ?_ ?_; (focus simp only [go_sem]; done)) | (refine cndf ?_ ?_; (focus simp only [go_sem]; done)) | (refine And.intro ?_ ?_; focus omega))
   refine cnd rfl (fun h2 => ?_) (fun h2 => ?_)
   ·repeat' (with_reducible first | refine nX ?_ | (refine mX ?_; try simp only [go_sem]) | refine kO ?_ (by decide) | refine reg ?_ | (refine regx (by simp only [bodyX, isStX, Bool.false_eq_true, if_false, if_true]; rfl) (by kernel_rfl) (by kernel_rfl) (by decide) ?_ ?_ ?_; (focus simp only [go_sem]; done); (focus simp only [go_sem]; done)) | refine xE ?_ (by simp only [tailX, isStX, Bool.false_eq_true, if_false, if_true]; rfl) (by simp only [go_sem]; rfl) | refine regd (by kernel_rfl) ?_ | (refine cndt ?_ ?_; (focus simp only [go_sem]; done)) | (refine cndf ?_ ?_; (focus simp only [go_sem]; done)) | (refine And.intro ?_ ?_; focus omega))
    exact retK_ret ⟨⟨_, rfl, by simp only [go_sem, hq, h2]⟩, trivial⟩
   ·repeat' (with_reducible first | refine nX ?_ | (refine mX ?_; try simp only [go_sem]) | refine kO ?_ (by decide) | refine reg ?_ | (refine regx (by simp only [bodyX, isStX, Bool.false_eq_true, if_false, if_true]; rfl) (by kernel_rfl) (by kernel_rfl) (by decide) ?_ ?_ ?_; (focus simp only [go_sem]; done); (focus simp only [go_sem]; done)) | refine xE ?_ (by simp only [tailX, isStX, Bool.false_eq_true, if_false, if_true]; rfl) (by simp only [go_sem]; rfl) | refine regd (by kernel_rfl) ?_ | (refine cndt ?_ ?_; (focus simp only [go_sem]; done)) | (refine cndf ?_ ?_; (focus simp only [go_sem]; done)) | (refine And.intro ?_ ?_; focus omega))
    refine L_next (k + 1) ?_ ?_ ?_
    ·simp only [go_sem]; simp
    ·rw [hq, h2]; exact ⟨h, by simp⟩
    ·omega
  ·simp only [decide_eq_false_iff_not] at h
   have e : k = l.length := by omega
   subst e
   simp only [List.drop_length, idxP] at hq
   repeat' (with_reducible first | refine nX ?_ | (refine mX ?_; try simp only [go_sem]) | refine kO ?_ (by decide) | refine reg ?_ | (refine regx (by simp only [bodyX, isStX, Bool.false_eq_true, if_false, if_true]; rfl) (by kernel_rfl) (by kernel_rfl) (by decide) ?_ ?_ ?_; (focus simp only [go_sem]; done); (focus simp only [go_sem]; done)) | refine xE ?_ (by simp only [tailX, isStX, Bool.false_eq_true, if_false, if_true]; rfl) (by simp only [go_sem]; rfl) | refine regd (by kernel_rfl) ?_ | (refine cndt ?_ ?_; (focus simp only [go_sem]; done)) | (refine cndf ?_ ?_; (focus simp only [go_sem]; done)) | (refine And.intro ?_ ?_; focus omega))
   exact retK_ret ⟨⟨_, rfl, by simp only [go_sem, hq]⟩, trivial⟩
end Go.Proofs.YtdgeoalhmmfgnaaGreat
