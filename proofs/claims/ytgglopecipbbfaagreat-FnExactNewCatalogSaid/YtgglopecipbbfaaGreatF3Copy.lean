/-
  The copies: copyFile, copyFiles, copyStore, copyDir, copyDirs, copyResults, copyCatalog; l04Copy, l05Copy, l11Copy, l19Answers, l19Copy.
-/
import Derived.Test.YtgglopecipbbfaaGreatB9Eff
import Derived.Test.YtgglopecipbbfaaGreatK1Lib
import Derived.Test.YtgglopecipbbfaaGreatC1Clone
import Derived.Test.YtgglopecipbbfaaGreatH2
set_option linter.all false
set_option maxRecDepth 100000
set_option maxHeartbeats 4000000
namespace Go.Proofs.YtgglopecipbbfaaGreat
open Go Go.Sx Go.RowKit Go.Proofs

theorem cpFile_ok (f : TFile) (h : f.fAttrs.length ≤ 4300000) : FnC Tryz.prog 184 [gFile f] (rFile f) := by
  refine ent Tryz.func184 rfl Tryz.call184 rfl (fun C => ?_); simp only [go_sem, st0, Tryz.ntmps184]
  repeat' (with_reducible first | refine nY ?_ | (refine mX ?_; try simp only [go_sem]) | refine kO ?_ (by decide) | refine regd (by kernel_rfl) ?_ | (refine cC (cloneAttr_ok f.fAttrs h) ?_ ?_; focus simp only [go_sem, and_self]; done) | (refine And.intro ?_ ?_; focus omega))
  exact retK_ret ⟨⟨_, rfl, by simp only [go_sem]⟩, trivial⟩
theorem cpDir_ok (x : TDir) (h : x.fQuery.length ≤ 4300000) : FnC Tryz.prog 175 [gDir x] (rDir x) := by
  refine ent Tryz.func175 rfl Tryz.call175 rfl (fun C => ?_); simp only [go_sem, st0, Tryz.ntmps175]
  repeat' (with_reducible first | refine nY ?_ | (refine mX ?_; try simp only [go_sem]) | refine kO ?_ (by decide) | refine regd (by kernel_rfl) ?_ | (refine cC (cloneNode_ok x.fQuery h) ?_ ?_; focus simp only [go_sem, and_self]; done) | (refine And.intro ?_ ?_; focus omega))
  exact retK_ret ⟨⟨_, rfl, by simp only [go_sem]⟩, trivial⟩
theorem l04Cp_ok (f : TFile) (h : f.fAttrs.length ≤ 4300000) : FnC Tryz.prog 172 [gFile f] (rFile f) := by
  refine ent Tryz.func172 rfl Tryz.call172 rfl (fun C => ?_); simp only [go_sem, st0, Tryz.ntmps172]
  repeat' (with_reducible first | refine nY ?_ | (refine mX ?_; try simp only [go_sem]) | refine kO ?_ (by decide) | refine regd (by kernel_rfl) ?_ | (refine And.intro ?_ ?_; focus omega))
  exact retK_ret ⟨⟨_, rfl, by simp only [go_sem]⟩, trivial⟩
theorem cpFiles_ok (l : List TFile) (hl : wFileS l ≤ 4300000) : FnC Tryz.prog 174 [.o (.d (.sl (l.map encFile)))] (.o (.w 73 5 (l.map encFile))) := by
  unfold wFileS at hl
  refine ent Tryz.func174 rfl Tryz.call174 rfl (fun C => ?_); simp only [go_sem, st0, Tryz.ntmps174]
  repeat' (with_reducible first | refine nY ?_ | (refine mX ?_; try simp only [go_sem]) | refine kO ?_ (by decide) | refine regd (by kernel_rfl) ?_ | (refine And.intro ?_ ?_; focus omega))
  refine WP_lp (α := Nat) (fun k => [(3, .o (.s 0)), (6, .o .u), (9, oi k)]) (fun k => [(0, .row 73 5 ((l.take k).map encFile) true)]) (fun k => k ≤ l.length) (fun k => l.length - k) 0 (fun _ => ?_) ?_ ?_ (fun k hk => ?_)
  · simp only [go_sem]
  · simp only [go_sem]; simp
  · simp
  · simp only [go_sem]
    repeat' (with_reducible first | refine nY ?_ | (refine mX ?_; try simp only [go_sem]) | refine kO ?_ (by decide) | refine regd (by kernel_rfl) ?_ | (refine And.intro ?_ ?_; focus omega))
    refine cnd rfl (fun h1 => ?_) (fun h1 => ?_)
    · simp only [decide_eq_true_eq, Int.ofNat_lt] at h1
      have hw := wsum_get wFile l h1
      have hx : l[k].fAttrs.length ≤ 4300000 := by
        have e : l[k].fAttrs.length ≤ wFile l[k] := by unfold wFile wAttrS; omega
        omega
      have ht := List.take_succ_eq_append_getElem h1
      have hn : (l.take k).length = k := by rw [List.length_take]; omega
      repeat' (with_reducible first | refine nY ?_ | (refine mX ?_; try simp only [go_sem, h1, hn]) | refine kO ?_ (by decide) | refine regd (by kernel_rfl) ?_ | (refine cC (cpFile_ok l[k] hx) ?_ ?_; focus simp only [go_sem, and_self]; done) | (refine And.intro ?_ ?_; focus omega))
      refine L_next (k + 1) ?_ ?_ ?_
      · simp only [go_sem, ht, List.map_append]; simp [encFile]
      · omega
      · omega
    · simp only [decide_eq_false_iff_not] at h1
      have e : k = l.length := by omega
      subst e
      repeat' (with_reducible first | refine nY ?_ | (refine mX ?_; try simp only [go_sem]) | refine kO ?_ (by decide) | refine regd (by kernel_rfl) ?_ | (refine And.intro ?_ ?_; focus omega))
      exact retK_ret ⟨⟨_, rfl, by simp only [go_sem, List.take_length]⟩, trivial⟩
theorem cpDirs_ok (l : List TDir) (hl : wDirS l ≤ 4300000) : FnC Tryz.prog 104 [.o (.d (.sl (l.map encDir)))] (.o (.w 93 2 (l.map encDir))) := by
  unfold wDirS at hl
  refine ent Tryz.func104 rfl Tryz.call104 rfl (fun C => ?_); simp only [go_sem, st0, Tryz.ntmps104]
  repeat' (with_reducible first | refine nY ?_ | (refine mX ?_; try simp only [go_sem]) | refine kO ?_ (by decide) | refine regd (by kernel_rfl) ?_ | (refine And.intro ?_ ?_; focus omega))
  refine WP_lp (α := Nat) (fun k => [(3, .o (.s 0)), (6, .o .u), (9, oi k)]) (fun k => [(0, .row 93 2 ((l.take k).map encDir) true)]) (fun k => k ≤ l.length) (fun k => l.length - k) 0 (fun _ => ?_) ?_ ?_ (fun k hk => ?_)
  · simp only [go_sem]
  · simp only [go_sem]; simp
  · simp
  · simp only [go_sem]
    repeat' (with_reducible first | refine nY ?_ | (refine mX ?_; try simp only [go_sem]) | refine kO ?_ (by decide) | refine regd (by kernel_rfl) ?_ | (refine And.intro ?_ ?_; focus omega))
    refine cnd rfl (fun h1 => ?_) (fun h1 => ?_)
    · simp only [decide_eq_true_eq, Int.ofNat_lt] at h1
      have hw := wsum_get wDir l h1
      have hx : l[k].fQuery.length ≤ 4300000 := by
        have e : l[k].fQuery.length ≤ wDir l[k] := by unfold wDir wNodeS; omega
        omega
      have ht := List.take_succ_eq_append_getElem h1
      have hn : (l.take k).length = k := by rw [List.length_take]; omega
      repeat' (with_reducible first | refine nY ?_ | (refine mX ?_; try simp only [go_sem, h1, hn]) | refine kO ?_ (by decide) | refine regd (by kernel_rfl) ?_ | (refine cC (cpDir_ok l[k] hx) ?_ ?_; focus simp only [go_sem, and_self]; done) | (refine And.intro ?_ ?_; focus omega))
      refine L_next (k + 1) ?_ ?_ ?_
      · simp only [go_sem, ht, List.map_append]; simp [encDir]
      · omega
      · omega
    · simp only [decide_eq_false_iff_not] at h1
      have e : k = l.length := by omega
      subst e
      repeat' (with_reducible first | refine nY ?_ | (refine mX ?_; try simp only [go_sem]) | refine kO ?_ (by decide) | refine regd (by kernel_rfl) ?_ | (refine And.intro ?_ ?_; focus omega))
      exact retK_ret ⟨⟨_, rfl, by simp only [go_sem, List.take_length]⟩, trivial⟩
theorem cpStore_ok (s : TStore) (h : wStore s ≤ 4300000) : FnC Tryz.prog 103 [gStore s] (rStore s) := by
  have h1 : s.fSchema.length ≤ 4300000 := by unfold wStore wFieldS at h; omega
  have h2 : wFileS s.fFiles ≤ 4300000 := by unfold wStore at h; omega
  refine ent Tryz.func103 rfl Tryz.call103 rfl (fun C => ?_); simp only [go_sem, st0, Tryz.ntmps103]
  repeat' (with_reducible first | refine nY ?_ | (refine mX ?_; try simp only [go_sem]) | refine kO ?_ (by decide) | (apply rE [2,5,9] [] [0,1,3,4,6,7] [0,1,3,4,6,7] ((.c 2 [] [3,4,6,7] (.c 5 [8] [6,7,8] (.c 9 [] [] .n .n) .n) .n)) (by simp only [go_sem]; rfl) (by simp only [go_sem]; rfl) (by simp only [go_sem]; rfl) (by decide +kernel); (focus simp only [go_sem]; done)) | exact tt_nil | (refine tt_cons (uX ?_) ?_) | refine tn_leaf (aX ?_) ?_ | refine tn_node (aX ?_) ?_ | exact meet_eq | (refine oG ?_; (focus simp only [go_sem]; done)) | (refine uA ?_; simp only [go_sem]; (repeat' first | omega | refine And.intro ?_ ?_); done) | refine regd (by kernel_rfl) ?_ | (refine cC (cloneField_ok s.fSchema h1) ?_ ?_; focus simp only [go_sem, and_self]; done) | (refine cC (cpFiles_ok s.fFiles h2) ?_ ?_; focus simp only [go_sem, and_self]; done) | (refine And.intro ?_ ?_; focus omega))
  exact retK_ret ⟨⟨_, rfl, by simp only [go_sem]⟩, trivial⟩
theorem l11Cp_ok (l : List TDir) (hl : wDirS l ≤ 4300000) : FnC Tryz.prog 101 [.o (.d (.sl (l.map encDir)))] (.o (.w 93 2 (l.map encDir))) := by
  unfold wDirS at hl
  refine ent Tryz.func101 rfl Tryz.call101 rfl (fun C => ?_); simp only [go_sem, st0, Tryz.ntmps101]
  repeat' (with_reducible first | refine nY ?_ | (refine mX ?_; try simp only [go_sem]) | refine kO ?_ (by decide) | refine regd (by kernel_rfl) ?_ | (refine And.intro ?_ ?_; focus omega))
  refine WP_lp (α := Nat) (fun k => [(3, .o (.s 0)), (5, .o .u), (4, oi k)]) (fun k => [(0, .row 93 2 ((l.take k).map encDir) true)]) (fun k => k ≤ l.length) (fun k => l.length - k) 0 (fun _ => ?_) ?_ ?_ (fun k hk => ?_)
  · simp only [go_sem]
  · simp only [go_sem]; simp
  · simp
  · simp only [go_sem]
    repeat' (with_reducible first | refine nY ?_ | (refine mX ?_; try simp only [go_sem]) | refine kO ?_ (by decide) | refine regd (by kernel_rfl) ?_ | (refine And.intro ?_ ?_; focus omega))
    refine cnd rfl (fun h1 => ?_) (fun h1 => ?_)
    · simp only [decide_eq_true_eq, Int.ofNat_lt] at h1
      have hw := wsum_get wDir l h1
      have hx : l[k].fQuery.length ≤ 4300000 := by
        have e : l[k].fQuery.length ≤ wDir l[k] := by unfold wDir wNodeS; omega
        omega
      have hx1 : l[k].fQuery.length ≤ 140737488355328 := by omega
      have hx2 : l[k].fQuery.length * 72 ≤ 140737488355328 := by omega
      have ht := List.take_succ_eq_append_getElem h1
      have hn : (l.take k).length = k := by rw [List.length_take]; omega
      repeat' (with_reducible first | refine nY ?_ | (refine mX ?_; try simp only [go_sem, h1, hn, hx1, hx2]) | refine kO ?_ (by decide) | (apply rE [6,12,14,15,16] [16] [0,1,2,3,4,5,7,8,9,10,11] [0,1,2,3,4,5,7,8,9,10,11] ((.c 6 [] [0,1,2,3,4,5,7,8,9,10,11] (.c 12 [13] [0,1,2,3,4,5,13] (.c 14 [] [0] (.c 15 [] [] (.c 16 [] [] .n .n) .n) .n) .n) .n)) (by simp only [go_sem]; rfl) (by simp only [go_sem]; rfl) (by simp only [go_sem]; rfl) (by decide +kernel); (focus simp only [go_sem]; done)) | exact tt_nil | (refine tt_cons (uX ?_) ?_) | refine tn_leaf (aX ?_) ?_ | refine tn_node (aX ?_) ?_ | exact meet_eq | (refine oG ?_; (focus simp only [go_sem]; done)) | (refine uA ?_; simp only [go_sem, h1, hn, hx1, hx2]; (repeat' first | omega | refine And.intro ?_ ?_); done) | refine regd (by kernel_rfl) ?_ | (refine And.intro ?_ ?_; focus omega))
      refine L_next (k + 1) ?_ ?_ ?_
      · simp only [go_sem, ht, List.map_append]; simp [encDir]
      · omega
      · omega
    · simp only [decide_eq_false_iff_not] at h1
      have e : k = l.length := by omega
      subst e
      repeat' (with_reducible first | refine nY ?_ | (refine mX ?_; try simp only [go_sem]) | refine kO ?_ (by decide) | refine regd (by kernel_rfl) ?_ | (refine And.intro ?_ ?_; focus omega))
      exact retK_ret ⟨⟨_, rfl, by simp only [go_sem, List.take_length]⟩, trivial⟩
theorem l05Cp_ok (s : TStore) (h : wStore s ≤ 4300000) : FnC Tryz.prog 100 [gStore s] (rStore s) := by
  have h1 : s.fSchema.length ≤ 4300000 := by unfold wStore wFieldS at h; omega
  have h2 : s.fFiles.length + wsum wFile s.fFiles ≤ 4300000 := by unfold wStore wFileS at h; omega
  refine ent Tryz.func100 rfl Tryz.call100 rfl (fun C => ?_); simp only [go_sem, st0, Tryz.ntmps100]
  repeat' (with_reducible first | refine nY ?_ | (refine mX ?_; try simp only [go_sem]) | refine kO ?_ (by decide) | (apply rE [0,3,7,8] [] [1,2,4,5] [1,2,4,5] ((.c 0 [] [1,2,4,5] (.c 3 [6] [4,5,6] (.c 7 [] [4,5,6] (.c 8 [] [] .n .n) .n) (.c 7 [] [1,2,4,5] (.c 3 [6] [4,5,6] (.c 8 [] [] .n .n) .n) .n)) (.c 7 [] [1,2,4,5] (.c 0 [] [1,2,4,5] (.c 3 [6] [4,5,6] (.c 8 [] [] .n .n) .n) .n) .n))) (by simp only [go_sem]; rfl) (by simp only [go_sem]; rfl) (by simp only [go_sem]; rfl) (by decide +kernel); (focus simp only [go_sem]; done)) | exact tt_nil | (refine tt_cons (uX ?_) ?_) | refine tn_leaf (aX ?_) ?_ | refine tn_node (aX ?_) ?_ | exact meet_eq | (refine meet_sw [(2, 3)] (by simp only [go_sem]; rfl) ?_; exact rfl) | (refine oG ?_; (focus simp only [go_sem]; done)) | (refine uA ?_; simp only [go_sem]; (repeat' first | omega | refine And.intro ?_ ?_); done) | refine regd (by kernel_rfl) ?_ | (refine And.intro ?_ ?_; focus omega))
  refine WP_nilB 3 1 73 5 rfl rfl ?_
  simp only [go_sem]
  refine WP_lp (α := Nat) (fun k => [(4, oi k)]) (fun k => [(4, .row 73 5 ((s.fFiles.take k).map encFile) true)]) (fun k => k ≤ s.fFiles.length) (fun k => s.fFiles.length - k) 0 (fun _ => ?_) ?_ ?_ (fun k hk => ?_)
  · simp only [go_sem]
  · simp only [go_sem]; simp
  · simp
  · simp only [go_sem]
    repeat' (with_reducible first | refine nY ?_ | (refine mX ?_; try simp only [go_sem]) | refine kO ?_ (by decide) | refine regd (by kernel_rfl) ?_ | (refine And.intro ?_ ?_; focus omega))
    refine cnd rfl (fun h1 => ?_) (fun h1 => ?_)
    · simp only [decide_eq_true_eq, Int.ofNat_lt] at h1
      have hw := wsum_get wFile s.fFiles h1
      have hx : s.fFiles[k].fAttrs.length ≤ 4300000 := by
        have e : s.fFiles[k].fAttrs.length ≤ wFile s.fFiles[k] := by unfold wFile wAttrS; omega
        omega
      have ht := List.take_succ_eq_append_getElem h1
      have hn : (s.fFiles.take k).length = k := by rw [List.length_take]; omega
      repeat' (with_reducible first | refine nY ?_ | (refine mX ?_; try simp only [go_sem, h1, hn]) | refine kO ?_ (by decide) | (apply rE [7,8,9,11] [] [0,1,2,3,4,5,6] [0,1,2,3,4,5,6] ((.c 7 [] [0,1] (.c 8 [] [0,1] (.c 9 [10] [10] (.c 11 [] [] .n .n) .n) .n) .n)) (by simp only [go_sem]; rfl) (by simp only [go_sem]; rfl) (by simp only [go_sem]; rfl) (by decide +kernel); (focus simp only [go_sem]; done)) | exact tt_nil | (refine tt_cons (uX ?_) ?_) | refine tn_leaf (aX ?_) ?_ | refine tn_node (aX ?_) ?_ | exact meet_eq | (refine oG ?_; (focus simp only [go_sem]; done)) | (refine uA ?_; simp only [go_sem, h1, hn]; (repeat' first | omega | refine And.intro ?_ ?_); done) | refine regd (by kernel_rfl) ?_ | (refine cC (l04Cp_ok s.fFiles[k] hx) ?_ ?_; focus simp only [go_sem, and_self]; done) | (refine And.intro ?_ ?_; focus omega))
      refine L_next (k + 1) ?_ ?_ ?_
      · simp only [go_sem, ht, List.map_append]; simp [encFile]
      · omega
      · omega
    · simp only [decide_eq_false_iff_not] at h1
      have e : k = s.fFiles.length := by omega
      subst e
      repeat' (with_reducible first | refine nY ?_ | (refine mX ?_; try simp only [go_sem]) | refine kO ?_ (by decide) | refine regd (by kernel_rfl) ?_ | (refine And.intro ?_ ?_; focus omega))
      exact retK_ret ⟨⟨_, rfl, by simp only [go_sem, List.take_length]⟩, trivial⟩
end Go.Proofs.YtgglopecipbbfaaGreat
