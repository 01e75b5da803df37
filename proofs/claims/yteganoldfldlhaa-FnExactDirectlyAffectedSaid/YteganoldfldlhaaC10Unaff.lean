/-
  UnaffectedDirs: both functions, the law.
-/
import Derived.Test.YteganoldfldlhaaM1
import Derived.Test.YteganoldfldlhaaI1
import Derived.Test.YteganoldfldlhaaH2
set_option linter.all false
set_option maxRecDepth 100000
set_option maxHeartbeats 4000000
namespace Go.Proofs.Yteganoldfldlhaa
open Go Go.Sx Go.RowKit Go.Proofs

def hasS (l : List ByteArray) (s : ByteArray) : Bool := l.any fun x => decide (x = s)
theorem hasS_drop (l : List ByteArray) (s : ByteArray) (k : Nat) (h : k < l.length) : hasS (l.drop k) s = (decide (l[k] = s) || hasS (l.drop (k + 1)) s) := by
  rw [List.drop_eq_getElem_cons h]; rfl
theorem l12Has_ok (l : List ByteArray) (s : ByteArray) (hl : l.length ≤ 1048576) : FnC Try.prog 89 [.o (.d (.sl (l.map encS))), os s] (ob (hasS l s)) := by
  refine ent Try.func89 rfl Try.call89 rfl (fun C => ?_)
  simp only [go_sem, st0, Try.ntmps89]
  repeat' (with_reducible first | refine WP_ret ?_ | refine WP_skip ?_ | refine WP_exit ?_ | refine WP_seq ?_ | refine WP_block ?_ | refine K_code ?_ | refine K_blk ?_ | refine K_code_ret ?_ | refine K_blk_ret ?_ | refine K_code_exit ?_ | refine K_blk_exit_same ?_ | refine K_blk_exit_other (by decide) ?_ | refine K_nil ?_ | refine L_ret ?_ | refine L_exit ?_ | (refine run_cons ?_; simp only [go_sem]) | (refine run_nil ?_) | (refine drun_cons ?_; simp only [go_sem]) | (refine drun_nil ?_) | (refine reg ?_) | (refine regd (by kernel_rfl) ?_) | (refine cndt ?_ ?_; (focus (simp only [go_sem]; done))) | (refine cndf ?_ ?_; (focus (simp only [go_sem]; done))) | (refine And.intro ?_ ?_; (focus omega)))
  refine WP_lp (α := Nat) (fun k => [(5, oi k)]) (fun k => []) (fun k => k ≤ l.length ∧ hasS (l.drop k) s = hasS l s) (fun k => l.length - k) 0 (fun _ => ?_) ?_ ?_ (fun k hk => ?_)
  · simp only [go_sem]; try simp
  · simp only [go_sem]; try simp
  · simp
  · simp only [go_sem]
    obtain ⟨hk, hg⟩ := hk
    repeat' (with_reducible first | refine WP_ret ?_ | refine WP_skip ?_ | refine WP_exit ?_ | refine WP_seq ?_ | refine WP_block ?_ | refine K_code ?_ | refine K_blk ?_ | refine K_code_ret ?_ | refine K_blk_ret ?_ | refine K_code_exit ?_ | refine K_blk_exit_same ?_ | refine K_blk_exit_other (by decide) ?_ | refine K_nil ?_ | refine L_ret ?_ | refine L_exit ?_ | (refine run_cons ?_; simp only [go_sem]) | (refine run_nil ?_) | (refine drun_cons ?_; simp only [go_sem]) | (refine drun_nil ?_) | (refine reg ?_) | (refine regd (by kernel_rfl) ?_) | (refine cndt ?_ ?_; (focus (simp only [go_sem]; done))) | (refine cndf ?_ ?_; (focus (simp only [go_sem]; done))) | (refine And.intro ?_ ?_; (focus omega)))
    refine cnd rfl (fun h1 => ?_) (fun h1 => ?_)
    · simp only [decide_eq_true_eq, Int.ofNat_lt] at h1
      have hd := hasS_drop l s k h1
      rw [hg] at hd
      repeat' (with_reducible first | refine WP_ret ?_ | refine WP_skip ?_ | refine WP_exit ?_ | refine WP_seq ?_ | refine WP_block ?_ | refine K_code ?_ | refine K_blk ?_ | refine K_code_ret ?_ | refine K_blk_ret ?_ | refine K_code_exit ?_ | refine K_blk_exit_same ?_ | refine K_blk_exit_other (by decide) ?_ | refine K_nil ?_ | refine L_ret ?_ | refine L_exit ?_ | (refine run_cons ?_; simp only [go_sem, h1]) | (refine run_nil ?_) | (refine drun_cons ?_; simp only [go_sem, h1]) | (refine drun_nil ?_) | (refine reg ?_) | (refine regd (by kernel_rfl) ?_) | (refine cndt ?_ ?_; (focus (simp only [go_sem]; done))) | (refine cndf ?_ ?_; (focus (simp only [go_sem]; done))) | (refine And.intro ?_ ?_; (focus omega)))
      refine cnd rfl (fun hv => ?_) (fun hv => ?_)
      · rw [hv, Bool.true_or] at hd
        repeat' (with_reducible first | refine WP_ret ?_ | refine WP_skip ?_ | refine WP_exit ?_ | refine WP_seq ?_ | refine WP_block ?_ | refine K_code ?_ | refine K_blk ?_ | refine K_code_ret ?_ | refine K_blk_ret ?_ | refine K_code_exit ?_ | refine K_blk_exit_same ?_ | refine K_blk_exit_other (by decide) ?_ | refine K_nil ?_ | refine L_ret ?_ | refine L_exit ?_ | (refine run_cons ?_; simp only [go_sem]) | (refine run_nil ?_) | (refine drun_cons ?_; simp only [go_sem]) | (refine drun_nil ?_) | (refine reg ?_) | (refine regd (by kernel_rfl) ?_) | (refine cndt ?_ ?_; (focus (simp only [go_sem]; done))) | (refine cndf ?_ ?_; (focus (simp only [go_sem]; done))) | (refine And.intro ?_ ?_; (focus omega)))
        exact retK_ret ⟨⟨_, rfl, by simp only [go_sem, hd]⟩, trivial⟩
      · rw [hv, Bool.false_or] at hd
        repeat' (with_reducible first | refine WP_ret ?_ | refine WP_skip ?_ | refine WP_exit ?_ | refine WP_seq ?_ | refine WP_block ?_ | refine K_code ?_ | refine K_blk ?_ | refine K_code_ret ?_ | refine K_blk_ret ?_ | refine K_code_exit ?_ | refine K_blk_exit_same ?_ | refine K_blk_exit_other (by decide) ?_ | refine K_nil ?_ | refine L_ret ?_ | refine L_exit ?_ | (refine run_cons ?_; simp only [go_sem]) | (refine run_nil ?_) | (refine drun_cons ?_; simp only [go_sem]) | (refine drun_nil ?_) | (refine reg ?_) | (refine regd (by kernel_rfl) ?_) | (refine cndt ?_ ?_; (focus (simp only [go_sem]; done))) | (refine cndf ?_ ?_; (focus (simp only [go_sem]; done))) | (refine And.intro ?_ ?_; (focus omega)))
        refine L_next (k + 1) ?_ ?_ ?_
        · simp only [go_sem]; try simp
        · exact ⟨by omega, hd.symm⟩
        · omega
    · simp only [decide_eq_false_iff_not] at h1
      have e : k = l.length := by omega
      subst e
      have hn : hasS l s = false := by rw [← hg, List.drop_length]; rfl
      repeat' (with_reducible first | refine WP_ret ?_ | refine WP_skip ?_ | refine WP_exit ?_ | refine WP_seq ?_ | refine WP_block ?_ | refine K_code ?_ | refine K_blk ?_ | refine K_code_ret ?_ | refine K_blk_ret ?_ | refine K_code_exit ?_ | refine K_blk_exit_same ?_ | refine K_blk_exit_other (by decide) ?_ | refine K_nil ?_ | refine L_ret ?_ | refine L_exit ?_ | (refine run_cons ?_; simp only [go_sem]) | (refine run_nil ?_) | (refine drun_cons ?_; simp only [go_sem]) | (refine drun_nil ?_) | (refine reg ?_) | (refine regd (by kernel_rfl) ?_) | (refine cndt ?_ ?_; (focus (simp only [go_sem]; done))) | (refine cndf ?_ ?_; (focus (simp only [go_sem]; done))) | (refine And.intro ?_ ?_; (focus omega)))
      exact retK_ret ⟨⟨_, rfl, by simp only [go_sem, hn]⟩, trivial⟩
theorem indexS_ok (l : List ByteArray) (s : ByteArray) (hl : l.length ≤ 1048576) : FnC Try.prog 158 [.o (.d (.sl (l.map encS))), os s] (oi (idxP (fun x => decide (s = x)) l 0)) := by
  refine ent Try.func158 rfl Try.call158 rfl (fun C => ?_)
  simp only [go_sem, st0, Try.ntmps158]
  repeat' (with_reducible first | refine WP_ret ?_ | refine WP_skip ?_ | refine WP_exit ?_ | refine WP_seq ?_ | refine WP_block ?_ | refine K_code ?_ | refine K_blk ?_ | refine K_code_ret ?_ | refine K_blk_ret ?_ | refine K_code_exit ?_ | refine K_blk_exit_same ?_ | refine K_blk_exit_other (by decide) ?_ | refine K_nil ?_ | refine L_ret ?_ | refine L_exit ?_ | (refine run_cons ?_; simp only [go_sem]) | (refine run_nil ?_) | (refine drun_cons ?_; simp only [go_sem]) | (refine drun_nil ?_) | (refine reg ?_) | (refine regd (by kernel_rfl) ?_) | (refine cndt ?_ ?_; (focus (simp only [go_sem]; done))) | (refine cndf ?_ ?_; (focus (simp only [go_sem]; done))) | (refine And.intro ?_ ?_; (focus omega)))
  refine WP_lp (α := Nat) (fun k => [(8, oi k)]) (fun _ => []) (fun k => k ≤ l.length ∧ idxP (fun x => decide (s = x)) l 0 = idxP (fun x => decide (s = x)) (l.drop k) k) (fun k => l.length - k) 0 (fun _ => ?_) ?_ ?_ (fun k hk => ?_)
  · simp only [go_sem]
  · simp only [go_sem]; simp
  · simp
  · obtain ⟨hk, hq⟩ := hk
    simp only [go_sem]
    repeat' (with_reducible first | refine WP_ret ?_ | refine WP_skip ?_ | refine WP_exit ?_ | refine WP_seq ?_ | refine WP_block ?_ | refine K_code ?_ | refine K_blk ?_ | refine K_code_ret ?_ | refine K_blk_ret ?_ | refine K_code_exit ?_ | refine K_blk_exit_same ?_ | refine K_blk_exit_other (by decide) ?_ | refine K_nil ?_ | refine L_ret ?_ | refine L_exit ?_ | (refine run_cons ?_; simp only [go_sem]) | (refine run_nil ?_) | (refine drun_cons ?_; simp only [go_sem]) | (refine drun_nil ?_) | (refine reg ?_) | (refine regd (by kernel_rfl) ?_) | (refine cndt ?_ ?_; (focus (simp only [go_sem]; done))) | (refine cndf ?_ ?_; (focus (simp only [go_sem]; done))) | (refine And.intro ?_ ?_; (focus omega)))
    refine cnd rfl (fun h => ?_) (fun h => ?_)
    · simp only [decide_eq_true_eq, Int.ofNat_lt] at h
      have hd := List.drop_eq_getElem_cons h
      rw [hd, idxP] at hq
      repeat' (with_reducible first | refine WP_ret ?_ | refine WP_skip ?_ | refine WP_exit ?_ | refine WP_seq ?_ | refine WP_block ?_ | refine K_code ?_ | refine K_blk ?_ | refine K_code_ret ?_ | refine K_blk_ret ?_ | refine K_code_exit ?_ | refine K_blk_exit_same ?_ | refine K_blk_exit_other (by decide) ?_ | refine K_nil ?_ | refine L_ret ?_ | refine L_exit ?_ | (refine run_cons ?_; simp only [go_sem, h]) | (refine run_nil ?_) | (refine drun_cons ?_; simp only [go_sem, h]) | (refine drun_nil ?_) | (refine reg ?_) | (refine regd (by kernel_rfl) ?_) | (refine cndt ?_ ?_; (focus (simp only [go_sem]; done))) | (refine cndf ?_ ?_; (focus (simp only [go_sem]; done))) | (refine And.intro ?_ ?_; (focus omega)))
      refine cnd rfl (fun h2 => ?_) (fun h2 => ?_)
      · repeat' (with_reducible first | refine WP_ret ?_ | refine WP_skip ?_ | refine WP_exit ?_ | refine WP_seq ?_ | refine WP_block ?_ | refine K_code ?_ | refine K_blk ?_ | refine K_code_ret ?_ | refine K_blk_ret ?_ | refine K_code_exit ?_ | refine K_blk_exit_same ?_ | refine K_blk_exit_other (by decide) ?_ | refine K_nil ?_ | refine L_ret ?_ | refine L_exit ?_ | (refine run_cons ?_; simp only [go_sem]) | (refine run_nil ?_) | (refine drun_cons ?_; simp only [go_sem]) | (refine drun_nil ?_) | (refine reg ?_) | (refine regd (by kernel_rfl) ?_) | (refine cndt ?_ ?_; (focus (simp only [go_sem]; done))) | (refine cndf ?_ ?_; (focus (simp only [go_sem]; done))) | (refine And.intro ?_ ?_; (focus omega)))
        exact retK_ret ⟨⟨_, rfl, by simp only [go_sem, hq, h2]⟩, trivial⟩
      · repeat' (with_reducible first | refine WP_ret ?_ | refine WP_skip ?_ | refine WP_exit ?_ | refine WP_seq ?_ | refine WP_block ?_ | refine K_code ?_ | refine K_blk ?_ | refine K_code_ret ?_ | refine K_blk_ret ?_ | refine K_code_exit ?_ | refine K_blk_exit_same ?_ | refine K_blk_exit_other (by decide) ?_ | refine K_nil ?_ | refine L_ret ?_ | refine L_exit ?_ | (refine run_cons ?_; simp only [go_sem]) | (refine run_nil ?_) | (refine drun_cons ?_; simp only [go_sem]) | (refine drun_nil ?_) | (refine reg ?_) | (refine regd (by kernel_rfl) ?_) | (refine cndt ?_ ?_; (focus (simp only [go_sem]; done))) | (refine cndf ?_ ?_; (focus (simp only [go_sem]; done))) | (refine And.intro ?_ ?_; (focus omega)))
        refine L_next (k + 1) ?_ ?_ ?_
        · simp only [go_sem]; simp
        · rw [hq, h2]; exact ⟨h, by simp⟩
        · omega
    · simp only [decide_eq_false_iff_not] at h
      have e : k = l.length := by omega
      subst e
      simp only [List.drop_length, idxP] at hq
      repeat' (with_reducible first | refine WP_ret ?_ | refine WP_skip ?_ | refine WP_exit ?_ | refine WP_seq ?_ | refine WP_block ?_ | refine K_code ?_ | refine K_blk ?_ | refine K_code_ret ?_ | refine K_blk_ret ?_ | refine K_code_exit ?_ | refine K_blk_exit_same ?_ | refine K_blk_exit_other (by decide) ?_ | refine K_nil ?_ | refine L_ret ?_ | refine L_exit ?_ | (refine run_cons ?_; simp only [go_sem]) | (refine run_nil ?_) | (refine drun_cons ?_; simp only [go_sem]) | (refine drun_nil ?_) | (refine reg ?_) | (refine regd (by kernel_rfl) ?_) | (refine cndt ?_ ?_; (focus (simp only [go_sem]; done))) | (refine cndf ?_ ?_; (focus (simp only [go_sem]; done))) | (refine And.intro ?_ ?_; (focus omega)))
      exact retK_ret ⟨⟨_, rfl, by simp only [go_sem, hq]⟩, trivial⟩
theorem idxP_any {α : Type} (p : α → Bool) : ∀ (l : List α) (k : Nat), decide (0 ≤ idxP p l k) = l.any p
  | [], _ => by simp [idxP]
  | x :: xs, k => by
    simp only [idxP, List.any_cons]
    by_cases h : p x = true
    · simp [h]
    · rw [Bool.not_eq_true] at h
      simpa [h] using idxP_any p xs (k + 1)
theorem hasS_idx (l : List ByteArray) (s : ByteArray) : decide (0 ≤ idxP (fun x => decide (s = x)) l 0) = hasS l s := by
  rw [idxP_any]; unfold hasS
  congr 1; funext x; congr 1; exact propext eq_comm
theorem containsS_ok (l : List ByteArray) (s : ByteArray) (hl : l.length ≤ 1048576) : FnC Try.prog 94 [.o (.d (.sl (l.map encS))), os s] (ob (hasS l s)) := by
  refine ent Try.func94 rfl Try.call94 rfl (fun C => ?_)
  simp only [go_sem, st0, Try.ntmps94]
  repeat' (with_reducible first | refine WP_ret ?_ | refine WP_skip ?_ | refine WP_exit ?_ | refine WP_seq ?_ | refine WP_block ?_ | refine K_code ?_ | refine K_blk ?_ | refine K_code_ret ?_ | refine K_blk_ret ?_ | refine K_code_exit ?_ | refine K_blk_exit_same ?_ | refine K_blk_exit_other (by decide) ?_ | refine K_nil ?_ | refine L_ret ?_ | refine L_exit ?_ | (refine run_cons ?_; simp only [go_sem]) | (refine run_nil ?_) | (refine drun_cons ?_; simp only [go_sem]) | (refine drun_nil ?_) | (refine reg ?_) | (refine regd (by kernel_rfl) ?_) | (refine cal (indexS_ok l s hl) ?_ ?_ ?_; (focus (simp only [go_sem]; done)); (focus (simp only [go_sem]; done)); try simp only [go_sem]) | (refine cald (indexS_ok l s hl) ?_ ?_ ?_ ?_; (focus (simp only [go_sem]; done)); (focus (simp only [go_sem]; done)); (focus (simp only [go_sem]; done)); try simp only [go_sem]) | (refine cndt ?_ ?_; (focus (simp only [go_sem]; done))) | (refine cndf ?_ ?_; (focus (simp only [go_sem]; done))) | (refine And.intro ?_ ?_; (focus omega)))
  exact retK_ret ⟨⟨_, rfl, by simp only [go_sem, hasS_idx]⟩, trivial⟩
theorem unaffF_ok (names : List ByteArray) (s : ByteArray) (hl : names.length ≤ 1048576) : FnC Try.prog 93 [os s, .o (.q [.sl (names.map encS)])] (ob (hasS names s)) := by
  refine ent Try.func93 rfl Try.call93 rfl (fun C => ?_)
  simp only [go_sem, st0, Try.ntmps93]
  repeat' (with_reducible first | refine WP_ret ?_ | refine WP_skip ?_ | refine WP_exit ?_ | refine WP_seq ?_ | refine WP_block ?_ | refine K_code ?_ | refine K_blk ?_ | refine K_code_ret ?_ | refine K_blk_ret ?_ | refine K_code_exit ?_ | refine K_blk_exit_same ?_ | refine K_blk_exit_other (by decide) ?_ | refine K_nil ?_ | refine L_ret ?_ | refine L_exit ?_ | (refine run_cons ?_; simp only [go_sem]) | (refine run_nil ?_) | (refine drun_cons ?_; simp only [go_sem]) | (refine drun_nil ?_) | (refine reg ?_) | (refine regd (by kernel_rfl) ?_) | (refine cal (containsS_ok names s hl) ?_ ?_ ?_; (focus (simp only [go_sem]; done)); (focus (simp only [go_sem]; done)); try simp only [go_sem]) | (refine cald (containsS_ok names s hl) ?_ ?_ ?_ ?_; (focus (simp only [go_sem]; done)); (focus (simp only [go_sem]; done)); (focus (simp only [go_sem]; done)); try simp only [go_sem]) | (refine cndt ?_ ?_; (focus (simp only [go_sem]; done))) | (refine cndf ?_ ?_; (focus (simp only [go_sem]; done))) | (refine And.intro ?_ ?_; (focus omega)))
  exact retK_ret ⟨⟨_, rfl, by simp only [go_sem]⟩, trivial⟩
def dirNs (l : List TDir) : List ByteArray := l.map TDir.fName
theorem dirNs_len (l : List TDir) : (dirNs l).length = l.length := by simp [dirNs]
theorem dirNames_ok (l : List TDir) (hl : l.length ≤ 1048576) : FnC Try.prog 92 [.o (.d (.sl (l.map encDir)))] (.o (.w 9 1 ((dirNs l).map encS))) := by
  refine ent Try.func92 rfl Try.call92 rfl (fun C => ?_)
  simp only [go_sem, st0, Try.ntmps92]
  repeat' (with_reducible first | refine WP_ret ?_ | refine WP_skip ?_ | refine WP_exit ?_ | refine WP_seq ?_ | refine WP_block ?_ | refine K_code ?_ | refine K_blk ?_ | refine K_code_ret ?_ | refine K_blk_ret ?_ | refine K_code_exit ?_ | refine K_blk_exit_same ?_ | refine K_blk_exit_other (by decide) ?_ | refine K_nil ?_ | refine L_ret ?_ | refine L_exit ?_ | (refine run_cons ?_; simp only [go_sem]) | (refine run_nil ?_) | (refine drun_cons ?_; simp only [go_sem]) | (refine drun_nil ?_) | (refine reg ?_) | (refine regd (by kernel_rfl) ?_) | (refine cndt ?_ ?_; (focus (simp only [go_sem]; done))) | (refine cndf ?_ ?_; (focus (simp only [go_sem]; done))) | (refine And.intro ?_ ?_; (focus omega)))
  refine WP_lp (α := Nat) (fun k => [(3, .o (.s 0)), (6, .o .u), (9, oi k)]) (fun k => [(0, .row 9 1 ((dirNs (l.take k)).map encS) true)]) (fun k => k ≤ l.length) (fun k => l.length - k) 0 (fun _ => ?_) ?_ ?_ (fun k hk => ?_)
  · simp only [go_sem]
  · simp only [go_sem]; simp [dirNs]
  · simp
  · simp only [go_sem]
    repeat' (with_reducible first | refine WP_ret ?_ | refine WP_skip ?_ | refine WP_exit ?_ | refine WP_seq ?_ | refine WP_block ?_ | refine K_code ?_ | refine K_blk ?_ | refine K_code_ret ?_ | refine K_blk_ret ?_ | refine K_code_exit ?_ | refine K_blk_exit_same ?_ | refine K_blk_exit_other (by decide) ?_ | refine K_nil ?_ | refine L_ret ?_ | refine L_exit ?_ | (refine run_cons ?_; simp only [go_sem]) | (refine run_nil ?_) | (refine drun_cons ?_; simp only [go_sem]) | (refine drun_nil ?_) | (refine reg ?_) | (refine regd (by kernel_rfl) ?_) | (refine cndt ?_ ?_; (focus (simp only [go_sem]; done))) | (refine cndf ?_ ?_; (focus (simp only [go_sem]; done))) | (refine And.intro ?_ ?_; (focus omega)))
    refine cnd rfl (fun h1 => ?_) (fun h1 => ?_)
    · simp only [decide_eq_true_eq, Int.ofNat_lt] at h1
      have ht : dirNs (l.take (k + 1)) = dirNs (l.take k) ++ [l[k].fName] := by simp only [dirNs, List.take_succ_eq_append_getElem h1, List.map_append, List.map_cons, List.map_nil]
      have hlen : (dirNs (l.take k)).length = k := by rw [dirNs_len]; simp; omega
      repeat' (with_reducible first | refine WP_ret ?_ | refine WP_skip ?_ | refine WP_exit ?_ | refine WP_seq ?_ | refine WP_block ?_ | refine K_code ?_ | refine K_blk ?_ | refine K_code_ret ?_ | refine K_blk_ret ?_ | refine K_code_exit ?_ | refine K_blk_exit_same ?_ | refine K_blk_exit_other (by decide) ?_ | refine K_nil ?_ | refine L_ret ?_ | refine L_exit ?_ | (refine run_cons ?_; simp only [go_sem, h1, hlen]) | (refine run_nil ?_) | (refine drun_cons ?_; simp only [go_sem, h1, hlen]) | (refine drun_nil ?_) | (refine reg ?_) | (refine regd (by kernel_rfl) ?_) | (refine cndt ?_ ?_; (focus (simp only [go_sem]; done))) | (refine cndf ?_ ?_; (focus (simp only [go_sem]; done))) | (refine And.intro ?_ ?_; (focus omega)))
      refine L_next (k + 1) ?_ ?_ ?_
      · simp only [go_sem, ht, List.map_append]; simp
      · omega
      · omega
    · simp only [decide_eq_false_iff_not] at h1
      have e : k = l.length := by omega
      subst e
      repeat' (with_reducible first | refine WP_ret ?_ | refine WP_skip ?_ | refine WP_exit ?_ | refine WP_seq ?_ | refine WP_block ?_ | refine K_code ?_ | refine K_blk ?_ | refine K_code_ret ?_ | refine K_blk_ret ?_ | refine K_code_exit ?_ | refine K_blk_exit_same ?_ | refine K_blk_exit_other (by decide) ?_ | refine K_nil ?_ | refine L_ret ?_ | refine L_exit ?_ | (refine run_cons ?_; simp only [go_sem]) | (refine run_nil ?_) | (refine drun_cons ?_; simp only [go_sem]) | (refine drun_nil ?_) | (refine reg ?_) | (refine regd (by kernel_rfl) ?_) | (refine cndt ?_ ?_; (focus (simp only [go_sem]; done))) | (refine cndf ?_ ?_; (focus (simp only [go_sem]; done))) | (refine And.intro ?_ ?_; (focus omega)))
      exact retK_ret ⟨⟨_, rfl, by simp only [go_sem, List.take_length]⟩, trivial⟩
def uD (names : List ByteArray) (l : List TDir) : List ByteArray := (dirNs l).filter fun n => !hasS names n
theorem uD_len (names : List ByteArray) (l : List TDir) : (uD names l).length ≤ l.length := by
  have := List.length_filter_le (fun n => !hasS names n) (dirNs l)
  rw [dirNs_len] at this; exact this
theorem implUnaff_ok (l : List TDir) (names : List ByteArray) (hl : l.length ≤ 1048576) (hn : names.length ≤ 1048576) : FnC Try.prog 32 [.o (.d (.sl (l.map encDir))), .o (.d (.sl (names.map encS)))] (.o (.w 9 1 ((uD names l).map encS))) := by
  refine ent Try.func32 rfl Try.call32 rfl (fun C => ?_)
  simp only [go_sem, st0, Try.ntmps32]
  repeat' (with_reducible first | refine WP_ret ?_ | refine WP_skip ?_ | refine WP_exit ?_ | refine WP_seq ?_ | refine WP_block ?_ | refine K_code ?_ | refine K_blk ?_ | refine K_code_ret ?_ | refine K_blk_ret ?_ | refine K_code_exit ?_ | refine K_blk_exit_same ?_ | refine K_blk_exit_other (by decide) ?_ | refine K_nil ?_ | refine L_ret ?_ | refine L_exit ?_ | (refine run_cons ?_; simp only [go_sem]) | (refine run_nil ?_) | (refine drun_cons ?_; simp only [go_sem]) | (refine drun_nil ?_) | (refine reg ?_) | (refine regd (by kernel_rfl) ?_) | (refine cal (dirNames_ok l hl) ?_ ?_ ?_; (focus (simp only [go_sem]; done)); (focus (simp only [go_sem]; done)); try simp only [go_sem]) | (refine cald (dirNames_ok l hl) ?_ ?_ ?_ ?_; (focus (simp only [go_sem]; done)); (focus (simp only [go_sem]; done)); (focus (simp only [go_sem]; done)); try simp only [go_sem]) | (refine cali (deleteFuncS_ok _ [.sl (names.map encS)] (hasS names) (dirNs l) (fun s _ => unaffF_ok names s hn) (by rw [dirNs_len]; exact hl)) ?_ ?_ ?_ ?_; (focus (simp only [go_sem]; done)); (focus (simp only [go_sem]; done)); (focus (simp only [go_sem]; done)); try simp only [go_sem]) | (refine calj (deleteFuncS_ok _ [.sl (names.map encS)] (hasS names) (dirNs l) (fun s _ => unaffF_ok names s hn) (by rw [dirNs_len]; exact hl)) ?_ ?_ ?_ ?_; (focus (simp only [go_sem]; done)); (focus (simp only [go_sem]; done)); (focus (simp only [go_sem]; done)); try simp only [go_sem]) | (refine cndt ?_ ?_; (focus (simp only [go_sem]; done))) | (refine cndf ?_ ?_; (focus (simp only [go_sem]; done))) | (refine And.intro ?_ ?_; (focus omega)))
  exact retK_ret ⟨⟨_, rfl, by simp only [go_sem, uD]⟩, trivial⟩
theorem specUnaff_ok (l : List TDir) (names : List ByteArray) (hl : l.length ≤ 1048576) (hn : names.length ≤ 1048576) : FnC Try.prog 29 [.o (.d (.sl (l.map encDir))), .o (.d (.sl (names.map encS)))] (.o (.w 9 1 ((uD names l).map encS))) := by
  refine ent Try.func29 rfl Try.call29 rfl (fun C => ?_)
  simp only [go_sem, st0, Try.ntmps29]
  repeat' (with_reducible first | refine WP_ret ?_ | refine WP_skip ?_ | refine WP_exit ?_ | refine WP_seq ?_ | refine WP_block ?_ | refine K_code ?_ | refine K_blk ?_ | refine K_code_ret ?_ | refine K_blk_ret ?_ | refine K_code_exit ?_ | refine K_blk_exit_same ?_ | refine K_blk_exit_other (by decide) ?_ | refine K_nil ?_ | refine L_ret ?_ | refine L_exit ?_ | (refine run_cons ?_; simp only [go_sem]) | (refine run_nil ?_) | (refine drun_cons ?_; simp only [go_sem]) | (refine drun_nil ?_) | (refine reg ?_) | (refine regd (by kernel_rfl) ?_) | (refine cndt ?_ ?_; (focus (simp only [go_sem]; done))) | (refine cndf ?_ ?_; (focus (simp only [go_sem]; done))) | (refine And.intro ?_ ?_; (focus omega)))
  refine WP_lp (α := Nat) (fun k => [(5, .o (.s 0)), (6, oi k), (7, .o .u)]) (fun k => [(0, .row 9 1 ((uD names (l.take k)).map encS) true)]) (fun k => k ≤ l.length) (fun k => l.length - k) 0 (fun _ => ?_) ?_ ?_ (fun k hk => ?_)
  · simp only [go_sem]
  · simp only [go_sem]; simp [uD, dirNs]
  · simp
  · simp only [go_sem]
    repeat' (with_reducible first | refine WP_ret ?_ | refine WP_skip ?_ | refine WP_exit ?_ | refine WP_seq ?_ | refine WP_block ?_ | refine K_code ?_ | refine K_blk ?_ | refine K_code_ret ?_ | refine K_blk_ret ?_ | refine K_code_exit ?_ | refine K_blk_exit_same ?_ | refine K_blk_exit_other (by decide) ?_ | refine K_nil ?_ | refine L_ret ?_ | refine L_exit ?_ | (refine run_cons ?_; simp only [go_sem]) | (refine run_nil ?_) | (refine drun_cons ?_; simp only [go_sem]) | (refine drun_nil ?_) | (refine reg ?_) | (refine regd (by kernel_rfl) ?_) | (refine cndt ?_ ?_; (focus (simp only [go_sem]; done))) | (refine cndf ?_ ?_; (focus (simp only [go_sem]; done))) | (refine And.intro ?_ ?_; (focus omega)))
    refine cnd rfl (fun h1 => ?_) (fun h1 => ?_)
    · simp only [decide_eq_true_eq, Int.ofNat_lt] at h1
      have ht : uD names (l.take (k + 1)) = uD names (l.take k) ++ (if hasS names l[k].fName then [] else [l[k].fName]) := by
        simp only [uD, dirNs, List.take_succ_eq_append_getElem h1, List.map_append, List.map_cons, List.map_nil, List.filter_append, List.filter_cons, List.filter_nil]
        cases hasS names l[k].fName <;> rfl
      have hlen : (uD names (l.take k)).length ≤ 1048576 := by have := uD_len names (l.take k); simp at this; omega
      repeat' (with_reducible first | refine WP_ret ?_ | refine WP_skip ?_ | refine WP_exit ?_ | refine WP_seq ?_ | refine WP_block ?_ | refine K_code ?_ | refine K_blk ?_ | refine K_code_ret ?_ | refine K_blk_ret ?_ | refine K_code_exit ?_ | refine K_blk_exit_same ?_ | refine K_blk_exit_other (by decide) ?_ | refine K_nil ?_ | refine L_ret ?_ | refine L_exit ?_ | (refine run_cons ?_; simp only [go_sem, h1]) | (refine run_nil ?_) | (refine drun_cons ?_; simp only [go_sem, h1]) | (refine drun_nil ?_) | (refine reg ?_) | (refine regd (by kernel_rfl) ?_) | (refine cal (l12Has_ok names l[k].fName hn) ?_ ?_ ?_; (focus (simp only [go_sem]; done)); (focus (simp only [go_sem]; done)); try simp only [go_sem, h1]) | (refine cald (l12Has_ok names l[k].fName hn) ?_ ?_ ?_ ?_; (focus (simp only [go_sem]; done)); (focus (simp only [go_sem]; done)); (focus (simp only [go_sem]; done)); try simp only [go_sem, h1]) | (refine cndt ?_ ?_; (focus (simp only [go_sem]; done))) | (refine cndf ?_ ?_; (focus (simp only [go_sem]; done))) | (refine And.intro ?_ ?_; (focus omega)))
      refine cnd rfl (fun hv => ?_) (fun hv => ?_)
      · have hv' : hasS names l[k].fName = false := by simpa using hv
        rw [hv'] at ht
        have hl1 : (uD names (l.take k)).length + 1 ≤ 140737488355328 := by omega
        have hl2 : ((uD names (l.take k)).length + 1) * 16 ≤ 140737488355328 := by omega
        repeat' (with_reducible first | refine WP_ret ?_ | refine WP_skip ?_ | refine WP_exit ?_ | refine WP_seq ?_ | refine WP_block ?_ | refine K_code ?_ | refine K_blk ?_ | refine K_code_ret ?_ | refine K_blk_ret ?_ | refine K_code_exit ?_ | refine K_blk_exit_same ?_ | refine K_blk_exit_other (by decide) ?_ | refine K_nil ?_ | refine L_ret ?_ | refine L_exit ?_ | (refine run_cons ?_; simp only [go_sem, h1]) | (refine run_nil ?_) | (refine drun_cons ?_; simp only [go_sem, h1]) | (refine drun_nil ?_) | (refine reg ?_) | (refine regd (by kernel_rfl) ?_) | (refine cndt ?_ ?_; (focus (simp only [go_sem]; done))) | (refine cndf ?_ ?_; (focus (simp only [go_sem]; done))) | (refine And.intro ?_ ?_; (focus omega)))
        refine L_next (k + 1) ?_ ?_ ?_
        · simp only [go_sem, ht, List.map_append]; simp
        · omega
        · omega
      · have hv' : hasS names l[k].fName = true := by simpa using hv
        rw [hv'] at ht
        repeat' (with_reducible first | refine WP_ret ?_ | refine WP_skip ?_ | refine WP_exit ?_ | refine WP_seq ?_ | refine WP_block ?_ | refine K_code ?_ | refine K_blk ?_ | refine K_code_ret ?_ | refine K_blk_ret ?_ | refine K_code_exit ?_ | refine K_blk_exit_same ?_ | refine K_blk_exit_other (by decide) ?_ | refine K_nil ?_ | refine L_ret ?_ | refine L_exit ?_ | (refine run_cons ?_; simp only [go_sem, h1]) | (refine run_nil ?_) | (refine drun_cons ?_; simp only [go_sem, h1]) | (refine drun_nil ?_) | (refine reg ?_) | (refine regd (by kernel_rfl) ?_) | (refine cndt ?_ ?_; (focus (simp only [go_sem]; done))) | (refine cndf ?_ ?_; (focus (simp only [go_sem]; done))) | (refine And.intro ?_ ?_; (focus omega)))
        refine L_next (k + 1) ?_ ?_ ?_
        · simp only [go_sem, ht, List.map_append]; simp
        · omega
        · omega
    · simp only [decide_eq_false_iff_not] at h1
      have e : k = l.length := by omega
      subst e
      repeat' (with_reducible first | refine WP_ret ?_ | refine WP_skip ?_ | refine WP_exit ?_ | refine WP_seq ?_ | refine WP_block ?_ | refine K_code ?_ | refine K_blk ?_ | refine K_code_ret ?_ | refine K_blk_ret ?_ | refine K_code_exit ?_ | refine K_blk_exit_same ?_ | refine K_blk_exit_other (by decide) ?_ | refine K_nil ?_ | refine L_ret ?_ | refine L_exit ?_ | (refine run_cons ?_; simp only [go_sem]) | (refine run_nil ?_) | (refine drun_cons ?_; simp only [go_sem]) | (refine drun_nil ?_) | (refine reg ?_) | (refine regd (by kernel_rfl) ?_) | (refine cndt ?_ ?_; (focus (simp only [go_sem]; done))) | (refine cndf ?_ ?_; (focus (simp only [go_sem]; done))) | (refine And.intro ?_ ?_; (focus omega)))
      exact retK_ret ⟨⟨_, rfl, by simp only [go_sem, List.take_length]⟩, trivial⟩
theorem implUnaffd_ok (l : List TDir) (names : List ByteArray) (hl : l.length ≤ 1048576) (hn : names.length ≤ 1048576) : FnC Try.prog 32 [.o (.d (.sl (l.map encDir))), .o (.d (.sl (names.map encS)))] (.o (.d (.sl ((uD names l).map encS)))) := (implUnaff_ok l names hl hn).pure (by simp only [go_sem]) (by simp only [go_sem]) (by simp only [go_sem]) (by simp only [go_sem]) (by simp only [go_sem])
theorem specUnaffd_ok (l : List TDir) (names : List ByteArray) (hl : l.length ≤ 1048576) (hn : names.length ≤ 1048576) : FnC Try.prog 29 [.o (.d (.sl (l.map encDir))), .o (.d (.sl (names.map encS)))] (.o (.d (.sl ((uD names l).map encS)))) := (specUnaff_ok l names hl hn).pure (by simp only [go_sem]) (by simp only [go_sem]) (by simp only [go_sem]) (by simp only [go_sem]) (by simp only [go_sem])
theorem uD_w (names : List ByteArray) (l : List TDir) : wStringS (uD names l) ≤ wDirS l := by
  have h1 : ∀ (q : ByteArray → Bool) (xs : List ByteArray), (xs.filter q).length + wsum ByteArray.size (xs.filter q) ≤ xs.length + wsum ByteArray.size xs := fun q xs => by
    induction xs with
    | nil => simp
    | cons x xs ih =>
      simp only [List.filter_cons]
      split <;> simp [wsum] <;> omega
  have h2 : ∀ l : List TDir, (dirNs l).length + wsum ByteArray.size (dirNs l) ≤ wDirS l := fun l => by
    induction l with
    | nil => simp [dirNs, wDirS, wsum]
    | cons x l ih => simp only [dirNs, wDirS, List.map_cons, List.length_cons, wsum] at ih ⊢; have : wDir x = x.fName.size + wNodeS x.fQuery := rfl; omega
  exact Nat.le_trans (h1 _ _) (h2 l)
theorem lawUnaffectedDirs_ok (l : List TDir) (names : List ByteArray) (hf : wfDirS l) (hfn : wfStringS names) : FnC Try.prog 5 [.o (.d (.sl (l.map encDir))), .o (.d (.sl (names.map encS)))] (ob true) := by
  refine ent Try.func5 rfl Try.call5 rfl (fun C => ?_)
  simp only [go_sem, st0, Try.ntmps5]
  have hz := szDirS_ok l 1048576 (by omega) hf
  by_cases h : szOut 1048576 (wDirS l) < 0
  · repeat' (with_reducible first | refine WP_ret ?_ | refine WP_skip ?_ | refine WP_exit ?_ | refine WP_seq ?_ | refine WP_block ?_ | refine K_code ?_ | refine K_blk ?_ | refine K_code_ret ?_ | refine K_blk_ret ?_ | refine K_code_exit ?_ | refine K_blk_exit_same ?_ | refine K_blk_exit_other (by decide) ?_ | refine K_nil ?_ | refine L_ret ?_ | refine L_exit ?_ | (refine run_cons ?_; simp only [go_sem, h]) | (refine run_nil ?_) | (refine drun_cons ?_; simp only [go_sem, h]) | (refine drun_nil ?_) | (refine reg ?_) | (refine regd (by kernel_rfl) ?_) | (refine cal (hz) ?_ ?_ ?_; (focus (simp only [go_sem]; done)); (focus (simp only [go_sem]; done)); try simp only [go_sem, h]) | (refine cald (hz) ?_ ?_ ?_ ?_; (focus (simp only [go_sem]; done)); (focus (simp only [go_sem]; done)); (focus (simp only [go_sem]; done)); try simp only [go_sem, h]) | (refine cndt ?_ ?_; (focus (simp only [go_sem]; done))) | (refine cndf ?_ ?_; (focus (simp only [go_sem]; done))) | (refine And.intro ?_ ?_; (focus omega)))
    exact retK_ret ⟨⟨_, rfl, by simp only [go_sem]⟩, trivial⟩
  have hs : wDirS l ≤ 1048576 := by have := szOut_le h; omega
  have e0 : szOut 1048576 (wDirS l) = 1048576 - (wDirS l : Nat) := szOut_pos (by omega)
  rw [e0] at hz h
  have hy := szStringS_ok names (1048576 - (wDirS l : Nat)) (by omega) hfn
  by_cases h' : szOut (1048576 - (wDirS l : Nat)) (wStringS names) < 0
  · repeat' (with_reducible first | refine WP_ret ?_ | refine WP_skip ?_ | refine WP_exit ?_ | refine WP_seq ?_ | refine WP_block ?_ | refine K_code ?_ | refine K_blk ?_ | refine K_code_ret ?_ | refine K_blk_ret ?_ | refine K_code_exit ?_ | refine K_blk_exit_same ?_ | refine K_blk_exit_other (by decide) ?_ | refine K_nil ?_ | refine L_ret ?_ | refine L_exit ?_ | (refine run_cons ?_; simp only [go_sem, h, h']) | (refine run_nil ?_) | (refine drun_cons ?_; simp only [go_sem, h, h']) | (refine drun_nil ?_) | (refine reg ?_) | (refine regd (by kernel_rfl) ?_) | (refine cal (hz) ?_ ?_ ?_; (focus (simp only [go_sem]; done)); (focus (simp only [go_sem]; done)); try simp only [go_sem, h, h']) | (refine cald (hz) ?_ ?_ ?_ ?_; (focus (simp only [go_sem]; done)); (focus (simp only [go_sem]; done)); (focus (simp only [go_sem]; done)); try simp only [go_sem, h, h']) | (refine cal (hy) ?_ ?_ ?_; (focus (simp only [go_sem]; done)); (focus (simp only [go_sem]; done)); try simp only [go_sem, h, h']) | (refine cald (hy) ?_ ?_ ?_ ?_; (focus (simp only [go_sem]; done)); (focus (simp only [go_sem]; done)); (focus (simp only [go_sem]; done)); try simp only [go_sem, h, h']) | (refine cndt ?_ ?_; (focus (simp only [go_sem]; done))) | (refine cndf ?_ ?_; (focus (simp only [go_sem]; done))) | (refine And.intro ?_ ?_; (focus omega)))
    exact retK_ret ⟨⟨_, rfl, by simp only [go_sem]⟩, trivial⟩
  have hw : wStringS names ≤ 1048576 := by have := szOut_le h'; omega
  have hs' := hs
  unfold wDirS at hs'
  have hw' := hw
  unfold wStringS at hw'
  have hl : l.length ≤ 1048576 := by omega
  have hn : names.length ≤ 1048576 := by omega
  have hu := Nat.le_trans (uD_w names l) hs
  have hu' := hu
  unfold wStringS at hu'
  have hc := csumDir l
  have hc2 := csumStr names
  have hr := csumStr (uD names l)
  have hk1 : ¬ ((1 : Int) + (csum cnDir l : Nat) + (csum cnStr names : Nat) < 0) := by omega
  have hk2 : ¬ ((1 : Int) + (csum cnStr (uD names l) : Nat) < 0) := by omega
  repeat' (with_reducible first | refine WP_ret ?_ | refine WP_skip ?_ | refine WP_exit ?_ | refine WP_seq ?_ | refine WP_block ?_ | refine K_code ?_ | refine K_blk ?_ | refine K_code_ret ?_ | refine K_blk_ret ?_ | refine K_code_exit ?_ | refine K_blk_exit_same ?_ | refine K_blk_exit_other (by decide) ?_ | refine K_nil ?_ | refine L_ret ?_ | refine L_exit ?_ | (refine run_cons ?_; simp only [go_sem, h, h', hk1, hk2]) | (refine run_nil ?_) | (refine drun_cons ?_; simp only [go_sem, h, h', hk1, hk2]) | (refine drun_nil ?_) | (refine reg ?_) | (refine regd (by kernel_rfl) ?_) | (refine cal (hz) ?_ ?_ ?_; (focus (simp only [go_sem]; done)); (focus (simp only [go_sem]; done)); try simp only [go_sem, h, h', hk1, hk2]) | (refine cald (hz) ?_ ?_ ?_ ?_; (focus (simp only [go_sem]; done)); (focus (simp only [go_sem]; done)); (focus (simp only [go_sem]; done)); try simp only [go_sem, h, h', hk1, hk2]) | (refine cal (hy) ?_ ?_ ?_; (focus (simp only [go_sem]; done)); (focus (simp only [go_sem]; done)); try simp only [go_sem, h, h', hk1, hk2]) | (refine cald (hy) ?_ ?_ ?_ ?_; (focus (simp only [go_sem]; done)); (focus (simp only [go_sem]; done)); (focus (simp only [go_sem]; done)); try simp only [go_sem, h, h', hk1, hk2]) | (refine calo (toDirS_ok l hs) ?_ ?_ ?_ ?_; (focus (simp only [go_sem, h, h', hk1, hk2]; done)); (focus (simp only [go_sem, h, h', hk1, hk2]; done)); (focus (simp only [go_sem, h, h', hk1, hk2]; done)); try simp only [go_sem, h, h', hk1, hk2]) | (refine caldo (toDirS_ok l hs) ?_ ?_ ?_ ?_ ?_; (focus (simp only [go_sem, h, h', hk1, hk2]; done)); (focus (simp only [go_sem, h, h', hk1, hk2]; done)); (focus (simp only [go_sem, h, h', hk1, hk2]; done)); (focus (simp only [go_sem, h, h', hk1, hk2]; done)); try simp only [go_sem, h, h', hk1, hk2]) | (refine calo (toStringS_ok names hw) ?_ ?_ ?_ ?_; (focus (simp only [go_sem, h, h', hk1, hk2]; done)); (focus (simp only [go_sem, h, h', hk1, hk2]; done)); (focus (simp only [go_sem, h, h', hk1, hk2]; done)); try simp only [go_sem, h, h', hk1, hk2]) | (refine caldo (toStringS_ok names hw) ?_ ?_ ?_ ?_ ?_; (focus (simp only [go_sem, h, h', hk1, hk2]; done)); (focus (simp only [go_sem, h, h', hk1, hk2]; done)); (focus (simp only [go_sem, h, h', hk1, hk2]; done)); (focus (simp only [go_sem, h, h', hk1, hk2]; done)); try simp only [go_sem, h, h', hk1, hk2]) | (refine calo (specUnaff_ok l names hl hn) ?_ ?_ ?_ ?_; (focus (simp only [go_sem, h, h', hk1, hk2]; done)); (focus (simp only [go_sem, h, h', hk1, hk2]; done)); (focus (simp only [go_sem, h, h', hk1, hk2]; done)); try simp only [go_sem, h, h', hk1, hk2]) | (refine caldo (specUnaff_ok l names hl hn) ?_ ?_ ?_ ?_ ?_; (focus (simp only [go_sem, h, h', hk1, hk2]; done)); (focus (simp only [go_sem, h, h', hk1, hk2]; done)); (focus (simp only [go_sem, h, h', hk1, hk2]; done)); (focus (simp only [go_sem, h, h', hk1, hk2]; done)); try simp only [go_sem, h, h', hk1, hk2]) | (refine calo (implUnaff_ok l names hl hn) ?_ ?_ ?_ ?_; (focus (simp only [go_sem, h, h', hk1, hk2]; done)); (focus (simp only [go_sem, h, h', hk1, hk2]; done)); (focus (simp only [go_sem, h, h', hk1, hk2]; done)); try simp only [go_sem, h, h', hk1, hk2]) | (refine caldo (implUnaff_ok l names hl hn) ?_ ?_ ?_ ?_ ?_; (focus (simp only [go_sem, h, h', hk1, hk2]; done)); (focus (simp only [go_sem, h, h', hk1, hk2]; done)); (focus (simp only [go_sem, h, h', hk1, hk2]; done)); (focus (simp only [go_sem, h, h', hk1, hk2]; done)); try simp only [go_sem, h, h', hk1, hk2]) | (refine calo (eqStringS_ok (uD names l) hu) ?_ ?_ ?_ ?_; (focus (simp only [go_sem, h, h', hk1, hk2]; done)); (focus (simp only [go_sem, h, h', hk1, hk2]; done)); (focus (simp only [go_sem, h, h', hk1, hk2]; done)); try simp only [go_sem, h, h', hk1, hk2]) | (refine caldo (eqStringS_ok (uD names l) hu) ?_ ?_ ?_ ?_ ?_; (focus (simp only [go_sem, h, h', hk1, hk2]; done)); (focus (simp only [go_sem, h, h', hk1, hk2]; done)); (focus (simp only [go_sem, h, h', hk1, hk2]; done)); (focus (simp only [go_sem, h, h', hk1, hk2]; done)); try simp only [go_sem, h, h', hk1, hk2]) | (refine calo (eqDirS_ok l hs) ?_ ?_ ?_ ?_; (focus (simp only [go_sem, h, h', hk1, hk2]; done)); (focus (simp only [go_sem, h, h', hk1, hk2]; done)); (focus (simp only [go_sem, h, h', hk1, hk2]; done)); try simp only [go_sem, h, h', hk1, hk2]) | (refine caldo (eqDirS_ok l hs) ?_ ?_ ?_ ?_ ?_; (focus (simp only [go_sem, h, h', hk1, hk2]; done)); (focus (simp only [go_sem, h, h', hk1, hk2]; done)); (focus (simp only [go_sem, h, h', hk1, hk2]; done)); (focus (simp only [go_sem, h, h', hk1, hk2]; done)); try simp only [go_sem, h, h', hk1, hk2]) | (refine calo (eqStringS_ok names hw) ?_ ?_ ?_ ?_; (focus (simp only [go_sem, h, h', hk1, hk2]; done)); (focus (simp only [go_sem, h, h', hk1, hk2]; done)); (focus (simp only [go_sem, h, h', hk1, hk2]; done)); try simp only [go_sem, h, h', hk1, hk2]) | (refine caldo (eqStringS_ok names hw) ?_ ?_ ?_ ?_ ?_; (focus (simp only [go_sem, h, h', hk1, hk2]; done)); (focus (simp only [go_sem, h, h', hk1, hk2]; done)); (focus (simp only [go_sem, h, h', hk1, hk2]; done)); (focus (simp only [go_sem, h, h', hk1, hk2]; done)); try simp only [go_sem, h, h', hk1, hk2]) | (refine calm (markDirS_ok l _ (by omega)) ?_ ?_ ?_; (focus (simp only [go_sem]; done)); (focus (simp only [go_sem, h, h', hk1, hk2]; done)); try simp only [go_sem, h, h', hk1, hk2]) | (refine calm (markStringS_ok names _ (by omega)) ?_ ?_ ?_; (focus (simp only [go_sem]; done)); (focus (simp only [go_sem, h, h', hk1, hk2]; done)); try simp only [go_sem, h, h', hk1, hk2]) | (refine calm (markStringS_ok (uD names l) _ (by omega)) ?_ ?_ ?_; (focus (simp only [go_sem]; done)); (focus (simp only [go_sem, h, h', hk1, hk2]; done)); try simp only [go_sem, h, h', hk1, hk2]) | (refine calo (heldStringS_ok (uD names l) 1 (by omega)) ?_ ?_ ?_ ?_; (focus (simp only [go_sem, h, h', hk1, hk2]; done)); (focus (simp only [go_sem, h, h', hk1, hk2]; done)); (focus (simp only [go_sem, h, h', hk1, hk2]; done)); try simp only [go_sem, h, h', hk1, hk2]) | (refine caldo (heldStringS_ok (uD names l) 1 (by omega)) ?_ ?_ ?_ ?_ ?_; (focus (simp only [go_sem, h, h', hk1, hk2]; done)); (focus (simp only [go_sem, h, h', hk1, hk2]; done)); (focus (simp only [go_sem, h, h', hk1, hk2]; done)); (focus (simp only [go_sem, h, h', hk1, hk2]; done)); try simp only [go_sem, h, h', hk1, hk2]) | (refine cal (toDirSd_ok l hs) ?_ ?_ ?_; (focus (simp only [go_sem]; done)); (focus (simp only [go_sem]; done)); try simp only [go_sem, h, h', hk1, hk2]) | (refine cald (toDirSd_ok l hs) ?_ ?_ ?_ ?_; (focus (simp only [go_sem]; done)); (focus (simp only [go_sem]; done)); (focus (simp only [go_sem]; done)); try simp only [go_sem, h, h', hk1, hk2]) | (refine cal (toStringSd_ok names hw) ?_ ?_ ?_; (focus (simp only [go_sem]; done)); (focus (simp only [go_sem]; done)); try simp only [go_sem, h, h', hk1, hk2]) | (refine cald (toStringSd_ok names hw) ?_ ?_ ?_ ?_; (focus (simp only [go_sem]; done)); (focus (simp only [go_sem]; done)); (focus (simp only [go_sem]; done)); try simp only [go_sem, h, h', hk1, hk2]) | (refine cal (specUnaffd_ok l names hl hn) ?_ ?_ ?_; (focus (simp only [go_sem]; done)); (focus (simp only [go_sem]; done)); try simp only [go_sem, h, h', hk1, hk2]) | (refine cald (specUnaffd_ok l names hl hn) ?_ ?_ ?_ ?_; (focus (simp only [go_sem]; done)); (focus (simp only [go_sem]; done)); (focus (simp only [go_sem]; done)); try simp only [go_sem, h, h', hk1, hk2]) | (refine cal (implUnaffd_ok l names hl hn) ?_ ?_ ?_; (focus (simp only [go_sem]; done)); (focus (simp only [go_sem]; done)); try simp only [go_sem, h, h', hk1, hk2]) | (refine cald (implUnaffd_ok l names hl hn) ?_ ?_ ?_ ?_; (focus (simp only [go_sem]; done)); (focus (simp only [go_sem]; done)); (focus (simp only [go_sem]; done)); try simp only [go_sem, h, h', hk1, hk2]) | (refine cndt ?_ ?_; (focus (simp only [go_sem]; done))) | (refine cndf ?_ ?_; (focus (simp only [go_sem]; done))) | (refine And.intro ?_ ?_; (focus omega)))
  exact retK_ret ⟨⟨_, rfl, by simp only [go_sem]⟩, trivial⟩
end Go.Proofs.Yteganoldfldlhaa
