/-
  What the laws' mark and held do to slices of structs that hold slices. By program (genmark.py).
-/
import Derived.Test.YteganoldfldlhaaM1Flat
set_option linter.all false
set_option maxRecDepth 100000
set_option maxHeartbeats 4000000
namespace Go.Proofs.Yteganoldfldlhaa
open Go Go.Sx Go.RowKit Go.Proofs

def cnFile (x : TFile) : Nat := 4 + csum cnAttr x.fAttrs
theorem cnFile_pos : ∀ x, 1 ≤ cnFile x := fun x => by unfold cnFile; omega
def mkFile (x : TFile) (k : Int) : TFile := ⟨k, (k + 1), (decide (Int.tmod ((k + 1) + 1) 3 = 0)), (((k + 1) + 1) + 1), (mkL mkAttr cnAttr x.fAttrs ((((k + 1) + 1) + 1) + 1))⟩
theorem markFileS_ok (l : List TFile) (k : Int) (hk : 1 ≤ k ∧ k + (csum cnFile l : Nat) ≤ 4611686018427387904) : FnM Try.prog 126 false [.w 0 5 (l.map encFile)] [.w 0 5 ((mkL mkFile cnFile l k).map encFile)] k (k + (csum cnFile l : Nat)) := by
  have hlen := csum_len cnFile cnFile_pos l
  refine entm Try.func126 rfl Try.call126 rfl (by simp) (by simp only [go_sem]) (fun C tg => ?_)
  simp only [go_sem, Try.ntmps126]
  repeat' (with_reducible first | refine WP_ret ?_ | refine WP_skip ?_ | refine WP_exit ?_ | refine WP_seq ?_ | refine WP_block ?_ | refine K_code ?_ | refine K_blk ?_ | refine K_code_ret ?_ | refine K_blk_ret ?_ | refine K_code_exit ?_ | refine K_blk_exit_same ?_ | refine K_blk_exit_other (by decide) ?_ | refine K_nil ?_ | refine L_ret ?_ | refine L_exit ?_ | (refine run_cons ?_; simp only [go_sem]) | (refine run_nil ?_) | (refine drun_cons ?_; simp only [go_sem]) | (refine drun_nil ?_) | (refine reg ?_) | (refine regd (by kernel_rfl) ?_) | (refine cndt ?_ ?_; (focus (simp only [go_sem]; done))) | (refine cndf ?_ ?_; (focus (simp only [go_sem]; done))) | (refine And.intro ?_ ?_; (focus omega)))
  refine WP_lp (α := Nat) (fun j => [(5, oi j), (1, oi (k + (csum cnFile (l.take j) : Nat)))]) (fun j => [(0, .own (tg 0) 5 (midR encFile mkFile cnFile l k j))]) (fun j => j ≤ l.length) (fun j => l.length - j) 0 (fun _ => ?_) ?_ ?_ (fun j hj => ?_)
  · simp only [go_sem]
  · simp only [go_sem]; simp [midR_zero, csum]
  · simp
  · simp only [go_sem]
    repeat' (with_reducible first | refine WP_ret ?_ | refine WP_skip ?_ | refine WP_exit ?_ | refine WP_seq ?_ | refine WP_block ?_ | refine K_code ?_ | refine K_blk ?_ | refine K_code_ret ?_ | refine K_blk_ret ?_ | refine K_code_exit ?_ | refine K_blk_exit_same ?_ | refine K_blk_exit_other (by decide) ?_ | refine K_nil ?_ | refine L_ret ?_ | refine L_exit ?_ | (refine run_cons ?_; simp only [go_sem]) | (refine run_nil ?_) | (refine drun_cons ?_; simp only [go_sem]) | (refine drun_nil ?_) | (refine reg ?_) | (refine regd (by kernel_rfl) ?_) | (refine cndt ?_ ?_; (focus (simp only [go_sem]; done))) | (refine cndf ?_ ?_; (focus (simp only [go_sem]; done))) | (refine And.intro ?_ ?_; (focus omega)))
    refine cnd rfl (fun h => ?_) (fun h => ?_)
    · simp only [decide_eq_true_eq, Int.ofNat_lt] at h
      have hs := csum_take cnFile l h
      have ht := csum_le cnFile l (j + 1)
      have hc : cnFile l[j] = 4 + csum cnAttr l[j].fAttrs := rfl
      have hset := midR_set encFile mkFile cnFile l k j h
      have hkk : k + (csum cnFile (l.take (j + 1)) : Nat) = k + (csum cnFile (l.take j) : Nat) + (cnFile l[j] : Nat) := by omega
      generalize k + (csum cnFile (l.take j) : Nat) = K at hset hkk ⊢
      have hK : 1 ≤ K ∧ K + (cnFile l[j] : Nat) ≤ 4611686018427387904 := by omega
      repeat' (with_reducible first | refine WP_ret ?_ | refine WP_skip ?_ | refine WP_exit ?_ | refine WP_seq ?_ | refine WP_block ?_ | refine K_code ?_ | refine K_blk ?_ | refine K_code_ret ?_ | refine K_blk_ret ?_ | refine K_code_exit ?_ | refine K_blk_exit_same ?_ | refine K_blk_exit_other (by decide) ?_ | refine K_nil ?_ | refine L_ret ?_ | refine L_exit ?_ | (refine run_cons ?_; simp only [go_sem, h]) | (refine run_nil ?_) | (refine drun_cons ?_; simp only [go_sem, h]) | (refine drun_nil ?_) | (refine reg ?_) | (refine regd (by kernel_rfl) ?_) | (refine caln (markAttrS_ok l[j].fAttrs _ (by omega)) ?_ ?_; (focus (simp only [go_sem, h]; done)); try simp only [go_sem, h]) | (refine cndt ?_ ?_; (focus (simp only [go_sem]; done))) | (refine cndf ?_ ?_; (focus (simp only [go_sem]; done))) | (refine And.intro ?_ ?_; (focus omega)))
      refine L_next (j + 1) ?_ ?_ ?_
      · simp only [go_sem, hkk, ← hset]
        simp [mkFile, encFile, hc]
        try omega
      · omega
      · omega
    · simp only [decide_eq_false_iff_not] at h
      have e : j = l.length := by omega
      subst e
      repeat' (with_reducible first | refine WP_ret ?_ | refine WP_skip ?_ | refine WP_exit ?_ | refine WP_seq ?_ | refine WP_block ?_ | refine K_code ?_ | refine K_blk ?_ | refine K_code_ret ?_ | refine K_blk_ret ?_ | refine K_code_exit ?_ | refine K_blk_exit_same ?_ | refine K_blk_exit_other (by decide) ?_ | refine K_nil ?_ | refine L_ret ?_ | refine L_exit ?_ | (refine run_cons ?_; simp only [go_sem]) | (refine run_nil ?_) | (refine drun_cons ?_; simp only [go_sem]) | (refine drun_nil ?_) | (refine reg ?_) | (refine regd (by kernel_rfl) ?_) | (refine cndt ?_ ?_; (focus (simp only [go_sem]; done))) | (refine cndf ?_ ?_; (focus (simp only [go_sem]; done))) | (refine And.intro ?_ ?_; (focus omega)))
      exact ⟨⟨⟨_, rfl, by simp only [go_sem, midR_all, List.take_length]⟩, trivial⟩, by simp only [go_sem, midR_all, List.take_length]⟩
def cnDir (x : TDir) : Nat := 1 + csum cnNode x.fQuery
theorem cnDir_pos : ∀ x, 1 ≤ cnDir x := fun x => by unfold cnDir; omega
def mkDir (x : TDir) (k : Int) : TDir := ⟨(mText k), (mkL mkNode cnNode x.fQuery (k + 1))⟩
theorem markDirS_ok (l : List TDir) (k : Int) (hk : 1 ≤ k ∧ k + (csum cnDir l : Nat) ≤ 4611686018427387904) : FnM Try.prog 35 false [.w 0 2 (l.map encDir)] [.w 0 2 ((mkL mkDir cnDir l k).map encDir)] k (k + (csum cnDir l : Nat)) := by
  have hlen := csum_len cnDir cnDir_pos l
  refine entm Try.func35 rfl Try.call35 rfl (by simp) (by simp only [go_sem]) (fun C tg => ?_)
  simp only [go_sem, Try.ntmps35]
  repeat' (with_reducible first | refine WP_ret ?_ | refine WP_skip ?_ | refine WP_exit ?_ | refine WP_seq ?_ | refine WP_block ?_ | refine K_code ?_ | refine K_blk ?_ | refine K_code_ret ?_ | refine K_blk_ret ?_ | refine K_code_exit ?_ | refine K_blk_exit_same ?_ | refine K_blk_exit_other (by decide) ?_ | refine K_nil ?_ | refine L_ret ?_ | refine L_exit ?_ | (refine run_cons ?_; simp only [go_sem]) | (refine run_nil ?_) | (refine drun_cons ?_; simp only [go_sem]) | (refine drun_nil ?_) | (refine reg ?_) | (refine regd (by kernel_rfl) ?_) | (refine cndt ?_ ?_; (focus (simp only [go_sem]; done))) | (refine cndf ?_ ?_; (focus (simp only [go_sem]; done))) | (refine And.intro ?_ ?_; (focus omega)))
  refine WP_lp (α := Nat) (fun j => [(5, oi j), (1, oi (k + (csum cnDir (l.take j) : Nat)))]) (fun j => [(0, .own (tg 0) 2 (midR encDir mkDir cnDir l k j))]) (fun j => j ≤ l.length) (fun j => l.length - j) 0 (fun _ => ?_) ?_ ?_ (fun j hj => ?_)
  · simp only [go_sem]
  · simp only [go_sem]; simp [midR_zero, csum]
  · simp
  · simp only [go_sem]
    repeat' (with_reducible first | refine WP_ret ?_ | refine WP_skip ?_ | refine WP_exit ?_ | refine WP_seq ?_ | refine WP_block ?_ | refine K_code ?_ | refine K_blk ?_ | refine K_code_ret ?_ | refine K_blk_ret ?_ | refine K_code_exit ?_ | refine K_blk_exit_same ?_ | refine K_blk_exit_other (by decide) ?_ | refine K_nil ?_ | refine L_ret ?_ | refine L_exit ?_ | (refine run_cons ?_; simp only [go_sem]) | (refine run_nil ?_) | (refine drun_cons ?_; simp only [go_sem]) | (refine drun_nil ?_) | (refine reg ?_) | (refine regd (by kernel_rfl) ?_) | (refine cndt ?_ ?_; (focus (simp only [go_sem]; done))) | (refine cndf ?_ ?_; (focus (simp only [go_sem]; done))) | (refine And.intro ?_ ?_; (focus omega)))
    refine cnd rfl (fun h => ?_) (fun h => ?_)
    · simp only [decide_eq_true_eq, Int.ofNat_lt] at h
      have hs := csum_take cnDir l h
      have ht := csum_le cnDir l (j + 1)
      have hc : cnDir l[j] = 1 + csum cnNode l[j].fQuery := rfl
      have hset := midR_set encDir mkDir cnDir l k j h
      have hkk : k + (csum cnDir (l.take (j + 1)) : Nat) = k + (csum cnDir (l.take j) : Nat) + (cnDir l[j] : Nat) := by omega
      generalize k + (csum cnDir (l.take j) : Nat) = K at hset hkk ⊢
      have hK : 1 ≤ K ∧ K + (cnDir l[j] : Nat) ≤ 4611686018427387904 := by omega
      repeat' (with_reducible first | refine WP_ret ?_ | refine WP_skip ?_ | refine WP_exit ?_ | refine WP_seq ?_ | refine WP_block ?_ | refine K_code ?_ | refine K_blk ?_ | refine K_code_ret ?_ | refine K_blk_ret ?_ | refine K_code_exit ?_ | refine K_blk_exit_same ?_ | refine K_blk_exit_other (by decide) ?_ | refine K_nil ?_ | refine L_ret ?_ | refine L_exit ?_ | (refine run_cons ?_; simp only [go_sem, h]) | (refine run_nil ?_) | (refine drun_cons ?_; simp only [go_sem, h]) | (refine drun_nil ?_) | (refine reg ?_) | (refine regd (by kernel_rfl) ?_) | (refine cal (markText_ok K (by omega)) ?_ ?_ ?_; (focus (simp only [go_sem]; done)); (focus (simp only [go_sem]; done)); try simp only [go_sem, h]) | (refine cald (markText_ok K (by omega)) ?_ ?_ ?_ ?_; (focus (simp only [go_sem]; done)); (focus (simp only [go_sem]; done)); (focus (simp only [go_sem]; done)); try simp only [go_sem, h]) | (refine caln (markNodeS_ok l[j].fQuery _ (by omega)) ?_ ?_; (focus (simp only [go_sem, h]; done)); try simp only [go_sem, h]) | (refine cndt ?_ ?_; (focus (simp only [go_sem]; done))) | (refine cndf ?_ ?_; (focus (simp only [go_sem]; done))) | (refine And.intro ?_ ?_; (focus omega)))
      refine L_next (j + 1) ?_ ?_ ?_
      · simp only [go_sem, hkk, ← hset]
        simp [mkDir, encDir, hc]
        try omega
      · omega
      · omega
    · simp only [decide_eq_false_iff_not] at h
      have e : j = l.length := by omega
      subst e
      repeat' (with_reducible first | refine WP_ret ?_ | refine WP_skip ?_ | refine WP_exit ?_ | refine WP_seq ?_ | refine WP_block ?_ | refine K_code ?_ | refine K_blk ?_ | refine K_code_ret ?_ | refine K_blk_ret ?_ | refine K_code_exit ?_ | refine K_blk_exit_same ?_ | refine K_blk_exit_other (by decide) ?_ | refine K_nil ?_ | refine L_ret ?_ | refine L_exit ?_ | (refine run_cons ?_; simp only [go_sem]) | (refine run_nil ?_) | (refine drun_cons ?_; simp only [go_sem]) | (refine drun_nil ?_) | (refine reg ?_) | (refine regd (by kernel_rfl) ?_) | (refine cndt ?_ ?_; (focus (simp only [go_sem]; done))) | (refine cndf ?_ ?_; (focus (simp only [go_sem]; done))) | (refine And.intro ?_ ?_; (focus omega)))
      exact ⟨⟨⟨_, rfl, by simp only [go_sem, midR_all, List.take_length]⟩, trivial⟩, by simp only [go_sem, midR_all, List.take_length]⟩
def cnResult (x : TResult) : Nat := 1 + csum cnInt x.fIDs
theorem cnResult_pos : ∀ x, 1 ≤ cnResult x := fun x => by unfold cnResult; omega
def mkResult (x : TResult) (k : Int) : TResult := ⟨(mText k), (mkL mkInt cnInt x.fIDs (k + 1))⟩
theorem markResultS_ok (l : List TResult) (k : Int) (hk : 1 ≤ k ∧ k + (csum cnResult l : Nat) ≤ 4611686018427387904) : FnM Try.prog 68 false [.w 0 2 (l.map encResult)] [.w 0 2 ((mkL mkResult cnResult l k).map encResult)] k (k + (csum cnResult l : Nat)) := by
  have hlen := csum_len cnResult cnResult_pos l
  refine entm Try.func68 rfl Try.call68 rfl (by simp) (by simp only [go_sem]) (fun C tg => ?_)
  simp only [go_sem, Try.ntmps68]
  repeat' (with_reducible first | refine WP_ret ?_ | refine WP_skip ?_ | refine WP_exit ?_ | refine WP_seq ?_ | refine WP_block ?_ | refine K_code ?_ | refine K_blk ?_ | refine K_code_ret ?_ | refine K_blk_ret ?_ | refine K_code_exit ?_ | refine K_blk_exit_same ?_ | refine K_blk_exit_other (by decide) ?_ | refine K_nil ?_ | refine L_ret ?_ | refine L_exit ?_ | (refine run_cons ?_; simp only [go_sem]) | (refine run_nil ?_) | (refine drun_cons ?_; simp only [go_sem]) | (refine drun_nil ?_) | (refine reg ?_) | (refine regd (by kernel_rfl) ?_) | (refine cndt ?_ ?_; (focus (simp only [go_sem]; done))) | (refine cndf ?_ ?_; (focus (simp only [go_sem]; done))) | (refine And.intro ?_ ?_; (focus omega)))
  refine WP_lp (α := Nat) (fun j => [(5, oi j), (1, oi (k + (csum cnResult (l.take j) : Nat)))]) (fun j => [(0, .own (tg 0) 2 (midR encResult mkResult cnResult l k j))]) (fun j => j ≤ l.length) (fun j => l.length - j) 0 (fun _ => ?_) ?_ ?_ (fun j hj => ?_)
  · simp only [go_sem]
  · simp only [go_sem]; simp [midR_zero, csum]
  · simp
  · simp only [go_sem]
    repeat' (with_reducible first | refine WP_ret ?_ | refine WP_skip ?_ | refine WP_exit ?_ | refine WP_seq ?_ | refine WP_block ?_ | refine K_code ?_ | refine K_blk ?_ | refine K_code_ret ?_ | refine K_blk_ret ?_ | refine K_code_exit ?_ | refine K_blk_exit_same ?_ | refine K_blk_exit_other (by decide) ?_ | refine K_nil ?_ | refine L_ret ?_ | refine L_exit ?_ | (refine run_cons ?_; simp only [go_sem]) | (refine run_nil ?_) | (refine drun_cons ?_; simp only [go_sem]) | (refine drun_nil ?_) | (refine reg ?_) | (refine regd (by kernel_rfl) ?_) | (refine cndt ?_ ?_; (focus (simp only [go_sem]; done))) | (refine cndf ?_ ?_; (focus (simp only [go_sem]; done))) | (refine And.intro ?_ ?_; (focus omega)))
    refine cnd rfl (fun h => ?_) (fun h => ?_)
    · simp only [decide_eq_true_eq, Int.ofNat_lt] at h
      have hs := csum_take cnResult l h
      have ht := csum_le cnResult l (j + 1)
      have hc : cnResult l[j] = 1 + csum cnInt l[j].fIDs := rfl
      have hset := midR_set encResult mkResult cnResult l k j h
      have hkk : k + (csum cnResult (l.take (j + 1)) : Nat) = k + (csum cnResult (l.take j) : Nat) + (cnResult l[j] : Nat) := by omega
      generalize k + (csum cnResult (l.take j) : Nat) = K at hset hkk ⊢
      have hK : 1 ≤ K ∧ K + (cnResult l[j] : Nat) ≤ 4611686018427387904 := by omega
      repeat' (with_reducible first | refine WP_ret ?_ | refine WP_skip ?_ | refine WP_exit ?_ | refine WP_seq ?_ | refine WP_block ?_ | refine K_code ?_ | refine K_blk ?_ | refine K_code_ret ?_ | refine K_blk_ret ?_ | refine K_code_exit ?_ | refine K_blk_exit_same ?_ | refine K_blk_exit_other (by decide) ?_ | refine K_nil ?_ | refine L_ret ?_ | refine L_exit ?_ | (refine run_cons ?_; simp only [go_sem, h]) | (refine run_nil ?_) | (refine drun_cons ?_; simp only [go_sem, h]) | (refine drun_nil ?_) | (refine reg ?_) | (refine regd (by kernel_rfl) ?_) | (refine cal (markText_ok K (by omega)) ?_ ?_ ?_; (focus (simp only [go_sem]; done)); (focus (simp only [go_sem]; done)); try simp only [go_sem, h]) | (refine cald (markText_ok K (by omega)) ?_ ?_ ?_ ?_; (focus (simp only [go_sem]; done)); (focus (simp only [go_sem]; done)); (focus (simp only [go_sem]; done)); try simp only [go_sem, h]) | (refine caln (markIntS_ok l[j].fIDs _ (by omega)) ?_ ?_; (focus (simp only [go_sem, h]; done)); try simp only [go_sem, h]) | (refine cndt ?_ ?_; (focus (simp only [go_sem]; done))) | (refine cndf ?_ ?_; (focus (simp only [go_sem]; done))) | (refine And.intro ?_ ?_; (focus omega)))
      refine L_next (j + 1) ?_ ?_ ?_
      · simp only [go_sem, hkk, ← hset]
        simp [mkResult, encResult, hc]
        try omega
      · omega
      · omega
    · simp only [decide_eq_false_iff_not] at h
      have e : j = l.length := by omega
      subst e
      repeat' (with_reducible first | refine WP_ret ?_ | refine WP_skip ?_ | refine WP_exit ?_ | refine WP_seq ?_ | refine WP_block ?_ | refine K_code ?_ | refine K_blk ?_ | refine K_code_ret ?_ | refine K_blk_ret ?_ | refine K_code_exit ?_ | refine K_blk_exit_same ?_ | refine K_blk_exit_other (by decide) ?_ | refine K_nil ?_ | refine L_ret ?_ | refine L_exit ?_ | (refine run_cons ?_; simp only [go_sem]) | (refine run_nil ?_) | (refine drun_cons ?_; simp only [go_sem]) | (refine drun_nil ?_) | (refine reg ?_) | (refine regd (by kernel_rfl) ?_) | (refine cndt ?_ ?_; (focus (simp only [go_sem]; done))) | (refine cndf ?_ ?_; (focus (simp only [go_sem]; done))) | (refine And.intro ?_ ?_; (focus omega)))
      exact ⟨⟨⟨_, rfl, by simp only [go_sem, midR_all, List.take_length]⟩, trivial⟩, by simp only [go_sem, midR_all, List.take_length]⟩
theorem heldResultS_ok (l : List TResult) (k : Int) (hk : 1 ≤ k ∧ k + (csum cnResult l : Nat) ≤ 4611686018427387904) : FnC Try.prog 70 [.o (.d (.sl ((mkL mkResult cnResult l k).map encResult))), oi k] (oi (k + (csum cnResult l : Nat))) := by
  have hlen := csum_len cnResult cnResult_pos l
  refine ent Try.func70 rfl Try.call70 rfl (fun C => ?_)
  simp only [go_sem, st0, Try.ntmps70]
  repeat' (with_reducible first | refine WP_ret ?_ | refine WP_skip ?_ | refine WP_exit ?_ | refine WP_seq ?_ | refine WP_block ?_ | refine K_code ?_ | refine K_blk ?_ | refine K_code_ret ?_ | refine K_blk_ret ?_ | refine K_code_exit ?_ | refine K_blk_exit_same ?_ | refine K_blk_exit_other (by decide) ?_ | refine K_nil ?_ | refine L_ret ?_ | refine L_exit ?_ | (refine run_cons ?_; simp only [go_sem]) | (refine run_nil ?_) | (refine drun_cons ?_; simp only [go_sem]) | (refine drun_nil ?_) | (refine reg ?_) | (refine regd (by kernel_rfl) ?_) | (refine cndt ?_ ?_; (focus (simp only [go_sem]; done))) | (refine cndf ?_ ?_; (focus (simp only [go_sem]; done))) | (refine And.intro ?_ ?_; (focus omega)))
  refine WP_lp (α := Nat) (fun j => [(5, oi j), (1, oi (k + (csum cnResult (l.take j) : Nat)))]) (fun _ => []) (fun j => j ≤ l.length) (fun j => l.length - j) 0 (fun _ => ?_) ?_ ?_ (fun j hj => ?_)
  · simp only [go_sem]
  · simp only [go_sem]; simp [csum]
  · simp
  · simp only [go_sem]
    repeat' (with_reducible first | refine WP_ret ?_ | refine WP_skip ?_ | refine WP_exit ?_ | refine WP_seq ?_ | refine WP_block ?_ | refine K_code ?_ | refine K_blk ?_ | refine K_code_ret ?_ | refine K_blk_ret ?_ | refine K_code_exit ?_ | refine K_blk_exit_same ?_ | refine K_blk_exit_other (by decide) ?_ | refine K_nil ?_ | refine L_ret ?_ | refine L_exit ?_ | (refine run_cons ?_; simp only [go_sem]) | (refine run_nil ?_) | (refine drun_cons ?_; simp only [go_sem]) | (refine drun_nil ?_) | (refine reg ?_) | (refine regd (by kernel_rfl) ?_) | (refine cndt ?_ ?_; (focus (simp only [go_sem]; done))) | (refine cndf ?_ ?_; (focus (simp only [go_sem]; done))) | (refine And.intro ?_ ?_; (focus omega)))
    refine cnd rfl (fun h => ?_) (fun h => ?_)
    · simp only [decide_eq_true_eq, Int.ofNat_lt] at h
      have hs := csum_take cnResult l h
      have ht := csum_le cnResult l (j + 1)
      have hc : cnResult l[j] = 1 + csum cnInt l[j].fIDs := rfl
      have hkk : k + (csum cnResult (l.take (j + 1)) : Nat) = k + (csum cnResult (l.take j) : Nat) + (cnResult l[j] : Nat) := by omega
      have hg := mkL_get mkResult cnResult l k j (by rw [mkL_length]; exact h)
      generalize k + (csum cnResult (l.take j) : Nat) = K at hg hkk ⊢
      have hK : 1 ≤ K ∧ K + (cnResult l[j] : Nat) ≤ 4611686018427387904 := by omega
      have hneg0 : ¬ ((K + 1) + (csum cnInt l[j].fIDs : Nat) < 0) := by omega
      repeat' (with_reducible first | refine WP_ret ?_ | refine WP_skip ?_ | refine WP_exit ?_ | refine WP_seq ?_ | refine WP_block ?_ | refine K_code ?_ | refine K_blk ?_ | refine K_code_ret ?_ | refine K_blk_ret ?_ | refine K_code_exit ?_ | refine K_blk_exit_same ?_ | refine K_blk_exit_other (by decide) ?_ | refine K_nil ?_ | refine L_ret ?_ | refine L_exit ?_ | (refine run_cons ?_; simp only [go_sem, h, hg, mkResult, hneg0]) | (refine run_nil ?_) | (refine drun_cons ?_; simp only [go_sem, h, hg, mkResult, hneg0]) | (refine drun_nil ?_) | (refine reg ?_) | (refine regd (by kernel_rfl) ?_) | (refine cal (markText_ok K (by omega)) ?_ ?_ ?_; (focus (simp only [go_sem]; done)); (focus (simp only [go_sem]; done)); try simp only [go_sem, h, hg, mkResult, hneg0]) | (refine cald (markText_ok K (by omega)) ?_ ?_ ?_ ?_; (focus (simp only [go_sem]; done)); (focus (simp only [go_sem]; done)); (focus (simp only [go_sem]; done)); try simp only [go_sem, h, hg, mkResult, hneg0]) | (refine cal (heldIntS_ok l[j].fIDs (K + 1) (by omega)) ?_ ?_ ?_; (focus (simp only [go_sem]; done)); (focus (simp only [go_sem]; done)); try simp only [go_sem, h, hg, mkResult, hneg0]) | (refine cald (heldIntS_ok l[j].fIDs (K + 1) (by omega)) ?_ ?_ ?_ ?_; (focus (simp only [go_sem]; done)); (focus (simp only [go_sem]; done)); (focus (simp only [go_sem]; done)); try simp only [go_sem, h, hg, mkResult, hneg0]) | (refine cndt ?_ ?_; (focus (simp only [go_sem]; done))) | (refine cndf ?_ ?_; (focus (simp only [go_sem]; done))) | (refine And.intro ?_ ?_; (focus omega)))
      refine L_next (j + 1) ?_ ?_ ?_
      · simp only [go_sem, hkk]
        simp [hc]
        try omega
      · omega
      · omega
    · simp only [decide_eq_false_iff_not] at h
      have e : j = l.length := by omega
      subst e
      repeat' (with_reducible first | refine WP_ret ?_ | refine WP_skip ?_ | refine WP_exit ?_ | refine WP_seq ?_ | refine WP_block ?_ | refine K_code ?_ | refine K_blk ?_ | refine K_code_ret ?_ | refine K_blk_ret ?_ | refine K_code_exit ?_ | refine K_blk_exit_same ?_ | refine K_blk_exit_other (by decide) ?_ | refine K_nil ?_ | refine L_ret ?_ | refine L_exit ?_ | (refine run_cons ?_; simp only [go_sem]) | (refine run_nil ?_) | (refine drun_cons ?_; simp only [go_sem]) | (refine drun_nil ?_) | (refine reg ?_) | (refine regd (by kernel_rfl) ?_) | (refine cndt ?_ ?_; (focus (simp only [go_sem]; done))) | (refine cndf ?_ ?_; (focus (simp only [go_sem]; done))) | (refine And.intro ?_ ?_; (focus omega)))
      exact retK_ret ⟨⟨_, rfl, by simp only [go_sem, List.take_length]⟩, trivial⟩

def cnDiff (x : TDiff) : Nat := 1 + csum cnInt x.fAdded + csum cnInt x.fRemoved
theorem cnDiff_pos : ∀ x, 1 ≤ cnDiff x := fun x => by unfold cnDiff; omega
def mkDiff (x : TDiff) (k : Int) : TDiff := ⟨(mText k), (mkL mkInt cnInt x.fAdded (k + 1)), (mkL mkInt cnInt x.fRemoved ((k + 1) + (csum cnInt x.fAdded : Nat)))⟩
theorem markDiffS_ok (l : List TDiff) (k : Int) (hk : 1 ≤ k ∧ k + (csum cnDiff l : Nat) ≤ 4611686018427387904) : FnM Try.prog 69 false [.w 0 3 (l.map encDiff)] [.w 0 3 ((mkL mkDiff cnDiff l k).map encDiff)] k (k + (csum cnDiff l : Nat)) := by
  have hlen := csum_len cnDiff cnDiff_pos l
  refine entm Try.func69 rfl Try.call69 rfl (by simp) (by simp only [go_sem]) (fun C tg => ?_)
  simp only [go_sem, Try.ntmps69]
  repeat' (with_reducible first | refine WP_ret ?_ | refine WP_skip ?_ | refine WP_exit ?_ | refine WP_seq ?_ | refine WP_block ?_ | refine K_code ?_ | refine K_blk ?_ | refine K_code_ret ?_ | refine K_blk_ret ?_ | refine K_code_exit ?_ | refine K_blk_exit_same ?_ | refine K_blk_exit_other (by decide) ?_ | refine K_nil ?_ | refine L_ret ?_ | refine L_exit ?_ | (refine run_cons ?_; simp only [go_sem]) | (refine run_nil ?_) | (refine drun_cons ?_; simp only [go_sem]) | (refine drun_nil ?_) | (refine reg ?_) | (refine regd (by kernel_rfl) ?_) | (refine cndt ?_ ?_; (focus (simp only [go_sem]; done))) | (refine cndf ?_ ?_; (focus (simp only [go_sem]; done))) | (refine And.intro ?_ ?_; (focus omega)))
  refine WP_lp (α := Nat) (fun j => [(5, oi j), (1, oi (k + (csum cnDiff (l.take j) : Nat)))]) (fun j => [(0, .own (tg 0) 3 (midR encDiff mkDiff cnDiff l k j))]) (fun j => j ≤ l.length) (fun j => l.length - j) 0 (fun _ => ?_) ?_ ?_ (fun j hj => ?_)
  · simp only [go_sem]
  · simp only [go_sem]; simp [midR_zero, csum]
  · simp
  · simp only [go_sem]
    repeat' (with_reducible first | refine WP_ret ?_ | refine WP_skip ?_ | refine WP_exit ?_ | refine WP_seq ?_ | refine WP_block ?_ | refine K_code ?_ | refine K_blk ?_ | refine K_code_ret ?_ | refine K_blk_ret ?_ | refine K_code_exit ?_ | refine K_blk_exit_same ?_ | refine K_blk_exit_other (by decide) ?_ | refine K_nil ?_ | refine L_ret ?_ | refine L_exit ?_ | (refine run_cons ?_; simp only [go_sem]) | (refine run_nil ?_) | (refine drun_cons ?_; simp only [go_sem]) | (refine drun_nil ?_) | (refine reg ?_) | (refine regd (by kernel_rfl) ?_) | (refine cndt ?_ ?_; (focus (simp only [go_sem]; done))) | (refine cndf ?_ ?_; (focus (simp only [go_sem]; done))) | (refine And.intro ?_ ?_; (focus omega)))
    refine cnd rfl (fun h => ?_) (fun h => ?_)
    · simp only [decide_eq_true_eq, Int.ofNat_lt] at h
      have hs := csum_take cnDiff l h
      have ht := csum_le cnDiff l (j + 1)
      have hc : cnDiff l[j] = 1 + csum cnInt l[j].fAdded + csum cnInt l[j].fRemoved := rfl
      have hset := midR_set encDiff mkDiff cnDiff l k j h
      have hkk : k + (csum cnDiff (l.take (j + 1)) : Nat) = k + (csum cnDiff (l.take j) : Nat) + (cnDiff l[j] : Nat) := by omega
      generalize k + (csum cnDiff (l.take j) : Nat) = K at hset hkk ⊢
      have hK : 1 ≤ K ∧ K + (cnDiff l[j] : Nat) ≤ 4611686018427387904 := by omega
      repeat' (with_reducible first | refine WP_ret ?_ | refine WP_skip ?_ | refine WP_exit ?_ | refine WP_seq ?_ | refine WP_block ?_ | refine K_code ?_ | refine K_blk ?_ | refine K_code_ret ?_ | refine K_blk_ret ?_ | refine K_code_exit ?_ | refine K_blk_exit_same ?_ | refine K_blk_exit_other (by decide) ?_ | refine K_nil ?_ | refine L_ret ?_ | refine L_exit ?_ | (refine run_cons ?_; simp only [go_sem, h]) | (refine run_nil ?_) | (refine drun_cons ?_; simp only [go_sem, h]) | (refine drun_nil ?_) | (refine reg ?_) | (refine regd (by kernel_rfl) ?_) | (refine cal (markText_ok K (by omega)) ?_ ?_ ?_; (focus (simp only [go_sem]; done)); (focus (simp only [go_sem]; done)); try simp only [go_sem, h]) | (refine cald (markText_ok K (by omega)) ?_ ?_ ?_ ?_; (focus (simp only [go_sem]; done)); (focus (simp only [go_sem]; done)); (focus (simp only [go_sem]; done)); try simp only [go_sem, h]) | (refine caln (markIntS_ok l[j].fAdded _ (by omega)) ?_ ?_; (focus (simp only [go_sem, h]; done)); try simp only [go_sem, h]) | (refine caln (markIntS_ok l[j].fRemoved _ (by omega)) ?_ ?_; (focus (simp only [go_sem, h]; done)); try simp only [go_sem, h]) | (refine cndt ?_ ?_; (focus (simp only [go_sem]; done))) | (refine cndf ?_ ?_; (focus (simp only [go_sem]; done))) | (refine And.intro ?_ ?_; (focus omega)))
      refine L_next (j + 1) ?_ ?_ ?_
      · simp only [go_sem, hkk, ← hset]
        simp [mkDiff, encDiff, hc]
        try omega
      · omega
      · omega
    · simp only [decide_eq_false_iff_not] at h
      have e : j = l.length := by omega
      subst e
      repeat' (with_reducible first | refine WP_ret ?_ | refine WP_skip ?_ | refine WP_exit ?_ | refine WP_seq ?_ | refine WP_block ?_ | refine K_code ?_ | refine K_blk ?_ | refine K_code_ret ?_ | refine K_blk_ret ?_ | refine K_code_exit ?_ | refine K_blk_exit_same ?_ | refine K_blk_exit_other (by decide) ?_ | refine K_nil ?_ | refine L_ret ?_ | refine L_exit ?_ | (refine run_cons ?_; simp only [go_sem]) | (refine run_nil ?_) | (refine drun_cons ?_; simp only [go_sem]) | (refine drun_nil ?_) | (refine reg ?_) | (refine regd (by kernel_rfl) ?_) | (refine cndt ?_ ?_; (focus (simp only [go_sem]; done))) | (refine cndf ?_ ?_; (focus (simp only [go_sem]; done))) | (refine And.intro ?_ ?_; (focus omega)))
      exact ⟨⟨⟨_, rfl, by simp only [go_sem, midR_all, List.take_length]⟩, trivial⟩, by simp only [go_sem, midR_all, List.take_length]⟩
def cnGroup (x : TGroup) : Nat := 3 + csum cnInt x.fIDs
theorem cnGroup_pos : ∀ x, 1 ≤ cnGroup x := fun x => by unfold cnGroup; omega
def mkGroup (x : TGroup) (k : Int) : TGroup := ⟨⟨k, (k + 1), (mText ((k + 1) + 1))⟩, (mkL mkInt cnInt x.fIDs (((k + 1) + 1) + 1))⟩
theorem markGroupS_ok (l : List TGroup) (k : Int) (hk : 1 ≤ k ∧ k + (csum cnGroup l : Nat) ≤ 4611686018427387904) : FnM Try.prog 20 false [.w 0 4 (l.map encGroup)] [.w 0 4 ((mkL mkGroup cnGroup l k).map encGroup)] k (k + (csum cnGroup l : Nat)) := by
  have hlen := csum_len cnGroup cnGroup_pos l
  refine entm Try.func20 rfl Try.call20 rfl (by simp) (by simp only [go_sem]) (fun C tg => ?_)
  simp only [go_sem, Try.ntmps20]
  repeat' (with_reducible first | refine WP_ret ?_ | refine WP_skip ?_ | refine WP_exit ?_ | refine WP_seq ?_ | refine WP_block ?_ | refine K_code ?_ | refine K_blk ?_ | refine K_code_ret ?_ | refine K_blk_ret ?_ | refine K_code_exit ?_ | refine K_blk_exit_same ?_ | refine K_blk_exit_other (by decide) ?_ | refine K_nil ?_ | refine L_ret ?_ | refine L_exit ?_ | (refine run_cons ?_; simp only [go_sem]) | (refine run_nil ?_) | (refine drun_cons ?_; simp only [go_sem]) | (refine drun_nil ?_) | (refine reg ?_) | (refine regd (by kernel_rfl) ?_) | (refine cndt ?_ ?_; (focus (simp only [go_sem]; done))) | (refine cndf ?_ ?_; (focus (simp only [go_sem]; done))) | (refine And.intro ?_ ?_; (focus omega)))
  refine WP_lp (α := Nat) (fun j => [(5, oi j), (1, oi (k + (csum cnGroup (l.take j) : Nat)))]) (fun j => [(0, .own (tg 0) 4 (midR encGroup mkGroup cnGroup l k j))]) (fun j => j ≤ l.length) (fun j => l.length - j) 0 (fun _ => ?_) ?_ ?_ (fun j hj => ?_)
  · simp only [go_sem]
  · simp only [go_sem]; simp [midR_zero, csum]
  · simp
  · simp only [go_sem]
    repeat' (with_reducible first | refine WP_ret ?_ | refine WP_skip ?_ | refine WP_exit ?_ | refine WP_seq ?_ | refine WP_block ?_ | refine K_code ?_ | refine K_blk ?_ | refine K_code_ret ?_ | refine K_blk_ret ?_ | refine K_code_exit ?_ | refine K_blk_exit_same ?_ | refine K_blk_exit_other (by decide) ?_ | refine K_nil ?_ | refine L_ret ?_ | refine L_exit ?_ | (refine run_cons ?_; simp only [go_sem]) | (refine run_nil ?_) | (refine drun_cons ?_; simp only [go_sem]) | (refine drun_nil ?_) | (refine reg ?_) | (refine regd (by kernel_rfl) ?_) | (refine cndt ?_ ?_; (focus (simp only [go_sem]; done))) | (refine cndf ?_ ?_; (focus (simp only [go_sem]; done))) | (refine And.intro ?_ ?_; (focus omega)))
    refine cnd rfl (fun h => ?_) (fun h => ?_)
    · simp only [decide_eq_true_eq, Int.ofNat_lt] at h
      have hs := csum_take cnGroup l h
      have ht := csum_le cnGroup l (j + 1)
      have hc : cnGroup l[j] = 3 + csum cnInt l[j].fIDs := rfl
      have hset := midR_set encGroup mkGroup cnGroup l k j h
      have hkk : k + (csum cnGroup (l.take (j + 1)) : Nat) = k + (csum cnGroup (l.take j) : Nat) + (cnGroup l[j] : Nat) := by omega
      generalize k + (csum cnGroup (l.take j) : Nat) = K at hset hkk ⊢
      have hK : 1 ≤ K ∧ K + (cnGroup l[j] : Nat) ≤ 4611686018427387904 := by omega
      repeat' (with_reducible first | refine WP_ret ?_ | refine WP_skip ?_ | refine WP_exit ?_ | refine WP_seq ?_ | refine WP_block ?_ | refine K_code ?_ | refine K_blk ?_ | refine K_code_ret ?_ | refine K_blk_ret ?_ | refine K_code_exit ?_ | refine K_blk_exit_same ?_ | refine K_blk_exit_other (by decide) ?_ | refine K_nil ?_ | refine L_ret ?_ | refine L_exit ?_ | (refine run_cons ?_; simp only [go_sem, h]) | (refine run_nil ?_) | (refine drun_cons ?_; simp only [go_sem, h]) | (refine drun_nil ?_) | (refine reg ?_) | (refine regd (by kernel_rfl) ?_) | (refine cal (markText_ok ((K + 1) + 1) (by omega)) ?_ ?_ ?_; (focus (simp only [go_sem]; done)); (focus (simp only [go_sem]; done)); try simp only [go_sem, h]) | (refine cald (markText_ok ((K + 1) + 1) (by omega)) ?_ ?_ ?_ ?_; (focus (simp only [go_sem]; done)); (focus (simp only [go_sem]; done)); (focus (simp only [go_sem]; done)); try simp only [go_sem, h]) | (refine caln (markIntS_ok l[j].fIDs _ (by omega)) ?_ ?_; (focus (simp only [go_sem, h]; done)); try simp only [go_sem, h]) | (refine cndt ?_ ?_; (focus (simp only [go_sem]; done))) | (refine cndf ?_ ?_; (focus (simp only [go_sem]; done))) | (refine And.intro ?_ ?_; (focus omega)))
      refine L_next (j + 1) ?_ ?_ ?_
      · simp only [go_sem, hkk, ← hset]
        simp [mkGroup, encGroup, hc]
        try omega
      · omega
      · omega
    · simp only [decide_eq_false_iff_not] at h
      have e : j = l.length := by omega
      subst e
      repeat' (with_reducible first | refine WP_ret ?_ | refine WP_skip ?_ | refine WP_exit ?_ | refine WP_seq ?_ | refine WP_block ?_ | refine K_code ?_ | refine K_blk ?_ | refine K_code_ret ?_ | refine K_blk_ret ?_ | refine K_code_exit ?_ | refine K_blk_exit_same ?_ | refine K_blk_exit_other (by decide) ?_ | refine K_nil ?_ | refine L_ret ?_ | refine L_exit ?_ | (refine run_cons ?_; simp only [go_sem]) | (refine run_nil ?_) | (refine drun_cons ?_; simp only [go_sem]) | (refine drun_nil ?_) | (refine reg ?_) | (refine regd (by kernel_rfl) ?_) | (refine cndt ?_ ?_; (focus (simp only [go_sem]; done))) | (refine cndf ?_ ?_; (focus (simp only [go_sem]; done))) | (refine And.intro ?_ ?_; (focus omega)))
      exact ⟨⟨⟨_, rfl, by simp only [go_sem, midR_all, List.take_length]⟩, trivial⟩, by simp only [go_sem, midR_all, List.take_length]⟩
theorem heldGroupS_ok (l : List TGroup) (k : Int) (hk : 1 ≤ k ∧ k + (csum cnGroup l : Nat) ≤ 4611686018427387904) : FnC Try.prog 59 [.o (.d (.sl ((mkL mkGroup cnGroup l k).map encGroup))), oi k] (oi (k + (csum cnGroup l : Nat))) := by
  have hlen := csum_len cnGroup cnGroup_pos l
  refine ent Try.func59 rfl Try.call59 rfl (fun C => ?_)
  simp only [go_sem, st0, Try.ntmps59]
  repeat' (with_reducible first | refine WP_ret ?_ | refine WP_skip ?_ | refine WP_exit ?_ | refine WP_seq ?_ | refine WP_block ?_ | refine K_code ?_ | refine K_blk ?_ | refine K_code_ret ?_ | refine K_blk_ret ?_ | refine K_code_exit ?_ | refine K_blk_exit_same ?_ | refine K_blk_exit_other (by decide) ?_ | refine K_nil ?_ | refine L_ret ?_ | refine L_exit ?_ | (refine run_cons ?_; simp only [go_sem]) | (refine run_nil ?_) | (refine drun_cons ?_; simp only [go_sem]) | (refine drun_nil ?_) | (refine reg ?_) | (refine regd (by kernel_rfl) ?_) | (refine cndt ?_ ?_; (focus (simp only [go_sem]; done))) | (refine cndf ?_ ?_; (focus (simp only [go_sem]; done))) | (refine And.intro ?_ ?_; (focus omega)))
  refine WP_lp (α := Nat) (fun j => [(5, oi j), (1, oi (k + (csum cnGroup (l.take j) : Nat)))]) (fun _ => []) (fun j => j ≤ l.length) (fun j => l.length - j) 0 (fun _ => ?_) ?_ ?_ (fun j hj => ?_)
  · simp only [go_sem]
  · simp only [go_sem]; simp [csum]
  · simp
  · simp only [go_sem]
    repeat' (with_reducible first | refine WP_ret ?_ | refine WP_skip ?_ | refine WP_exit ?_ | refine WP_seq ?_ | refine WP_block ?_ | refine K_code ?_ | refine K_blk ?_ | refine K_code_ret ?_ | refine K_blk_ret ?_ | refine K_code_exit ?_ | refine K_blk_exit_same ?_ | refine K_blk_exit_other (by decide) ?_ | refine K_nil ?_ | refine L_ret ?_ | refine L_exit ?_ | (refine run_cons ?_; simp only [go_sem]) | (refine run_nil ?_) | (refine drun_cons ?_; simp only [go_sem]) | (refine drun_nil ?_) | (refine reg ?_) | (refine regd (by kernel_rfl) ?_) | (refine cndt ?_ ?_; (focus (simp only [go_sem]; done))) | (refine cndf ?_ ?_; (focus (simp only [go_sem]; done))) | (refine And.intro ?_ ?_; (focus omega)))
    refine cnd rfl (fun h => ?_) (fun h => ?_)
    · simp only [decide_eq_true_eq, Int.ofNat_lt] at h
      have hs := csum_take cnGroup l h
      have ht := csum_le cnGroup l (j + 1)
      have hc : cnGroup l[j] = 3 + csum cnInt l[j].fIDs := rfl
      have hkk : k + (csum cnGroup (l.take (j + 1)) : Nat) = k + (csum cnGroup (l.take j) : Nat) + (cnGroup l[j] : Nat) := by omega
      have hg := mkL_get mkGroup cnGroup l k j (by rw [mkL_length]; exact h)
      generalize k + (csum cnGroup (l.take j) : Nat) = K at hg hkk ⊢
      have hK : 1 ≤ K ∧ K + (cnGroup l[j] : Nat) ≤ 4611686018427387904 := by omega
      have hneg0 : ¬ ((((K + 1) + 1) + 1) + (csum cnInt l[j].fIDs : Nat) < 0) := by omega
      repeat' (with_reducible first | refine WP_ret ?_ | refine WP_skip ?_ | refine WP_exit ?_ | refine WP_seq ?_ | refine WP_block ?_ | refine K_code ?_ | refine K_blk ?_ | refine K_code_ret ?_ | refine K_blk_ret ?_ | refine K_code_exit ?_ | refine K_blk_exit_same ?_ | refine K_blk_exit_other (by decide) ?_ | refine K_nil ?_ | refine L_ret ?_ | refine L_exit ?_ | (refine run_cons ?_; simp only [go_sem, h, hg, mkGroup, hneg0]) | (refine run_nil ?_) | (refine drun_cons ?_; simp only [go_sem, h, hg, mkGroup, hneg0]) | (refine drun_nil ?_) | (refine reg ?_) | (refine regd (by kernel_rfl) ?_) | (refine cal (markText_ok ((K + 1) + 1) (by omega)) ?_ ?_ ?_; (focus (simp only [go_sem]; done)); (focus (simp only [go_sem]; done)); try simp only [go_sem, h, hg, mkGroup, hneg0]) | (refine cald (markText_ok ((K + 1) + 1) (by omega)) ?_ ?_ ?_ ?_; (focus (simp only [go_sem]; done)); (focus (simp only [go_sem]; done)); (focus (simp only [go_sem]; done)); try simp only [go_sem, h, hg, mkGroup, hneg0]) | (refine cal (heldIntS_ok l[j].fIDs (((K + 1) + 1) + 1) (by omega)) ?_ ?_ ?_; (focus (simp only [go_sem]; done)); (focus (simp only [go_sem]; done)); try simp only [go_sem, h, hg, mkGroup, hneg0]) | (refine cald (heldIntS_ok l[j].fIDs (((K + 1) + 1) + 1) (by omega)) ?_ ?_ ?_ ?_; (focus (simp only [go_sem]; done)); (focus (simp only [go_sem]; done)); (focus (simp only [go_sem]; done)); try simp only [go_sem, h, hg, mkGroup, hneg0]) | (refine cndt ?_ ?_; (focus (simp only [go_sem]; done))) | (refine cndf ?_ ?_; (focus (simp only [go_sem]; done))) | (refine And.intro ?_ ?_; (focus omega)))
      refine L_next (j + 1) ?_ ?_ ?_
      · simp only [go_sem, hkk]
        simp [hc]
        try omega
      · omega
      · omega
    · simp only [decide_eq_false_iff_not] at h
      have e : j = l.length := by omega
      subst e
      repeat' (with_reducible first | refine WP_ret ?_ | refine WP_skip ?_ | refine WP_exit ?_ | refine WP_seq ?_ | refine WP_block ?_ | refine K_code ?_ | refine K_blk ?_ | refine K_code_ret ?_ | refine K_blk_ret ?_ | refine K_code_exit ?_ | refine K_blk_exit_same ?_ | refine K_blk_exit_other (by decide) ?_ | refine K_nil ?_ | refine L_ret ?_ | refine L_exit ?_ | (refine run_cons ?_; simp only [go_sem]) | (refine run_nil ?_) | (refine drun_cons ?_; simp only [go_sem]) | (refine drun_nil ?_) | (refine reg ?_) | (refine regd (by kernel_rfl) ?_) | (refine cndt ?_ ?_; (focus (simp only [go_sem]; done))) | (refine cndf ?_ ?_; (focus (simp only [go_sem]; done))) | (refine And.intro ?_ ?_; (focus omega)))
      exact retK_ret ⟨⟨_, rfl, by simp only [go_sem, List.take_length]⟩, trivial⟩

def cnChange (x : TChange) : Nat := 7 + csum cnAttr x.fFile.fAttrs + csum cnNode x.fDir.fQuery
theorem cnChange_pos : ∀ x, 1 ≤ cnChange x := fun x => by unfold cnChange; omega
def mkChange (x : TChange) (k : Int) : TChange := ⟨k, ⟨(k + 1), ((k + 1) + 1), (decide (Int.tmod (((k + 1) + 1) + 1) 3 = 0)), ((((k + 1) + 1) + 1) + 1), (mkL mkAttr cnAttr x.fFile.fAttrs (((((k + 1) + 1) + 1) + 1) + 1))⟩, ((((((k + 1) + 1) + 1) + 1) + 1) + (csum cnAttr x.fFile.fAttrs : Nat)), ⟨(mText (((((((k + 1) + 1) + 1) + 1) + 1) + (csum cnAttr x.fFile.fAttrs : Nat)) + 1)), (mkL mkNode cnNode x.fDir.fQuery ((((((((k + 1) + 1) + 1) + 1) + 1) + (csum cnAttr x.fFile.fAttrs : Nat)) + 1) + 1))⟩⟩
end Go.Proofs.Yteganoldfldlhaa
