/-
  slices.Insert at structures: the walk.
-/
import Derived.Test.YteganoldfldlhaaI7Cells
import Derived.Shelf.RegionOpenPlain
import Derived.WalkKit
import Derived.Lib.Walk
import Derived.Lib.SliceRun
import Derived.Lib.JoinLaws
import Derived.Lib.AppendZeros
import Derived.Lib.AppendZerosOnto
import Derived.Lib.Overlaps
import Derived.Laws.Externs
import Derived.Laws.NewBlocks
import Derived.Shelf.Spec.SlicesInsertGrow
set_option linter.all false
namespace Go.Proofs.Yteganoldfldlhaa
open Go Go.Sx Go.RowKit Go.Proofs Go.Lib


set_option maxHeartbeats 4000000 in
set_option maxRecDepth 1000000 in
theorem insAttr_shift (b c i vb vc n : Nat) (F vs : List Value) (w : World) (hi : i < n) (hroom : n + 1 ≤ c) (hc63 : c ≤ 9223372036854775807) (hvb : vb ≠ b) (hvc : 1 ≤ vc)
    (hF : F.length = n * 4) (hv : vs.length = 4) (hR : RowAt w w b 134 (c * 4) F) (hV : RowAt w w vb 134 (vc * 4) vs) (h1F : ∀ v ∈ F, v.oneCell' = true) (h1v : ∀ v ∈ vs, v.oneCell' = true) :
    Calls Try.prog 101 #[.slice (some ⟨b, 0, none⟩) n c, .int .i64 i, .slice (some ⟨vb, 0, none⟩) 1 vc] w fun e w' =>
      e = .returned (.slice (some ⟨b, 0, none⟩) (n + 1) c) ∧ RowAt w w' b 134 (c * 4) (F.take (i * 4) ++ vs ++ F.drop (i * 4)) := by
  have hz2 : ¬ ((i : Int) = (n : Int)) := by omega
  have hsz : (Try.prog.info? 134).map (·.size) = some 4 := by kernel_rfl
  have hsa := hV.shape
  have hsb := hR.shape
  have hov : ∀ x lb cb, (callFunc 161 #[.slice (some ⟨vb, 0, none⟩) 1 vc, .slice (some ⟨b, x, none⟩) lb cb]).run Try.prog w = .ok (.value (.bool false)) w := fun x lb cb => by
    rw [run_callFunc_extern Try.func161 (by kernel_rfl) (by kernel_rfl) (by kernel_rfl) (e := Extern.SlicesOverlaps.overlaps #[56, 56] #[4]) (by kernel_rfl),
      Lib.run_overlaps_apart w 56 4 134 Try.underlying56 4 Try.sizeOf134 ⟨vb, 0, none⟩ ⟨b, x, none⟩ 1 vc lb cb hvb _ _ _ _ hsa hsb (by omega) (hV.frozen _) (hV.frozen _)]
    rfl
  have hdl : (F.drop (i * 4)).length = (n - i) * 4 := by rw [List.length_drop, hF, Nat.sub_mul]
  have mixed := fol
  have hw1 : IntKind.i64.wrap ((i : Int) + 1) = (i : Int) + 1 := by rw [IntKind.wrap_i64]; omega
  have hb1 : (0 : Int) ≤ (i : Int) + 1 := by omega
  have hin : i ≤ n := by omega
  have htn : ((i : Int) + 1).toNat = i + 1 := by omega
  have hb2 : ¬ (c = i + 1) := by omega
  have hb3 : (i : Int) ≤ (n : Int) + 1 := by omega
  have hb4 : ¬ (c = i) := by omega
  have hcp1 : ∀ ty dc sc, (Builtin.copy_ #[56, 56] ty #[.slice (some ⟨b, (i + 1) * 4, none⟩) (n - i) dc, .slice (some ⟨b, i * 4, none⟩) (n + 1 - i) sc]).run Try.prog w.drew = .ok (goInt (Nat.min (n + 1 - i) (n - i))) (w.drew.setCells b ((i + 1) * 4) (F.drop (i * 4))) := fun ty dc sc =>
    run_copy_k w.drew _ _ ty 134 4 b ((i + 1) * 4) (n - i) dc ⟨b, i * 4, none⟩ (n + 1 - i) sc (F.drop (i * 4)) Try.underlying56 hsz (by rw [hdl]; simp only [Nat.min_def]; split <;> omega)
      (fun j v hj => by rw [Addr.add_lit]; exact hR.cell (by rwa [List.getElem?_drop] at hj))
      (fun j hj => hR.there (by omega)) (fun j hj => hR.frozen _) (fun v hv => h1F v (List.mem_of_mem_drop hv))
  have hR1 := hR.drew.set (F.drop (i * 4)) (s := (i + 1) * 4) (by omega) (by omega)
  obtain ⟨W1, hW1⟩ : ∃ W1, W1 = w.drew.setCells b ((i + 1) * 4) (F.drop (i * 4)) := ⟨_, rfl⟩
  rw [← hW1] at hcp1 hR1
  have hV1 : ∀ j v, vs[j]? = some v → W1.cell? ⟨vb, j, none⟩ = some v := fun j v hj => by
    rw [hW1, World.cell?_setCells_out b _ _ _ _ (fun h _ => absurd h hvb)]
    exact hV.cell hj
  have hcp2 : ∀ (W : World), (∀ x, W.cell? x = W1.cell? x) → (∀ x, W.frozen? x = W1.frozen? x) → ∀ ty dc, (Builtin.copy_ #[56, 56] ty #[.slice (some ⟨b, i * 4, none⟩) (n + 1 - i) dc, .slice (some ⟨vb, 0, none⟩) 1 vc]).run Try.prog W = .ok (goInt (Nat.min 1 (n + 1 - i))) (W.setCells b (i * 4) vs) := fun W hWc hWf ty dc =>
    run_copy_k W _ _ ty 134 4 b (i * 4) (n + 1 - i) dc ⟨vb, 0, none⟩ 1 vc vs Try.underlying56 hsz (by rw [hv]; simp only [Nat.min_def]; split <;> omega)
      (fun j v hj => by rw [Addr.add_lit, hWc, Nat.zero_add]; exact hV1 j v hj)
      (fun j hj => by rw [hWc]; exact hR1.there (by omega)) (fun j hj => by rw [hWf]; exact hR1.frozen _) h1v
  have HE : Aside (∀ W : World, RowAt w W b 134 (c * 4) (F.take ((i + 1) * 4) ++ F.drop (i * 4) ++ F.drop ((i + 1) * 4 + (F.drop (i * 4)).length)) → RowAt w (W.setCells b (i * 4) vs) b 134 (c * 4) (F.take (i * 4) ++ vs ++ F.drop (i * 4))) := fun W hW => by
    have h := hW.set vs (s := i * 4) (by simp; omega) (by omega)
    have e1 : F.drop ((i + 1) * 4 + (F.drop (i * 4)).length) = [] := List.drop_of_length_le (by rw [hdl]; omega)
    rw [e1, List.append_nil] at h
    rw [List.take_append_of_le_length (by simp; omega), List.take_take, Nat.min_eq_left (by omega), List.drop_append, List.drop_of_length_le (by simp; omega), List.nil_append, List.length_take] at h
    rwa [show i * 4 + vs.length - min ((i + 1) * 4) F.length = 0 by omega, List.drop_zero] at h
  have H1 : Aside _ := hR1
  clear hR1 hV1 hW1 hsa hsb hR hV h1F h1v
  go_enter Try.func101, Try.ntmps101
  go_wp2_with (simp only [hov])
  go_region_law_o (refine step_copy_runI rfl _ _ 56 56 rfl _ _ (by simp [Act.eval, Act.put]) (by simp [Act.eval, Act.put]) (hcp1 _ _ _) ?_)
  go_wp2_with (at_builtin; refine wpList_copy_runI _ rfl _ _ 56 56 rfl _ _ rfl rfl (hcp2 _ (fun _ => rfl) (fun _ => rfl) _ _) ?_)
  go_ret
  exact ⟨rfl, HE.out _ H1.out⟩

set_option maxHeartbeats 4000000 in
set_option maxRecDepth 1000000 in
theorem insAttr_room (b n c vb vc : Nat) (F vs : List Value) (w : World) (hroom : n + 1 ≤ c) (hc63 : c ≤ 9223372036854775807)
    (hF : F.length = n * 4) (hv : vs.length = 4) (hR : RowAt w w b 134 (c * 4) F) (hV : RowAt w w vb 134 (vc * 4) vs) (h1v : ∀ v ∈ vs, v.oneCell' = true) :
    Calls Try.prog 101 #[.slice (some ⟨b, 0, none⟩) n c, .int .i64 n, .slice (some ⟨vb, 0, none⟩) 1 vc] w fun e w' =>
      e = .returned (.slice (some ⟨b, 0, none⟩) (n + 1) c) ∧ RowAt w w' b 134 (c * 4) (F ++ vs) := by
  obtain ⟨i0, hi0, hzs⟩ : ∃ i0, Try.prog.info? 134 = some i0 ∧ i0.size = 4 := ⟨Try.t134, by kernel_rfl, rfl⟩
  have hsrc : Src Try.prog i0.size 56 (.slice (some ⟨vb, 0, none⟩) 1 vc) 1 vs w := Src.ofSlice w Try.underlying56 ⟨vb, 0, none⟩ 1 vc vs (by rw [hzs]; omega) (fun j u hj => by rw [Addr.add_lit, Nat.zero_add]; exact hV.cell hj) h1v
  have hrun : ∀ ty, (Builtin.append_ #[56, 56] ty #[.slice (some ⟨b, 0, none⟩) n c, .slice (some ⟨vb, 0, none⟩) 1 vc]).run Try.prog w = .ok (.slice (some ⟨b, 0, none⟩) (n + 1) c) (w.setCells b (0 + n * i0.size) vs) := fun ty =>
    run_append_room_src w 56 56 ty 134 i0 Try.underlying56 hi0 b 0 n c _ 1 vs hsrc hroom (fun j hj => hR.there (by rw [hzs]; omega)) (fun j hj => hR.frozen _)
  rw [hzs, Nat.zero_add] at hrun
  have HE : Aside (RowAt w (w.setCells b (n * 4) vs) b 134 (c * 4) (F ++ vs)) := by
    have h := hR.set vs (s := n * 4) (by omega) (by omega)
    rwa [List.take_of_length_le (by omega), List.drop_of_length_le (by omega), List.append_nil] at h
  clear hR hV h1v hsrc
  go_enter Try.func101, Try.ntmps101
  go_wp2_with (at_builtin; refine Lib.wpList_append_run _ rfl _ _ _ _ rfl _ _ rfl rfl _ _ (hrun _) ?_)
  go_ret
  exact ⟨rfl, HE.out⟩

set_option maxHeartbeats 4000000 in
set_option maxRecDepth 1000000 in
theorem insAttr_end (base : Option Addr) (n c vb vc : Nat) (F vs : List Value) (w : World) (hnc : n ≤ c) (hroom : c < n + 1) (hbig : (n + 1) * 48 ≤ 140737488355328)
    (hF : F.length = n * 4) (hv : vs.length = 4) (hnil : base = none → n = 0) (hcs : ∀ a, base = some a → ∀ j v, F[j]? = some v → w.cell? (a.add j) = some v) (hV : RowAt w w vb 134 (vc * 4) vs) (h1v : ∀ v ∈ vs, v.oneCell' = true) :
    Calls Try.prog 101 #[.slice base n c, .int .i64 n, .slice (some ⟨vb, 0, none⟩) 1 vc] w fun e w' =>
      ∃ G, e = .returned (.slice (some ⟨w.heap.size, 0, none⟩) (n + 1) G) ∧ n + 1 ≤ G ∧ G ≤ maxLen ∧ RowAt w w' w.heap.size 134 (G * 4) (F ++ vs) := by
  obtain ⟨i0, hi0, hz0, hzs, hzb⟩ : ∃ i0, Try.prog.info? 134 = some i0 ∧ i0.zero = some (.agg #[.string ⟨#[]⟩, .int .i64 0, .int .i64 0, .string ⟨#[]⟩]) ∧ i0.size = 4 ∧ i0.bytes = 48 := ⟨Try.t134, by kernel_rfl, rfl, rfl, rfl⟩
  have hsrc : Src Try.prog i0.size 56 (.slice (some ⟨vb, 0, none⟩) 1 vc) 1 vs w := Src.ofSlice w Try.underlying56 ⟨vb, 0, none⟩ 1 vc vs (by rw [hzs]; omega) (fun j u hj => by rw [Addr.add_lit, Nat.zero_add]; exact hV.cell hj) h1v
  have hold : (Builtin.firstCells i0.size n (.slice base n c)).run Try.prog w.drew = .ok F.toArray w.drew := by
    rw [hzs]
    cases base with
    | none =>
      have h0 := hnil rfl
      subst h0
      rw [List.length_eq_zero_iff.1 (by omega : F.length = 0)]
      exact run_firstCells_none w.drew 4 0 0 c
    | some a => exact run_firstCells_some w.drew 4 n a n c F (by omega) (fun j v hj => hcs a rfl j v hj)
  have hrun : ∀ ty, (Builtin.append_ #[56, 56] ty #[.slice base n c, .slice (some ⟨vb, 0, none⟩) 1 vc]).run Try.prog w = _ := fun ty =>
    run_append_grow_src w 56 56 ty 134 i0 _ Try.underlying56 hi0 hz0 base n c F hold _ 1 vs hsrc hroom (by omega) (by rw [hzb]; exact growslice_fits hroom hbig)
  have hGn : n + 1 ≤ grownCap w (n + 1) c 134 := grownCap_ge w _ _ _
  have hGm : grownCap w (n + 1) c 134 ≤ maxLen := grownCap_le_maxLen w (n + 1) c 134 (by unfold maxLen; omega)
  have HE : Aside (RowAt w (w.drew.alloc (.cells ((F ++ vs).toArray ++ Builtin.zeroCells (.agg #[.string ⟨#[]⟩, .int .i64 0, .int .i64 0, .string ⟨#[]⟩] : Value).cells (grownCap w (n + 1) c 134 - (n + 1))) 134)) w.heap.size 134 (grownCap w (n + 1) c 134 * 4) (F ++ vs)) := by
    have h := RowAt.freshd w ((F ++ vs).toArray ++ Builtin.zeroCells (.agg #[.string ⟨#[]⟩, .int .i64 0, .int .i64 0, .string ⟨#[]⟩] : Value).cells (grownCap w (n + 1) c 134 - (n + 1))) 134
    have e : ((F ++ vs).toArray ++ Builtin.zeroCells (.agg #[.string ⟨#[]⟩, .int .i64 0, .int .i64 0, .string ⟨#[]⟩] : Value).cells (grownCap w (n + 1) c 134 - (n + 1))).size = grownCap w (n + 1) c 134 * 4 := by
      simp [Builtin.zeroCells, Value.cells]; omega
    rw [e] at h
    exact h.pre (by simp)
  clear hV h1v hsrc hold hcs
  go_enter Try.func101, Try.ntmps101
  cases base with
  | none =>
    have h0 := hnil rfl
    subst h0
    go_wp2_with (at_builtin; refine Lib.wpList_append_run _ rfl _ _ _ _ rfl _ _ rfl rfl _ _ (hrun _) ?_)
    go_ret
    exact ⟨_, rfl, hGn, hGm, HE.out⟩
  | some a =>
    obtain ⟨ab, ao, asp⟩ := a
    go_wp2_with (at_builtin; refine Lib.wpList_append_run _ rfl _ _ _ _ rfl _ _ rfl rfl _ _ (hrun _) ?_)
    all_goals (go_ret; exact ⟨_, rfl, hGn, hGm, HE.out⟩)

set_option maxHeartbeats 4000000 in
set_option maxRecDepth 1000000 in
theorem insAttr_grow (b c i vb vc n : Nat) (F vs : List Value) (w : World) (hi : i < n) (hnc : n ≤ c) (hroom : c < n + 1) (hbig : (n + 1) * 48 ≤ 140737488355328) (hvc : 1 ≤ vc)
    (hF : F.length = n * 4) (hv : vs.length = 4) (hR : RowAt w w b 134 (c * 4) F) (hV : RowAt w w vb 134 (vc * 4) vs) (h1F : ∀ v ∈ F, v.oneCell' = true) (h1v : ∀ v ∈ vs, v.oneCell' = true) :
    Calls Try.prog 101 #[.slice (some ⟨b, 0, none⟩) n c, .int .i64 i, .slice (some ⟨vb, 0, none⟩) 1 vc] w fun e w' =>
      ∃ G, e = .returned (.slice (some ⟨w.heap.size, 0, none⟩) (n + 1) G) ∧ n + 1 ≤ G ∧ G ≤ maxLen ∧ RowAt w w' w.heap.size 134 (G * 4) (F.take (i * 4) ++ vs ++ F.drop (i * 4)) := by
  obtain ⟨i0, hi0, hz0, hzs, hzb⟩ : ∃ i0, Try.prog.info? 134 = some i0 ∧ i0.zero = some (.agg #[.string ⟨#[]⟩, .int .i64 0, .int .i64 0, .string ⟨#[]⟩]) ∧ i0.size = 4 ∧ i0.bytes = 48 := ⟨Try.t134, by kernel_rfl, rfl, rfl, rfl⟩
  have mixed := fol
  have hz2 : ¬ ((i : Int) = (n : Int)) := by omega
  have hz3 : (c : Int) < (n : Int) + 1 := by omega
  have hsz : (Try.prog.info? 134).map (·.size) = some 4 := by rw [hi0]; simp [hzs]
  have hbw := hR.lt
  have hvw := hV.lt
  have hkk : (n : Int) + 1 - (i : Int) = ((n + 1 - i : Nat) : Int) := by omega
  have hik : i + (n + 1 - i) = n + 1 := by omega
  have hold : (Builtin.firstCells i0.size i (.slice (some ⟨b, 0, none⟩) i c)).run Try.prog w.drew = .ok (F.take (i * 4)).toArray w.drew := by
    rw [hzs]
    exact run_firstCells_some w.drew 4 i ⟨b, 0, none⟩ i c (F.take (i * 4)) (by rw [List.length_take]; omega) (fun j v hj => by
      rw [Addr.add_lit, Nat.zero_add]
      rw [List.getElem?_take] at hj
      split at hj
      · exact hR.cell hj
      · cases hj)
  have hrz : ∀ ty, (Builtin.append_ #[56, 3] ty #[.slice (some ⟨b, 0, none⟩) i c, .int .i64 ((n : Int) + 1 - (i : Int))]).run Try.prog w =
      .ok (.slice (some ⟨w.heap.size, 0, none⟩) (n + 1) (grownCap w (n + 1) c 134)) (w.drew.alloc (.cells ((F.take (i * 4)).toArray ++ Builtin.zeroCells (.agg #[.string ⟨#[]⟩, .int .i64 0, .int .i64 0, .string ⟨#[]⟩] : Value).cells (n + 1 - i) ++ Builtin.zeroCells (.agg #[.string ⟨#[]⟩, .int .i64 0, .int .i64 0, .string ⟨#[]⟩] : Value).cells (grownCap w (n + 1) c 134 - (n + 1))) 134)) := fun ty => by
    have h := Lib.run_append_grow_zeros w 56 3 ty 134 i0 _ .i64 .i64 Try.underlying56 Try.underlying3 hi0 hz0 (some ⟨b, 0, none⟩) i c (F.take (i * 4)) hold (n + 1 - i) (by omega) (by omega) (by omega) (by omega) (by rw [hzb]; omega) (by rw [hzb, hik]; exact growslice_fits hroom hbig)
    rw [hik] at h
    rw [hkk]
    exact h
  obtain ⟨G, hG⟩ : ∃ G, G = grownCap w (n + 1) c 134 := ⟨_, rfl⟩
  obtain ⟨ROW, hROW⟩ : ∃ ROW : Array Value, ROW = (F.take (i * 4)).toArray ++ Builtin.zeroCells (.agg #[.string ⟨#[]⟩, .int .i64 0, .int .i64 0, .string ⟨#[]⟩] : Value).cells (n + 1 - i) ++ Builtin.zeroCells (.agg #[.string ⟨#[]⟩, .int .i64 0, .int .i64 0, .string ⟨#[]⟩] : Value).cells (G - (n + 1)) := ⟨_, rfl⟩
  rw [← hG] at hrz
  rw [← hROW] at hrz
  have hGn : n + 1 ≤ G := by rw [hG]; exact grownCap_ge w _ _ _
  have hGm : G ≤ maxLen := by rw [hG]; exact grownCap_le_maxLen w (n + 1) c 134 (by unfold maxLen; omega)
  have hG63 : G ≤ 9223372036854775807 := by unfold maxLen at hGm; omega
  have hRs : ROW.size = G * 4 := by rw [hROW]; simp [Builtin.zeroCells, Value.cells]; omega
  have hRt : ROW.toList.take (i * 4) = F.take (i * 4) := by
    rw [hROW]
    simp only [Array.toList_append, List.append_assoc]
    rw [List.take_append_of_le_length (by simp; omega), List.take_of_length_le (by simp; omega)]
  have hR0 := RowAt.freshd w ROW 134
  rw [hRs] at hR0
  obtain ⟨W1, hW1⟩ : ∃ W1, W1 = w.drew.alloc (.cells ROW 134) := ⟨_, rfl⟩
  rw [← hW1] at hrz hR0
  have hlR : ROW.toList.length = G * 4 := by rw [← hRs]; simp
  have hR1 := hR0.set vs (s := i * 4) (by rw [hlR]; omega) (by omega)
  have hOb : ∀ j v, w.cell? ⟨b, j, none⟩ = some v → W1.cell? ⟨b, j, none⟩ = some v := fun j v h => by rw [hW1, World.cell?_alloc_past (w := w.drew) _ b j hbw]; exact h
  have hOv : ∀ j v, w.cell? ⟨vb, j, none⟩ = some v → W1.cell? ⟨vb, j, none⟩ = some v := fun j v h => by rw [hW1, World.cell?_alloc_past (w := w.drew) _ vb j hvw]; exact h
  have hcpA : ∀ (W : World), (∀ x, W.cell? x = W1.cell? x) → (∀ x, W.frozen? x = W1.frozen? x) → ∀ ty dc, (Builtin.copy_ #[56, 56] ty #[.slice (some ⟨w.heap.size, i * 4, none⟩) (n + 1 - i) dc, .slice (some ⟨vb, 0, none⟩) 1 vc]).run Try.prog W = .ok (goInt (Nat.min 1 (n + 1 - i))) (W.setCells w.heap.size (i * 4) vs) := fun W hWc hWf ty dc =>
    run_copy_k W _ _ ty 134 4 w.heap.size (i * 4) (n + 1 - i) dc ⟨vb, 0, none⟩ 1 vc vs Try.underlying56 hsz (by rw [hv]; simp only [Nat.min_def]; split <;> omega)
      (fun j v hj => by rw [Addr.add_lit, hWc, Nat.zero_add]; exact hOv _ v (hV.cell hj))
      (fun j hj => by rw [hWc]; exact hR0.there (by omega)) (fun j hj => by rw [hWf]; exact hR0.frozen _) h1v
  have hbN : b ≠ w.heap.size := by omega
  have hdl : (F.drop (i * 4)).length = (n - i) * 4 := by rw [List.length_drop, hF, Nat.sub_mul]
  have hcpB : ∀ (W : World), (∀ x, W.cell? x = (W1.setCells w.heap.size (i * 4) vs).cell? x) → (∀ x, W.frozen? x = (W1.setCells w.heap.size (i * 4) vs).frozen? x) → ∀ ty dc sc, (Builtin.copy_ #[56, 56] ty #[.slice (some ⟨w.heap.size, (i + 1) * 4, none⟩) (n - i) dc, .slice (some ⟨b, i * 4, none⟩) (n - i) sc]).run Try.prog W = .ok (goInt (Nat.min (n - i) (n - i))) (W.setCells w.heap.size ((i + 1) * 4) (F.drop (i * 4))) := fun W hWc hWf ty dc sc =>
    run_copy_k W _ _ ty 134 4 w.heap.size ((i + 1) * 4) (n - i) dc ⟨b, i * 4, none⟩ (n - i) sc (F.drop (i * 4)) Try.underlying56 hsz (by rw [hdl]; simp only [Nat.min_def]; split <;> omega)
      (fun j v hj => by
        rw [Addr.add_lit, hWc, World.cell?_setCells_out _ _ _ _ _ (fun h _ => absurd h hbN)]
        exact hOb _ v (hR.cell (by rwa [List.getElem?_drop] at hj)))
      (fun j hj => by rw [hWc]; exact hR1.there (by omega))
      (fun j hj => by rw [hWf]; exact hR1.frozen _) (fun v hv => h1F v (List.mem_of_mem_drop hv))
  have HE : Aside (∀ W W' : World, RowAt w W w.heap.size 134 (G * 4) (ROW.toList.take (i * 4) ++ vs ++ ROW.toList.drop (i * 4 + vs.length)) → W' = W.setCells w.heap.size ((i + 1) * 4) (F.drop (i * 4)) → RowAt w W' w.heap.size 134 (G * 4) (F.take (i * 4) ++ vs ++ F.drop (i * 4))) := fun W W' hW e => by
    subst e
    have h := hW.set (F.drop (i * 4)) (s := (i + 1) * 4) (by simp only [List.length_append, List.length_take, List.length_drop, hlR]; omega) (by omega)
    rw [hRt, List.take_append_of_le_length (by simp; omega), List.take_of_length_le (by simp; omega)] at h
    exact h.pre (List.prefix_append _ _)
  have H1 : Aside (RowAt w (((w.alloc (.cells ROW 134)).drew.setCells w.heap.size (i * 4) vs).drew) w.heap.size 134 (G * 4) (ROW.toList.take (i * 4) ++ vs ++ ROW.toList.drop (i * 4 + vs.length))) := by
    rw [alloc_drew, ← hW1]
    exact hR1.drew
  subst hW1
  have hE1 : ∀ x, ((w.alloc (.cells ROW 134)).drew).cell? x = (w.drew.alloc (.cells ROW 134)).cell? x := fun x => rfl
  have hE2 : ∀ x, ((w.alloc (.cells ROW 134)).drew).frozen? x = (w.drew.alloc (.cells ROW 134)).frozen? x := fun x => rfl
  have hF1 : ∀ x, (((w.alloc (.cells ROW 134)).drew.setCells w.heap.size (i * 4) vs).drew).cell? x = ((w.drew.alloc (.cells ROW 134)).setCells w.heap.size (i * 4) vs).cell? x := fun x => rfl
  have hF2 : ∀ x, (((w.alloc (.cells ROW 134)).drew.setCells w.heap.size (i * 4) vs).drew).frozen? x = ((w.drew.alloc (.cells ROW 134)).setCells w.heap.size (i * 4) vs).frozen? x := fun x => rfl
  have hGi : ¬ (G = i) := by omega
  have hGim : ¬ (G = i + 1) := by omega
  have hci : ¬ (c = i) := by omega
  have hw1 : IntKind.i64.wrap ((i : Int) + 1) = (i : Int) + 1 := by rw [IntKind.wrap_i64]; omega
  have hb1 : (0 : Int) ≤ (i : Int) + 1 := by omega
  have hin : i ≤ n := by omega
  have htn : ((i : Int) + 1).toNat = i + 1 := by omega
  have hb3 : (i : Int) ≤ (n : Int) := by omega
  clear hkk hik hold hROW hG hR hV hR0 hR1 h1F h1v hOb hOv hRt hRs hlR
  go_enter Try.func101, Try.ntmps101
  go_wp2_with (first
    | (at_builtin; refine Lib.wpList_append_run _ rfl _ _ _ _ rfl _ _ rfl rfl _ _ (hrz _) ?_)
    | (at_builtin; refine wpList_copy_runI _ rfl _ _ 56 56 rfl _ _ rfl rfl (hcpA _ hE1 hE2 _ _) ?_)
    | (at_builtin; refine wpList_copy_runI _ rfl _ _ 56 56 rfl _ _ rfl rfl (hcpB _ (fun _ => rfl) (fun _ => rfl) _ _ _) ?_))
  go_region_law_o (refine step_copy_runI rfl _ _ 56 56 rfl (.slice (some ⟨w.heap.size, (i + 1) * 4, none⟩) (n - i) (G - (i + 1))) (.slice (some ⟨b, i * 4, none⟩) (n - i) (c - i)) (by simp [Act.eval, Act.put]) (by simp [Act.eval, Act.put]) (hcpB _ hF1 hF2 3 (G - (i + 1)) (c - i)) ?_)
  go_wp2
  go_ret
  exact ⟨G, rfl, hGn, hGm, HE.out _ _ H1.out rfl⟩

end Go.Proofs.Yteganoldfldlhaa
