/- Joined texts. -/
import Derived.Test.YteaaopodnbjpoaaGreatZ16
import Derived.Shelf.RegionOpenPlain
import Derived.WalkKit
import Derived.Lib.Walk
import Derived.Lib.SliceRun
import Derived.Lib.JoinLaws
import Derived.Lib.AppendZeros
import Derived.Lib.AppendZerosOnto
import Derived.Lib.Overlaps
import Derived.Laws.Externs
import Derived.Laws.NewBlocks
import Derived.Shelf.Spec.SlicesInsertGrow
import Derived.Test.YteaaopodnbjpoaaGreatZ11
import Derived.Test.YteaaopodnbjpoaaGreatZ13
import Derived.Test.YteaaopodnbjpoaaGreatZ12
import Derived.Test.YteaaopodnbjpoaaGreatZ07
set_option linter.all false
section
namespace Go.Proofs.YteaaopodnbjpoaaGreat
open Go Go.Sx Go.RowKit Go.Proofs Go.Lib
set_option maxHeartbeats 4000000 in
set_option maxRecDepth 1000000 in
theorem a7S (b c i vb vc n : Nat) (F vs : List Value) (w : World) (hi : i < n) (hroom : n + 1 ≤ c) (hc63 : c ≤ 9223372036854775807) (hvb : vb ≠ b) (hvc : 1 ≤ vc)
    (hF : F.length = n * 2) (hv : vs.length = 2) (hR : RowAt w w b 73 (c * 2) F) (hV : RowAt w w vb 73 (vc * 2) vs) (h1F : ∀ v ∈ F, v.oneCell' = true) (h1v : ∀ v ∈ vs, v.oneCell' = true) :
    Calls Tryz.prog 235 #[.slice (some ⟨b, 0, none⟩) n c, .int .i64 i, .slice (some ⟨vb, 0, none⟩) 1 vc] w fun e w' =>
     e = .returned (.slice (some ⟨b, 0, none⟩) (n + 1) c) ∧ RowAt w w' b 73 (c * 2) (F.take (i * 2) ++ vs ++ F.drop (i * 2)) := by
 have hz2 : ¬ ((i : Int) = (n : Int)) := by omega
 have hsz : (Tryz.prog.info? 73).map (·.size) = some 2 := by kernel_rfl
 have hsa := hV.shape
 have hsb := hR.shape
 have hov : ∀ x lb cb, (callFunc 282 #[.slice (some ⟨vb, 0, none⟩) 1 vc, .slice (some ⟨b, x, none⟩) lb cb]).run Tryz.prog w = .ok (.value (.bool false)) w := fun x lb cb => by
  rw [run_callFunc_extern Tryz.func282 (by kernel_rfl) (by kernel_rfl) (by kernel_rfl) (e := Extern.SlicesOverlaps.overlaps #[38, 38] #[4]) (by kernel_rfl),
   Lib.run_overlaps_apart w 38 4 73 Tryz.underlying38 2 Tryz.sizeOf73 ⟨vb, 0, none⟩ ⟨b, x, none⟩ 1 vc lb cb hvb _ _ _ _ hsa hsb (by omega) (hV.frozen _) (hV.frozen _)]
  rfl
 have hdl : (F.drop (i * 2)).length = (n - i) * 2 := by rw [List.length_drop, hF, Nat.sub_mul]
 have mixed := fol
 have hw1 : IntKind.i64.wrap ((i : Int) + 1) = (i : Int) + 1 := by rw [IntKind.wrap_i64]; omega
 have hb1 : (0 : Int) ≤ (i : Int) + 1 := by omega
 have hin : i ≤ n := by omega
 have htn : ((i : Int) + 1).toNat = i + 1 := by omega
 have hb2 : ¬ (c = i + 1) := by omega
 have hb3 : (i : Int) ≤ (n : Int) + 1 := by omega
 have hb4 : ¬ (c = i) := by omega
 have hcp1 : ∀ ty dc sc, (Builtin.copy_ #[38, 38] ty #[.slice (some ⟨b, (i + 1) * 2, none⟩) (n - i) dc, .slice (some ⟨b, i * 2, none⟩) (n + 1 - i) sc]).run Tryz.prog w.drew = .ok (goInt (Nat.min (n + 1 - i) (n - i))) (w.drew.setCells b ((i + 1) * 2) (F.drop (i * 2))) := fun ty dc sc =>
  wE w.drew _ _ ty 73 2 b ((i + 1) * 2) (n - i) dc ⟨b, i * 2, none⟩ (n + 1 - i) sc (F.drop (i * 2)) Tryz.underlying38 hsz (by rw [hdl]; simp only [Nat.min_def]; split <;> omega)
   (fun j v hj => by rw [Addr.add_lit]; exact hR.cell (by rwa [List.getElem?_drop] at hj))
   (fun j hj => hR.there (by omega)) (fun j hj => hR.frozen _) (fun v hv => h1F v (List.mem_of_mem_drop hv))
 have hR1 := hR.drew.set (F.drop (i * 2)) (s := (i + 1) * 2) (by omega) (by omega)
 obtain ⟨W1, hW1⟩ : ∃ W1, W1 = w.drew.setCells b ((i + 1) * 2) (F.drop (i * 2)) := ⟨_, rfl⟩
 rw [← hW1] at hcp1 hR1
 have hV1 : ∀ j v, vs[j]? = some v → W1.cell? ⟨vb, j, none⟩ = some v := fun j v hj => by
  rw [hW1, World.cell?_setCells_out b _ _ _ _ (fun h _ => absurd h hvb)]
  exact hV.cell hj
 have hcp2 : ∀ (W : World), (∀ x, W.cell? x = W1.cell? x) → (∀ x, W.frozen? x = W1.frozen? x) → ∀ ty dc, (Builtin.copy_ #[38, 38] ty #[.slice (some ⟨b, i * 2, none⟩) (n + 1 - i) dc, .slice (some ⟨vb, 0, none⟩) 1 vc]).run Tryz.prog W = .ok (goInt (Nat.min 1 (n + 1 - i))) (W.setCells b (i * 2) vs) := fun W hWc hWf ty dc =>
  wE W _ _ ty 73 2 b (i * 2) (n + 1 - i) dc ⟨vb, 0, none⟩ 1 vc vs Tryz.underlying38 hsz (by rw [hv]; simp only [Nat.min_def]; split <;> omega)
   (fun j v hj => by rw [Addr.add_lit, hWc, Nat.zero_add]; exact hV1 j v hj)
   (fun j hj => by rw [hWc]; exact hR1.there (by omega)) (fun j hj => by rw [hWf]; exact hR1.frozen _) h1v
 have HE : Aside (∀ W : World, RowAt w W b 73 (c * 2) (F.take ((i + 1) * 2) ++ F.drop (i * 2) ++ F.drop ((i + 1) * 2 + (F.drop (i * 2)).length)) → RowAt w (W.setCells b (i * 2) vs) b 73 (c * 2) (F.take (i * 2) ++ vs ++ F.drop (i * 2))) := fun W hW => by
  have h := hW.set vs (s := i * 2) (by simp; omega) (by omega)
  have e1 : F.drop ((i + 1) * 2 + (F.drop (i * 2)).length) = [] := List.drop_of_length_le (by rw [hdl]; omega)
  rw [e1, List.append_nil] at h
  rw [List.take_append_of_le_length (by simp; omega), List.take_take, Nat.min_eq_left (by omega), List.drop_append, List.drop_of_length_le (by simp; omega), List.nil_append, List.length_take] at h
  rwa [show i * 2 + vs.length - min ((i + 1) * 2) F.length = 0 by omega, List.drop_zero] at h
 have H1 : Aside _ := hR1
 clear hR1 hV1 hW1 hsa hsb hR hV h1F h1v
 go_enter Tryz.func235, Tryz.ntmps235
 go_wp2_with (simp only [hov])
 go_region_law_o (refine step_copy_runI rfl _ _ 38 38 rfl _ _ (by simp [Act.eval, Act.put]) (by simp [Act.eval, Act.put]) (hcp1 _ _ _) ?_)
 go_wp2_with (at_builtin; refine wpList_copy_runI _ rfl _ _ 38 38 rfl _ _ rfl rfl (hcp2 _ (fun _ => rfl) (fun _ => rfl) _ _) ?_)
 go_ret
 exact ⟨rfl, HE.out _ H1.out⟩
set_option maxHeartbeats 4000000 in
set_option maxRecDepth 1000000 in
theorem a9D (b n c vb vc : Nat) (F vs : List Value) (w : World) (hroom : n + 1 ≤ c) (hc63 : c ≤ 9223372036854775807)
    (hF : F.length = n * 2) (hv : vs.length = 2) (hR : RowAt w w b 73 (c * 2) F) (hV : RowAt w w vb 73 (vc * 2) vs) (h1v : ∀ v ∈ vs, v.oneCell' = true) :
    Calls Tryz.prog 235 #[.slice (some ⟨b, 0, none⟩) n c, .int .i64 n, .slice (some ⟨vb, 0, none⟩) 1 vc] w fun e w' =>
     e = .returned (.slice (some ⟨b, 0, none⟩) (n + 1) c) ∧ RowAt w w' b 73 (c * 2) (F ++ vs) := by
 obtain ⟨i0, hi0, hzs⟩ : ∃ i0, Tryz.prog.info? 73 = some i0 ∧ i0.size = 2 := ⟨Tryz.t73, by kernel_rfl, rfl⟩
 have hsrc : Src Tryz.prog i0.size 38 (.slice (some ⟨vb, 0, none⟩) 1 vc) 1 vs w := Src.ofSlice w Tryz.underlying38 ⟨vb, 0, none⟩ 1 vc vs (by rw [hzs]; omega) (fun j u hj => by rw [Addr.add_lit, Nat.zero_add]; exact hV.cell hj) h1v
 have hrun : ∀ ty, (Builtin.append_ #[38, 38] ty #[.slice (some ⟨b, 0, none⟩) n c, .slice (some ⟨vb, 0, none⟩) 1 vc]).run Tryz.prog w = .ok (.slice (some ⟨b, 0, none⟩) (n + 1) c) (w.setCells b (0 + n * i0.size) vs) := fun ty =>
  run_append_room_src w 38 38 ty 73 i0 Tryz.underlying38 hi0 b 0 n c _ 1 vs hsrc hroom (fun j hj => hR.there (by rw [hzs]; omega)) (fun j hj => hR.frozen _)
 rw [hzs, Nat.zero_add] at hrun
 have HE : Aside (RowAt w (w.setCells b (n * 2) vs) b 73 (c * 2) (F ++ vs)) := by
  have h := hR.set vs (s := n * 2) (by omega) (by omega)
  rwa [List.take_of_length_le (by omega), List.drop_of_length_le (by omega), List.append_nil] at h
 clear hR hV h1v hsrc
 go_enter Tryz.func235, Tryz.ntmps235
 go_wp2_with (at_builtin; refine Lib.wpList_append_run _ rfl _ _ _ _ rfl _ _ rfl rfl _ _ (hrun _) ?_)
 go_ret
 exact ⟨rfl, HE.out⟩
set_option maxHeartbeats 4000000 in
set_option maxRecDepth 1000000 in
theorem a4W (base : Option Addr) (n c vb vc : Nat) (F vs : List Value) (w : World) (hnc : n ≤ c) (hroom : c < n + 1) (hbig : (n + 1) * 40 ≤ 140737488355328)
    (hF : F.length = n * 2) (hv : vs.length = 2) (hnil : base = none → n = 0) (hcs : ∀ a, base = some a → ∀ j v, F[j]? = some v → w.cell? (a.add j) = some v) (hV : RowAt w w vb 73 (vc * 2) vs) (h1v : ∀ v ∈ vs, v.oneCell' = true) :
    Calls Tryz.prog 235 #[.slice base n c, .int .i64 n, .slice (some ⟨vb, 0, none⟩) 1 vc] w fun e w' =>
     ∃ G, e = .returned (.slice (some ⟨w.heap.size, 0, none⟩) (n + 1) G) ∧ n + 1 ≤ G ∧ G ≤ maxLen ∧ RowAt w w' w.heap.size 73 (G * 2) (F ++ vs) := by
 obtain ⟨i0, hi0, hz0, hzs, hzb⟩ : ∃ i0, Tryz.prog.info? 73 = some i0 ∧ i0.zero = some (.agg #[.string ⟨#[]⟩, .slice none 0 0]) ∧ i0.size = 2 ∧ i0.bytes = 40 := ⟨Tryz.t73, by kernel_rfl, rfl, rfl, rfl⟩
 have hsrc : Src Tryz.prog i0.size 38 (.slice (some ⟨vb, 0, none⟩) 1 vc) 1 vs w := Src.ofSlice w Tryz.underlying38 ⟨vb, 0, none⟩ 1 vc vs (by rw [hzs]; omega) (fun j u hj => by rw [Addr.add_lit, Nat.zero_add]; exact hV.cell hj) h1v
 have hold : (Builtin.firstCells i0.size n (.slice base n c)).run Tryz.prog w.drew = .ok F.toArray w.drew := by
  rw [hzs]
  cases base with
  | none =>
   have h0 := hnil rfl
   subst h0
   rw [List.length_eq_zero_iff.1 (by omega : F.length = 0)]
   exact run_firstCells_none w.drew 2 0 0 c
  | some a => exact run_firstCells_some w.drew 2 n a n c F (by omega) (fun j v hj => hcs a rfl j v hj)
 have hrun : ∀ ty, (Builtin.append_ #[38, 38] ty #[.slice base n c, .slice (some ⟨vb, 0, none⟩) 1 vc]).run Tryz.prog w = _ := fun ty =>
  run_append_grow_src w 38 38 ty 73 i0 _ Tryz.underlying38 hi0 hz0 base n c F hold _ 1 vs hsrc hroom (by omega) (by rw [hzb]; exact growslice_fits hroom hbig)
 have hGn : n + 1 ≤ grownCap w (n + 1) c 73 := grownCap_ge w _ _ _
 have hGm : grownCap w (n + 1) c 73 ≤ maxLen := grownCap_le_maxLen w (n + 1) c 73 (by unfold maxLen; omega)
 have HE : Aside (RowAt w (w.drew.alloc (.cells ((F ++ vs).toArray ++ Builtin.zeroCells (.agg #[.string ⟨#[]⟩, .slice none 0 0] : Value).cells (grownCap w (n + 1) c 73 - (n + 1))) 73)) w.heap.size 73 (grownCap w (n + 1) c 73 * 2) (F ++ vs)) := by
  have h := RowAt.freshd w ((F ++ vs).toArray ++ Builtin.zeroCells (.agg #[.string ⟨#[]⟩, .slice none 0 0] : Value).cells (grownCap w (n + 1) c 73 - (n + 1))) 73
  have e : ((F ++ vs).toArray ++ Builtin.zeroCells (.agg #[.string ⟨#[]⟩, .slice none 0 0] : Value).cells (grownCap w (n + 1) c 73 - (n + 1))).size = grownCap w (n + 1) c 73 * 2 := by
   simp [Builtin.zeroCells, Value.cells]; omega
  rw [e] at h
  exact h.pre (by simp)
 clear hV h1v hsrc hold hcs
 go_enter Tryz.func235, Tryz.ntmps235
 cases base with
 | none =>
  have h0 := hnil rfl
  subst h0
  go_wp2_with (at_builtin; refine Lib.wpList_append_run _ rfl _ _ _ _ rfl _ _ rfl rfl _ _ (hrun _) ?_)
  go_ret
  exact ⟨_, rfl, hGn, hGm, HE.out⟩
 | some a =>
  obtain ⟨ab, ao, asp⟩ := a
  go_wp2_with (at_builtin; refine Lib.wpList_append_run _ rfl _ _ _ _ rfl _ _ rfl rfl _ _ (hrun _) ?_)
  all_goals (go_ret; exact ⟨_, rfl, hGn, hGm, HE.out⟩)
set_option maxHeartbeats 4000000 in
set_option maxRecDepth 1000000 in
theorem a9E (b c i vb vc n : Nat) (F vs : List Value) (w : World) (hi : i < n) (hnc : n ≤ c) (hroom : c < n + 1) (hbig : (n + 1) * 40 ≤ 140737488355328) (hvc : 1 ≤ vc)
    (hF : F.length = n * 2) (hv : vs.length = 2) (hR : RowAt w w b 73 (c * 2) F) (hV : RowAt w w vb 73 (vc * 2) vs) (h1F : ∀ v ∈ F, v.oneCell' = true) (h1v : ∀ v ∈ vs, v.oneCell' = true) :
    Calls Tryz.prog 235 #[.slice (some ⟨b, 0, none⟩) n c, .int .i64 i, .slice (some ⟨vb, 0, none⟩) 1 vc] w fun e w' =>
     ∃ G, e = .returned (.slice (some ⟨w.heap.size, 0, none⟩) (n + 1) G) ∧ n + 1 ≤ G ∧ G ≤ maxLen ∧ RowAt w w' w.heap.size 73 (G * 2) (F.take (i * 2) ++ vs ++ F.drop (i * 2)) := by
 obtain ⟨i0, hi0, hz0, hzs, hzb⟩ : ∃ i0, Tryz.prog.info? 73 = some i0 ∧ i0.zero = some (.agg #[.string ⟨#[]⟩, .slice none 0 0]) ∧ i0.size = 2 ∧ i0.bytes = 40 := ⟨Tryz.t73, by kernel_rfl, rfl, rfl, rfl⟩
 have mixed := fol
 have hz2 : ¬ ((i : Int) = (n : Int)) := by omega
 have hz3 : (c : Int) < (n : Int) + 1 := by omega
 have hsz : (Tryz.prog.info? 73).map (·.size) = some 2 := by rw [hi0]; simp [hzs]
 have hbw := hR.lt
 have hvw := hV.lt
 have hkk : (n : Int) + 1 - (i : Int) = ((n + 1 - i : Nat) : Int) := by omega
 have hik : i + (n + 1 - i) = n + 1 := by omega
 have hold : (Builtin.firstCells i0.size i (.slice (some ⟨b, 0, none⟩) i c)).run Tryz.prog w.drew = .ok (F.take (i * 2)).toArray w.drew := by
  rw [hzs]
  exact run_firstCells_some w.drew 2 i ⟨b, 0, none⟩ i c (F.take (i * 2)) (by rw [List.length_take]; omega) (fun j v hj => by
   rw [Addr.add_lit, Nat.zero_add]
   rw [List.getElem?_take] at hj
   split at hj
   ·exact hR.cell hj
   ·cases hj)
 have hrz : ∀ ty, (Builtin.append_ #[38, 3] ty #[.slice (some ⟨b, 0, none⟩) i c, .int .i64 ((n : Int) + 1 - (i : Int))]).run Tryz.prog w =
     .ok (.slice (some ⟨w.heap.size, 0, none⟩) (n + 1) (grownCap w (n + 1) c 73)) (w.drew.alloc (.cells ((F.take (i * 2)).toArray ++ Builtin.zeroCells (.agg #[.string ⟨#[]⟩, .slice none 0 0] : Value).cells (n + 1 - i) ++ Builtin.zeroCells (.agg #[.string ⟨#[]⟩, .slice none 0 0] : Value).cells (grownCap w (n + 1) c 73 - (n + 1))) 73)) := fun ty => by
  have h := Lib.run_append_grow_zeros w 38 3 ty 73 i0 _ .i64 .i64 Tryz.underlying38 Tryz.underlying3 hi0 hz0 (some ⟨b, 0, none⟩) i c (F.take (i * 2)) hold (n + 1 - i) (by omega) (by omega) (by omega) (by omega) (by rw [hzb]; omega) (by rw [hzb, hik]; exact growslice_fits hroom hbig)
  rw [hik] at h
  rw [hkk]
  exact h
 obtain ⟨G, hG⟩ : ∃ G, G = grownCap w (n + 1) c 73 := ⟨_, rfl⟩
 obtain ⟨ROW, hROW⟩ : ∃ ROW : Array Value, ROW = (F.take (i * 2)).toArray ++ Builtin.zeroCells (.agg #[.string ⟨#[]⟩, .slice none 0 0] : Value).cells (n + 1 - i) ++ Builtin.zeroCells (.agg #[.string ⟨#[]⟩, .slice none 0 0] : Value).cells (G - (n + 1)) := ⟨_, rfl⟩
 rw [← hG] at hrz
 rw [← hROW] at hrz
 have hGn : n + 1 ≤ G := by rw [hG]; exact grownCap_ge w _ _ _
 have hGm : G ≤ maxLen := by rw [hG]; exact grownCap_le_maxLen w (n + 1) c 73 (by unfold maxLen; omega)
 have hG63 : G ≤ 9223372036854775807 := by unfold maxLen at hGm; omega
 have hRs : ROW.size = G * 2 := by rw [hROW]; simp [Builtin.zeroCells, Value.cells]; omega
 have hRt : ROW.toList.take (i * 2) = F.take (i * 2) := by
  rw [hROW]
  simp only [Array.toList_append, List.append_assoc]
  rw [List.take_append_of_le_length (by simp; omega), List.take_of_length_le (by simp; omega)]
 have hR0 := RowAt.freshd w ROW 73
 rw [hRs] at hR0
 obtain ⟨W1, hW1⟩ : ∃ W1, W1 = w.drew.alloc (.cells ROW 73) := ⟨_, rfl⟩
 rw [← hW1] at hrz hR0
 have hlR : ROW.toList.length = G * 2 := by rw [← hRs]; simp
 have hR1 := hR0.set vs (s := i * 2) (by rw [hlR]; omega) (by omega)
 have hOb : ∀ j v, w.cell? ⟨b, j, none⟩ = some v → W1.cell? ⟨b, j, none⟩ = some v := fun j v h => by rw [hW1, World.cell?_alloc_past (w := w.drew) _ b j hbw]; exact h
 have hOv : ∀ j v, w.cell? ⟨vb, j, none⟩ = some v → W1.cell? ⟨vb, j, none⟩ = some v := fun j v h => by rw [hW1, World.cell?_alloc_past (w := w.drew) _ vb j hvw]; exact h
 have hcpA : ∀ (W : World), (∀ x, W.cell? x = W1.cell? x) → (∀ x, W.frozen? x = W1.frozen? x) → ∀ ty dc, (Builtin.copy_ #[38, 38] ty #[.slice (some ⟨w.heap.size, i * 2, none⟩) (n + 1 - i) dc, .slice (some ⟨vb, 0, none⟩) 1 vc]).run Tryz.prog W = .ok (goInt (Nat.min 1 (n + 1 - i))) (W.setCells w.heap.size (i * 2) vs) := fun W hWc hWf ty dc =>
  wE W _ _ ty 73 2 w.heap.size (i * 2) (n + 1 - i) dc ⟨vb, 0, none⟩ 1 vc vs Tryz.underlying38 hsz (by rw [hv]; simp only [Nat.min_def]; split <;> omega)
   (fun j v hj => by rw [Addr.add_lit, hWc, Nat.zero_add]; exact hOv _ v (hV.cell hj))
   (fun j hj => by rw [hWc]; exact hR0.there (by omega)) (fun j hj => by rw [hWf]; exact hR0.frozen _) h1v
 have hbN : b ≠ w.heap.size := by omega
 have hdl : (F.drop (i * 2)).length = (n - i) * 2 := by rw [List.length_drop, hF, Nat.sub_mul]
 have hcpB : ∀ (W : World), (∀ x, W.cell? x = (W1.setCells w.heap.size (i * 2) vs).cell? x) → (∀ x, W.frozen? x = (W1.setCells w.heap.size (i * 2) vs).frozen? x) → ∀ ty dc sc, (Builtin.copy_ #[38, 38] ty #[.slice (some ⟨w.heap.size, (i + 1) * 2, none⟩) (n - i) dc, .slice (some ⟨b, i * 2, none⟩) (n - i) sc]).run Tryz.prog W = .ok (goInt (Nat.min (n - i) (n - i))) (W.setCells w.heap.size ((i + 1) * 2) (F.drop (i * 2))) := fun W hWc hWf ty dc sc =>
  wE W _ _ ty 73 2 w.heap.size ((i + 1) * 2) (n - i) dc ⟨b, i * 2, none⟩ (n - i) sc (F.drop (i * 2)) Tryz.underlying38 hsz (by rw [hdl]; simp only [Nat.min_def]; split <;> omega)
   (fun j v hj => by
    rw [Addr.add_lit, hWc, World.cell?_setCells_out _ _ _ _ _ (fun h _ => absurd h hbN)]
    exact hOb _ v (hR.cell (by rwa [List.getElem?_drop] at hj)))
   (fun j hj => by rw [hWc]; exact hR1.there (by omega))
   (fun j hj => by rw [hWf]; exact hR1.frozen _) (fun v hv => h1F v (List.mem_of_mem_drop hv))
 have HE : Aside (∀ W W' : World, RowAt w W w.heap.size 73 (G * 2) (ROW.toList.take (i * 2) ++ vs ++ ROW.toList.drop (i * 2 + vs.length)) → W' = W.setCells w.heap.size ((i + 1) * 2) (F.drop (i * 2)) → RowAt w W' w.heap.size 73 (G * 2) (F.take (i * 2) ++ vs ++ F.drop (i * 2))) := fun W W' hW e => by
  subst e
  have h := hW.set (F.drop (i * 2)) (s := (i + 1) * 2) (by simp only [List.length_append, List.length_take, List.length_drop, hlR]; omega) (by omega)
  rw [hRt, List.take_append_of_le_length (by simp; omega), List.take_of_length_le (by simp; omega)] at h
  exact h.pre (List.prefix_append _ _)
 have H1 : Aside (RowAt w (((w.alloc (.cells ROW 73)).drew.setCells w.heap.size (i * 2) vs).drew) w.heap.size 73 (G * 2) (ROW.toList.take (i * 2) ++ vs ++ ROW.toList.drop (i * 2 + vs.length))) := by
  rw [b1q, ← hW1]
  exact hR1.drew
 subst hW1
 have hE1 : ∀ x, ((w.alloc (.cells ROW 73)).drew).cell? x = (w.drew.alloc (.cells ROW 73)).cell? x := fun x => rfl
 have hE2 : ∀ x, ((w.alloc (.cells ROW 73)).drew).frozen? x = (w.drew.alloc (.cells ROW 73)).frozen? x := fun x => rfl
 have hF1 : ∀ x, (((w.alloc (.cells ROW 73)).drew.setCells w.heap.size (i * 2) vs).drew).cell? x = ((w.drew.alloc (.cells ROW 73)).setCells w.heap.size (i * 2) vs).cell? x := fun x => rfl
 have hF2 : ∀ x, (((w.alloc (.cells ROW 73)).drew.setCells w.heap.size (i * 2) vs).drew).frozen? x = ((w.drew.alloc (.cells ROW 73)).setCells w.heap.size (i * 2) vs).frozen? x := fun x => rfl
 have hGi : ¬ (G = i) := by omega
 have hGim : ¬ (G = i + 1) := by omega
 have hci : ¬ (c = i) := by omega
 have hw1 : IntKind.i64.wrap ((i : Int) + 1) = (i : Int) + 1 := by rw [IntKind.wrap_i64]; omega
 have hb1 : (0 : Int) ≤ (i : Int) + 1 := by omega
 have hin : i ≤ n := by omega
 have htn : ((i : Int) + 1).toNat = i + 1 := by omega
 have hb3 : (i : Int) ≤ (n : Int) := by omega
 clear hkk hik hold hROW hG hR hV hR0 hR1 h1F h1v hOb hOv hRt hRs hlR
 go_enter Tryz.func235, Tryz.ntmps235
 go_wp2_with (first
  | (at_builtin; refine Lib.wpList_append_run _ rfl _ _ _ _ rfl _ _ rfl rfl _ _ (hrz _) ?_)
  | (at_builtin; refine wpList_copy_runI _ rfl _ _ 38 38 rfl _ _ rfl rfl (hcpA _ hE1 hE2 _ _) ?_)
  | (at_builtin; refine wpList_copy_runI _ rfl _ _ 38 38 rfl _ _ rfl rfl (hcpB _ (fun _ => rfl) (fun _ => rfl) _ _ _) ?_))
 go_region_law_o (refine step_copy_runI rfl _ _ 38 38 rfl (.slice (some ⟨w.heap.size, (i + 1) * 2, none⟩) (n - i) (G - (i + 1))) (.slice (some ⟨b, i * 2, none⟩) (n - i) (c - i)) (by simp [Act.eval, Act.put]) (by simp [Act.eval, Act.put]) (hcpB _ hF1 hF2 3 (G - (i + 1)) (c - i)) ?_)
 go_wp2
 go_ret
 exact ⟨G, rfl, hGn, hGm, HE.out _ _ H1.out rfl⟩
theorem a7T (rows : List (List D)) (r : List D) (i : Nat) (hi : i ≤ rows.length) (hl : rows.length ≤ 8388608) : FnJ Tryz.prog 235 73 2 rows i [r] (rows.take i ++ r :: rows.drop i) := by
 refine ⟨Tryz.call235, fun V w y S y2 S2 hm hrow hrow2 hnd hlt => ?_⟩
 obtain ⟨hu, h⟩ := a1x hrow
 obtain ⟨hu2, h2⟩ := a1x hrow2
 have hr : r.length = 2 := hu2 r (by simp)
 rcases h2 with ⟨_, h2, _⟩ | ⟨vb, vc, vs, Ts, rfl, v3, v4, hV, vl, vL, vV, rfl⟩
 ·cases h2
 have vL' : LayL V r vs Ts := by simpa using vL
 have vl' : vs.length = 2 := by simpa using vl
 have v3' : 1 ≤ vc := by simpa using v3
 have h1v := vL'.oneCell
 rcases h with ⟨⟨ao, rfl⟩, rfl, rfl⟩ | ⟨b, cap, ys, Ss, rfl, e3, e4, hR, el, eL, eV, rfl⟩
 ·have hi0 : i = 0 := by simpa using hi
  subst hi0
  refine (a4W ao 0 0 vb vc [] vs w (by omega) (by omega) (by omega) (by simp) vl' (fun _ => rfl) (fun a _ j v hj => by simp at hj) hV h1v).mono ?_
  rintro e w' ⟨G, rfl, hG, hGm, hN⟩
  have hd := a4Y (S := []) (S2 := vb :: Ts.flatten) (rows := []) (r := r) (i := 0) (Ss := []) (ys := []) (V := V) (hi) hu hr (LayL.nil V) vL' (by simpa using hN) (by simpa using hG) hGm (hm.fresh (Nat.le_refl _)) (.inr ⟨Nat.le_refl _, hN.lt⟩) (fun n hn => by simp at hn) (fun n hn => List.mem_cons_of_mem _ hn)
   (by
    simp only [List.flatten_nil, List.nil_append]
    refine List.nodup_cons.2 ⟨fun h => ?_, (List.nodup_cons.1 (by simpa using hnd)).2⟩
    have := hlt _ (by simp only [List.nil_append]; exact List.mem_cons_of_mem _ h)
    omega)
  exact ⟨_, rfl, yD hN.grown, hd⟩
 ·have h1F := eL.oneCell
  have hbw := hR.lt
  have hvb : vb ≠ b := fun e => by subst e; simp at hnd
  have hnd2 : (Ss.flatten ++ Ts.flatten).Nodup := by
   have h1 : (Ss.flatten ++ vb :: Ts.flatten).Nodup := (List.nodup_cons.1 (by simpa using hnd)).2
   exact h1.sublist (List.Sublist.append_left (List.sublist_cons_self _ _) _)
  have hbS : b ∉ Ss.flatten ++ Ts.flatten := fun h => by
   have h1 := (List.nodup_cons.1 (show (b :: (Ss.flatten ++ vb :: Ts.flatten)).Nodup by simpa using hnd)).1
   rcases List.mem_append.1 h with h | h
   ·exact h1 (List.mem_append.2 (.inl h))
   ·exact h1 (List.mem_append.2 (.inr (List.mem_cons_of_mem _ h)))
  have hfr : w.heap.size ∉ Ss.flatten ++ Ts.flatten := fun h => by
   have := hlt w.heap.size (by
    rcases List.mem_append.1 h with h | h
    ·exact List.mem_append.2 (.inl (List.mem_cons_of_mem _ h))
    ·exact List.mem_append.2 (.inr (List.mem_cons_of_mem _ h)))
   omega
  have old : ∀ w', RowAt w w' b 73 (cap * 2) (ys.take (i * 2) ++ vs ++ ys.drop (i * 2)) → rows.length + 1 ≤ cap → ∃ S', RowR V w' 73 2 (rows.take i ++ r :: rows.drop i) (.slice (some ⟨b, 0, none⟩) (rows.length + 1) cap) S' ∧ S'.Nodup ∧ ∀ n ∈ S', n ∈ (b :: Ss.flatten) ∨ n ∈ (vb :: Ts.flatten) ∨ (w.heap.size ≤ n ∧ n < w'.heap.size) := fun w' h hc =>
   a4Y hi hu hr eL vL' h hc e4 eV (.inl (by simp)) (fun n hn => List.mem_cons_of_mem _ hn) (fun n hn => List.mem_cons_of_mem _ hn) (List.nodup_cons.2 ⟨hbS, hnd2⟩)
  have new : ∀ w' G, RowAt w w' w.heap.size 73 (G * 2) (ys.take (i * 2) ++ vs ++ ys.drop (i * 2)) → rows.length + 1 ≤ G → G ≤ maxLen → ∃ S', RowR V w' 73 2 (rows.take i ++ r :: rows.drop i) (.slice (some ⟨w.heap.size, 0, none⟩) (rows.length + 1) G) S' ∧ S'.Nodup ∧ ∀ n ∈ S', n ∈ (b :: Ss.flatten) ∨ n ∈ (vb :: Ts.flatten) ∨ (w.heap.size ≤ n ∧ n < w'.heap.size) := fun w' G h hc hGm =>
   a4Y hi hu hr eL vL' h hc hGm (hm.fresh (Nat.le_refl _)) (.inr ⟨Nat.le_refl _, h.lt⟩) (fun n hn => List.mem_cons_of_mem _ hn) (fun n hn => List.mem_cons_of_mem _ hn) (List.nodup_cons.2 ⟨hfr, hnd2⟩)
  have e63 : cap ≤ 9223372036854775807 := by unfold maxLen at e4; omega
  rcases Nat.lt_or_ge i rows.length with hlt' | hge
  ·rcases Nat.lt_or_ge cap (rows.length + 1) with hc | hc
   ·refine (a9E b cap i vb vc rows.length ys vs w hlt' e3 hc (by omega) v3' el vl' hR hV h1F h1v).mono ?_
    rintro e w' ⟨G, rfl, hG, hGm, hN⟩
    exact ⟨_, rfl, yD hN.grown, new w' G hN hG hGm⟩
   ·refine (a7S b cap i vb vc rows.length ys vs w hlt' hc e63 hvb v3' el vl' hR hV h1F h1v).mono ?_
    rintro e w' ⟨rfl, hN⟩
    exact ⟨_, rfl, hN.grown, old w' hN hc⟩
  ·have hie : i = rows.length := by omega
   subst hie
   rw [List.take_of_length_le (l := ys) (by omega), List.drop_of_length_le (l := ys) (by omega), List.append_nil] at old new
   rcases Nat.lt_or_ge cap (rows.length + 1) with hc | hc
   ·refine (a4W (some ⟨b, 0, none⟩) rows.length cap vb vc ys vs w e3 hc (by omega) el vl' (fun h => by cases h) (fun a ha j v hj => by cases ha; rw [Addr.add_lit, Nat.zero_add]; exact hR.cell hj) hV h1v).mono ?_
    rintro e w' ⟨G, rfl, hG, hGm, hN⟩
    exact ⟨_, rfl, yD hN.grown, new w' G hN hG hGm⟩
   ·refine (a9D b rows.length cap vb vc ys vs w hc e63 el vl' hR hV h1v).mono ?_
    rintro e w' ⟨rfl, hN⟩
    exact ⟨_, rfl, hN.grown, old w' hN hc⟩
end Go.Proofs.YteaaopodnbjpoaaGreat
end
section
set_option maxRecDepth 100000
set_option maxHeartbeats 4000000
namespace Go.Proofs.YteaaopodnbjpoaaGreat
open Go Go.Sx Go.RowKit Go.Proofs
theorem b1f (x : TDir) (o : TDir) : FnC Tryz.prog 234 [a0W o, .o (.q (aM x))] (ob (gtD x.fName o)) := by
 refine ent Tryz.func234 rfl Tryz.call234 rfl (fun C => ?_); simp only [go_sem, st0, Tryz.ntmps234]
 refine aD ?_
 exact aA ⟨⟨_, rfl, by simp only [go_sem, gtD]⟩, trivial⟩
theorem b1g (d : List TDir) (x : TDir) (h : aP d + wDir x ≤ 4200000) : FnC Tryz.prog 182 [.o (.d (.sl (d.map aM))), a0W x] (.t [(false, [.w 73 2 ((jR d x).map aM)]), (false, [.d (bv (mQ d x))])]) := by
 have hl : d.length ≤ 4200000 := by unfold aP at h; omega
 have hq0 : x.fQuery.length ≤ wDir x := by unfold wDir bT; omega
 have hq : x.fQuery.length ≤ 4300000 := by omega
 have hw := a7N d x
 have hv2 := gI (setAt d x) (by omega)
 have ha := a1n d x.fName (by omega)
 refine ent Tryz.func182 rfl Tryz.call182 rfl (fun C => ?_); simp only [go_sem, st0, Tryz.ntmps182]
 rcases placeD_fst d x.fName with ⟨e1, e2⟩ | ⟨e1, e2⟩
 ·rw [e1] at ha
  have es : setAt d x = insAt (fstIx (gtD x.fName) d) x d := by unfold setAt; rw [if_neg (by omega)]
  rw [es] at hv2 hw
  have hx := idxP_fst (gtD x.fName) d 0
  have hle := tC (gtD x.fName) d
  have hz : ¬ (0 : Int) ≤ -1 := by omega
  have hf := wM _ (aM x) (gtD x.fName) d (fun y _ => b1f x y) (by omega)
  have hj := a7T (d.map aM) (aM x) (fstIx (gtD x.fName) d) (by simpa using hle) (by simp; omega)
  have hmm : (d.map aM).take (fstIx (gtD x.fName) d) ++ aM x :: (d.map aM).drop (fstIx (gtD x.fName) d) = (insAt (fstIx (gtD x.fName) d) x d).map aM := by simp [insAt]
  rw [hmm] at hj
  clear hmm
  have eOK : mQ d x = (bJ d && bJ (insAt (fstIx (gtD x.fName) d) x d)) := by unfold mQ; rw [es]
  have eD : jR d x = if mQ d x then insAt (fstIx (gtD x.fName) d) x d else d := by unfold jR; rw [es]
  clear es
  rcases hx with ⟨_, h3, h4⟩ | ⟨h3, h4⟩
  ·have hm : (-1 : Int) < 0 := by omega
   rw [h3] at hf
   rw [h4] at hj hv2 hw eOK eD
   clear h3 h4
   generalize insAt d.length x d = G at *
   cases h1 : bJ d <;> cases h2 : bJ G
   all_goals
    have qH := aI @h1 (aI @h2 (aI @hz (aI @hm (aI @decide_true @decide_false)))); repeat' (with_reducible first | refine nY ?_ | (refine mX ?_; try simp only [go_sem, qH]) | refine kD ?_ | refine rD ?_ | refine cP (lQ d (by omega)) ?_ | refine cP ha ?_ | refine cP (a1j x hq) ?_ | refine cP (gI d (by omega)) ?_ | refine vL hv2 ?_ | refine cP hf ?_ | refine vK hj ?_ | refine aO ?_ | fail)
    exact aA ⟨⟨_, rfl, by simp only [go_sem, eOK, eD, h1, h2, Bool.true_and, Bool.false_and, Bool.and_false, if_true, Bool.false_eq_true, if_false]; try simp⟩, by simp [aK]⟩
  ·rw [Nat.zero_add] at h3
   have hm : ¬ ((fstIx (gtD x.fName) d : Nat) : Int) < 0 := by omega
   rw [h3] at hf
   clear h3
   generalize insAt (fstIx (gtD x.fName) d) x d = G at *
   generalize fstIx (gtD x.fName) d = p at *
   cases h1 : bJ d <;> cases h2 : bJ G
   all_goals
    have qH := aI @h1 (aI @h2 (aI @hz (aI @hm (aI @decide_true @decide_false)))); repeat' (with_reducible first | refine nY ?_ | (refine mX ?_; try simp only [go_sem, qH]) | refine kD ?_ | refine rD ?_ | refine cP (lQ d (by omega)) ?_ | refine cP ha ?_ | refine cP (a1j x hq) ?_ | refine cP (gI d (by omega)) ?_ | refine vL hv2 ?_ | refine cP hf ?_ | refine vK hj ?_ | refine aO ?_ | fail)
    exact aA ⟨⟨_, rfl, by simp only [go_sem, eOK, eD, h1, h2, Bool.true_and, Bool.false_and, Bool.and_false, if_true, Bool.false_eq_true, if_false]; try simp⟩, by simp [aK]⟩
 ·rw [e1] at ha
  have hz : (0 : Int) ≤ ((fstIx (eqD x.fName) d : Nat) : Int) := by omega
  have es : setAt d x = d.set (fstIx (eqD x.fName) d) x := by unfold setAt; rw [if_pos (by omega)]
  rw [es] at hv2 hw
  have eOK : mQ d x = (bJ d && bJ (d.set (fstIx (eqD x.fName) d) x)) := by unfold mQ; rw [es]
  have eD : jR d x = if mQ d x then d.set (fstIx (eqD x.fName) d) x else d := by unfold jR; rw [es]
  have eG : (d.map aM).set (fstIx (eqD x.fName) d) [.v (.string x.fName), .sl (x.fQuery.map bC)] = (d.set (fstIx (eqD x.fName) d) x).map aM := by simp [aM]
  generalize fstIx (eqD x.fName) d = p at *
  generalize hG : d.set p x = G at *
  cases h1 : bJ d <;> cases h2 : bJ G
  all_goals
   have qH := aI @h1 (aI @h2 (aI @hz (aI @e2 (aI @eG (aI @decide_true (aI @Int.toNat_natCast @a7e)))))); repeat' (with_reducible first | refine nY ?_ | (refine mX ?_; try simp only [go_sem, qH]) | refine kD ?_ | refine rD ?_ | refine cP (lQ d (by omega)) ?_ | refine cP ha ?_ | refine cP (a1j x hq) ?_ | refine cP (gI d (by omega)) ?_ | refine vL hv2 ?_ | refine aO ?_ | fail)
   exact aA ⟨⟨_, rfl, by simp only [go_sem, eOK, eD, h1, h2, Bool.true_and, Bool.false_and, Bool.and_false, if_true, Bool.false_eq_true, if_false]; try simp⟩, by simp [aK]⟩
def stD (x : TDir) (d : List TDir) (k : Nat) : List TDir × Bool := (d.take k).foldl (mR x) ([], false)
theorem b5I (x : TDir) (d : List TDir) (k : Nat) (h : k < d.length) : stD x d (k + 1) = mR x (stD x d k) d[k] := by
 unfold stD
 rw [List.take_succ_eq_append_getElem h, List.foldl_append]; rfl
theorem b7j (x : TDir) (d : List TDir) (k : Nat) : (stD x d k).1.length ≤ d.length + 1 := by
 have h := b3J x (d.take k) ([], false)
 unfold stD
 simp only [List.length_nil, List.length_take, Bool.false_eq_true, if_false] at h
 omega
theorem b1h (d : List TDir) (x : TDir) (h : aP d + wDir x ≤ 4200000) : FnC Tryz.prog 159 [.o (.d (.sl (d.map aM))), a0W x] (.t [(false, [.w 73 2 ((jR d x).map aM)]), (false, [.d (bv (mQ d x))])]) := by
 have hl : d.length ≤ 4200000 := by unfold aP at h; omega
 have hw := a7N d x
 have hv2 := iJ (setAt d x) (by omega)
 have hcp := nN (setAt d x) (by omega)
 refine ent Tryz.func159 rfl Tryz.call159 rfl (fun C => ?_); simp only [go_sem, st0, Tryz.ntmps159]
 cases h1 : bJ d
 ·have e : mQ d x = false := by simp [mQ, h1]
  have q0 := @h1; refine a1H (nN d (by omega)) (iJ d (by omega)) ?_
  exact aA ⟨⟨_, rfl, by simp only [go_sem, jR, e]; try simp⟩, by simp [aK]⟩
 have q0 := @h1; refine fC (iJ d (by omega)) ?_
 refine b0w 1 rfl ?_
 simp only [go_sem]
 refine aN (α := Nat) (fun k => [(6, .o (.s 1)), (7, ob (stD x d k).2), (8, oi k), (14, .o .u)]) (fun k => [(1, .row 73 2 ((stD x d k).1.map aM) false)]) (fun k => k ≤ d.length) (fun k => d.length - k) 0 (fun _ => ?_) ?_ ?_ (fun k hk => ?_)
 ·simp only [go_sem]
 ·simp only [go_sem]; simp [stD]
 ·simp
 ·simp only [go_sem]
  have hlen := b7j x d k
  refine aD ?_
  refine cnd rfl (fun h2 => ?_) (fun h2 => ?_)
  ·simp only [decide_eq_true_eq, Int.ofNat_lt] at h2
   have hst := b5I x d k h2
   generalize stD x d k = a at *
   obtain ⟨o, pt⟩ := a
   simp only at hlen
   cases pt <;> cases hb : gD d[k].fName x.fName <;> cases hn : decide (d[k].fName = x.fName)
   all_goals
    have hn2 := hn
    simp only [decide_eq_true_eq, decide_eq_false_iff_not] at hn2
    have q0 := @h2; have q1 := @hb; have q2 := @hn; have q3 := @a3R; have q4 := @a7e; have q5 := @b9l; have q6 := @c0d; refine a7f ?_
    refine aF (k + 1) ?_ ?_ ?_
    ·simp only [go_sem, hst, mR, hb]; simp [hn2, aM]
    ·omega
    ·omega
  ·simp only [decide_eq_false_iff_not] at h2
   have ek : k = d.length := by omega
   subst ek
   have hfin := b1i x h1
   have hs0 : stD x d d.length = d.foldl (mR x) ([], false) := by unfold stD; rw [List.take_length]
   rw [← hs0] at hfin
   generalize stD x d d.length = a at *
   obtain ⟨o, pt⟩ := a
   have eOK : mQ d x = bJ (setAt d x) := by unfold mQ; rw [h1]; rfl
   have eD : jR d x = if bJ (setAt d x) then setAt d x else d := by unfold jR; rw [eOK]
   simp only at hlen
   cases pt
   ·have hf2 : o ++ [x] = setAt d x := hfin
    have hmap : List.map aM o ++ [[.v (.string x.fName), .sl (List.map bC x.fQuery)]] = (setAt d x).map aM := by rw [← hf2]; simp [aM]
    generalize setAt d x = G at *
    cases h3 : bJ G
    all_goals
     have qH := aI @h3 (aI @hmap (aI @a3R @a7e)); repeat' (with_reducible first | refine nY ?_ | (refine mX ?_; try simp only [go_sem, qH]) | refine kD ?_ | refine rD ?_ | refine vL hv2 ?_ | refine cP hcp ?_ | refine cP (nN d (by omega)) ?_ | refine aO ?_ | fail)
     exact aA ⟨⟨_, rfl, by simp only [go_sem, eOK, eD, h3, if_true, Bool.false_eq_true, if_false]; try simp⟩, by simp [aK]⟩
   ·have hf2 : o = setAt d x := hfin
    subst hf2
    generalize setAt d x = G at *
    cases h3 : bJ G
    all_goals
     have qH := @h3; repeat' (with_reducible first | refine nY ?_ | (refine mX ?_; try simp only [go_sem, qH]) | refine kD ?_ | refine rD ?_ | refine vL hv2 ?_ | refine cP hcp ?_ | refine cP (nN d (by omega)) ?_ | refine aO ?_ | fail)
     exact aA ⟨⟨_, rfl, by simp only [go_sem, eOK, eD, h3, if_true, Bool.false_eq_true, if_false]; try simp⟩, by simp [aK]⟩
end Go.Proofs.YteaaopodnbjpoaaGreat
end
section
set_option maxRecDepth 100000
set_option maxHeartbeats 4000000
namespace Go.Proofs.YteaaopodnbjpoaaGreat
open Go Go.Sx Go.RowKit Go.Proofs
def isA (n : TNode) : Bool := decide (2 ≤ n.fOp) && decide (n.fOp ≤ 4)
def qA (q : List TNode) : List ByteArray := (q.filter isA).map TNode.fName
theorem a5b (q : List TNode) : (qA q).length ≤ q.length := by simp only [qA, List.length_map]; exact List.length_filter_le _ _
theorem b2z (q : List TNode) (k : Nat) (h : k < q.length) : qA (q.take (k + 1)) = qA (q.take k) ++ (if isA q[k] then [q[k].fName] else []) := by
 simp only [qA, List.take_succ_eq_append_getElem h, List.filter_append, List.map_append, List.filter_cons, List.filter_nil]
 cases isA q[k] <;> rfl
theorem b3V (q : List TNode) (hl : q.length ≤ 4300000) : FnC Tryz.prog 268 [.o (.d (.sl (q.map bC)))] (.o (.w 9 1 ((putL (qA q)).map bV))) := by
 refine ent Tryz.func268 rfl Tryz.call268 rfl (fun C => ?_); simp only [go_sem, st0, Tryz.ntmps268]
 refine aD ?_
 refine vY 3 0 rfl rfl ?_
 simp only [go_sem]
 refine aN (α := Nat) (fun k => [(3, .o (.d (.sl ((putL (qA (q.take k))).map bV)))), (4, oi k), (5, .o .u)]) (fun _ => []) (fun k => k ≤ q.length) (fun k => q.length - k) 0 (fun _ => ?_) ?_ ?_ (fun k hk => ?_)
 ·simp only [go_sem]
 ·simp only [go_sem]; simp [qA, putL]
 ·simp
 ·simp only [go_sem]
  refine aD ?_
  have hlen : (putL (qA (q.take k))).length ≤ 4300000 := by have h1 := iZ (qA (q.take k)); have h2 := a5b (q.take k); simp at h2; omega
  refine cnd rfl (fun h1 => ?_) (fun h1 => ?_)
  ·simp only [decide_eq_true_eq, Int.ofNat_lt] at h1
   have ht := b2z q k h1
   have q0 := @h1; refine fC (show FnC Tryz.prog _ _ (ob (isA q[k])) from aW q[k].fOp 2 4) ?_
   refine cnd rfl (fun hv => ?_) (fun hv => ?_)
   ·rw [hv] at ht
    simp only [if_true] at ht
    have q0 := @h1; refine fC (oJ (putL (qA (q.take k))) q[k].fName hlen) ?_
    refine aF (k + 1) ?_ ?_ ?_
    ·simp only [go_sem, ht, xY]; simp
    ·omega
    ·omega
   ·rw [hv] at ht
    simp only [Bool.false_eq_true, if_false, List.append_nil] at ht
    have q0 := @h1; refine fU ?_
    refine aF (k + 1) ?_ ?_ ?_
    ·simp only [go_sem, ht]; simp
    ·omega
    ·omega
  ·simp only [decide_eq_false_iff_not] at h1
   have e : k = q.length := by omega
   subst e
   rw [List.take_length] at *
   refine aD ?_
   exact aA ⟨⟨_, rfl, by simp only [go_sem, List.take_length]⟩, trivial⟩
theorem b3W (q : List TNode) (hl : q.length ≤ 4300000) : FnC Tryz.prog 277 [.o (.d (.sl (q.map bC)))] (.o (.w 9 1 ((eX (qA q)).map bV))) := by
 refine ent Tryz.func277 rfl Tryz.call277 rfl (fun C => ?_); simp only [go_sem, st0, Tryz.ntmps277]
 refine aD ?_
 refine aN (α := Nat) (fun k => [(3, .o (.s 0)), (6, .o .u), (9, oi k)]) (fun k => [(0, .row 9 1 ((qA (q.take k)).map bV) true)]) (fun k => k ≤ q.length) (fun k => q.length - k) 0 (fun _ => ?_) ?_ ?_ (fun k hk => ?_)
 ·simp only [go_sem]
 ·simp only [go_sem]; simp [qA]
 ·simp
 ·simp only [go_sem]
  refine aD ?_
  have hlen : (qA (q.take k)).length ≤ 4300000 := by have h2 := a5b (q.take k); simp at h2; omega
  refine cnd rfl (fun h1 => ?_) (fun h1 => ?_)
  ·simp only [decide_eq_true_eq, Int.ofNat_lt] at h1
   have ht := b2z q k h1
   have hl1 : (qA (q.take k)).length + 1 ≤ 140737488355328 := by omega
   have hl2 : ((qA (q.take k)).length + 1) * 16 ≤ 140737488355328 := by omega
   by_cases c2 : q[k].fOp = 2
   ·rw [if_pos (by simp [isA, c2])] at ht
    have q0 := @h1; have q1 := @c2; have q2 := @decide_true; refine mO ?_
    refine aF (k + 1) ?_ ?_ ?_
    ·simp only [go_sem, ht, List.map_append]; simp
    ·omega
    ·omega
   by_cases c3 : q[k].fOp = 3
   ·rw [if_pos (by simp [isA, c3])] at ht
    have q0 := @h1; have q1 := @c2; have q2 := @c3; have q3 := @decide_true; have q4 := @decide_false; refine a0M ?_
    refine aF (k + 1) ?_ ?_ ?_
    ·simp only [go_sem, ht, List.map_append]; simp
    ·omega
    ·omega
   by_cases c4 : q[k].fOp = 4
   ·rw [if_pos (by simp [isA, c4])] at ht
    have q0 := @h1; have q1 := @c2; have q2 := @c3; have q3 := @c4; have q4 := @decide_true; have q5 := @decide_false; refine b4N ?_
    refine aF (k + 1) ?_ ?_ ?_
    ·simp only [go_sem, ht, List.map_append]; simp
    ·omega
    ·omega
   ·rw [if_neg (by simp only [isA, Bool.and_eq_true, decide_eq_true_eq]; omega), List.append_nil] at ht
    have q0 := @h1; have q1 := @c2; have q2 := @c3; have q3 := @c4; have q4 := @decide_true; have q5 := @decide_false; refine b4N ?_
    refine aF (k + 1) ?_ ?_ ?_
    ·simp only [go_sem, ht]; simp
    ·omega
    ·omega
  ·simp only [decide_eq_false_iff_not] at h1
   have e : k = q.length := by omega
   subst e
   rw [List.take_length] at *
   refine gP (kV (qA q) hlen) ?_
   exact aA ⟨⟨_, rfl, by simp only [go_sem, List.take_length]⟩, trivial⟩
def qF (q : List TNode) : Bool := q.any fun n => decide (n.fOp = 9)
theorem b1y (q : List TNode) (k : Nat) (h : k < q.length) : qF (q.drop k) = (decide (q[k].fOp = 9) || qF (q.drop (k + 1))) := by rw [List.drop_eq_getElem_cons h]; rfl
theorem zQ (q : List TNode) (hl : q.length ≤ 4300000) : FnC Tryz.prog 267 [.o (.d (.sl (q.map bC)))] (ob (qF q)) := by
 refine ent Tryz.func267 rfl Tryz.call267 rfl (fun C => ?_); simp only [go_sem, st0, Tryz.ntmps267]
 refine aD ?_
 refine aN (α := Nat) (fun k => [(3, oi k)]) (fun k => []) (fun k => k ≤ q.length ∧ qF (q.drop k) = qF q) (fun k => q.length - k) 0 (fun _ => ?_) ?_ ?_ (fun k hk => ?_)
 ·simp only [go_sem]
 ·simp only [go_sem]; try simp
 ·simp
 ·simp only [go_sem]
  obtain ⟨hk, hg⟩ := hk
  refine aD ?_
  refine cnd rfl (fun h1 => ?_) (fun h1 => ?_)
  ·simp only [decide_eq_true_eq, Int.ofNat_lt] at h1
   have hd := b1y q k h1
   rw [hg] at hd
   by_cases hv : q[k].fOp = 9
   ·have hd' : qF q = true := by rw [hd, hv]; simp
    have q0 := @h1; have q1 := @hv; have q2 := @decide_true; refine mO ?_
    exact aA ⟨⟨_, rfl, by simp only [go_sem, hd']⟩, trivial⟩
   ·have q0 := @h1; have q1 := @hv; have q2 := @decide_false; refine mO ?_
    refine aF (k + 1) ?_ ?_ ?_
    ·simp only [go_sem]; try simp
    ·exact ⟨by omega, by rw [hd]; simp [hv]⟩
    ·omega
  ·simp only [decide_eq_false_iff_not] at h1
   have e : k = q.length := by omega
   subst e
   have hn : qF q = false := by rw [← hg, List.drop_length]; rfl
   refine aD ?_
   exact aA ⟨⟨_, rfl, by simp only [go_sem, hn]⟩, trivial⟩
theorem b7q (attrs : List ByteArray) (s : ByteArray) (hl : attrs.length ≤ 4300000) : FnC Tryz.prog 279 [os s, .o (.q [.sl (attrs.map bV)])] (ob (hasS attrs s)) := by
 refine ent Tryz.func279 rfl Tryz.call279 rfl (fun C => ?_); simp only [go_sem, st0, Tryz.ntmps279]
 refine gP (eZ attrs s hl) ?_
 exact aA ⟨⟨_, rfl, by simp only [go_sem]⟩, trivial⟩
theorem b7r (n : TNode) : FnC Tryz.prog 281 [wK n] (ob (decide (n.fOp = 9))) := by
 refine ent Tryz.func281 rfl Tryz.call281 rfl (fun C => ?_); simp only [go_sem, st0, Tryz.ntmps281]
 refine aD ?_
 exact aA ⟨⟨_, rfl, by simp only [go_sem]⟩, trivial⟩
theorem a1z (f : Nat) (p : TNode → Bool) (l : List TNode) (hf : ∀ s ∈ l, FnC Tryz.prog f [wK s] (ob (p s))) (hl : l.length ≤ 8388608) : FnC Tryz.prog 308 [.o (.d (.sl (l.map bC))), .o (.f f [])] (oi (dX p l 0)) := by
 refine ent Tryz.func308 rfl Tryz.call308 rfl (fun C => ?_); simp only [go_sem, st0, Tryz.ntmps308]
 refine aD ?_
 refine aN (α := Nat) (fun k => [(8, oi k)]) (fun _ => []) (fun k => k ≤ l.length ∧ dX p l 0 = dX p (l.drop k) k) (fun k => l.length - k) 0 (fun _ => ?_) ?_ ?_ (fun k hk => ?_)
 ·simp only [go_sem]
 ·simp only [go_sem]; simp
 ·simp
 ·obtain ⟨hk, hq⟩ := hk
  simp only [go_sem]
  refine aD ?_
  refine cnd rfl (fun h => ?_) (fun h => ?_)
  ·simp only [decide_eq_true_eq, Int.ofNat_lt] at h
   have hd := List.drop_eq_getElem_cons h
   rw [hd, dX] at hq
   have q0 := @h; refine fC (hf l[k] (List.getElem_mem h)) ?_
   refine cnd rfl (fun h2 => ?_) (fun h2 => ?_)
   ·refine aD ?_
    exact aA ⟨⟨_, rfl, by simp only [go_sem, hq, h2]⟩, trivial⟩
   ·refine aD ?_
    refine aF (k + 1) ?_ ?_ ?_
    ·simp only [go_sem]; simp
    ·rw [hq, h2]; exact ⟨h, by simp⟩
    ·omega
  ·simp only [decide_eq_false_iff_not] at h
   have e : k = l.length := by omega
   subst e
   simp only [List.drop_length, dX] at hq
   refine aD ?_
   exact aA ⟨⟨_, rfl, by simp only [go_sem, hq]⟩, trivial⟩
theorem yE (f : Nat) (p : TNode → Bool) (l : List TNode) (hf : ∀ s ∈ l, FnC Tryz.prog f [wK s] (ob (p s))) (hl : l.length ≤ 8388608) : FnC Tryz.prog 280 [.o (.d (.sl (l.map bC))), .o (.f f [])] (ob (l.any p)) := by
 refine ent Tryz.func280 rfl Tryz.call280 rfl (fun C => ?_); simp only [go_sem, st0, Tryz.ntmps280]
 refine gP (a1z f p l hf hl) ?_
 exact aA ⟨⟨_, rfl, by simp only [go_sem, xJ]⟩, trivial⟩
theorem a2b (f : Nat) (c : List D) (p : ByteArray → Bool) (l : List ByteArray) (hf : ∀ s ∈ l, FnC Tryz.prog f [os s, .o (.q c)] (ob (p s))) (hl : l.length ≤ 4300000) : FnC Tryz.prog 278 [.o (.d (.sl (l.map bV))), .o (.f f [c])] (ob (l.any p)) := by
 refine ent Tryz.func278 rfl Tryz.call278 rfl (fun C => ?_); simp only [go_sem, st0, Tryz.ntmps278]
 refine gP (a5v f c p l hf hl) ?_
 exact aA ⟨⟨_, rfl, by simp only [go_sem, xJ]⟩, trivial⟩
theorem wG (q : List TNode) (hl : q.length ≤ 4300000) : FnC Tryz.prog 277 [.o (.d (.sl (q.map bC)))] (.o (.d (.sl ((eX (qA q)).map bV)))) := (b3W q hl).pu (by simp only [go_sem, and_self])
theorem a5c (q : List TNode) (hl : q.length ≤ 4300000) : FnC Tryz.prog 268 [.o (.d (.sl (q.map bC)))] (.o (.d (.sl ((putL (qA q)).map bV)))) := (b3V q hl).pu (by simp only [go_sem, and_self])
theorem a2S (a b : TFile) (h : wFile a + wFile b ≤ 4300000) : FnC Tryz.prog 276 [dC a, dC b] (.o (.d (.sl ((eX (chg a b)).map bV)))) := (a4K a b h).pu (by simp only [go_sem, and_self])
theorem a2T (a b : TFile) (h : wFile a + wFile b ≤ 4300000) : FnC Tryz.prog 266 [dC a, dC b] (.o (.d (.sl ((putL (chg a b)).map bV)))) := (a4L a b h).pu (by simp only [go_sem, and_self])
def b3Y (ch qa : List ByteArray) : Bool := qa.any (hasS ch)
theorem b5S (ch qa : List ByteArray) : (eX ch).any (hasS (eX qa)) = b3Y ch qa := by
 rw [Bool.eq_iff_iff]
 simp only [b3Y, List.any_eq_true, kF, nD]
 constructor <;> rintro ⟨x, h1, h2⟩ <;> exact ⟨x, h2, h1⟩
theorem a9K (ch qa : List ByteArray) : (putL qa).any (hasS (putL ch)) = b3Y ch qa := by
 rw [Bool.eq_iff_iff]
 simp only [b3Y, List.any_eq_true, kF, nQ]
def affB (a b : TFile) (d : TDir) : Bool := b3Y (chg a b) (qA d.fQuery) || (qF d.fQuery && !decide (a.fLink = b.fLink))
def rR (a b : TFile) (l : List TDir) : List ByteArray := (l.filter (affB a b)).map TDir.fName
def a1A (a b : TFile) (l : List TDir) : List ByteArray := if a.fID = b.fID then rR a b l else dirNs l
theorem a5d (a b : TFile) (l : List TDir) : (rR a b l).length ≤ l.length := by simp only [rR, List.length_map]; exact List.length_filter_le _ _
theorem a2c (a b : TFile) (l : List TDir) (k : Nat) (h : k < l.length) : rR a b (l.take (k + 1)) = rR a b (l.take k) ++ (if affB a b l[k] then [l[k].fName] else []) := by
 simp only [rR, List.take_succ_eq_append_getElem h, List.filter_append, List.map_append, List.filter_cons, List.filter_nil]
 cases affB a b l[k] <;> rfl
theorem a9L (l : List TDir) (k : Nat) (h : k < l.length) : l[k].fQuery.length ≤ aP l := by
 have h1 := bA wDir l h
 have h2 : l[k].fQuery.length ≤ wDir l[k] := by unfold wDir bT; omega
 unfold aP
 omega
theorem b2A (a b : TFile) (h : wFile a + wFile b ≤ 4300000) : (chg a b).length ≤ 4300000 := by
 have h1 := a7G a b (attrNs a.fAttrs ++ attrNs b.fAttrs)
 rw [List.length_append, iO, iO] at h1
 unfold wFile dN at h
 unfold chg; omega
theorem a5D (l : List TDir) (a b : TFile) (h : aP l + (wFile a + wFile b) ≤ 4300000) : FnC Tryz.prog 231 [.o (.d (.sl (l.map aM))), dC a, dC b] (.o (.w 9 1 ((a1A a b l).map bV))) := by
 have hl : l.length ≤ 4300000 := by unfold aP at h; omega
 have hch := b2A a b (by omega)
 refine ent Tryz.func231 rfl Tryz.call231 rfl (fun C => ?_); simp only [go_sem, st0, Tryz.ntmps231]
 by_cases hid : a.fID = b.fID
 case neg =>
  have hid' : decide (a.fID = b.fID) = false := by simp [hid]
  have q0 := @hid'; refine fC (qP l hl) ?_
  exact aA ⟨⟨_, rfl, by simp only [go_sem, a1A, hid, if_false]⟩, trivial⟩
 have hid' : decide (a.fID = b.fID) = true := by simp [hid]
 have q0 := @hid'; refine fC (a2S a b (by omega)) ?_
 refine aN (α := Nat) (fun k => [(8, .o (.s 2)), (24, .o .u), (27, oi k)]) (fun k => [(2, .row 9 1 ((rR a b (l.take k)).map bV) true)]) (fun k => k ≤ l.length) (fun k => l.length - k) 0 (fun _ => ?_) ?_ ?_ (fun k hk => ?_)
 ·simp only [go_sem]
 ·simp only [go_sem]; simp [rR]
 ·simp
 ·simp only [go_sem]
  refine aD ?_
  have hlen : (rR a b (l.take k)).length ≤ 4300000 := by have h2 := a5d a b (l.take k); simp at h2; omega
  refine cnd rfl (fun h1 => ?_) (fun h1 => ?_)
  ·simp only [decide_eq_true_eq, Int.ofNat_lt] at h1
   have ht := a2c a b l k h1
   have hq := a9L l k h1
   have hqa := tQ (qA l[k].fQuery)
   have hqb := a5b l[k].fQuery
   have hl1 : (rR a b (l.take k)).length + 1 ≤ 140737488355328 := by omega
   have hl2 : ((rR a b (l.take k)).length + 1) * 16 ≤ 140737488355328 := by omega
   have hc := a2b 279 [.sl ((eX (qA l[k].fQuery)).map bV)] (hasS (eX (qA l[k].fQuery))) (eX (chg a b)) (fun s _ => b7q _ s (by omega)) (by have := tQ (chg a b); omega)
   rw [b5S] at hc
   have hn := yE 281 (fun n => decide (n.fOp = 9)) l[k].fQuery (fun n _ => b7r n) (by omega)
   have hn : FnC Tryz.prog _ _ (ob (qF l[k].fQuery)) := hn
   cases hh : b3Y (chg a b) (qA l[k].fQuery)
   case true =>
    rw [if_pos (by simp [affB, hh])] at ht
    have q0 := @h1; have q1 := @hh; refine a8J (wG l[k].fQuery (by omega)) hc hn ?_
    refine aF (k + 1) ?_ ?_ ?_
    ·simp only [go_sem, ht, List.map_append]; simp
    ·omega
    ·omega
   cases hL : qF l[k].fQuery
   case false =>
    rw [if_neg (by simp [affB, hh, hL]), List.append_nil] at ht
    have q0 := @h1; have q1 := @hh; have q2 := @hL; refine a8K (wG l[k].fQuery (by omega)) hc hn ?_
    refine aF (k + 1) ?_ ?_ ?_
    ·simp only [go_sem, ht]; simp
    ·omega
    ·omega
   by_cases hk2 : a.fLink = b.fLink
   ·rw [if_neg (by simp [affB, hh, hL, hk2]), List.append_nil] at ht
    have hk' : decide (a.fLink = b.fLink) = true := by simp [hk2]
    have q0 := @h1; have q1 := @hh; have q2 := @hL; have q3 := @hk'; refine b9n (wG l[k].fQuery (by omega)) hc hn ?_
    refine aF (k + 1) ?_ ?_ ?_
    ·simp only [go_sem, ht]; simp
    ·omega
    ·omega
   ·rw [if_pos (by simp [affB, hh, hL, hk2])] at ht
    have hk' : decide (a.fLink = b.fLink) = false := by simp [hk2]
    have q0 := @h1; have q1 := @hh; have q2 := @hL; have q3 := @hk'; refine b9n (wG l[k].fQuery (by omega)) hc hn ?_
    refine aF (k + 1) ?_ ?_ ?_
    ·simp only [go_sem, ht, List.map_append]; simp
    ·omega
    ·omega
  ·simp only [decide_eq_false_iff_not] at h1
   have e : k = l.length := by omega
   subst e
   rw [List.take_length] at *
   refine aD ?_
   exact aA ⟨⟨_, rfl, by simp only [go_sem, List.take_length, a1A, hid, if_true]⟩, trivial⟩
theorem a5E (l : List TDir) (a b : TFile) (h : aP l + (wFile a + wFile b) ≤ 4300000) : FnC Tryz.prog 219 [.o (.d (.sl (l.map aM))), dC a, dC b] (.o (.w 9 1 ((a1A a b l).map bV))) := by
 have hl : l.length ≤ 4300000 := by unfold aP at h; omega
 have hch := b2A a b (by omega)
 have hpl : (putL (chg a b)).length ≤ 4300000 := by have := iZ (chg a b); omega
 refine ent Tryz.func219 rfl Tryz.call219 rfl (fun C => ?_); simp only [go_sem, st0, Tryz.ntmps219]
 by_cases hid : a.fID = b.fID
 case neg =>
  have hid' : decide (a.fID = b.fID) = false := by simp [hid]
  have q0 := @hid'; refine fC (wN l hl) ?_
  exact aA ⟨⟨_, rfl, by simp only [go_sem, a1A, hid, if_false]⟩, trivial⟩
 have hid' : decide (a.fID = b.fID) = true := by simp [hid]
 have q0 := @hid'; refine fC (a2T a b (by omega)) ?_
 by_cases hk2 : a.fLink = b.fLink
 ·have hk' : decide (a.fLink = b.fLink) = true := by simp [hk2]
  refine aN (α := Nat) (fun k => [(7, .o (.s 2)), (9, oi k), (20, .o .u)]) (fun k => [(2, .row 9 1 ((rR a b (l.take k)).map bV) true)]) (fun k => k ≤ l.length) (fun k => l.length - k) 0 (fun _ => ?_) ?_ ?_ (fun k hk => ?_)
  ·simp only [go_sem]
  ·simp only [go_sem]; simp [rR]
  ·simp
  ·simp only [go_sem]
   refine aD ?_
   have hlen : (rR a b (l.take k)).length ≤ 4300000 := by have h2 := a5d a b (l.take k); simp at h2; omega
   refine cnd rfl (fun h1 => ?_) (fun h1 => ?_)
   ·simp only [decide_eq_true_eq, Int.ofNat_lt] at h1
    have ht := a2c a b l k h1
    have hq := a9L l k h1
    have hqa := iZ (qA l[k].fQuery)
    have hqb := a5b l[k].fQuery
    have hl1 : (rR a b (l.take k)).length + 1 ≤ 140737488355328 := by omega
    have hl2 : ((rR a b (l.take k)).length + 1) * 16 ≤ 140737488355328 := by omega
    have hhit : affB a b l[k] = ((putL (qA l[k].fQuery)).any (hasS (putL (chg a b)))) := by rw [a9K]; simp [affB, hk2, Bool.or_comm]
    have hQl : (putL (qA l[k].fQuery)).length ≤ 4300000 := by omega
    have q0 := @h1; have q1 := @hk'; refine uU (zQ l[k].fQuery (by omega)) (a5c l[k].fQuery (by omega)) ?_
    generalize putL (qA l[k].fQuery) = Q at *
    refine aN (α := Nat) (fun n => [(10, ob ((Q.take n).any (hasS (putL (chg a b))))), (12, oi n)]) (fun n => []) (fun n => n ≤ Q.length) (fun n => Q.length - n) 0 (fun _ => ?_) ?_ ?_ (fun n hn => ?_)
    ·simp only [go_sem]
    ·simp only [go_sem]; simp
    ·simp
    ·simp only [go_sem]
     refine aD ?_
     refine cnd rfl (fun h2 => ?_) (fun h2 => ?_)
     ·simp only [decide_eq_true_eq, Int.ofNat_lt] at h2
      have hv : ((Q.take (n + 1)).any (hasS (putL (chg a b)))) = (((Q.take n).any (hasS (putL (chg a b)))) || hasS (putL (chg a b)) Q[n]) := by rw [List.take_succ_eq_append_getElem h2, List.any_append]; simp [Bool.or_assoc]
      generalize ((Q.take n).any (hasS (putL (chg a b)))) = v at *
      cases v
      ·have q0 := @h2; refine fC (iB (putL (chg a b)) Q[n] hpl) ?_
       refine aF (n + 1) ?_ ?_ ?_
       ·simp only [go_sem, hv]; simp
       ·omega
       ·omega
      ·have q0 := @h2; refine fC (iB (putL (chg a b)) Q[n] hpl) ?_
       refine aF (n + 1) ?_ ?_ ?_
       ·simp only [go_sem, hv]; simp
       ·omega
       ·omega
     ·simp only [decide_eq_false_iff_not] at h2
      have e : n = Q.length := by omega
      subst e
      rw [List.take_length, ← hhit]
      refine aD ?_
      refine cnd (b := affB a b l[k]) rfl (fun hv => ?_) (fun hv => ?_)
      ·rw [if_pos hv] at ht
       have q0 := @h1; refine fU ?_
       refine aF (k + 1) ?_ ?_ ?_
       ·simp only [go_sem, ht, List.map_append]; simp
       ·omega
       ·omega
      ·rw [if_neg (by simp [hv]), List.append_nil] at ht
       have q0 := @h1; refine fU ?_
       refine aF (k + 1) ?_ ?_ ?_
       ·simp only [go_sem, ht]; simp
       ·omega
       ·omega
   ·simp only [decide_eq_false_iff_not] at h1
    have e : k = l.length := by omega
    subst e
    rw [List.take_length] at *
    refine aD ?_
    exact aA ⟨⟨_, rfl, by simp only [go_sem, List.take_length, a1A, hid, if_true]⟩, trivial⟩
 ·have hk' : decide (a.fLink = b.fLink) = false := by simp [hk2]
  refine aN (α := Nat) (fun k => [(7, .o (.s 2)), (9, oi k), (20, .o .u)]) (fun k => [(2, .row 9 1 ((rR a b (l.take k)).map bV) true)]) (fun k => k ≤ l.length) (fun k => l.length - k) 0 (fun _ => ?_) ?_ ?_ (fun k hk => ?_)
  ·simp only [go_sem]
  ·simp only [go_sem]; simp [rR]
  ·simp
  ·simp only [go_sem]
   refine aD ?_
   have hlen : (rR a b (l.take k)).length ≤ 4300000 := by have h2 := a5d a b (l.take k); simp at h2; omega
   refine cnd rfl (fun h1 => ?_) (fun h1 => ?_)
   ·simp only [decide_eq_true_eq, Int.ofNat_lt] at h1
    have ht := a2c a b l k h1
    have hq := a9L l k h1
    have hqa := iZ (qA l[k].fQuery)
    have hqb := a5b l[k].fQuery
    have hl1 : (rR a b (l.take k)).length + 1 ≤ 140737488355328 := by omega
    have hl2 : ((rR a b (l.take k)).length + 1) * 16 ≤ 140737488355328 := by omega
    have hhit : affB a b l[k] = (qF l[k].fQuery || (putL (qA l[k].fQuery)).any (hasS (putL (chg a b)))) := by rw [a9K]; simp [affB, hk2, Bool.or_comm]
    have hQl : (putL (qA l[k].fQuery)).length ≤ 4300000 := by omega
    have q0 := @h1; have q1 := @hk'; refine uU (zQ l[k].fQuery (by omega)) (a5c l[k].fQuery (by omega)) ?_
    generalize putL (qA l[k].fQuery) = Q at *
    refine aN (α := Nat) (fun n => [(10, ob (qF l[k].fQuery || (Q.take n).any (hasS (putL (chg a b))))), (12, oi n)]) (fun n => []) (fun n => n ≤ Q.length) (fun n => Q.length - n) 0 (fun _ => ?_) ?_ ?_ (fun n hn => ?_)
    ·simp only [go_sem]
    ·simp only [go_sem]; simp
    ·simp
    ·simp only [go_sem]
     refine aD ?_
     refine cnd rfl (fun h2 => ?_) (fun h2 => ?_)
     ·simp only [decide_eq_true_eq, Int.ofNat_lt] at h2
      have hv : (qF l[k].fQuery || (Q.take (n + 1)).any (hasS (putL (chg a b)))) = ((qF l[k].fQuery || (Q.take n).any (hasS (putL (chg a b)))) || hasS (putL (chg a b)) Q[n]) := by rw [List.take_succ_eq_append_getElem h2, List.any_append]; simp [Bool.or_assoc]
      generalize (qF l[k].fQuery || (Q.take n).any (hasS (putL (chg a b)))) = v at *
      cases v
      ·have q0 := @h2; refine fC (iB (putL (chg a b)) Q[n] hpl) ?_
       refine aF (n + 1) ?_ ?_ ?_
       ·simp only [go_sem, hv]; simp
       ·omega
       ·omega
      ·have q0 := @h2; refine fC (iB (putL (chg a b)) Q[n] hpl) ?_
       refine aF (n + 1) ?_ ?_ ?_
       ·simp only [go_sem, hv]; simp
       ·omega
       ·omega
     ·simp only [decide_eq_false_iff_not] at h2
      have e : n = Q.length := by omega
      subst e
      rw [List.take_length, ← hhit]
      refine aD ?_
      refine cnd (b := affB a b l[k]) rfl (fun hv => ?_) (fun hv => ?_)
      ·rw [if_pos hv] at ht
       have q0 := @h1; refine fU ?_
       refine aF (k + 1) ?_ ?_ ?_
       ·simp only [go_sem, ht, List.map_append]; simp
       ·omega
       ·omega
      ·rw [if_neg (by simp [hv]), List.append_nil] at ht
       have q0 := @h1; refine fU ?_
       refine aF (k + 1) ?_ ?_ ?_
       ·simp only [go_sem, ht]; simp
       ·omega
       ·omega
   ·simp only [decide_eq_false_iff_not] at h1
    have e : k = l.length := by omega
    subst e
    rw [List.take_length] at *
    refine aD ?_
    exact aA ⟨⟨_, rfl, by simp only [go_sem, List.take_length, a1A, hid, if_true]⟩, trivial⟩
theorem a5e (l : List TDir) (a b : TFile) (h : aP l + (wFile a + wFile b) ≤ 4300000) : FnC Tryz.prog 231 [.o (.d (.sl (l.map aM))), dC a, dC b] (.o (.d (.sl ((a1A a b l).map bV)))) := (a5D l a b h).pu (by simp only [go_sem, and_self])
theorem a5f (l : List TDir) (a b : TFile) (h : aP l + (wFile a + wFile b) ≤ 4300000) : FnC Tryz.prog 219 [.o (.d (.sl (l.map aM))), dC a, dC b] (.o (.d (.sl ((a1A a b l).map bV)))) := (a5E l a b h).pu (by simp only [go_sem, and_self])
end Go.Proofs.YteaaopodnbjpoaaGreat
end
section
set_option maxRecDepth 100000
set_option maxHeartbeats 4000000
namespace Go.Proofs.YteaaopodnbjpoaaGreat
open Go Go.Sx Go.RowKit Go.Proofs Go.Sx.Clos
def isD (n : TNode) : Bool := decide (8 ≤ n.fOp) && decide (n.fOp ≤ 9)
def qD (q : List TNode) : List ByteArray := (q.filter isD).map TNode.fName
theorem a7V (q : List TNode) : (qD q).length ≤ q.length := by simp only [qD, List.length_map]; exact List.length_filter_le _ _
theorem b2x (q : List TNode) (k : Nat) (h : k < q.length) : qD (q.take (k + 1)) = qD (q.take k) ++ (if isD q[k] then [q[k].fName] else []) := by
 simp only [qD, List.take_succ_eq_append_getElem h, List.filter_append, List.map_append, List.filter_cons, List.filter_nil]
 cases isD q[k] <;> rfl
def eD (l : List TDir) : List (ByteArray × List ByteArray) := l.map fun d => (d.fName, putL (qD d.fQuery))
theorem b8J (l : List TDir) : (eD l).length = l.length := by simp [eD]
def wS (s : ByteArray) : Nat := 1 + s.size
def pot (l : List TDir) (o : List ByteArray) : Nat := wsm wS o + kI wS (eD l) o
def nmD (l : List TDir) (y : ByteArray) : Prop := ∃ e ∈ eD l, e.1 = y
theorem b1w (l : List TDir) (d : TDir) (h : d ∈ l) : nmD l d.fName := ⟨_, List.mem_map.2 ⟨d, h, rfl⟩, rfl⟩
theorem a7W (a b : List ByteArray) : wsm wS (a ++ b) = wsm wS a + wsm wS b := by
 induction a with
 | nil => simp [wsm]
 | cons x a ih => simp only [List.cons_append, wsm, ih]; omega
theorem b5P (l : List ByteArray) : wsm wS l = pJ l := by
 unfold pJ
 induction l with
 | nil => simp [wsm, wsum]
 | cons x l ih => simp only [wsm, wsum, wS, List.length_cons, ih]; omega
theorem b7n (l : List ByteArray) : l.length ≤ wsm wS l := by rw [b5P]; unfold pJ; omega
theorem a1y (l : List TDir) (o : List ByteArray) : o.length ≤ pot l o := by have := b7n o; unfold pot; omega
theorem a9H (o : List ByteArray) (s : ByteArray) : wsm wS (putS o s) ≤ wsm wS o + wS s := by
 unfold putS
 split
 ·omega
 ·unfold insAt
  have h := congrArg (wsm wS) (List.take_append_drop (fstIx (geS s) o) o)
  rw [a7W] at h
  rw [a7W]
  simp only [wsm]
  omega
theorem b5Q (o : List ByteArray) (s : ByteArray) (h : o.Pairwise ltS) (hs : s ∈ o) : putS o s = o :=
 yB qE yZ (qV s h) h fun x => by
  rw [tT]
  constructor
  ·rintro (rfl | h)
   ·exact hs
   ·exact h
  ·exact .inr
def okS (l : List TDir) (B : Nat) (o : List ByteArray) : Prop := o.Pairwise ltS ∧ pot l o ≤ B
theorem a7X {l : List TDir} {B : Nat} (o : List ByteArray) (s : ByteArray) (h : okS l B o) (hs : nmD l s) : okS l B (putS o s) := by
 refine ⟨qV s h.1, Nat.le_trans ?_ h.2⟩
 by_cases hm : s ∈ o
 ·rw [b5Q o s h.1 hm]; exact Nat.le_refl _
 ·have h1 := a9H o s
  have h2 := a1Y wS (eD l) (S := o) (T := putS o s) (fun x hx => (tT o s x).2 (.inr hx)) hs ((tT o s s).2 (.inl rfl)) hm
  unfold pot; omega
theorem b3S (l : List ByteArray) : ∀ a : List ByteArray, wsm wS (l.foldl putS a) ≤ wsm wS a + wsm wS l := by
 induction l with
 | nil => intro a; simp [wsm]
 | cons y l ih =>
  intro a
  have h1 := ih (putS a y)
  have h2 := a9H a y
  simp only [List.foldl_cons, wsm]; omega
theorem b5R (l : List TDir) (names : List ByteArray) : okS l (pot l names) (putL names) := by
 refine ⟨a9C names, ?_⟩
 have h1 := b3S names []
 have h2 := a2F wS (eD l) (S := names) (T := putL names) (fun x hx => (nQ names x).2 hx)
 simp only [wsm] at h1
 unfold pot putL at *
 omega
def qW (l : List TDir) (names : List ByteArray) (n : Nat) : List ByteArray := jK putS (eD l) n (putL names)
def tdS (l : List TDir) (names : List ByteArray) : List ByteArray := qW l names (l.length + 1)
theorem a0q (l : List TDir) (names : List ByteArray) (n : Nat) : okS l (pot l names) (qW l names n) :=
 a4U (Nm := nmD l) (fun o s h hs => a7X o s h hs) (eD l) (fun e he => ⟨e, he, rfl⟩) (b5R l names) n
theorem b3T (l : List TDir) (B i : Nat) (S : List ByteArray) (h : okS l B S) : okS l B (round putS (eD (l.take i)) S) :=
 a6B (Nm := nmD l) (fun o s h hs => a7X o s h hs) (eD (l.take i)) (fun e he => by
  obtain ⟨d, hd, rfl⟩ := List.mem_map.1 he
  exact b1w l d (List.mem_of_mem_take hd)) S h
theorem b7o (l : List TDir) (B : Nat) (d : TDir) (hd : d ∈ l) (az S : List ByteArray) (h : okS l B S) : okS l B (askC putS d.fName S az) :=
 b2u (Nm := nmD l) (fun o s h hs => a7X o s h hs) d.fName (b1w l d hd) az S h
theorem b2y {l : List TDir} {B : Nat} {o : List ByteArray} (h : okS l B o) : o.length ≤ B := Nat.le_trans (a1y l o) h.2
theorem b1x (l : List TDir) (S : List ByteArray) (i : Nat) (h : i < l.length) : round putS (eD (l.take (i + 1))) S = askC putS l[i].fName (round putS (eD (l.take i)) S) (putL (qD l[i].fQuery)) := by
 simp only [round, eD, List.take_succ_eq_append_getElem h, List.map_append, List.map_cons, List.map_nil, List.foldl_append, List.foldl_cons, List.foldl_nil]
theorem b8K (n : ByteArray) (S Q : List ByteArray) (k : Nat) (h : k < Q.length) (hm : Q[k] ∈ askC putS n S (Q.take k)) : askC putS n S (Q.take (k + 1)) = putS (askC putS n S (Q.take k)) n := by
 unfold askC at *
 rw [List.take_succ_eq_append_getElem h, List.foldl_append, List.foldl_cons, List.foldl_nil, if_pos hm]
theorem b7p (n : ByteArray) (S Q : List ByteArray) (k : Nat) (h : k < Q.length) (hm : ¬ Q[k] ∈ askC putS n S (Q.take k)) : askC putS n S (Q.take (k + 1)) = askC putS n S (Q.take k) := by
 unfold askC at *
 rw [List.take_succ_eq_append_getElem h, List.foldl_append, List.foldl_cons, List.foldl_nil, if_neg hm]
def wF (l : List TDir) (s : ByteArray) : List ByteArray := (l.filter fun d => hasS (qD d.fQuery) s).map TDir.fName
theorem a9I (l : List TDir) (s y : ByteArray) : y ∈ wF l s ↔ ∃ d ∈ l, s ∈ qD d.fQuery ∧ d.fName = y := by
 unfold wF
 rw [List.mem_map]
 constructor
 ·rintro ⟨d, hd, rfl⟩
  rw [List.mem_filter] at hd
  exact ⟨d, hd.1, (kF _ _).1 hd.2, rfl⟩
 ·rintro ⟨d, hd, hs, rfl⟩
  exact ⟨d, List.mem_filter.2 ⟨hd, (kF _ _).2 hs⟩, rfl⟩
theorem a9J (l : List TDir) (s : ByteArray) : (wF l s).length ≤ l.length := by simp only [wF, List.length_map]; exact List.length_filter_le _ _
theorem b3U (l : List TDir) (s : ByteArray) (k : Nat) (h : k < l.length) : wF (l.take (k + 1)) s = wF (l.take k) s ++ (if hasS (qD l[k].fQuery) s then [l[k].fName] else []) := by
 simp only [wF, List.take_succ_eq_append_getElem h, List.filter_append, List.map_append, List.filter_cons, List.filter_nil]
 cases hasS (qD l[k].fQuery) s <;> rfl
structure Good (l : List TDir) (names o : List ByteArray) : Prop where
 ext : ∀ x ∈ names, x ∈ o
 least : ∀ T, Closed (eD l) T → (∀ x ∈ names, x ∈ T) → ∀ x ∈ o, x ∈ T
 le : pot l o ≤ pot l names
theorem Good.start (l : List TDir) (names : List ByteArray) : Good l names names := ⟨fun _ h => h, fun _ _ h => h, Nat.le_refl _⟩
theorem Good.add {l : List TDir} {names o : List ByteArray} (g : Good l names o) {x y : ByteArray} (hx : x ∈ o) (hy : y ∈ wF l x) (hn : ¬ y ∈ o) : Good l names (o ++ [y]) := by
 obtain ⟨d, hd, hq, rfl⟩ := (a9I l x y).1 hy
 refine ⟨fun z hz => List.mem_append_left _ (g.ext z hz), fun T hT h z hz => ?_, ?_⟩
 ·rcases List.mem_append.1 hz with h1 | h1
  ·exact g.least T hT h z h1
  ·simp only [List.mem_singleton] at h1
   subst h1
   exact hT _ (List.mem_map.2 ⟨d, hd, rfl⟩) ⟨x, (nQ _ _).2 hq, g.least T hT h x hx⟩
 ·have h1 := a1Y wS (eD l) (S := o) (T := o ++ [d.fName]) (fun z hz => List.mem_append_left _ hz) (b1w l d hd) (by simp) hn
  have h2 := g.le
  have h3 := a7W o [d.fName]
  simp only [wsm] at h3
  unfold pot at *
  omega
theorem Good.done {l : List TDir} {names o : List ByteArray} (g : Good l names o) (hc : ∀ x ∈ o, ∀ y ∈ wF l x, y ∈ o) : eX o = tdS l names := by
 refine yB qE yZ (a7P o) (a0q l names (l.length + 1)).1 fun x => ?_
 rw [nD]
 have h := a9B (put := putS) tT (eD l) (S := putL names) (O := o) (fun x hx => g.ext x ((nQ _ _).1 hx)) (fun e he hx => by
  obtain ⟨d, hd, rfl⟩ := List.mem_map.1 he
  obtain ⟨x, hx, ho⟩ := hx
  exact hc x ho _ ((a9I l x _).2 ⟨d, hd, (nQ _ _).1 hx, rfl⟩)) (fun T hT hs => g.least T hT fun x hx => hs x ((nQ _ _).2 hx)) x
 rw [b8J] at h
 exact h
end Go.Proofs.YteaaopodnbjpoaaGreat
end
