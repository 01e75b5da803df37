/- Joined texts. -/
import Derived.Test.YtddimbdeggomaaaGreatZ16
import Derived.Shelf.RegionOpenPlain
import Derived.WalkKit
import Derived.Lib.Walk
import Derived.Lib.SliceRun
import Derived.Lib.JoinLaws
import Derived.Lib.AppendZeros
import Derived.Lib.AppendZerosOnto
import Derived.Lib.Overlaps
import Derived.Laws.Externs
import Derived.Laws.NewBlocks
import Derived.Shelf.Spec.SlicesInsertGrow
import Derived.Test.YtddimbdeggomaaaGreatZ11
import Derived.Test.YtddimbdeggomaaaGreatZ13
import Derived.Test.YtddimbdeggomaaaGreatZ12
import Derived.Test.YtddimbdeggomaaaGreatZ07
set_option linter.all false
section
namespace Go.Proofs.YtddimbdeggomaaaGreat
open Go Go.Sx Go.RowKit Go.Proofs Go.Lib
set_option maxHeartbeats 4000000 in
set_option maxRecDepth 1000000 in
theorem a7F (b c i vb vc n : Nat) (F vs : List Value) (w : World) (hi : i < n) (hroom : n + 1 ≤ c) (hc63 : c ≤ 9223372036854775807) (hvb : vb ≠ b) (hvc : 1 ≤ vc)
    (hF : F.length = n * 2) (hv : vs.length = 2) (hR : RowAt w w b 93 (c * 2) F) (hV : RowAt w w vb 93 (vc * 2) vs) (h1F : ∀ v ∈ F, v.oneCell' = true) (h1v : ∀ v ∈ vs, v.oneCell' = true) :
    Calls Tryz.prog 201 #[.slice (some ⟨b, 0, none⟩) n c, .int .i64 i, .slice (some ⟨vb, 0, none⟩) 1 vc] w fun e w' =>
     e = .returned (.slice (some ⟨b, 0, none⟩) (n + 1) c) ∧ RowAt w w' b 93 (c * 2) (F.take (i * 2) ++ vs ++ F.drop (i * 2)) := by
 have hz2 : ¬ ((i : Int) = (n : Int)) := by omega
 have hsz : (Tryz.prog.info? 93).map (·.size) = some 2 := by kernel_rfl
 have hsa := hV.shape
 have hsb := hR.shape
 have hov : ∀ x lb cb, (callFunc 268 #[.slice (some ⟨vb, 0, none⟩) 1 vc, .slice (some ⟨b, x, none⟩) lb cb]).run Tryz.prog w = .ok (.value (.bool false)) w := fun x lb cb => by
  rw [run_callFunc_extern Tryz.func268 (by kernel_rfl) (by kernel_rfl) (by kernel_rfl) (e := Extern.SlicesOverlaps.overlaps #[41, 41] #[4]) (by kernel_rfl),
   Lib.run_overlaps_apart w 41 4 93 Tryz.underlying41 2 Tryz.sizeOf93 ⟨vb, 0, none⟩ ⟨b, x, none⟩ 1 vc lb cb hvb _ _ _ _ hsa hsb (by omega) (hV.frozen _) (hV.frozen _)]
  rfl
 have hdl : (F.drop (i * 2)).length = (n - i) * 2 := by rw [List.length_drop, hF, Nat.sub_mul]
 have mixed := fol
 have hw1 : IntKind.i64.wrap ((i : Int) + 1) = (i : Int) + 1 := by rw [IntKind.wrap_i64]; omega
 have hb1 : (0 : Int) ≤ (i : Int) + 1 := by omega
 have hin : i ≤ n := by omega
 have htn : ((i : Int) + 1).toNat = i + 1 := by omega
 have hb2 : ¬ (c = i + 1) := by omega
 have hb3 : (i : Int) ≤ (n : Int) + 1 := by omega
 have hb4 : ¬ (c = i) := by omega
 have hcp1 : ∀ ty dc sc, (Builtin.copy_ #[41, 41] ty #[.slice (some ⟨b, (i + 1) * 2, none⟩) (n - i) dc, .slice (some ⟨b, i * 2, none⟩) (n + 1 - i) sc]).run Tryz.prog w.drew = .ok (goInt (Nat.min (n + 1 - i) (n - i))) (w.drew.setCells b ((i + 1) * 2) (F.drop (i * 2))) := fun ty dc sc =>
  wH w.drew _ _ ty 93 2 b ((i + 1) * 2) (n - i) dc ⟨b, i * 2, none⟩ (n + 1 - i) sc (F.drop (i * 2)) Tryz.underlying41 hsz (by rw [hdl]; simp only [Nat.min_def]; split <;> omega)
   (fun j v hj => by rw [Addr.add_lit]; exact hR.cell (by rwa [List.getElem?_drop] at hj))
   (fun j hj => hR.there (by omega)) (fun j hj => hR.frozen _) (fun v hv => h1F v (List.mem_of_mem_drop hv))
 have hR1 := hR.drew.set (F.drop (i * 2)) (s := (i + 1) * 2) (by omega) (by omega)
 obtain ⟨W1, hW1⟩ : ∃ W1, W1 = w.drew.setCells b ((i + 1) * 2) (F.drop (i * 2)) := ⟨_, rfl⟩
 rw [← hW1] at hcp1 hR1
 have hV1 : ∀ j v, vs[j]? = some v → W1.cell? ⟨vb, j, none⟩ = some v := fun j v hj => by
  rw [hW1, World.cell?_setCells_out b _ _ _ _ (fun h _ => absurd h hvb)]
  exact hV.cell hj
 have hcp2 : ∀ (W : World), (∀ x, W.cell? x = W1.cell? x) → (∀ x, W.frozen? x = W1.frozen? x) → ∀ ty dc, (Builtin.copy_ #[41, 41] ty #[.slice (some ⟨b, i * 2, none⟩) (n + 1 - i) dc, .slice (some ⟨vb, 0, none⟩) 1 vc]).run Tryz.prog W = .ok (goInt (Nat.min 1 (n + 1 - i))) (W.setCells b (i * 2) vs) := fun W hWc hWf ty dc =>
  wH W _ _ ty 93 2 b (i * 2) (n + 1 - i) dc ⟨vb, 0, none⟩ 1 vc vs Tryz.underlying41 hsz (by rw [hv]; simp only [Nat.min_def]; split <;> omega)
   (fun j v hj => by rw [Addr.add_lit, hWc, Nat.zero_add]; exact hV1 j v hj)
   (fun j hj => by rw [hWc]; exact hR1.there (by omega)) (fun j hj => by rw [hWf]; exact hR1.frozen _) h1v
 have HE : Aside (∀ W : World, RowAt w W b 93 (c * 2) (F.take ((i + 1) * 2) ++ F.drop (i * 2) ++ F.drop ((i + 1) * 2 + (F.drop (i * 2)).length)) → RowAt w (W.setCells b (i * 2) vs) b 93 (c * 2) (F.take (i * 2) ++ vs ++ F.drop (i * 2))) := fun W hW => by
  have h := hW.set vs (s := i * 2) (by simp; omega) (by omega)
  have e1 : F.drop ((i + 1) * 2 + (F.drop (i * 2)).length) = [] := List.drop_of_length_le (by rw [hdl]; omega)
  rw [e1, List.append_nil] at h
  rw [List.take_append_of_le_length (by simp; omega), List.take_take, Nat.min_eq_left (by omega), List.drop_append, List.drop_of_length_le (by simp; omega), List.nil_append, List.length_take] at h
  rwa [show i * 2 + vs.length - min ((i + 1) * 2) F.length = 0 by omega, List.drop_zero] at h
 have H1 : Aside _ := hR1
 clear hR1 hV1 hW1 hsa hsb hR hV h1F h1v
 go_enter Tryz.func201, Tryz.ntmps201
 go_wp2_with (simp only [hov])
 go_region_law_o (refine step_copy_runI rfl _ _ 41 41 rfl _ _ (by simp [Act.eval, Act.put]) (by simp [Act.eval, Act.put]) (hcp1 _ _ _) ?_)
 go_wp2_with (at_builtin; refine wpList_copy_runI _ rfl _ _ 41 41 rfl _ _ rfl rfl (hcp2 _ (fun _ => rfl) (fun _ => rfl) _ _) ?_)
 go_ret
 exact ⟨rfl, HE.out _ H1.out⟩
set_option maxHeartbeats 4000000 in
set_option maxRecDepth 1000000 in
theorem a9o (b n c vb vc : Nat) (F vs : List Value) (w : World) (hroom : n + 1 ≤ c) (hc63 : c ≤ 9223372036854775807)
    (hF : F.length = n * 2) (hv : vs.length = 2) (hR : RowAt w w b 93 (c * 2) F) (hV : RowAt w w vb 93 (vc * 2) vs) (h1v : ∀ v ∈ vs, v.oneCell' = true) :
    Calls Tryz.prog 201 #[.slice (some ⟨b, 0, none⟩) n c, .int .i64 n, .slice (some ⟨vb, 0, none⟩) 1 vc] w fun e w' =>
     e = .returned (.slice (some ⟨b, 0, none⟩) (n + 1) c) ∧ RowAt w w' b 93 (c * 2) (F ++ vs) := by
 obtain ⟨i0, hi0, hzs⟩ : ∃ i0, Tryz.prog.info? 93 = some i0 ∧ i0.size = 2 := ⟨Tryz.t93, by kernel_rfl, rfl⟩
 have hsrc : Src Tryz.prog i0.size 41 (.slice (some ⟨vb, 0, none⟩) 1 vc) 1 vs w := Src.ofSlice w Tryz.underlying41 ⟨vb, 0, none⟩ 1 vc vs (by rw [hzs]; omega) (fun j u hj => by rw [Addr.add_lit, Nat.zero_add]; exact hV.cell hj) h1v
 have hrun : ∀ ty, (Builtin.append_ #[41, 41] ty #[.slice (some ⟨b, 0, none⟩) n c, .slice (some ⟨vb, 0, none⟩) 1 vc]).run Tryz.prog w = .ok (.slice (some ⟨b, 0, none⟩) (n + 1) c) (w.setCells b (0 + n * i0.size) vs) := fun ty =>
  run_append_room_src w 41 41 ty 93 i0 Tryz.underlying41 hi0 b 0 n c _ 1 vs hsrc hroom (fun j hj => hR.there (by rw [hzs]; omega)) (fun j hj => hR.frozen _)
 rw [hzs, Nat.zero_add] at hrun
 have HE : Aside (RowAt w (w.setCells b (n * 2) vs) b 93 (c * 2) (F ++ vs)) := by
  have h := hR.set vs (s := n * 2) (by omega) (by omega)
  rwa [List.take_of_length_le (by omega), List.drop_of_length_le (by omega), List.append_nil] at h
 clear hR hV h1v hsrc
 go_enter Tryz.func201, Tryz.ntmps201
 go_wp2_with (at_builtin; refine Lib.wpList_append_run _ rfl _ _ _ _ rfl _ _ rfl rfl _ _ (hrun _) ?_)
 go_ret
 exact ⟨rfl, HE.out⟩
set_option maxHeartbeats 4000000 in
set_option maxRecDepth 1000000 in
theorem a4S (base : Option Addr) (n c vb vc : Nat) (F vs : List Value) (w : World) (hnc : n ≤ c) (hroom : c < n + 1) (hbig : (n + 1) * 40 ≤ 140737488355328)
    (hF : F.length = n * 2) (hv : vs.length = 2) (hnil : base = none → n = 0) (hcs : ∀ a, base = some a → ∀ j v, F[j]? = some v → w.cell? (a.add j) = some v) (hV : RowAt w w vb 93 (vc * 2) vs) (h1v : ∀ v ∈ vs, v.oneCell' = true) :
    Calls Tryz.prog 201 #[.slice base n c, .int .i64 n, .slice (some ⟨vb, 0, none⟩) 1 vc] w fun e w' =>
     ∃ G, e = .returned (.slice (some ⟨w.heap.size, 0, none⟩) (n + 1) G) ∧ n + 1 ≤ G ∧ G ≤ maxLen ∧ RowAt w w' w.heap.size 93 (G * 2) (F ++ vs) := by
 obtain ⟨i0, hi0, hz0, hzs, hzb⟩ : ∃ i0, Tryz.prog.info? 93 = some i0 ∧ i0.zero = some (.agg #[.string ⟨#[]⟩, .slice none 0 0]) ∧ i0.size = 2 ∧ i0.bytes = 40 := ⟨Tryz.t93, by kernel_rfl, rfl, rfl, rfl⟩
 have hsrc : Src Tryz.prog i0.size 41 (.slice (some ⟨vb, 0, none⟩) 1 vc) 1 vs w := Src.ofSlice w Tryz.underlying41 ⟨vb, 0, none⟩ 1 vc vs (by rw [hzs]; omega) (fun j u hj => by rw [Addr.add_lit, Nat.zero_add]; exact hV.cell hj) h1v
 have hold : (Builtin.firstCells i0.size n (.slice base n c)).run Tryz.prog w.drew = .ok F.toArray w.drew := by
  rw [hzs]
  cases base with
  | none =>
   have h0 := hnil rfl
   subst h0
   rw [List.length_eq_zero_iff.1 (by omega : F.length = 0)]
   exact run_firstCells_none w.drew 2 0 0 c
  | some a => exact run_firstCells_some w.drew 2 n a n c F (by omega) (fun j v hj => hcs a rfl j v hj)
 have hrun : ∀ ty, (Builtin.append_ #[41, 41] ty #[.slice base n c, .slice (some ⟨vb, 0, none⟩) 1 vc]).run Tryz.prog w = _ := fun ty =>
  run_append_grow_src w 41 41 ty 93 i0 _ Tryz.underlying41 hi0 hz0 base n c F hold _ 1 vs hsrc hroom (by omega) (by rw [hzb]; exact growslice_fits hroom hbig)
 have hGn : n + 1 ≤ grownCap w (n + 1) c 93 := grownCap_ge w _ _ _
 have hGm : grownCap w (n + 1) c 93 ≤ maxLen := grownCap_le_maxLen w (n + 1) c 93 (by unfold maxLen; omega)
 have HE : Aside (RowAt w (w.drew.alloc (.cells ((F ++ vs).toArray ++ Builtin.zeroCells (.agg #[.string ⟨#[]⟩, .slice none 0 0] : Value).cells (grownCap w (n + 1) c 93 - (n + 1))) 93)) w.heap.size 93 (grownCap w (n + 1) c 93 * 2) (F ++ vs)) := by
  have h := RowAt.freshd w ((F ++ vs).toArray ++ Builtin.zeroCells (.agg #[.string ⟨#[]⟩, .slice none 0 0] : Value).cells (grownCap w (n + 1) c 93 - (n + 1))) 93
  have e : ((F ++ vs).toArray ++ Builtin.zeroCells (.agg #[.string ⟨#[]⟩, .slice none 0 0] : Value).cells (grownCap w (n + 1) c 93 - (n + 1))).size = grownCap w (n + 1) c 93 * 2 := by
   simp [Builtin.zeroCells, Value.cells]; omega
  rw [e] at h
  exact h.pre (by simp)
 clear hV h1v hsrc hold hcs
 go_enter Tryz.func201, Tryz.ntmps201
 cases base with
 | none =>
  have h0 := hnil rfl
  subst h0
  go_wp2_with (at_builtin; refine Lib.wpList_append_run _ rfl _ _ _ _ rfl _ _ rfl rfl _ _ (hrun _) ?_)
  go_ret
  exact ⟨_, rfl, hGn, hGm, HE.out⟩
 | some a =>
  obtain ⟨ab, ao, asp⟩ := a
  go_wp2_with (at_builtin; refine Lib.wpList_append_run _ rfl _ _ _ _ rfl _ _ rfl rfl _ _ (hrun _) ?_)
  all_goals (go_ret; exact ⟨_, rfl, hGn, hGm, HE.out⟩)
set_option maxHeartbeats 4000000 in
set_option maxRecDepth 1000000 in
theorem a9p (b c i vb vc n : Nat) (F vs : List Value) (w : World) (hi : i < n) (hnc : n ≤ c) (hroom : c < n + 1) (hbig : (n + 1) * 40 ≤ 140737488355328) (hvc : 1 ≤ vc)
    (hF : F.length = n * 2) (hv : vs.length = 2) (hR : RowAt w w b 93 (c * 2) F) (hV : RowAt w w vb 93 (vc * 2) vs) (h1F : ∀ v ∈ F, v.oneCell' = true) (h1v : ∀ v ∈ vs, v.oneCell' = true) :
    Calls Tryz.prog 201 #[.slice (some ⟨b, 0, none⟩) n c, .int .i64 i, .slice (some ⟨vb, 0, none⟩) 1 vc] w fun e w' =>
     ∃ G, e = .returned (.slice (some ⟨w.heap.size, 0, none⟩) (n + 1) G) ∧ n + 1 ≤ G ∧ G ≤ maxLen ∧ RowAt w w' w.heap.size 93 (G * 2) (F.take (i * 2) ++ vs ++ F.drop (i * 2)) := by
 obtain ⟨i0, hi0, hz0, hzs, hzb⟩ : ∃ i0, Tryz.prog.info? 93 = some i0 ∧ i0.zero = some (.agg #[.string ⟨#[]⟩, .slice none 0 0]) ∧ i0.size = 2 ∧ i0.bytes = 40 := ⟨Tryz.t93, by kernel_rfl, rfl, rfl, rfl⟩
 have mixed := fol
 have hz2 : ¬ ((i : Int) = (n : Int)) := by omega
 have hz3 : (c : Int) < (n : Int) + 1 := by omega
 have hsz : (Tryz.prog.info? 93).map (·.size) = some 2 := by rw [hi0]; simp [hzs]
 have hbw := hR.lt
 have hvw := hV.lt
 have hkk : (n : Int) + 1 - (i : Int) = ((n + 1 - i : Nat) : Int) := by omega
 have hik : i + (n + 1 - i) = n + 1 := by omega
 have hold : (Builtin.firstCells i0.size i (.slice (some ⟨b, 0, none⟩) i c)).run Tryz.prog w.drew = .ok (F.take (i * 2)).toArray w.drew := by
  rw [hzs]
  exact run_firstCells_some w.drew 2 i ⟨b, 0, none⟩ i c (F.take (i * 2)) (by rw [List.length_take]; omega) (fun j v hj => by
   rw [Addr.add_lit, Nat.zero_add]
   rw [List.getElem?_take] at hj
   split at hj
   ·exact hR.cell hj
   ·cases hj)
 have hrz : ∀ ty, (Builtin.append_ #[41, 3] ty #[.slice (some ⟨b, 0, none⟩) i c, .int .i64 ((n : Int) + 1 - (i : Int))]).run Tryz.prog w =
     .ok (.slice (some ⟨w.heap.size, 0, none⟩) (n + 1) (grownCap w (n + 1) c 93)) (w.drew.alloc (.cells ((F.take (i * 2)).toArray ++ Builtin.zeroCells (.agg #[.string ⟨#[]⟩, .slice none 0 0] : Value).cells (n + 1 - i) ++ Builtin.zeroCells (.agg #[.string ⟨#[]⟩, .slice none 0 0] : Value).cells (grownCap w (n + 1) c 93 - (n + 1))) 93)) := fun ty => by
  have h := Lib.run_append_grow_zeros w 41 3 ty 93 i0 _ .i64 .i64 Tryz.underlying41 Tryz.underlying3 hi0 hz0 (some ⟨b, 0, none⟩) i c (F.take (i * 2)) hold (n + 1 - i) (by omega) (by omega) (by omega) (by omega) (by rw [hzb]; omega) (by rw [hzb, hik]; exact growslice_fits hroom hbig)
  rw [hik] at h
  rw [hkk]
  exact h
 obtain ⟨G, hG⟩ : ∃ G, G = grownCap w (n + 1) c 93 := ⟨_, rfl⟩
 obtain ⟨ROW, hROW⟩ : ∃ ROW : Array Value, ROW = (F.take (i * 2)).toArray ++ Builtin.zeroCells (.agg #[.string ⟨#[]⟩, .slice none 0 0] : Value).cells (n + 1 - i) ++ Builtin.zeroCells (.agg #[.string ⟨#[]⟩, .slice none 0 0] : Value).cells (G - (n + 1)) := ⟨_, rfl⟩
 rw [← hG] at hrz
 rw [← hROW] at hrz
 have hGn : n + 1 ≤ G := by rw [hG]; exact grownCap_ge w _ _ _
 have hGm : G ≤ maxLen := by rw [hG]; exact grownCap_le_maxLen w (n + 1) c 93 (by unfold maxLen; omega)
 have hG63 : G ≤ 9223372036854775807 := by unfold maxLen at hGm; omega
 have hRs : ROW.size = G * 2 := by rw [hROW]; simp [Builtin.zeroCells, Value.cells]; omega
 have hRt : ROW.toList.take (i * 2) = F.take (i * 2) := by
  rw [hROW]
  simp only [Array.toList_append, List.append_assoc]
  rw [List.take_append_of_le_length (by simp; omega), List.take_of_length_le (by simp; omega)]
 have hR0 := RowAt.freshd w ROW 93
 rw [hRs] at hR0
 obtain ⟨W1, hW1⟩ : ∃ W1, W1 = w.drew.alloc (.cells ROW 93) := ⟨_, rfl⟩
 rw [← hW1] at hrz hR0
 have hlR : ROW.toList.length = G * 2 := by rw [← hRs]; simp
 have hR1 := hR0.set vs (s := i * 2) (by rw [hlR]; omega) (by omega)
 have hOb : ∀ j v, w.cell? ⟨b, j, none⟩ = some v → W1.cell? ⟨b, j, none⟩ = some v := fun j v h => by rw [hW1, World.cell?_alloc_past (w := w.drew) _ b j hbw]; exact h
 have hOv : ∀ j v, w.cell? ⟨vb, j, none⟩ = some v → W1.cell? ⟨vb, j, none⟩ = some v := fun j v h => by rw [hW1, World.cell?_alloc_past (w := w.drew) _ vb j hvw]; exact h
 have hcpA : ∀ (W : World), (∀ x, W.cell? x = W1.cell? x) → (∀ x, W.frozen? x = W1.frozen? x) → ∀ ty dc, (Builtin.copy_ #[41, 41] ty #[.slice (some ⟨w.heap.size, i * 2, none⟩) (n + 1 - i) dc, .slice (some ⟨vb, 0, none⟩) 1 vc]).run Tryz.prog W = .ok (goInt (Nat.min 1 (n + 1 - i))) (W.setCells w.heap.size (i * 2) vs) := fun W hWc hWf ty dc =>
  wH W _ _ ty 93 2 w.heap.size (i * 2) (n + 1 - i) dc ⟨vb, 0, none⟩ 1 vc vs Tryz.underlying41 hsz (by rw [hv]; simp only [Nat.min_def]; split <;> omega)
   (fun j v hj => by rw [Addr.add_lit, hWc, Nat.zero_add]; exact hOv _ v (hV.cell hj))
   (fun j hj => by rw [hWc]; exact hR0.there (by omega)) (fun j hj => by rw [hWf]; exact hR0.frozen _) h1v
 have hbN : b ≠ w.heap.size := by omega
 have hdl : (F.drop (i * 2)).length = (n - i) * 2 := by rw [List.length_drop, hF, Nat.sub_mul]
 have hcpB : ∀ (W : World), (∀ x, W.cell? x = (W1.setCells w.heap.size (i * 2) vs).cell? x) → (∀ x, W.frozen? x = (W1.setCells w.heap.size (i * 2) vs).frozen? x) → ∀ ty dc sc, (Builtin.copy_ #[41, 41] ty #[.slice (some ⟨w.heap.size, (i + 1) * 2, none⟩) (n - i) dc, .slice (some ⟨b, i * 2, none⟩) (n - i) sc]).run Tryz.prog W = .ok (goInt (Nat.min (n - i) (n - i))) (W.setCells w.heap.size ((i + 1) * 2) (F.drop (i * 2))) := fun W hWc hWf ty dc sc =>
  wH W _ _ ty 93 2 w.heap.size ((i + 1) * 2) (n - i) dc ⟨b, i * 2, none⟩ (n - i) sc (F.drop (i * 2)) Tryz.underlying41 hsz (by rw [hdl]; simp only [Nat.min_def]; split <;> omega)
   (fun j v hj => by
    rw [Addr.add_lit, hWc, World.cell?_setCells_out _ _ _ _ _ (fun h _ => absurd h hbN)]
    exact hOb _ v (hR.cell (by rwa [List.getElem?_drop] at hj)))
   (fun j hj => by rw [hWc]; exact hR1.there (by omega))
   (fun j hj => by rw [hWf]; exact hR1.frozen _) (fun v hv => h1F v (List.mem_of_mem_drop hv))
 have HE : Aside (∀ W W' : World, RowAt w W w.heap.size 93 (G * 2) (ROW.toList.take (i * 2) ++ vs ++ ROW.toList.drop (i * 2 + vs.length)) → W' = W.setCells w.heap.size ((i + 1) * 2) (F.drop (i * 2)) → RowAt w W' w.heap.size 93 (G * 2) (F.take (i * 2) ++ vs ++ F.drop (i * 2))) := fun W W' hW e => by
  subst e
  have h := hW.set (F.drop (i * 2)) (s := (i + 1) * 2) (by simp only [List.length_append, List.length_take, List.length_drop, hlR]; omega) (by omega)
  rw [hRt, List.take_append_of_le_length (by simp; omega), List.take_of_length_le (by simp; omega)] at h
  exact h.pre (List.prefix_append _ _)
 have H1 : Aside (RowAt w (((w.alloc (.cells ROW 93)).drew.setCells w.heap.size (i * 2) vs).drew) w.heap.size 93 (G * 2) (ROW.toList.take (i * 2) ++ vs ++ ROW.toList.drop (i * 2 + vs.length))) := by
  rw [b0U, ← hW1]
  exact hR1.drew
 subst hW1
 have hE1 : ∀ x, ((w.alloc (.cells ROW 93)).drew).cell? x = (w.drew.alloc (.cells ROW 93)).cell? x := fun x => rfl
 have hE2 : ∀ x, ((w.alloc (.cells ROW 93)).drew).frozen? x = (w.drew.alloc (.cells ROW 93)).frozen? x := fun x => rfl
 have hF1 : ∀ x, (((w.alloc (.cells ROW 93)).drew.setCells w.heap.size (i * 2) vs).drew).cell? x = ((w.drew.alloc (.cells ROW 93)).setCells w.heap.size (i * 2) vs).cell? x := fun x => rfl
 have hF2 : ∀ x, (((w.alloc (.cells ROW 93)).drew.setCells w.heap.size (i * 2) vs).drew).frozen? x = ((w.drew.alloc (.cells ROW 93)).setCells w.heap.size (i * 2) vs).frozen? x := fun x => rfl
 have hGi : ¬ (G = i) := by omega
 have hGim : ¬ (G = i + 1) := by omega
 have hci : ¬ (c = i) := by omega
 have hw1 : IntKind.i64.wrap ((i : Int) + 1) = (i : Int) + 1 := by rw [IntKind.wrap_i64]; omega
 have hb1 : (0 : Int) ≤ (i : Int) + 1 := by omega
 have hin : i ≤ n := by omega
 have htn : ((i : Int) + 1).toNat = i + 1 := by omega
 have hb3 : (i : Int) ≤ (n : Int) := by omega
 clear hkk hik hold hROW hG hR hV hR0 hR1 h1F h1v hOb hOv hRt hRs hlR
 go_enter Tryz.func201, Tryz.ntmps201
 go_wp2_with (first
  | (at_builtin; refine Lib.wpList_append_run _ rfl _ _ _ _ rfl _ _ rfl rfl _ _ (hrz _) ?_)
  | (at_builtin; refine wpList_copy_runI _ rfl _ _ 41 41 rfl _ _ rfl rfl (hcpA _ hE1 hE2 _ _) ?_)
  | (at_builtin; refine wpList_copy_runI _ rfl _ _ 41 41 rfl _ _ rfl rfl (hcpB _ (fun _ => rfl) (fun _ => rfl) _ _ _) ?_))
 go_region_law_o (refine step_copy_runI rfl _ _ 41 41 rfl (.slice (some ⟨w.heap.size, (i + 1) * 2, none⟩) (n - i) (G - (i + 1))) (.slice (some ⟨b, i * 2, none⟩) (n - i) (c - i)) (by simp [Act.eval, Act.put]) (by simp [Act.eval, Act.put]) (hcpB _ hF1 hF2 3 (G - (i + 1)) (c - i)) ?_)
 go_wp2
 go_ret
 exact ⟨G, rfl, hGn, hGm, HE.out _ _ H1.out rfl⟩
theorem a7G (rows : List (List D)) (r : List D) (i : Nat) (hi : i ≤ rows.length) (hl : rows.length ≤ 8388608) : FnJ Tryz.prog 201 93 2 rows i [r] (rows.take i ++ r :: rows.drop i) := by
 refine ⟨Tryz.call201, fun V w y S y2 S2 hm hrow hrow2 hnd hlt => ?_⟩
 obtain ⟨hu, h⟩ := a1A hrow
 obtain ⟨hu2, h2⟩ := a1A hrow2
 have hr : r.length = 2 := hu2 r (by simp)
 rcases h2 with ⟨_, h2, _⟩ | ⟨vb, vc, vs, Ts, rfl, v3, v4, hV, vl, vL, vV, rfl⟩
 ·cases h2
 have vL' : LayL V r vs Ts := by simpa using vL
 have vl' : vs.length = 2 := by simpa using vl
 have v3' : 1 ≤ vc := by simpa using v3
 have h1v := vL'.oneCell
 rcases h with ⟨⟨ao, rfl⟩, rfl, rfl⟩ | ⟨b, cap, ys, Ss, rfl, e3, e4, hR, el, eL, eV, rfl⟩
 ·have hi0 : i = 0 := by simpa using hi
  subst hi0
  refine (a4S ao 0 0 vb vc [] vs w (by omega) (by omega) (by omega) (by simp) vl' (fun _ => rfl) (fun a _ j v hj => by simp at hj) hV h1v).mono ?_
  rintro e w' ⟨G, rfl, hG, hGm, hN⟩
  have hd := a4U (S := []) (S2 := vb :: Ts.flatten) (rows := []) (r := r) (i := 0) (Ss := []) (ys := []) (V := V) (hi) hu hr (LayL.nil V) vL' (by simpa using hN) (by simpa using hG) hGm (hm.fresh (Nat.le_refl _)) (.inr ⟨Nat.le_refl _, hN.lt⟩) (fun n hn => by simp at hn) (fun n hn => List.mem_cons_of_mem _ hn)
   (by
    simp only [List.flatten_nil, List.nil_append]
    refine List.nodup_cons.2 ⟨fun h => ?_, (List.nodup_cons.1 (by simpa using hnd)).2⟩
    have := hlt _ (by simp only [List.nil_append]; exact List.mem_cons_of_mem _ h)
    omega)
  exact ⟨_, rfl, yI hN.grown, hd⟩
 ·have h1F := eL.oneCell
  have hbw := hR.lt
  have hvb : vb ≠ b := fun e => by subst e; simp at hnd
  have hnd2 : (Ss.flatten ++ Ts.flatten).Nodup := by
   have h1 : (Ss.flatten ++ vb :: Ts.flatten).Nodup := (List.nodup_cons.1 (by simpa using hnd)).2
   exact h1.sublist (List.Sublist.append_left (List.sublist_cons_self _ _) _)
  have hbS : b ∉ Ss.flatten ++ Ts.flatten := fun h => by
   have h1 := (List.nodup_cons.1 (show (b :: (Ss.flatten ++ vb :: Ts.flatten)).Nodup by simpa using hnd)).1
   rcases List.mem_append.1 h with h | h
   ·exact h1 (List.mem_append.2 (.inl h))
   ·exact h1 (List.mem_append.2 (.inr (List.mem_cons_of_mem _ h)))
  have hfr : w.heap.size ∉ Ss.flatten ++ Ts.flatten := fun h => by
   have := hlt w.heap.size (by
    rcases List.mem_append.1 h with h | h
    ·exact List.mem_append.2 (.inl (List.mem_cons_of_mem _ h))
    ·exact List.mem_append.2 (.inr (List.mem_cons_of_mem _ h)))
   omega
  have old : ∀ w', RowAt w w' b 93 (cap * 2) (ys.take (i * 2) ++ vs ++ ys.drop (i * 2)) → rows.length + 1 ≤ cap → ∃ S', RowR V w' 93 2 (rows.take i ++ r :: rows.drop i) (.slice (some ⟨b, 0, none⟩) (rows.length + 1) cap) S' ∧ S'.Nodup ∧ ∀ n ∈ S', n ∈ (b :: Ss.flatten) ∨ n ∈ (vb :: Ts.flatten) ∨ (w.heap.size ≤ n ∧ n < w'.heap.size) := fun w' h hc =>
   a4U hi hu hr eL vL' h hc e4 eV (.inl (by simp)) (fun n hn => List.mem_cons_of_mem _ hn) (fun n hn => List.mem_cons_of_mem _ hn) (List.nodup_cons.2 ⟨hbS, hnd2⟩)
  have new : ∀ w' G, RowAt w w' w.heap.size 93 (G * 2) (ys.take (i * 2) ++ vs ++ ys.drop (i * 2)) → rows.length + 1 ≤ G → G ≤ maxLen → ∃ S', RowR V w' 93 2 (rows.take i ++ r :: rows.drop i) (.slice (some ⟨w.heap.size, 0, none⟩) (rows.length + 1) G) S' ∧ S'.Nodup ∧ ∀ n ∈ S', n ∈ (b :: Ss.flatten) ∨ n ∈ (vb :: Ts.flatten) ∨ (w.heap.size ≤ n ∧ n < w'.heap.size) := fun w' G h hc hGm =>
   a4U hi hu hr eL vL' h hc hGm (hm.fresh (Nat.le_refl _)) (.inr ⟨Nat.le_refl _, h.lt⟩) (fun n hn => List.mem_cons_of_mem _ hn) (fun n hn => List.mem_cons_of_mem _ hn) (List.nodup_cons.2 ⟨hfr, hnd2⟩)
  have e63 : cap ≤ 9223372036854775807 := by unfold maxLen at e4; omega
  rcases Nat.lt_or_ge i rows.length with hlt' | hge
  ·rcases Nat.lt_or_ge cap (rows.length + 1) with hc | hc
   ·refine (a9p b cap i vb vc rows.length ys vs w hlt' e3 hc (by omega) v3' el vl' hR hV h1F h1v).mono ?_
    rintro e w' ⟨G, rfl, hG, hGm, hN⟩
    exact ⟨_, rfl, yI hN.grown, new w' G hN hG hGm⟩
   ·refine (a7F b cap i vb vc rows.length ys vs w hlt' hc e63 hvb v3' el vl' hR hV h1F h1v).mono ?_
    rintro e w' ⟨rfl, hN⟩
    exact ⟨_, rfl, hN.grown, old w' hN hc⟩
  ·have hie : i = rows.length := by omega
   subst hie
   rw [List.take_of_length_le (l := ys) (by omega), List.drop_of_length_le (l := ys) (by omega), List.append_nil] at old new
   rcases Nat.lt_or_ge cap (rows.length + 1) with hc | hc
   ·refine (a4S (some ⟨b, 0, none⟩) rows.length cap vb vc ys vs w e3 hc (by omega) el vl' (fun h => by cases h) (fun a ha j v hj => by cases ha; rw [Addr.add_lit, Nat.zero_add]; exact hR.cell hj) hV h1v).mono ?_
    rintro e w' ⟨G, rfl, hG, hGm, hN⟩
    exact ⟨_, rfl, yI hN.grown, new w' G hN hG hGm⟩
   ·refine (a9o b rows.length cap vb vc ys vs w hc e63 el vl' hR hV h1v).mono ?_
    rintro e w' ⟨rfl, hN⟩
    exact ⟨_, rfl, hN.grown, old w' hN hc⟩
end Go.Proofs.YtddimbdeggomaaaGreat
end
section
set_option maxRecDepth 100000
set_option maxHeartbeats 4000000
namespace Go.Proofs.YtddimbdeggomaaaGreat
open Go Go.Sx Go.RowKit Go.Proofs
theorem b0J (x : TDir) (o : TDir) : FnC Tryz.prog 200 [wQ o, .o (.q (aM x))] (ob (gtD x.fName o)) := by
 refine ent Tryz.func200 rfl Tryz.call200 rfl (fun C => ?_); simp only [go_sem, st0, Tryz.ntmps200]
 refine aD ?_
 exact aA ⟨⟨_, rfl, by simp only [go_sem, gtD]⟩, trivial⟩
theorem b0K (d : List TDir) (x : TDir) (h : aP d + wDir x ≤ 4200000) : FnC Tryz.prog 137 [.o (.d (.sl (d.map aM))), wQ x] (.t [(false, [.w 93 2 ((jQ d x).map aM)]), (false, [.d (bv (mJ d x))])]) := by
 have hl : d.length ≤ 4200000 := by unfold aP at h; omega
 have hq0 : x.fQuery.length ≤ wDir x := by unfold wDir bQ; omega
 have hq : x.fQuery.length ≤ 4300000 := by omega
 have hw := a7A d x
 have hv2 := gH (setAt d x) (by omega)
 have ha := a1q d x.fName (by omega)
 refine ent Tryz.func137 rfl Tryz.call137 rfl (fun C => ?_); simp only [go_sem, st0, Tryz.ntmps137]
 rcases placeD_fst d x.fName with ⟨e1, e2⟩ | ⟨e1, e2⟩
 ·rw [e1] at ha
  have es : setAt d x = insAt (fstIx (gtD x.fName) d) x d := by unfold setAt; rw [if_neg (by omega)]
  rw [es] at hv2 hw
  have hx := idxP_fst (gtD x.fName) d 0
  have hle := tQ (gtD x.fName) d
  have hz : ¬ (0 : Int) ≤ -1 := by omega
  have hf := wN _ (aM x) (gtD x.fName) d (fun y _ => b0J x y) (by omega)
  have hj := a7G (d.map aM) (aM x) (fstIx (gtD x.fName) d) (by simpa using hle) (by simp; omega)
  have hmm : (d.map aM).take (fstIx (gtD x.fName) d) ++ aM x :: (d.map aM).drop (fstIx (gtD x.fName) d) = (insAt (fstIx (gtD x.fName) d) x d).map aM := by simp [insAt]
  rw [hmm] at hj
  clear hmm
  have eOK : mJ d x = (bI d && bI (insAt (fstIx (gtD x.fName) d) x d)) := by unfold mJ; rw [es]
  have eD : jQ d x = if mJ d x then insAt (fstIx (gtD x.fName) d) x d else d := by unfold jQ; rw [es]
  clear es
  rcases hx with ⟨_, h3, h4⟩ | ⟨h3, h4⟩
  ·have hm : (-1 : Int) < 0 := by omega
   rw [h3] at hf
   rw [h4] at hj hv2 hw eOK eD
   clear h3 h4
   generalize insAt d.length x d = G at *
   cases h1 : bI d <;> cases h2 : bI G
   all_goals
    have qH := aI @h1 (aI @h2 (aI @hz (aI @hm (aI @decide_true @decide_false)))); repeat' (with_reducible first | refine nY ?_ | (refine mX ?_; try simp only [go_sem, qH]) | refine kD ?_ | refine rD ?_ | refine cP (lI d (by omega)) ?_ | refine cP ha ?_ | refine cP (a1m x hq) ?_ | refine cP (gH d (by omega)) ?_ | refine vL hv2 ?_ | refine cP hf ?_ | refine vK hj ?_ | refine aO ?_ | fail)
    exact aA ⟨⟨_, rfl, by simp only [go_sem, eOK, eD, h1, h2, Bool.true_and, Bool.false_and, Bool.and_false, if_true, Bool.false_eq_true, if_false]; try simp⟩, by simp [aK]⟩
  ·rw [Nat.zero_add] at h3
   have hm : ¬ ((fstIx (gtD x.fName) d : Nat) : Int) < 0 := by omega
   rw [h3] at hf
   clear h3
   generalize insAt (fstIx (gtD x.fName) d) x d = G at *
   generalize fstIx (gtD x.fName) d = p at *
   cases h1 : bI d <;> cases h2 : bI G
   all_goals
    have qH := aI @h1 (aI @h2 (aI @hz (aI @hm (aI @decide_true @decide_false)))); repeat' (with_reducible first | refine nY ?_ | (refine mX ?_; try simp only [go_sem, qH]) | refine kD ?_ | refine rD ?_ | refine cP (lI d (by omega)) ?_ | refine cP ha ?_ | refine cP (a1m x hq) ?_ | refine cP (gH d (by omega)) ?_ | refine vL hv2 ?_ | refine cP hf ?_ | refine vK hj ?_ | refine aO ?_ | fail)
    exact aA ⟨⟨_, rfl, by simp only [go_sem, eOK, eD, h1, h2, Bool.true_and, Bool.false_and, Bool.and_false, if_true, Bool.false_eq_true, if_false]; try simp⟩, by simp [aK]⟩
 ·rw [e1] at ha
  have hz : (0 : Int) ≤ ((fstIx (eqD x.fName) d : Nat) : Int) := by omega
  have es : setAt d x = d.set (fstIx (eqD x.fName) d) x := by unfold setAt; rw [if_pos (by omega)]
  rw [es] at hv2 hw
  have eOK : mJ d x = (bI d && bI (d.set (fstIx (eqD x.fName) d) x)) := by unfold mJ; rw [es]
  have eD : jQ d x = if mJ d x then d.set (fstIx (eqD x.fName) d) x else d := by unfold jQ; rw [es]
  have eG : (d.map aM).set (fstIx (eqD x.fName) d) [.v (.string x.fName), .sl (x.fQuery.map aW)] = (d.set (fstIx (eqD x.fName) d) x).map aM := by simp [aM]
  generalize fstIx (eqD x.fName) d = p at *
  generalize hG : d.set p x = G at *
  cases h1 : bI d <;> cases h2 : bI G
  all_goals
   have qH := aI @h1 (aI @h2 (aI @hz (aI @e2 (aI @eG (aI @decide_true (aI @Int.toNat_natCast @a6W)))))); repeat' (with_reducible first | refine nY ?_ | (refine mX ?_; try simp only [go_sem, qH]) | refine kD ?_ | refine rD ?_ | refine cP (lI d (by omega)) ?_ | refine cP ha ?_ | refine cP (a1m x hq) ?_ | refine cP (gH d (by omega)) ?_ | refine vL hv2 ?_ | refine aO ?_ | fail)
   exact aA ⟨⟨_, rfl, by simp only [go_sem, eOK, eD, h1, h2, Bool.true_and, Bool.false_and, Bool.and_false, if_true, Bool.false_eq_true, if_false]; try simp⟩, by simp [aK]⟩
def stD (x : TDir) (d : List TDir) (k : Nat) : List TDir × Bool := (d.take k).foldl (mK x) ([], false)
theorem b5j (x : TDir) (d : List TDir) (k : Nat) (h : k < d.length) : stD x d (k + 1) = mK x (stD x d k) d[k] := by
 unfold stD
 rw [List.take_succ_eq_append_getElem h, List.foldl_append]; rfl
theorem b6G (x : TDir) (d : List TDir) (k : Nat) : (stD x d k).1.length ≤ d.length + 1 := by
 have h := b3o x (d.take k) ([], false)
 unfold stD
 simp only [List.length_nil, List.length_take, Bool.false_eq_true, if_false] at h
 omega
theorem b0L (d : List TDir) (x : TDir) (h : aP d + wDir x ≤ 4200000) : FnC Tryz.prog 133 [.o (.d (.sl (d.map aM))), wQ x] (.t [(false, [.w 93 2 ((jQ d x).map aM)]), (false, [.d (bv (mJ d x))])]) := by
 have hl : d.length ≤ 4200000 := by unfold aP at h; omega
 have hw := a7A d x
 have hv2 := iK (setAt d x) (by omega)
 have hcp := nS (setAt d x) (by omega)
 refine ent Tryz.func133 rfl Tryz.call133 rfl (fun C => ?_); simp only [go_sem, st0, Tryz.ntmps133]
 cases h1 : bI d
 ·have e : mJ d x = false := by simp [mJ, h1]
  have q0 := @h1; refine a3Q (nS d (by omega)) (iK d (by omega)) ?_
  exact aA ⟨⟨_, rfl, by simp only [go_sem, jQ, e]; try simp⟩, by simp [aK]⟩
 have q0 := @h1; refine fE (iK d (by omega)) ?_
 refine b0h 1 rfl ?_
 simp only [go_sem]
 refine aN (α := Nat) (fun k => [(6, .o (.s 1)), (7, ob (stD x d k).2), (8, oi k), (14, .o .u)]) (fun k => [(1, .row 93 2 ((stD x d k).1.map aM) false)]) (fun k => k ≤ d.length) (fun k => d.length - k) 0 (fun _ => ?_) ?_ ?_ (fun k hk => ?_)
 ·simp only [go_sem]
 ·simp only [go_sem]; simp [stD]
 ·simp
 ·simp only [go_sem]
  have hlen := b6G x d k
  refine aD ?_
  refine cnd rfl (fun h2 => ?_) (fun h2 => ?_)
  ·simp only [decide_eq_true_eq, Int.ofNat_lt] at h2
   have hst := b5j x d k h2
   generalize stD x d k = a at *
   obtain ⟨o, pt⟩ := a
   simp only at hlen
   cases pt <;> cases hb : gB d[k].fName x.fName <;> cases hn : decide (d[k].fName = x.fName)
   all_goals
    have hn2 := hn
    simp only [decide_eq_true_eq, decide_eq_false_iff_not] at hn2
    have q0 := @h2; have q1 := @hb; have q2 := @hn; have q3 := @a3P; have q4 := @a6W; have q5 := @b8M; have q6 := @b9J; refine a6Y ?_
    refine aF (k + 1) ?_ ?_ ?_
    ·simp only [go_sem, hst, mK, hb]; simp [hn2, aM]
    ·omega
    ·omega
  ·simp only [decide_eq_false_iff_not] at h2
   have ek : k = d.length := by omega
   subst ek
   have hfin := b0M x h1
   have hs0 : stD x d d.length = d.foldl (mK x) ([], false) := by unfold stD; rw [List.take_length]
   rw [← hs0] at hfin
   generalize stD x d d.length = a at *
   obtain ⟨o, pt⟩ := a
   have eOK : mJ d x = bI (setAt d x) := by unfold mJ; rw [h1]; rfl
   have eD : jQ d x = if bI (setAt d x) then setAt d x else d := by unfold jQ; rw [eOK]
   simp only at hlen
   cases pt
   ·have hf2 : o ++ [x] = setAt d x := hfin
    have hmap : List.map aM o ++ [[.v (.string x.fName), .sl (List.map aW x.fQuery)]] = (setAt d x).map aM := by rw [← hf2]; simp [aM]
    generalize setAt d x = G at *
    cases h3 : bI G
    all_goals
     have qH := aI @h3 (aI @hmap (aI @a3P @a6W)); repeat' (with_reducible first | refine nY ?_ | (refine mX ?_; try simp only [go_sem, qH]) | refine kD ?_ | refine rD ?_ | refine vL hv2 ?_ | refine cP hcp ?_ | refine cP (nS d (by omega)) ?_ | refine aO ?_ | fail)
     exact aA ⟨⟨_, rfl, by simp only [go_sem, eOK, eD, h3, if_true, Bool.false_eq_true, if_false]; try simp⟩, by simp [aK]⟩
   ·have hf2 : o = setAt d x := hfin
    subst hf2
    generalize setAt d x = G at *
    cases h3 : bI G
    all_goals
     have qH := @h3; repeat' (with_reducible first | refine nY ?_ | (refine mX ?_; try simp only [go_sem, qH]) | refine kD ?_ | refine rD ?_ | refine vL hv2 ?_ | refine cP hcp ?_ | refine cP (nS d (by omega)) ?_ | refine aO ?_ | fail)
     exact aA ⟨⟨_, rfl, by simp only [go_sem, eOK, eD, h3, if_true, Bool.false_eq_true, if_false]; try simp⟩, by simp [aK]⟩
end Go.Proofs.YtddimbdeggomaaaGreat
end
section
set_option maxRecDepth 100000
set_option maxHeartbeats 4000000
namespace Go.Proofs.YtddimbdeggomaaaGreat
open Go Go.Sx Go.RowKit Go.Proofs
def isA (n : TNode) : Bool := decide (2 ≤ n.fOp) && decide (n.fOp ≤ 4)
def qA (q : List TNode) : List ByteArray := (q.filter isA).map TNode.fName
theorem a4X (q : List TNode) : (qA q).length ≤ q.length := by simp only [qA, List.length_map]; exact List.length_filter_le _ _
theorem b2d (q : List TNode) (k : Nat) (h : k < q.length) : qA (q.take (k + 1)) = qA (q.take k) ++ (if isA q[k] then [q[k].fName] else []) := by
 simp only [qA, List.take_succ_eq_append_getElem h, List.filter_append, List.map_append, List.filter_cons, List.filter_nil]
 cases isA q[k] <;> rfl
theorem b3A (q : List TNode) (hl : q.length ≤ 4300000) : FnC Tryz.prog 260 [.o (.d (.sl (q.map aW)))] (.o (.w 9 1 ((putL (qA q)).map bW))) := by
 refine ent Tryz.func260 rfl Tryz.call260 rfl (fun C => ?_); simp only [go_sem, st0, Tryz.ntmps260]
 refine aD ?_
 refine wC 3 0 rfl rfl ?_
 simp only [go_sem]
 refine aN (α := Nat) (fun k => [(3, .o (.d (.sl ((putL (qA (q.take k))).map bW)))), (4, oi k), (5, .o .u)]) (fun _ => []) (fun k => k ≤ q.length) (fun k => q.length - k) 0 (fun _ => ?_) ?_ ?_ (fun k hk => ?_)
 ·simp only [go_sem]
 ·simp only [go_sem]; simp [qA, putL]
 ·simp
 ·simp only [go_sem]
  refine aD ?_
  have hlen : (putL (qA (q.take k))).length ≤ 4300000 := by have h1 := jA (qA (q.take k)); have h2 := a4X (q.take k); simp at h2; omega
  refine cnd rfl (fun h1 => ?_) (fun h1 => ?_)
  ·simp only [decide_eq_true_eq, Int.ofNat_lt] at h1
   have ht := b2d q k h1
   have q0 := @h1; refine fE (show FnC Tryz.prog _ _ (ob (isA q[k])) from bA q[k].fOp 2 4) ?_
   refine cnd rfl (fun hv => ?_) (fun hv => ?_)
   ·rw [hv] at ht
    simp only [if_true] at ht
    have q0 := @h1; refine fE (oO (putL (qA (q.take k))) q[k].fName hlen) ?_
    refine aF (k + 1) ?_ ?_ ?_
    ·simp only [go_sem, ht, yD]; simp
    ·omega
    ·omega
   ·rw [hv] at ht
    simp only [Bool.false_eq_true, if_false, List.append_nil] at ht
    have q0 := @h1; refine gF ?_
    refine aF (k + 1) ?_ ?_ ?_
    ·simp only [go_sem, ht]; simp
    ·omega
    ·omega
  ·simp only [decide_eq_false_iff_not] at h1
   have e : k = q.length := by omega
   subst e
   rw [List.take_length] at *
   refine aD ?_
   exact aA ⟨⟨_, rfl, by simp only [go_sem, List.take_length]⟩, trivial⟩
theorem b3B (q : List TNode) (hl : q.length ≤ 4300000) : FnC Tryz.prog 262 [.o (.d (.sl (q.map aW)))] (.o (.w 9 1 ((eQ (qA q)).map bW))) := by
 refine ent Tryz.func262 rfl Tryz.call262 rfl (fun C => ?_); simp only [go_sem, st0, Tryz.ntmps262]
 refine aD ?_
 refine aN (α := Nat) (fun k => [(3, .o (.s 0)), (6, .o .u), (9, oi k)]) (fun k => [(0, .row 9 1 ((qA (q.take k)).map bW) true)]) (fun k => k ≤ q.length) (fun k => q.length - k) 0 (fun _ => ?_) ?_ ?_ (fun k hk => ?_)
 ·simp only [go_sem]
 ·simp only [go_sem]; simp [qA]
 ·simp
 ·simp only [go_sem]
  refine aD ?_
  have hlen : (qA (q.take k)).length ≤ 4300000 := by have h2 := a4X (q.take k); simp at h2; omega
  refine cnd rfl (fun h1 => ?_) (fun h1 => ?_)
  ·simp only [decide_eq_true_eq, Int.ofNat_lt] at h1
   have ht := b2d q k h1
   have hl1 : (qA (q.take k)).length + 1 ≤ 140737488355328 := by omega
   have hl2 : ((qA (q.take k)).length + 1) * 16 ≤ 140737488355328 := by omega
   by_cases c2 : q[k].fOp = 2
   ·rw [if_pos (by simp [isA, c2])] at ht
    have q0 := @h1; have q1 := @c2; have q2 := @decide_true; refine mG ?_
    refine aF (k + 1) ?_ ?_ ?_
    ·simp only [go_sem, ht, List.map_append]; simp
    ·omega
    ·omega
   by_cases c3 : q[k].fOp = 3
   ·rw [if_pos (by simp [isA, c3])] at ht
    have q0 := @h1; have q1 := @c2; have q2 := @c3; have q3 := @decide_true; have q4 := @decide_false; refine a0M ?_
    refine aF (k + 1) ?_ ?_ ?_
    ·simp only [go_sem, ht, List.map_append]; simp
    ·omega
    ·omega
   by_cases c4 : q[k].fOp = 4
   ·rw [if_pos (by simp [isA, c4])] at ht
    have q0 := @h1; have q1 := @c2; have q2 := @c3; have q3 := @c4; have q4 := @decide_true; have q5 := @decide_false; refine b4s ?_
    refine aF (k + 1) ?_ ?_ ?_
    ·simp only [go_sem, ht, List.map_append]; simp
    ·omega
    ·omega
   ·rw [if_neg (by simp only [isA, Bool.and_eq_true, decide_eq_true_eq]; omega), List.append_nil] at ht
    have q0 := @h1; have q1 := @c2; have q2 := @c3; have q3 := @c4; have q4 := @decide_true; have q5 := @decide_false; refine b4s ?_
    refine aF (k + 1) ?_ ?_ ?_
    ·simp only [go_sem, ht]; simp
    ·omega
    ·omega
  ·simp only [decide_eq_false_iff_not] at h1
   have e : k = q.length := by omega
   subst e
   rw [List.take_length] at *
   refine gP (kS (qA q) hlen) ?_
   exact aA ⟨⟨_, rfl, by simp only [go_sem, List.take_length]⟩, trivial⟩
def qN (q : List TNode) : Bool := q.any fun n => decide (n.fOp = 9)
theorem b1e (q : List TNode) (k : Nat) (h : k < q.length) : qN (q.drop k) = (decide (q[k].fOp = 9) || qN (q.drop (k + 1))) := by rw [List.drop_eq_getElem_cons h]; rfl
theorem zT (q : List TNode) (hl : q.length ≤ 4300000) : FnC Tryz.prog 259 [.o (.d (.sl (q.map aW)))] (ob (qN q)) := by
 refine ent Tryz.func259 rfl Tryz.call259 rfl (fun C => ?_); simp only [go_sem, st0, Tryz.ntmps259]
 refine aD ?_
 refine aN (α := Nat) (fun k => [(3, oi k)]) (fun k => []) (fun k => k ≤ q.length ∧ qN (q.drop k) = qN q) (fun k => q.length - k) 0 (fun _ => ?_) ?_ ?_ (fun k hk => ?_)
 ·simp only [go_sem]
 ·simp only [go_sem]; try simp
 ·simp
 ·simp only [go_sem]
  obtain ⟨hk, hg⟩ := hk
  refine aD ?_
  refine cnd rfl (fun h1 => ?_) (fun h1 => ?_)
  ·simp only [decide_eq_true_eq, Int.ofNat_lt] at h1
   have hd := b1e q k h1
   rw [hg] at hd
   by_cases hv : q[k].fOp = 9
   ·have hd' : qN q = true := by rw [hd, hv]; simp
    have q0 := @h1; have q1 := @hv; have q2 := @decide_true; refine mG ?_
    exact aA ⟨⟨_, rfl, by simp only [go_sem, hd']⟩, trivial⟩
   ·have q0 := @h1; have q1 := @hv; have q2 := @decide_false; refine mG ?_
    refine aF (k + 1) ?_ ?_ ?_
    ·simp only [go_sem]; try simp
    ·exact ⟨by omega, by rw [hd]; simp [hv]⟩
    ·omega
  ·simp only [decide_eq_false_iff_not] at h1
   have e : k = q.length := by omega
   subst e
   have hn : qN q = false := by rw [← hg, List.drop_length]; rfl
   refine aD ?_
   exact aA ⟨⟨_, rfl, by simp only [go_sem, hn]⟩, trivial⟩
theorem b6N (attrs : List ByteArray) (s : ByteArray) (hl : attrs.length ≤ 4300000) : FnC Tryz.prog 264 [os s, .o (.q [.sl (attrs.map bW)])] (ob (hasS attrs s)) := by
 refine ent Tryz.func264 rfl Tryz.call264 rfl (fun C => ?_); simp only [go_sem, st0, Tryz.ntmps264]
 refine gP (eU attrs s hl) ?_
 exact aA ⟨⟨_, rfl, by simp only [go_sem]⟩, trivial⟩
theorem b6O (n : TNode) : FnC Tryz.prog 266 [wM n] (ob (decide (n.fOp = 9))) := by
 refine ent Tryz.func266 rfl Tryz.call266 rfl (fun C => ?_); simp only [go_sem, st0, Tryz.ntmps266]
 refine aD ?_
 exact aA ⟨⟨_, rfl, by simp only [go_sem]⟩, trivial⟩
theorem a1C (f : Nat) (p : TNode → Bool) (l : List TNode) (hf : ∀ s ∈ l, FnC Tryz.prog f [wM s] (ob (p s))) (hl : l.length ≤ 8388608) : FnC Tryz.prog 300 [.o (.d (.sl (l.map aW))), .o (.f f [])] (oi (dV p l 0)) := by
 refine ent Tryz.func300 rfl Tryz.call300 rfl (fun C => ?_); simp only [go_sem, st0, Tryz.ntmps300]
 refine aD ?_
 refine aN (α := Nat) (fun k => [(8, oi k)]) (fun _ => []) (fun k => k ≤ l.length ∧ dV p l 0 = dV p (l.drop k) k) (fun k => l.length - k) 0 (fun _ => ?_) ?_ ?_ (fun k hk => ?_)
 ·simp only [go_sem]
 ·simp only [go_sem]; simp
 ·simp
 ·obtain ⟨hk, hq⟩ := hk
  simp only [go_sem]
  refine aD ?_
  refine cnd rfl (fun h => ?_) (fun h => ?_)
  ·simp only [decide_eq_true_eq, Int.ofNat_lt] at h
   have hd := List.drop_eq_getElem_cons h
   rw [hd, dV] at hq
   have q0 := @h; refine fE (hf l[k] (List.getElem_mem h)) ?_
   refine cnd rfl (fun h2 => ?_) (fun h2 => ?_)
   ·refine aD ?_
    exact aA ⟨⟨_, rfl, by simp only [go_sem, hq, h2]⟩, trivial⟩
   ·refine aD ?_
    refine aF (k + 1) ?_ ?_ ?_
    ·simp only [go_sem]; simp
    ·rw [hq, h2]; exact ⟨h, by simp⟩
    ·omega
  ·simp only [decide_eq_false_iff_not] at h
   have e : k = l.length := by omega
   subst e
   simp only [List.drop_length, dV] at hq
   refine aD ?_
   exact aA ⟨⟨_, rfl, by simp only [go_sem, hq]⟩, trivial⟩
theorem yJ (f : Nat) (p : TNode → Bool) (l : List TNode) (hf : ∀ s ∈ l, FnC Tryz.prog f [wM s] (ob (p s))) (hl : l.length ≤ 8388608) : FnC Tryz.prog 265 [.o (.d (.sl (l.map aW))), .o (.f f [])] (ob (l.any p)) := by
 refine ent Tryz.func265 rfl Tryz.call265 rfl (fun C => ?_); simp only [go_sem, st0, Tryz.ntmps265]
 refine gP (a1C f p l hf hl) ?_
 exact aA ⟨⟨_, rfl, by simp only [go_sem, xO]⟩, trivial⟩
theorem a2i (f : Nat) (c : List D) (p : ByteArray → Bool) (l : List ByteArray) (hf : ∀ s ∈ l, FnC Tryz.prog f [os s, .o (.q c)] (ob (p s))) (hl : l.length ≤ 4300000) : FnC Tryz.prog 263 [.o (.d (.sl (l.map bW))), .o (.f f [c])] (ob (l.any p)) := by
 refine ent Tryz.func263 rfl Tryz.call263 rfl (fun C => ?_); simp only [go_sem, st0, Tryz.ntmps263]
 refine gP (a5m f c p l hf hl) ?_
 exact aA ⟨⟨_, rfl, by simp only [go_sem, xO]⟩, trivial⟩
theorem wJ (q : List TNode) (hl : q.length ≤ 4300000) : FnC Tryz.prog 262 [.o (.d (.sl (q.map aW)))] (.o (.d (.sl ((eQ (qA q)).map bW)))) := (b3B q hl).pu (by simp only [go_sem, and_self])
theorem a4Y (q : List TNode) (hl : q.length ≤ 4300000) : FnC Tryz.prog 260 [.o (.d (.sl (q.map aW)))] (.o (.d (.sl ((putL (qA q)).map bW)))) := (b3A q hl).pu (by simp only [go_sem, and_self])
theorem a2U (a b : TFile) (h : wFile a + wFile b ≤ 4300000) : FnC Tryz.prog 261 [dC a, dC b] (.o (.d (.sl ((eQ (chg a b)).map bW)))) := (a4G a b h).pu (by simp only [go_sem, and_self])
theorem a2V (a b : TFile) (h : wFile a + wFile b ≤ 4300000) : FnC Tryz.prog 258 [dC a, dC b] (.o (.d (.sl ((putL (chg a b)).map bW)))) := (a4H a b h).pu (by simp only [go_sem, and_self])
def b3C (ch qa : List ByteArray) : Bool := qa.any (hasS ch)
theorem b5t (ch qa : List ByteArray) : (eQ ch).any (hasS (eQ qa)) = b3C ch qa := by
 rw [Bool.eq_iff_iff]
 simp only [b3C, List.any_eq_true, jZ, mZ]
 constructor <;> rintro ⟨x, h1, h2⟩ <;> exact ⟨x, h2, h1⟩
theorem a9v (ch qa : List ByteArray) : (putL qa).any (hasS (putL ch)) = b3C ch qa := by
 rw [Bool.eq_iff_iff]
 simp only [b3C, List.any_eq_true, jZ, nV]
def affB (a b : TFile) (d : TDir) : Bool := b3C (chg a b) (qA d.fQuery) || (qN d.fQuery && !decide (a.fLink = b.fLink))
def sF (a b : TFile) (l : List TDir) : List ByteArray := (l.filter (affB a b)).map TDir.fName
def a1D (a b : TFile) (l : List TDir) : List ByteArray := if a.fID = b.fID then sF a b l else dirNs l
theorem a4Z (a b : TFile) (l : List TDir) : (sF a b l).length ≤ l.length := by simp only [sF, List.length_map]; exact List.length_filter_le _ _
theorem a2j (a b : TFile) (l : List TDir) (k : Nat) (h : k < l.length) : sF a b (l.take (k + 1)) = sF a b (l.take k) ++ (if affB a b l[k] then [l[k].fName] else []) := by
 simp only [sF, List.take_succ_eq_append_getElem h, List.filter_append, List.map_append, List.filter_cons, List.filter_nil]
 cases affB a b l[k] <;> rfl
theorem a9w (l : List TDir) (k : Nat) (h : k < l.length) : l[k].fQuery.length ≤ aP l := by
 have h1 := bC wDir l h
 have h2 : l[k].fQuery.length ≤ wDir l[k] := by unfold wDir bQ; omega
 unfold aP
 omega
theorem b2e (a b : TFile) (h : wFile a + wFile b ≤ 4300000) : (chg a b).length ≤ 4300000 := by
 have h1 := a7t a b (attrNs a.fAttrs ++ attrNs b.fAttrs)
 rw [List.length_append, iR, iR] at h1
 unfold wFile eB at h
 unfold chg; omega
theorem a5v (l : List TDir) (a b : TFile) (h : aP l + (wFile a + wFile b) ≤ 4300000) : FnC Tryz.prog 193 [.o (.d (.sl (l.map aM))), dC a, dC b] (.o (.w 9 1 ((a1D a b l).map bW))) := by
 have hl : l.length ≤ 4300000 := by unfold aP at h; omega
 have hch := b2e a b (by omega)
 refine ent Tryz.func193 rfl Tryz.call193 rfl (fun C => ?_); simp only [go_sem, st0, Tryz.ntmps193]
 by_cases hid : a.fID = b.fID
 case neg =>
  have hid' : decide (a.fID = b.fID) = false := by simp [hid]
  have q0 := @hid'; refine fE (rA l hl) ?_
  exact aA ⟨⟨_, rfl, by simp only [go_sem, a1D, hid, if_false]⟩, trivial⟩
 have hid' : decide (a.fID = b.fID) = true := by simp [hid]
 have q0 := @hid'; refine fE (a2U a b (by omega)) ?_
 refine aN (α := Nat) (fun k => [(8, .o (.s 2)), (24, .o .u), (27, oi k)]) (fun k => [(2, .row 9 1 ((sF a b (l.take k)).map bW) true)]) (fun k => k ≤ l.length) (fun k => l.length - k) 0 (fun _ => ?_) ?_ ?_ (fun k hk => ?_)
 ·simp only [go_sem]
 ·simp only [go_sem]; simp [sF]
 ·simp
 ·simp only [go_sem]
  refine aD ?_
  have hlen : (sF a b (l.take k)).length ≤ 4300000 := by have h2 := a4Z a b (l.take k); simp at h2; omega
  refine cnd rfl (fun h1 => ?_) (fun h1 => ?_)
  ·simp only [decide_eq_true_eq, Int.ofNat_lt] at h1
   have ht := a2j a b l k h1
   have hq := a9w l k h1
   have hqa := uF (qA l[k].fQuery)
   have hqb := a4X l[k].fQuery
   have hl1 : (sF a b (l.take k)).length + 1 ≤ 140737488355328 := by omega
   have hl2 : ((sF a b (l.take k)).length + 1) * 16 ≤ 140737488355328 := by omega
   have hc := a2i 264 [.sl ((eQ (qA l[k].fQuery)).map bW)] (hasS (eQ (qA l[k].fQuery))) (eQ (chg a b)) (fun s _ => b6N _ s (by omega)) (by have := uF (chg a b); omega)
   rw [b5t] at hc
   have hn := yJ 266 (fun n => decide (n.fOp = 9)) l[k].fQuery (fun n _ => b6O n) (by omega)
   have hn : FnC Tryz.prog _ _ (ob (qN l[k].fQuery)) := hn
   cases hh : b3C (chg a b) (qA l[k].fQuery)
   case true =>
    rw [if_pos (by simp [affB, hh])] at ht
    have q0 := @h1; have q1 := @hh; refine a8y (wJ l[k].fQuery (by omega)) hc hn ?_
    refine aF (k + 1) ?_ ?_ ?_
    ·simp only [go_sem, ht, List.map_append]; simp
    ·omega
    ·omega
   cases hL : qN l[k].fQuery
   case false =>
    rw [if_neg (by simp [affB, hh, hL]), List.append_nil] at ht
    have q0 := @h1; have q1 := @hh; have q2 := @hL; refine a8z (wJ l[k].fQuery (by omega)) hc hn ?_
    refine aF (k + 1) ?_ ?_ ?_
    ·simp only [go_sem, ht]; simp
    ·omega
    ·omega
   by_cases hk2 : a.fLink = b.fLink
   ·rw [if_neg (by simp [affB, hh, hL, hk2]), List.append_nil] at ht
    have hk' : decide (a.fLink = b.fLink) = true := by simp [hk2]
    have q0 := @h1; have q1 := @hh; have q2 := @hL; have q3 := @hk'; refine b8O (wJ l[k].fQuery (by omega)) hc hn ?_
    refine aF (k + 1) ?_ ?_ ?_
    ·simp only [go_sem, ht]; simp
    ·omega
    ·omega
   ·rw [if_pos (by simp [affB, hh, hL, hk2])] at ht
    have hk' : decide (a.fLink = b.fLink) = false := by simp [hk2]
    have q0 := @h1; have q1 := @hh; have q2 := @hL; have q3 := @hk'; refine b8O (wJ l[k].fQuery (by omega)) hc hn ?_
    refine aF (k + 1) ?_ ?_ ?_
    ·simp only [go_sem, ht, List.map_append]; simp
    ·omega
    ·omega
  ·simp only [decide_eq_false_iff_not] at h1
   have e : k = l.length := by omega
   subst e
   rw [List.take_length] at *
   refine aD ?_
   exact aA ⟨⟨_, rfl, by simp only [go_sem, List.take_length, a1D, hid, if_true]⟩, trivial⟩
theorem a5w (l : List TDir) (a b : TFile) (h : aP l + (wFile a + wFile b) ≤ 4300000) : FnC Tryz.prog 192 [.o (.d (.sl (l.map aM))), dC a, dC b] (.o (.w 9 1 ((a1D a b l).map bW))) := by
 have hl : l.length ≤ 4300000 := by unfold aP at h; omega
 have hch := b2e a b (by omega)
 have hpl : (putL (chg a b)).length ≤ 4300000 := by have := jA (chg a b); omega
 refine ent Tryz.func192 rfl Tryz.call192 rfl (fun C => ?_); simp only [go_sem, st0, Tryz.ntmps192]
 by_cases hid : a.fID = b.fID
 case neg =>
  have hid' : decide (a.fID = b.fID) = false := by simp [hid]
  have q0 := @hid'; refine fE (wO l hl) ?_
  exact aA ⟨⟨_, rfl, by simp only [go_sem, a1D, hid, if_false]⟩, trivial⟩
 have hid' : decide (a.fID = b.fID) = true := by simp [hid]
 have q0 := @hid'; refine fE (a2V a b (by omega)) ?_
 by_cases hk2 : a.fLink = b.fLink
 ·have hk' : decide (a.fLink = b.fLink) = true := by simp [hk2]
  refine aN (α := Nat) (fun k => [(7, .o (.s 2)), (9, oi k), (20, .o .u)]) (fun k => [(2, .row 9 1 ((sF a b (l.take k)).map bW) true)]) (fun k => k ≤ l.length) (fun k => l.length - k) 0 (fun _ => ?_) ?_ ?_ (fun k hk => ?_)
  ·simp only [go_sem]
  ·simp only [go_sem]; simp [sF]
  ·simp
  ·simp only [go_sem]
   refine aD ?_
   have hlen : (sF a b (l.take k)).length ≤ 4300000 := by have h2 := a4Z a b (l.take k); simp at h2; omega
   refine cnd rfl (fun h1 => ?_) (fun h1 => ?_)
   ·simp only [decide_eq_true_eq, Int.ofNat_lt] at h1
    have ht := a2j a b l k h1
    have hq := a9w l k h1
    have hqa := jA (qA l[k].fQuery)
    have hqb := a4X l[k].fQuery
    have hl1 : (sF a b (l.take k)).length + 1 ≤ 140737488355328 := by omega
    have hl2 : ((sF a b (l.take k)).length + 1) * 16 ≤ 140737488355328 := by omega
    have hhit : affB a b l[k] = ((putL (qA l[k].fQuery)).any (hasS (putL (chg a b)))) := by rw [a9v]; simp [affB, hk2, Bool.or_comm]
    have hQl : (putL (qA l[k].fQuery)).length ≤ 4300000 := by omega
    have q0 := @h1; have q1 := @hk'; refine xG (zT l[k].fQuery (by omega)) (a4Y l[k].fQuery (by omega)) ?_
    generalize putL (qA l[k].fQuery) = Q at *
    refine aN (α := Nat) (fun n => [(10, ob ((Q.take n).any (hasS (putL (chg a b))))), (12, oi n)]) (fun n => []) (fun n => n ≤ Q.length) (fun n => Q.length - n) 0 (fun _ => ?_) ?_ ?_ (fun n hn => ?_)
    ·simp only [go_sem]
    ·simp only [go_sem]; simp
    ·simp
    ·simp only [go_sem]
     refine aD ?_
     refine cnd rfl (fun h2 => ?_) (fun h2 => ?_)
     ·simp only [decide_eq_true_eq, Int.ofNat_lt] at h2
      have hv : ((Q.take (n + 1)).any (hasS (putL (chg a b)))) = (((Q.take n).any (hasS (putL (chg a b)))) || hasS (putL (chg a b)) Q[n]) := by rw [List.take_succ_eq_append_getElem h2, List.any_append]; simp [Bool.or_assoc]
      generalize ((Q.take n).any (hasS (putL (chg a b)))) = v at *
      cases v
      ·have q0 := @h2; refine fE (iA (putL (chg a b)) Q[n] hpl) ?_
       refine aF (n + 1) ?_ ?_ ?_
       ·simp only [go_sem, hv]; simp
       ·omega
       ·omega
      ·have q0 := @h2; refine fE (iA (putL (chg a b)) Q[n] hpl) ?_
       refine aF (n + 1) ?_ ?_ ?_
       ·simp only [go_sem, hv]; simp
       ·omega
       ·omega
     ·simp only [decide_eq_false_iff_not] at h2
      have e : n = Q.length := by omega
      subst e
      rw [List.take_length, ← hhit]
      refine aD ?_
      refine cnd (b := affB a b l[k]) rfl (fun hv => ?_) (fun hv => ?_)
      ·rw [if_pos hv] at ht
       have q0 := @h1; refine gF ?_
       refine aF (k + 1) ?_ ?_ ?_
       ·simp only [go_sem, ht, List.map_append]; simp
       ·omega
       ·omega
      ·rw [if_neg (by simp [hv]), List.append_nil] at ht
       have q0 := @h1; refine gF ?_
       refine aF (k + 1) ?_ ?_ ?_
       ·simp only [go_sem, ht]; simp
       ·omega
       ·omega
   ·simp only [decide_eq_false_iff_not] at h1
    have e : k = l.length := by omega
    subst e
    rw [List.take_length] at *
    refine aD ?_
    exact aA ⟨⟨_, rfl, by simp only [go_sem, List.take_length, a1D, hid, if_true]⟩, trivial⟩
 ·have hk' : decide (a.fLink = b.fLink) = false := by simp [hk2]
  refine aN (α := Nat) (fun k => [(7, .o (.s 2)), (9, oi k), (20, .o .u)]) (fun k => [(2, .row 9 1 ((sF a b (l.take k)).map bW) true)]) (fun k => k ≤ l.length) (fun k => l.length - k) 0 (fun _ => ?_) ?_ ?_ (fun k hk => ?_)
  ·simp only [go_sem]
  ·simp only [go_sem]; simp [sF]
  ·simp
  ·simp only [go_sem]
   refine aD ?_
   have hlen : (sF a b (l.take k)).length ≤ 4300000 := by have h2 := a4Z a b (l.take k); simp at h2; omega
   refine cnd rfl (fun h1 => ?_) (fun h1 => ?_)
   ·simp only [decide_eq_true_eq, Int.ofNat_lt] at h1
    have ht := a2j a b l k h1
    have hq := a9w l k h1
    have hqa := jA (qA l[k].fQuery)
    have hqb := a4X l[k].fQuery
    have hl1 : (sF a b (l.take k)).length + 1 ≤ 140737488355328 := by omega
    have hl2 : ((sF a b (l.take k)).length + 1) * 16 ≤ 140737488355328 := by omega
    have hhit : affB a b l[k] = (qN l[k].fQuery || (putL (qA l[k].fQuery)).any (hasS (putL (chg a b)))) := by rw [a9v]; simp [affB, hk2, Bool.or_comm]
    have hQl : (putL (qA l[k].fQuery)).length ≤ 4300000 := by omega
    have q0 := @h1; have q1 := @hk'; refine xG (zT l[k].fQuery (by omega)) (a4Y l[k].fQuery (by omega)) ?_
    generalize putL (qA l[k].fQuery) = Q at *
    refine aN (α := Nat) (fun n => [(10, ob (qN l[k].fQuery || (Q.take n).any (hasS (putL (chg a b))))), (12, oi n)]) (fun n => []) (fun n => n ≤ Q.length) (fun n => Q.length - n) 0 (fun _ => ?_) ?_ ?_ (fun n hn => ?_)
    ·simp only [go_sem]
    ·simp only [go_sem]; simp
    ·simp
    ·simp only [go_sem]
     refine aD ?_
     refine cnd rfl (fun h2 => ?_) (fun h2 => ?_)
     ·simp only [decide_eq_true_eq, Int.ofNat_lt] at h2
      have hv : (qN l[k].fQuery || (Q.take (n + 1)).any (hasS (putL (chg a b)))) = ((qN l[k].fQuery || (Q.take n).any (hasS (putL (chg a b)))) || hasS (putL (chg a b)) Q[n]) := by rw [List.take_succ_eq_append_getElem h2, List.any_append]; simp [Bool.or_assoc]
      generalize (qN l[k].fQuery || (Q.take n).any (hasS (putL (chg a b)))) = v at *
      cases v
      ·have q0 := @h2; refine fE (iA (putL (chg a b)) Q[n] hpl) ?_
       refine aF (n + 1) ?_ ?_ ?_
       ·simp only [go_sem, hv]; simp
       ·omega
       ·omega
      ·have q0 := @h2; refine fE (iA (putL (chg a b)) Q[n] hpl) ?_
       refine aF (n + 1) ?_ ?_ ?_
       ·simp only [go_sem, hv]; simp
       ·omega
       ·omega
     ·simp only [decide_eq_false_iff_not] at h2
      have e : n = Q.length := by omega
      subst e
      rw [List.take_length, ← hhit]
      refine aD ?_
      refine cnd (b := affB a b l[k]) rfl (fun hv => ?_) (fun hv => ?_)
      ·rw [if_pos hv] at ht
       have q0 := @h1; refine gF ?_
       refine aF (k + 1) ?_ ?_ ?_
       ·simp only [go_sem, ht, List.map_append]; simp
       ·omega
       ·omega
      ·rw [if_neg (by simp [hv]), List.append_nil] at ht
       have q0 := @h1; refine gF ?_
       refine aF (k + 1) ?_ ?_ ?_
       ·simp only [go_sem, ht]; simp
       ·omega
       ·omega
   ·simp only [decide_eq_false_iff_not] at h1
    have e : k = l.length := by omega
    subst e
    rw [List.take_length] at *
    refine aD ?_
    exact aA ⟨⟨_, rfl, by simp only [go_sem, List.take_length, a1D, hid, if_true]⟩, trivial⟩
theorem a5a (l : List TDir) (a b : TFile) (h : aP l + (wFile a + wFile b) ≤ 4300000) : FnC Tryz.prog 193 [.o (.d (.sl (l.map aM))), dC a, dC b] (.o (.d (.sl ((a1D a b l).map bW)))) := (a5v l a b h).pu (by simp only [go_sem, and_self])
theorem a5b (l : List TDir) (a b : TFile) (h : aP l + (wFile a + wFile b) ≤ 4300000) : FnC Tryz.prog 192 [.o (.d (.sl (l.map aM))), dC a, dC b] (.o (.d (.sl ((a1D a b l).map bW)))) := (a5w l a b h).pu (by simp only [go_sem, and_self])
end Go.Proofs.YtddimbdeggomaaaGreat
end
section
set_option maxRecDepth 100000
set_option maxHeartbeats 4000000
namespace Go.Proofs.YtddimbdeggomaaaGreat
open Go Go.Sx Go.RowKit Go.Proofs Go.Sx.Clos
def isD (n : TNode) : Bool := decide (8 ≤ n.fOp) && decide (n.fOp ≤ 9)
def qD (q : List TNode) : List ByteArray := (q.filter isD).map TNode.fName
theorem a7I (q : List TNode) : (qD q).length ≤ q.length := by simp only [qD, List.length_map]; exact List.length_filter_le _ _
theorem b2a (q : List TNode) (k : Nat) (h : k < q.length) : qD (q.take (k + 1)) = qD (q.take k) ++ (if isD q[k] then [q[k].fName] else []) := by
 simp only [qD, List.take_succ_eq_append_getElem h, List.filter_append, List.map_append, List.filter_cons, List.filter_nil]
 cases isD q[k] <;> rfl
def eD (l : List TDir) : List (ByteArray × List ByteArray) := l.map fun d => (d.fName, putL (qD d.fQuery))
theorem b8f (l : List TDir) : (eD l).length = l.length := by simp [eD]
def wS (s : ByteArray) : Nat := 1 + s.size
def pot (l : List TDir) (o : List ByteArray) : Nat := wsm wS o + kE wS (eD l) o
def nmD (l : List TDir) (y : ByteArray) : Prop := ∃ e ∈ eD l, e.1 = y
theorem b1b (l : List TDir) (d : TDir) (h : d ∈ l) : nmD l d.fName := ⟨_, List.mem_map.2 ⟨d, h, rfl⟩, rfl⟩
theorem a7J (a b : List ByteArray) : wsm wS (a ++ b) = wsm wS a + wsm wS b := by
 induction a with
 | nil => simp [wsm]
 | cons x a ih => simp only [List.cons_append, wsm, ih]; omega
theorem b5q (l : List ByteArray) : wsm wS l = pQ l := by
 unfold pQ
 induction l with
 | nil => simp [wsm, wsum]
 | cons x l ih => simp only [wsm, wsum, wS, List.length_cons, ih]; omega
theorem b6K (l : List ByteArray) : l.length ≤ wsm wS l := by rw [b5q]; unfold pQ; omega
theorem a1B (l : List TDir) (o : List ByteArray) : o.length ≤ pot l o := by have := b6K o; unfold pot; omega
theorem a9s (o : List ByteArray) (s : ByteArray) : wsm wS (putS o s) ≤ wsm wS o + wS s := by
 unfold putS
 split
 ·omega
 ·unfold insAt
  have h := congrArg (wsm wS) (List.take_append_drop (fstIx (geS s) o) o)
  rw [a7J] at h
  rw [a7J]
  simp only [wsm]
  omega
theorem b5r (o : List ByteArray) (s : ByteArray) (h : o.Pairwise ltS) (hs : s ∈ o) : putS o s = o :=
 yG qM zA (rG s h) h fun x => by
  rw [uG]
  constructor
  ·rintro (rfl | h)
   ·exact hs
   ·exact h
  ·exact .inr
def okS (l : List TDir) (B : Nat) (o : List ByteArray) : Prop := o.Pairwise ltS ∧ pot l o ≤ B
theorem a7K {l : List TDir} {B : Nat} (o : List ByteArray) (s : ByteArray) (h : okS l B o) (hs : nmD l s) : okS l B (putS o s) := by
 refine ⟨rG s h.1, Nat.le_trans ?_ h.2⟩
 by_cases hm : s ∈ o
 ·rw [b5r o s h.1 hm]; exact Nat.le_refl _
 ·have h1 := a9s o s
  have h2 := a2f wS (eD l) (S := o) (T := putS o s) (fun x hx => (uG o s x).2 (.inr hx)) hs ((uG o s s).2 (.inl rfl)) hm
  unfold pot; omega
theorem b3x (l : List ByteArray) : ∀ a : List ByteArray, wsm wS (l.foldl putS a) ≤ wsm wS a + wsm wS l := by
 induction l with
 | nil => intro a; simp [wsm]
 | cons y l ih =>
  intro a
  have h1 := ih (putS a y)
  have h2 := a9s a y
  simp only [List.foldl_cons, wsm]; omega
theorem b5s (l : List TDir) (names : List ByteArray) : okS l (pot l names) (putL names) := by
 refine ⟨a9n names, ?_⟩
 have h1 := b3x names []
 have h2 := a2G wS (eD l) (S := names) (T := putL names) (fun x hx => (nV names x).2 hx)
 simp only [wsm] at h1
 unfold pot putL at *
 omega
def rH (l : List TDir) (names : List ByteArray) (n : Nat) : List ByteArray := jL putS (eD l) n (putL names)
def tdS (l : List TDir) (names : List ByteArray) : List ByteArray := rH l names (l.length + 1)
theorem a0q (l : List TDir) (names : List ByteArray) (n : Nat) : okS l (pot l names) (rH l names n) :=
 a4Q (Nm := nmD l) (fun o s h hs => a7K o s h hs) (eD l) (fun e he => ⟨e, he, rfl⟩) (b5s l names) n
theorem b3y (l : List TDir) (B i : Nat) (S : List ByteArray) (h : okS l B S) : okS l B (round putS (eD (l.take i)) S) :=
 a6t (Nm := nmD l) (fun o s h hs => a7K o s h hs) (eD (l.take i)) (fun e he => by
  obtain ⟨d, hd, rfl⟩ := List.mem_map.1 he
  exact b1b l d (List.mem_of_mem_take hd)) S h
theorem b6L (l : List TDir) (B : Nat) (d : TDir) (hd : d ∈ l) (az S : List ByteArray) (h : okS l B S) : okS l B (askC putS d.fName S az) :=
 b1W (Nm := nmD l) (fun o s h hs => a7K o s h hs) d.fName (b1b l d hd) az S h
theorem b2b {l : List TDir} {B : Nat} {o : List ByteArray} (h : okS l B o) : o.length ≤ B := Nat.le_trans (a1B l o) h.2
theorem b1d (l : List TDir) (S : List ByteArray) (i : Nat) (h : i < l.length) : round putS (eD (l.take (i + 1))) S = askC putS l[i].fName (round putS (eD (l.take i)) S) (putL (qD l[i].fQuery)) := by
 simp only [round, eD, List.take_succ_eq_append_getElem h, List.map_append, List.map_cons, List.map_nil, List.foldl_append, List.foldl_cons, List.foldl_nil]
theorem b8g (n : ByteArray) (S Q : List ByteArray) (k : Nat) (h : k < Q.length) (hm : Q[k] ∈ askC putS n S (Q.take k)) : askC putS n S (Q.take (k + 1)) = putS (askC putS n S (Q.take k)) n := by
 unfold askC at *
 rw [List.take_succ_eq_append_getElem h, List.foldl_append, List.foldl_cons, List.foldl_nil, if_pos hm]
theorem b6M (n : ByteArray) (S Q : List ByteArray) (k : Nat) (h : k < Q.length) (hm : ¬ Q[k] ∈ askC putS n S (Q.take k)) : askC putS n S (Q.take (k + 1)) = askC putS n S (Q.take k) := by
 unfold askC at *
 rw [List.take_succ_eq_append_getElem h, List.foldl_append, List.foldl_cons, List.foldl_nil, if_neg hm]
def wI (l : List TDir) (s : ByteArray) : List ByteArray := (l.filter fun d => hasS (qD d.fQuery) s).map TDir.fName
theorem a9t (l : List TDir) (s y : ByteArray) : y ∈ wI l s ↔ ∃ d ∈ l, s ∈ qD d.fQuery ∧ d.fName = y := by
 unfold wI
 rw [List.mem_map]
 constructor
 ·rintro ⟨d, hd, rfl⟩
  rw [List.mem_filter] at hd
  exact ⟨d, hd.1, (jZ _ _).1 hd.2, rfl⟩
 ·rintro ⟨d, hd, hs, rfl⟩
  exact ⟨d, List.mem_filter.2 ⟨hd, (jZ _ _).2 hs⟩, rfl⟩
theorem a9u (l : List TDir) (s : ByteArray) : (wI l s).length ≤ l.length := by simp only [wI, List.length_map]; exact List.length_filter_le _ _
theorem b3z (l : List TDir) (s : ByteArray) (k : Nat) (h : k < l.length) : wI (l.take (k + 1)) s = wI (l.take k) s ++ (if hasS (qD l[k].fQuery) s then [l[k].fName] else []) := by
 simp only [wI, List.take_succ_eq_append_getElem h, List.filter_append, List.map_append, List.filter_cons, List.filter_nil]
 cases hasS (qD l[k].fQuery) s <;> rfl
structure Good (l : List TDir) (names o : List ByteArray) : Prop where
 ext : ∀ x ∈ names, x ∈ o
 least : ∀ T, Closed (eD l) T → (∀ x ∈ names, x ∈ T) → ∀ x ∈ o, x ∈ T
 le : pot l o ≤ pot l names
theorem Good.start (l : List TDir) (names : List ByteArray) : Good l names names := ⟨fun _ h => h, fun _ _ h => h, Nat.le_refl _⟩
theorem Good.add {l : List TDir} {names o : List ByteArray} (g : Good l names o) {x y : ByteArray} (hx : x ∈ o) (hy : y ∈ wI l x) (hn : ¬ y ∈ o) : Good l names (o ++ [y]) := by
 obtain ⟨d, hd, hq, rfl⟩ := (a9t l x y).1 hy
 refine ⟨fun z hz => List.mem_append_left _ (g.ext z hz), fun T hT h z hz => ?_, ?_⟩
 ·rcases List.mem_append.1 hz with h1 | h1
  ·exact g.least T hT h z h1
  ·simp only [List.mem_singleton] at h1
   subst h1
   exact hT _ (List.mem_map.2 ⟨d, hd, rfl⟩) ⟨x, (nV _ _).2 hq, g.least T hT h x hx⟩
 ·have h1 := a2f wS (eD l) (S := o) (T := o ++ [d.fName]) (fun z hz => List.mem_append_left _ hz) (b1b l d hd) (by simp) hn
  have h2 := g.le
  have h3 := a7J o [d.fName]
  simp only [wsm] at h3
  unfold pot at *
  omega
theorem Good.done {l : List TDir} {names o : List ByteArray} (g : Good l names o) (hc : ∀ x ∈ o, ∀ y ∈ wI l x, y ∈ o) : eQ o = tdS l names := by
 refine yG qM zA (a7C o) (a0q l names (l.length + 1)).1 fun x => ?_
 rw [mZ]
 have h := a9m (put := putS) uG (eD l) (S := putL names) (O := o) (fun x hx => g.ext x ((nV _ _).1 hx)) (fun e he hx => by
  obtain ⟨d, hd, rfl⟩ := List.mem_map.1 he
  obtain ⟨x, hx, ho⟩ := hx
  exact hc x ho _ ((a9t l x _).2 ⟨d, hd, (nV _ _).1 hx, rfl⟩)) (fun T hT hs => g.least T hT fun x hx => hs x ((nV _ _).2 hx)) x
 rw [b8f] at h
 exact h
end Go.Proofs.YtddimbdeggomaaaGreat
end
