/- Joined texts. -/
import Derived.Test.YtjkbipgmckeckaaZ08
import Derived.Test.YtjkbipgmckeckaaZ03
import Derived.Laws.IdiomCopy
import Derived.Deep.AppendSrc
import Derived.Shelf.RegionOpenPlain
import Derived.WalkKit
import Derived.Lib.Walk
import Derived.Lib.SliceRun
import Derived.Lib.JoinLaws
import Derived.Lib.AppendZeros
import Derived.Lib.AppendZerosOnto
import Derived.Lib.Overlaps
import Derived.Laws.Externs
import Derived.Laws.NewBlocks
import Derived.Shelf.Spec.SlicesInsertGrow
import Derived.Test.YtjkbipgmckeckaaZ06
set_option linter.all false
section
set_option maxRecDepth 100000
namespace Go.Sx
open Go Go.RowKit
theorem mM {P : Program} (w : World) (dT sT ty elem : TypeId) (k b o dLen dCap : Nat) (a : Addr) (sLen sCap : Nat) (cs : List Value)
    (hu : P.underlying dT = some (.slice elem)) (hs : (P.info? elem).map (·.size) = some k) (hn : cs.length = Nat.min sLen dLen * k)
    (hsrc : ∀ j v, cs[j]? = some v → w.cell? (a.add j) = some v) (hc : ∀ j, j < cs.length → (w.cell? ⟨b, o + j, none⟩).isSome = true) (hf : ∀ j, j < cs.length → w.frozen? ⟨b, o + j, none⟩ = false) (h1 : ∀ v ∈ cs, v.oneCell' = true) :
    (Builtin.copy_ #[dT, sT] ty #[.slice (some ⟨b, o, none⟩) dLen dCap, .slice (some a) sLen sCap]).run P w = .ok (goInt (Nat.min sLen dLen)) (w.setCells b o cs) := by
 have hl := run_loadCells_list (P := P) w a cs hsrc
 have hst := run_storeCells_cells (P := P) b o cs 0 w (by simpa using hc) (by simpa using hf) h1
 rw [hn] at hl
 cases hq : P.info? elem with
 | none => simp [hq] at hs
 | some i =>
  have hi : i.size = k := by simpa [hq] using hs
  simp [Builtin.copy_, run_underlying hu, Builtin.lenOf, Builtin.firstCells, sizeOf, typeInfo, hq, hi, hl, hst]
theorem a1M {P : Program} (w : World) (t e ty : TypeId) (z : Value) (ht : P.underlying t = some (.slice e)) (hv : ∀ w, (zeroValue e).run P w = .ok z w) (b o n c : Nat) (hn : 0 < n)
    (hc : ∀ j, j < n * z.cells.size → (w.cell? ⟨b, o + j, none⟩).isSome = true) (hf : ∀ j, j < n * z.cells.size → w.frozen? ⟨b, o + j, none⟩ = false) (h1 : ∀ v ∈ (Builtin.zeroCells z.cells n).toList, v.oneCell' = true) :
    (Builtin.clear_ #[t] ty #[.slice (some ⟨b, o, none⟩) n c]).run P w = .ok (.tuple #[]) (w.setCells b o (Builtin.zeroCells z.cells n).toList) := by
 have hl : (Builtin.zeroCells z.cells n).toList.length = n * z.cells.size := by simp [Builtin.zeroCells]
 have hst := run_storeCells_cells (P := P) b o (Builtin.zeroCells z.cells n).toList 0 w (by rw [hl]; simpa using hc) (by rw [hl]; simpa using hf) h1
 simp only [Nat.add_zero] at hst
 obtain ⟨m, rfl⟩ : ∃ m, n = m + 1 := ⟨n - 1, by omega⟩
 simp [Builtin.clear_, run_underlying ht, hv, hst]
theorem qB (z : Array Value) (n : Nat) : (Builtin.zeroCells z n).toList.length = n * z.size := by simp [Builtin.zeroCells]
theorem yL {z : Array Value} (h : ∀ v ∈ z.toList, v.oneCell' = true) (n : Nat) : ∀ v ∈ (Builtin.zeroCells z n).toList, v.oneCell' = true := by
 intro v hv
 obtain ⟨j, hj, rfl⟩ := List.mem_iff_getElem.1 hv
 rw [qB] at hj
 have hz : 0 < z.size := by
  rcases Nat.eq_zero_or_pos z.size with e | e
  ·rw [e] at hj; omega
  ·exact e
 have hm : j % z.size < z.size := Nat.mod_lt _ hz
 simp only [Builtin.zeroCells, Array.toList_map, Array.toList_range, List.getElem_map, List.getElem_range]
 rw [getElem!_pos z (j % z.size) hm]
 exact h _ (by simp)
theorem LayL.take {V : View} {ds : List D} {ys : List Value} {Ss : List (List Nat)} (h : LayL V ds ys Ss) (n : Nat) : LayL V (ds.take n) (ys.take n) (Ss.take n) :=
 ⟨by simp [h.1], by simp [h.2.1], fun k d y S h1 h2 h3 => by
  rw [List.getElem?_take] at h1 h2 h3
  split at h1
  ·rw [if_pos ‹_›] at h2 h3; exact h.2.2 k d y S h1 h2 h3
  ·cases h1⟩
theorem LayL.drop {V : View} {ds : List D} {ys : List Value} {Ss : List (List Nat)} (h : LayL V ds ys Ss) (n : Nat) : LayL V (ds.drop n) (ys.drop n) (Ss.drop n) :=
 ⟨by simp [h.1], by simp [h.2.1], fun k d y S h1 h2 h3 => by
  rw [List.getElem?_drop] at h1 h2 h3
  exact h.2.2 _ d y S h1 h2 h3⟩
theorem xG {α : Type} {sz : Nat} : ∀ {rows : List (List α)}, (∀ r ∈ rows, r.length = sz) → rows.flatten.length = rows.length * sz
 | [], _ => by simp
 | r :: rows, h => by
  rw [List.flatten_cons, List.length_append, xG (fun r hr => h r (by simp [hr])), h r (by simp), List.length_cons, Nat.add_mul]; omega
theorem tT {α : Type} {sz : Nat} : ∀ {rows : List (List α)} (i : Nat), (∀ r ∈ rows, r.length = sz) → (rows.take i).flatten = rows.flatten.take (i * sz)
 | [], i, _ => by simp
 | r :: rows, 0, h => by simp
 | r :: rows, i + 1, h => by
  have e := h r (by simp)
  rw [List.take_succ_cons, List.flatten_cons, List.flatten_cons, tT i (fun r hr => h r (by simp [hr])), List.take_append, List.take_of_length_le (l := r) (by rw [e, Nat.add_mul]; omega)]
  congr 2
  rw [e, Nat.add_mul]; omega
theorem iY {α : Type} {sz : Nat} : ∀ {rows : List (List α)} (i : Nat), (∀ r ∈ rows, r.length = sz) → (rows.drop i).flatten = rows.flatten.drop (i * sz)
 | [], i, _ => by simp
 | r :: rows, 0, h => by simp
 | r :: rows, i + 1, h => by
  have e := h r (by simp)
  rw [List.drop_succ_cons, List.flatten_cons, iY i (fun r hr => h r (by simp [hr])), List.drop_append, List.drop_of_length_le (l := r) (by rw [e, Nat.add_mul]; omega), List.nil_append]
  congr 1
  rw [e, Nat.add_mul]; omega
theorem RowAt.drew {w wr : World} {b ty N : Nat} {F : List Value} (h : RowAt w wr b ty N F) : RowAt w wr.drew b ty N F := by
 obtain ⟨c, h1, h2, h3⟩ := h.cells
 exact ⟨⟨c, h1, h2, h3⟩, kH h.grown ⟨rfl, rfl, rfl, Nat.le_refl _, fun _ _ _ => rfl⟩⟩
theorem RowAt.shape {w wr : World} {b ty N : Nat} {F : List Value} (h : RowAt w wr b ty N F) : wr.shape? b = some (ty, N) := by
 obtain ⟨c, h1, h2, h3⟩ := h.cells
 simp [World.shape?, h1, h2]
theorem RowAt.pre {w wr : World} {b ty N : Nat} {F G : List Value} (h : RowAt w wr b ty N F) (hp : G <+: F) : RowAt w wr b ty N G := by
 obtain ⟨c, h1, h2, h3⟩ := h.cells
 exact ⟨⟨c, h1, h2, hp.trans h3⟩, h.grown⟩
theorem xH {V : View} {w : World} {ty sz : Nat} {rows : List (List D)} {y : Value} {S : List Nat} (h : RowR V w ty sz rows y S) :
    (∀ r ∈ rows, r.length = sz) ∧ ((((∃ ao, y = .slice ao 0 0) ∧ rows = [] ∧ S = [])) ∨ ∃ b cap ys Ss, y = .slice (some ⟨b, 0, none⟩) rows.length cap ∧ rows.length ≤ cap ∧ cap ≤ maxLen ∧ RowAt w w b ty (cap * sz) ys ∧ ys.length = rows.length * sz ∧ LayL V rows.flatten ys Ss ∧ V b = none ∧ S = b :: Ss.flatten) := by
 obtain ⟨h0, ys, Ss, h1, h3⟩ := h
 refine ⟨h0, ?_⟩
 rcases h3 with h3 | ⟨b, cap, c, rfl, e3, e4, e5, e6, e7, e8, rfl⟩
 ·exact .inl h3
 ·exact .inr ⟨b, cap, ys, Ss, rfl, e3, e4, ⟨⟨c, e5, e6, e7⟩, sG w _⟩, by rw [h1.1, xG h0], h1, e8, rfl⟩
theorem a2M {V : View} {w w' : World} {ty sz b cap : Nat} {rows : List (List D)} {ys : List Value} {Ss : List (List Nat)} {G : List Value} (hu : ∀ r ∈ rows, r.length = sz) (hl : LayL V rows.flatten ys Ss) (h : RowAt w w' b ty (cap * sz) (ys ++ G)) (hn : rows.length ≤ cap) (hcap : cap ≤ maxLen) (hV : V b = none) :
    RowR V w' ty sz rows (.slice (some ⟨b, 0, none⟩) rows.length cap) (b :: Ss.flatten) := by
 obtain ⟨c, h1, h2, h3⟩ := h.cells
 exact ⟨hu, ys, Ss, hl, .inr ⟨b, cap, c, rfl, hn, hcap, h1, h2, (List.prefix_append _ _).trans h3, hV, rfl⟩⟩
theorem a6P {V : View} {w : World} {ty sz b cap : Nat} {rows : List (List D)} {ys : List Value} {Ss : List (List Nat)} (hu : ∀ r ∈ rows, r.length = sz) (hl : LayL V rows.flatten ys Ss) (hn : rows.length ≤ cap) (hcap : cap ≤ maxLen) (hV : V b = none) :
    ∃ S, Lay (nZ V b ys) (.sl rows) (.slice (some ⟨b, 0, none⟩) rows.length cap) S := by
 have hl' := hl.mono (xC hV ys)
 exact ⟨_, .sl rows ⟨b, 0, none⟩ cap sz ys Ss hu hn hcap hl'.1 hl'.2.1 (fun k y hk => by
  have : (Addr.add ⟨b, 0, none⟩ k) = ⟨b, k, none⟩ := by rw [Addr.add_lit, Nat.zero_add]
  rw [this]
  simp only [View.cell, nZ, if_true]
  simpa using hk) hl'.2.2⟩
theorem oD {w w' : World} {r : Option Nat} (h : w.grownBy w' (some w.heap.size)) : w.grownBy w' r :=
 ⟨h.os, h.tape, h.output, h.size, fun k hk _ => h.block k hk fun e => by cases e; omega⟩
theorem a2N (w : World) (o : Obj) : (w.alloc o).drew = w.drew.alloc o := rfl
theorem RowAt.freshd (w : World) (c : Array Value) (ty : Nat) : RowAt w (w.drew.alloc (.cells c ty)) w.heap.size ty c.size c.toList := by
 have hh : (w.drew.alloc (.cells c ty)).heap = w.heap.push (.cells c ty) := rfl
 refine ⟨⟨c, by rw [hh, Array.getElem?_push, if_pos rfl], rfl, List.prefix_refl _⟩, rfl, rfl, rfl, by rw [hh, Array.size_push]; omega, fun k hk _ => ?_⟩
 rw [hh, Array.getElem?_push, if_neg (Nat.ne_of_lt hk)]
theorem a6Q {V : View} {rows : List (List D)} {r : List D} {ys vs : List Value} {Ss Ts : List (List Nat)} {k : Nat} (i : Nat) (hu : ∀ r ∈ rows, r.length = k) (hl : LayL V rows.flatten ys Ss) (hl2 : LayL V r vs Ts) :
    LayL V (rows.take i ++ r :: rows.drop i).flatten (ys.take (i * k) ++ vs ++ ys.drop (i * k)) (Ss.take (i * k) ++ Ts ++ Ss.drop (i * k)) := by
 have h := ((hl.take (i * k)).append hl2).append (hl.drop (i * k))
 rw [← tT i hu, ← iY i hu] at h
 simpa [List.append_assoc] using h
theorem a5G (Ss Ts : List (List Nat)) (n : Nat) : (Ss.take n ++ Ts ++ Ss.drop n).flatten.Perm (Ss.flatten ++ Ts.flatten) := by
 have e : Ss.flatten = (Ss.take n).flatten ++ (Ss.drop n).flatten := by rw [← List.flatten_append, List.take_append_drop]
 rw [e, List.flatten_append, List.flatten_append, List.append_assoc, List.append_assoc]
 exact List.Perm.append_left _ List.perm_append_comm
theorem xI {V : View} {w w' : World} {ty sz b cap : Nat} {rows : List (List D)} {r : List D} {ys vs : List Value} {Ss Ts : List (List Nat)} {S S2 : List Nat} {i : Nat} (hi : i ≤ rows.length) (hu : ∀ r ∈ rows, r.length = sz) (hr : r.length = sz) (hl : LayL V rows.flatten ys Ss) (hl2 : LayL V r vs Ts)
    (h : RowAt w w' b ty (cap * sz) (ys.take (i * sz) ++ vs ++ ys.drop (i * sz))) (hn : rows.length + 1 ≤ cap) (hcap : cap ≤ maxLen) (hV : V b = none) (hb : b ∈ S ∨ (w.heap.size ≤ b ∧ b < w'.heap.size)) (hS : ∀ n ∈ Ss.flatten, n ∈ S) (hT : ∀ n ∈ Ts.flatten, n ∈ S2) (hnd : (b :: (Ss.flatten ++ Ts.flatten)).Nodup) :
    ∃ S', RowR V w' ty sz (rows.take i ++ r :: rows.drop i) (.slice (some ⟨b, 0, none⟩) (rows.length + 1) cap) S' ∧ S'.Nodup ∧ ∀ n ∈ S', n ∈ S ∨ n ∈ S2 ∨ (w.heap.size ≤ n ∧ n < w'.heap.size) := by
 have hlen : (rows.take i ++ r :: rows.drop i).length = rows.length + 1 := by simp; omega
 have hup := a2M (cap := cap) (G := []) (w := w) (fun x hx => by
  rcases List.mem_append.1 hx with h' | h'
  ·exact hu x (List.mem_of_mem_take h')
  ·rcases List.mem_cons.1 h' with rfl | h'
   ·exact hr
   ·exact hu x (List.mem_of_mem_drop h')) (a6Q i hu hl hl2) (by simpa using h) (by rw [hlen]; exact hn) hcap hV
 rw [hlen] at hup
 have hp := a5G Ss Ts (i * sz)
 refine ⟨_, hup, ?_, fun n hn' => ?_⟩
 ·exact (hp.cons b).nodup_iff.2 hnd
 ·rcases List.mem_cons.1 hn' with rfl | hn'
  ·rcases hb with hb | hb
   ·exact .inl hb
   ·exact .inr (.inr hb)
  ·rcases List.mem_append.1 (hp.mem_iff.1 hn') with h' | h'
   ·exact .inl (hS n h')
   ·exact .inr (.inl (hT n h'))
end Go.Sx
end
section
namespace Go.Proofs.Ytjkbipgmckeckaa
open Go Go.Sx Go.RowKit Go.Proofs Go.Lib
set_option maxHeartbeats 4000000 in
set_option maxRecDepth 1000000 in
theorem yK (b c i vb vc n : Nat) (F vs : List Value) (w : World) (hi : i < n) (hroom : n + 1 ≤ c) (hc63 : c ≤ 9223372036854775807) (hvb : vb ≠ b) (hvc : 1 ≤ vc)
    (hF : F.length = n * 4) (hv : vs.length = 4) (hR : RowAt w w b 65 (c * 4) F) (hV : RowAt w w vb 65 (vc * 4) vs) (h1F : ∀ v ∈ F, v.oneCell' = true) (h1v : ∀ v ∈ vs, v.oneCell' = true) :
    Calls Try.prog 37 #[.slice (some ⟨b, 0, none⟩) n c, .int .i64 i, .slice (some ⟨vb, 0, none⟩) 1 vc] w fun e w' =>
     e = .returned (.slice (some ⟨b, 0, none⟩) (n + 1) c) ∧ RowAt w w' b 65 (c * 4) (F.take (i * 4) ++ vs ++ F.drop (i * 4)) := by
 have hz2 : ¬ ((i : Int) = (n : Int)) := by omega
 have hsz : (Try.prog.info? 65).map (·.size) = some 4 := by kernel_rfl
 have hsa := hV.shape
 have hsb := hR.shape
 have hov : ∀ x lb cb, (callFunc 65 #[.slice (some ⟨vb, 0, none⟩) 1 vc, .slice (some ⟨b, x, none⟩) lb cb]).run Try.prog w = .ok (.value (.bool false)) w := fun x lb cb => by
  rw [run_callFunc_extern Try.func65 (by kernel_rfl) (by kernel_rfl) (by kernel_rfl) (e := Extern.SlicesOverlaps.overlaps #[24, 24] #[4]) (by kernel_rfl),
   Lib.run_overlaps_apart w 24 4 65 Try.underlying24 4 Try.sizeOf65 ⟨vb, 0, none⟩ ⟨b, x, none⟩ 1 vc lb cb hvb _ _ _ _ hsa hsb (by omega) (hV.frozen _) (hV.frozen _)]
  rfl
 have hdl : (F.drop (i * 4)).length = (n - i) * 4 := by rw [List.length_drop, hF, Nat.sub_mul]
 have mixed := fol
 have hw1 : IntKind.i64.wrap ((i : Int) + 1) = (i : Int) + 1 := by rw [IntKind.wrap_i64]; omega
 have hb1 : (0 : Int) ≤ (i : Int) + 1 := by omega
 have hin : i ≤ n := by omega
 have htn : ((i : Int) + 1).toNat = i + 1 := by omega
 have hb2 : ¬ (c = i + 1) := by omega
 have hb3 : (i : Int) ≤ (n : Int) + 1 := by omega
 have hb4 : ¬ (c = i) := by omega
 have hcp1 : ∀ ty dc sc, (Builtin.copy_ #[24, 24] ty #[.slice (some ⟨b, (i + 1) * 4, none⟩) (n - i) dc, .slice (some ⟨b, i * 4, none⟩) (n + 1 - i) sc]).run Try.prog w.drew = .ok (goInt (Nat.min (n + 1 - i) (n - i))) (w.drew.setCells b ((i + 1) * 4) (F.drop (i * 4))) := fun ty dc sc =>
  mM w.drew _ _ ty 65 4 b ((i + 1) * 4) (n - i) dc ⟨b, i * 4, none⟩ (n + 1 - i) sc (F.drop (i * 4)) Try.underlying24 hsz (by rw [hdl]; simp only [Nat.min_def]; split <;> omega)
   (fun j v hj => by rw [Addr.add_lit]; exact hR.cell (by rwa [List.getElem?_drop] at hj))
   (fun j hj => hR.there (by omega)) (fun j hj => hR.frozen _) (fun v hv => h1F v (List.mem_of_mem_drop hv))
 have hR1 := hR.drew.set (F.drop (i * 4)) (s := (i + 1) * 4) (by omega) (by omega)
 obtain ⟨W1, hW1⟩ : ∃ W1, W1 = w.drew.setCells b ((i + 1) * 4) (F.drop (i * 4)) := ⟨_, rfl⟩
 rw [← hW1] at hcp1 hR1
 have hV1 : ∀ j v, vs[j]? = some v → W1.cell? ⟨vb, j, none⟩ = some v := fun j v hj => by
  rw [hW1, World.cell?_setCells_out b _ _ _ _ (fun h _ => absurd h hvb)]
  exact hV.cell hj
 have hcp2 : ∀ (W : World), (∀ x, W.cell? x = W1.cell? x) → (∀ x, W.frozen? x = W1.frozen? x) → ∀ ty dc, (Builtin.copy_ #[24, 24] ty #[.slice (some ⟨b, i * 4, none⟩) (n + 1 - i) dc, .slice (some ⟨vb, 0, none⟩) 1 vc]).run Try.prog W = .ok (goInt (Nat.min 1 (n + 1 - i))) (W.setCells b (i * 4) vs) := fun W hWc hWf ty dc =>
  mM W _ _ ty 65 4 b (i * 4) (n + 1 - i) dc ⟨vb, 0, none⟩ 1 vc vs Try.underlying24 hsz (by rw [hv]; simp only [Nat.min_def]; split <;> omega)
   (fun j v hj => by rw [Addr.add_lit, hWc, Nat.zero_add]; exact hV1 j v hj)
   (fun j hj => by rw [hWc]; exact hR1.there (by omega)) (fun j hj => by rw [hWf]; exact hR1.frozen _) h1v
 have HE : Aside (∀ W : World, RowAt w W b 65 (c * 4) (F.take ((i + 1) * 4) ++ F.drop (i * 4) ++ F.drop ((i + 1) * 4 + (F.drop (i * 4)).length)) → RowAt w (W.setCells b (i * 4) vs) b 65 (c * 4) (F.take (i * 4) ++ vs ++ F.drop (i * 4))) := fun W hW => by
  have h := hW.set vs (s := i * 4) (by simp; omega) (by omega)
  have e1 : F.drop ((i + 1) * 4 + (F.drop (i * 4)).length) = [] := List.drop_of_length_le (by rw [hdl]; omega)
  rw [e1, List.append_nil] at h
  rw [List.take_append_of_le_length (by simp; omega), List.take_take, Nat.min_eq_left (by omega), List.drop_append, List.drop_of_length_le (by simp; omega), List.nil_append, List.length_take] at h
  rwa [show i * 4 + vs.length - min ((i + 1) * 4) F.length = 0 by omega, List.drop_zero] at h
 have H1 : Aside _ := hR1
 clear hR1 hV1 hW1 hsa hsb hR hV h1F h1v
 go_enter Try.func37, Try.ntmps37
 go_wp2_with (simp only [hov])
 go_region_law_o (refine step_copy_runI rfl _ _ 24 24 rfl _ _ (by simp [Act.eval, Act.put]) (by simp [Act.eval, Act.put]) (hcp1 _ _ _) ?_)
 go_wp2_with (at_builtin; refine wpList_copy_runI _ rfl _ _ 24 24 rfl _ _ rfl rfl (hcp2 _ (fun _ => rfl) (fun _ => rfl) _ _) ?_)
 go_ret
 exact ⟨rfl, HE.out _ H1.out⟩
set_option maxHeartbeats 4000000 in
set_option maxRecDepth 1000000 in
theorem a0L (b n c vb vc : Nat) (F vs : List Value) (w : World) (hroom : n + 1 ≤ c) (hc63 : c ≤ 9223372036854775807)
    (hF : F.length = n * 4) (hv : vs.length = 4) (hR : RowAt w w b 65 (c * 4) F) (hV : RowAt w w vb 65 (vc * 4) vs) (h1v : ∀ v ∈ vs, v.oneCell' = true) :
    Calls Try.prog 37 #[.slice (some ⟨b, 0, none⟩) n c, .int .i64 n, .slice (some ⟨vb, 0, none⟩) 1 vc] w fun e w' =>
     e = .returned (.slice (some ⟨b, 0, none⟩) (n + 1) c) ∧ RowAt w w' b 65 (c * 4) (F ++ vs) := by
 obtain ⟨i0, hi0, hzs⟩ : ∃ i0, Try.prog.info? 65 = some i0 ∧ i0.size = 4 := ⟨Try.t65, by kernel_rfl, rfl⟩
 have hsrc : Src Try.prog i0.size 24 (.slice (some ⟨vb, 0, none⟩) 1 vc) 1 vs w := Src.ofSlice w Try.underlying24 ⟨vb, 0, none⟩ 1 vc vs (by rw [hzs]; omega) (fun j u hj => by rw [Addr.add_lit, Nat.zero_add]; exact hV.cell hj) h1v
 have hrun : ∀ ty, (Builtin.append_ #[24, 24] ty #[.slice (some ⟨b, 0, none⟩) n c, .slice (some ⟨vb, 0, none⟩) 1 vc]).run Try.prog w = .ok (.slice (some ⟨b, 0, none⟩) (n + 1) c) (w.setCells b (0 + n * i0.size) vs) := fun ty =>
  run_append_room_src w 24 24 ty 65 i0 Try.underlying24 hi0 b 0 n c _ 1 vs hsrc hroom (fun j hj => hR.there (by rw [hzs]; omega)) (fun j hj => hR.frozen _)
 rw [hzs, Nat.zero_add] at hrun
 have HE : Aside (RowAt w (w.setCells b (n * 4) vs) b 65 (c * 4) (F ++ vs)) := by
  have h := hR.set vs (s := n * 4) (by omega) (by omega)
  rwa [List.take_of_length_le (by omega), List.drop_of_length_le (by omega), List.append_nil] at h
 clear hR hV h1v hsrc
 go_enter Try.func37, Try.ntmps37
 go_wp2_with (at_builtin; refine Lib.wpList_append_run _ rfl _ _ _ _ rfl _ _ rfl rfl _ _ (hrun _) ?_)
 go_ret
 exact ⟨rfl, HE.out⟩
set_option maxHeartbeats 4000000 in
set_option maxRecDepth 1000000 in
theorem uR (base : Option Addr) (n c vb vc : Nat) (F vs : List Value) (w : World) (hnc : n ≤ c) (hroom : c < n + 1) (hbig : (n + 1) * 48 ≤ 140737488355328)
    (hF : F.length = n * 4) (hv : vs.length = 4) (hnil : base = none → n = 0) (hcs : ∀ a, base = some a → ∀ j v, F[j]? = some v → w.cell? (a.add j) = some v) (hV : RowAt w w vb 65 (vc * 4) vs) (h1v : ∀ v ∈ vs, v.oneCell' = true) :
    Calls Try.prog 37 #[.slice base n c, .int .i64 n, .slice (some ⟨vb, 0, none⟩) 1 vc] w fun e w' =>
     ∃ G, e = .returned (.slice (some ⟨w.heap.size, 0, none⟩) (n + 1) G) ∧ n + 1 ≤ G ∧ G ≤ maxLen ∧ RowAt w w' w.heap.size 65 (G * 4) (F ++ vs) := by
 obtain ⟨i0, hi0, hz0, hzs, hzb⟩ : ∃ i0, Try.prog.info? 65 = some i0 ∧ i0.zero = some (.agg #[.string ⟨#[]⟩, .int .i64 0, .int .i64 0, .string ⟨#[]⟩]) ∧ i0.size = 4 ∧ i0.bytes = 48 := ⟨Try.t65, by kernel_rfl, rfl, rfl, rfl⟩
 have hsrc : Src Try.prog i0.size 24 (.slice (some ⟨vb, 0, none⟩) 1 vc) 1 vs w := Src.ofSlice w Try.underlying24 ⟨vb, 0, none⟩ 1 vc vs (by rw [hzs]; omega) (fun j u hj => by rw [Addr.add_lit, Nat.zero_add]; exact hV.cell hj) h1v
 have hold : (Builtin.firstCells i0.size n (.slice base n c)).run Try.prog w.drew = .ok F.toArray w.drew := by
  rw [hzs]
  cases base with
  | none =>
   have h0 := hnil rfl
   subst h0
   rw [List.length_eq_zero_iff.1 (by omega : F.length = 0)]
   exact run_firstCells_none w.drew 4 0 0 c
  | some a => exact run_firstCells_some w.drew 4 n a n c F (by omega) (fun j v hj => hcs a rfl j v hj)
 have hrun : ∀ ty, (Builtin.append_ #[24, 24] ty #[.slice base n c, .slice (some ⟨vb, 0, none⟩) 1 vc]).run Try.prog w = _ := fun ty =>
  run_append_grow_src w 24 24 ty 65 i0 _ Try.underlying24 hi0 hz0 base n c F hold _ 1 vs hsrc hroom (by omega) (by rw [hzb]; exact growslice_fits hroom hbig)
 have hGn : n + 1 ≤ grownCap w (n + 1) c 65 := grownCap_ge w _ _ _
 have hGm : grownCap w (n + 1) c 65 ≤ maxLen := grownCap_le_maxLen w (n + 1) c 65 (by unfold maxLen; omega)
 have HE : Aside (RowAt w (w.drew.alloc (.cells ((F ++ vs).toArray ++ Builtin.zeroCells (.agg #[.string ⟨#[]⟩, .int .i64 0, .int .i64 0, .string ⟨#[]⟩] : Value).cells (grownCap w (n + 1) c 65 - (n + 1))) 65)) w.heap.size 65 (grownCap w (n + 1) c 65 * 4) (F ++ vs)) := by
  have h := RowAt.freshd w ((F ++ vs).toArray ++ Builtin.zeroCells (.agg #[.string ⟨#[]⟩, .int .i64 0, .int .i64 0, .string ⟨#[]⟩] : Value).cells (grownCap w (n + 1) c 65 - (n + 1))) 65
  have e : ((F ++ vs).toArray ++ Builtin.zeroCells (.agg #[.string ⟨#[]⟩, .int .i64 0, .int .i64 0, .string ⟨#[]⟩] : Value).cells (grownCap w (n + 1) c 65 - (n + 1))).size = grownCap w (n + 1) c 65 * 4 := by
   simp [Builtin.zeroCells, Value.cells]; omega
  rw [e] at h
  exact h.pre (by simp)
 clear hV h1v hsrc hold hcs
 go_enter Try.func37, Try.ntmps37
 cases base with
 | none =>
  have h0 := hnil rfl
  subst h0
  go_wp2_with (at_builtin; refine Lib.wpList_append_run _ rfl _ _ _ _ rfl _ _ rfl rfl _ _ (hrun _) ?_)
  go_ret
  exact ⟨_, rfl, hGn, hGm, HE.out⟩
 | some a =>
  obtain ⟨ab, ao, asp⟩ := a
  go_wp2_with (at_builtin; refine Lib.wpList_append_run _ rfl _ _ _ _ rfl _ _ rfl rfl _ _ (hrun _) ?_)
  all_goals (go_ret; exact ⟨_, rfl, hGn, hGm, HE.out⟩)
set_option maxHeartbeats 4000000 in
set_option maxRecDepth 1000000 in
theorem a0M (b c i vb vc n : Nat) (F vs : List Value) (w : World) (hi : i < n) (hnc : n ≤ c) (hroom : c < n + 1) (hbig : (n + 1) * 48 ≤ 140737488355328) (hvc : 1 ≤ vc)
    (hF : F.length = n * 4) (hv : vs.length = 4) (hR : RowAt w w b 65 (c * 4) F) (hV : RowAt w w vb 65 (vc * 4) vs) (h1F : ∀ v ∈ F, v.oneCell' = true) (h1v : ∀ v ∈ vs, v.oneCell' = true) :
    Calls Try.prog 37 #[.slice (some ⟨b, 0, none⟩) n c, .int .i64 i, .slice (some ⟨vb, 0, none⟩) 1 vc] w fun e w' =>
     ∃ G, e = .returned (.slice (some ⟨w.heap.size, 0, none⟩) (n + 1) G) ∧ n + 1 ≤ G ∧ G ≤ maxLen ∧ RowAt w w' w.heap.size 65 (G * 4) (F.take (i * 4) ++ vs ++ F.drop (i * 4)) := by
 obtain ⟨i0, hi0, hz0, hzs, hzb⟩ : ∃ i0, Try.prog.info? 65 = some i0 ∧ i0.zero = some (.agg #[.string ⟨#[]⟩, .int .i64 0, .int .i64 0, .string ⟨#[]⟩]) ∧ i0.size = 4 ∧ i0.bytes = 48 := ⟨Try.t65, by kernel_rfl, rfl, rfl, rfl⟩
 have mixed := fol
 have hz2 : ¬ ((i : Int) = (n : Int)) := by omega
 have hz3 : (c : Int) < (n : Int) + 1 := by omega
 have hsz : (Try.prog.info? 65).map (·.size) = some 4 := by rw [hi0]; simp [hzs]
 have hbw := hR.lt
 have hvw := hV.lt
 have hkk : (n : Int) + 1 - (i : Int) = ((n + 1 - i : Nat) : Int) := by omega
 have hik : i + (n + 1 - i) = n + 1 := by omega
 have hold : (Builtin.firstCells i0.size i (.slice (some ⟨b, 0, none⟩) i c)).run Try.prog w.drew = .ok (F.take (i * 4)).toArray w.drew := by
  rw [hzs]
  exact run_firstCells_some w.drew 4 i ⟨b, 0, none⟩ i c (F.take (i * 4)) (by rw [List.length_take]; omega) (fun j v hj => by
   rw [Addr.add_lit, Nat.zero_add]
   rw [List.getElem?_take] at hj
   split at hj
   ·exact hR.cell hj
   ·cases hj)
 have hrz : ∀ ty, (Builtin.append_ #[24, 3] ty #[.slice (some ⟨b, 0, none⟩) i c, .int .i64 ((n : Int) + 1 - (i : Int))]).run Try.prog w =
     .ok (.slice (some ⟨w.heap.size, 0, none⟩) (n + 1) (grownCap w (n + 1) c 65)) (w.drew.alloc (.cells ((F.take (i * 4)).toArray ++ Builtin.zeroCells (.agg #[.string ⟨#[]⟩, .int .i64 0, .int .i64 0, .string ⟨#[]⟩] : Value).cells (n + 1 - i) ++ Builtin.zeroCells (.agg #[.string ⟨#[]⟩, .int .i64 0, .int .i64 0, .string ⟨#[]⟩] : Value).cells (grownCap w (n + 1) c 65 - (n + 1))) 65)) := fun ty => by
  have h := Lib.run_append_grow_zeros w 24 3 ty 65 i0 _ .i64 .i64 Try.underlying24 Try.underlying3 hi0 hz0 (some ⟨b, 0, none⟩) i c (F.take (i * 4)) hold (n + 1 - i) (by omega) (by omega) (by omega) (by omega) (by rw [hzb]; omega) (by rw [hzb, hik]; exact growslice_fits hroom hbig)
  rw [hik] at h
  rw [hkk]
  exact h
 obtain ⟨G, hG⟩ : ∃ G, G = grownCap w (n + 1) c 65 := ⟨_, rfl⟩
 obtain ⟨ROW, hROW⟩ : ∃ ROW : Array Value, ROW = (F.take (i * 4)).toArray ++ Builtin.zeroCells (.agg #[.string ⟨#[]⟩, .int .i64 0, .int .i64 0, .string ⟨#[]⟩] : Value).cells (n + 1 - i) ++ Builtin.zeroCells (.agg #[.string ⟨#[]⟩, .int .i64 0, .int .i64 0, .string ⟨#[]⟩] : Value).cells (G - (n + 1)) := ⟨_, rfl⟩
 rw [← hG] at hrz
 rw [← hROW] at hrz
 have hGn : n + 1 ≤ G := by rw [hG]; exact grownCap_ge w _ _ _
 have hGm : G ≤ maxLen := by rw [hG]; exact grownCap_le_maxLen w (n + 1) c 65 (by unfold maxLen; omega)
 have hG63 : G ≤ 9223372036854775807 := by unfold maxLen at hGm; omega
 have hRs : ROW.size = G * 4 := by rw [hROW]; simp [Builtin.zeroCells, Value.cells]; omega
 have hRt : ROW.toList.take (i * 4) = F.take (i * 4) := by
  rw [hROW]
  simp only [Array.toList_append, List.append_assoc]
  rw [List.take_append_of_le_length (by simp; omega), List.take_of_length_le (by simp; omega)]
 have hR0 := RowAt.freshd w ROW 65
 rw [hRs] at hR0
 obtain ⟨W1, hW1⟩ : ∃ W1, W1 = w.drew.alloc (.cells ROW 65) := ⟨_, rfl⟩
 rw [← hW1] at hrz hR0
 have hlR : ROW.toList.length = G * 4 := by rw [← hRs]; simp
 have hR1 := hR0.set vs (s := i * 4) (by rw [hlR]; omega) (by omega)
 have hOb : ∀ j v, w.cell? ⟨b, j, none⟩ = some v → W1.cell? ⟨b, j, none⟩ = some v := fun j v h => by rw [hW1, World.cell?_alloc_past (w := w.drew) _ b j hbw]; exact h
 have hOv : ∀ j v, w.cell? ⟨vb, j, none⟩ = some v → W1.cell? ⟨vb, j, none⟩ = some v := fun j v h => by rw [hW1, World.cell?_alloc_past (w := w.drew) _ vb j hvw]; exact h
 have hcpA : ∀ (W : World), (∀ x, W.cell? x = W1.cell? x) → (∀ x, W.frozen? x = W1.frozen? x) → ∀ ty dc, (Builtin.copy_ #[24, 24] ty #[.slice (some ⟨w.heap.size, i * 4, none⟩) (n + 1 - i) dc, .slice (some ⟨vb, 0, none⟩) 1 vc]).run Try.prog W = .ok (goInt (Nat.min 1 (n + 1 - i))) (W.setCells w.heap.size (i * 4) vs) := fun W hWc hWf ty dc =>
  mM W _ _ ty 65 4 w.heap.size (i * 4) (n + 1 - i) dc ⟨vb, 0, none⟩ 1 vc vs Try.underlying24 hsz (by rw [hv]; simp only [Nat.min_def]; split <;> omega)
   (fun j v hj => by rw [Addr.add_lit, hWc, Nat.zero_add]; exact hOv _ v (hV.cell hj))
   (fun j hj => by rw [hWc]; exact hR0.there (by omega)) (fun j hj => by rw [hWf]; exact hR0.frozen _) h1v
 have hbN : b ≠ w.heap.size := by omega
 have hdl : (F.drop (i * 4)).length = (n - i) * 4 := by rw [List.length_drop, hF, Nat.sub_mul]
 have hcpB : ∀ (W : World), (∀ x, W.cell? x = (W1.setCells w.heap.size (i * 4) vs).cell? x) → (∀ x, W.frozen? x = (W1.setCells w.heap.size (i * 4) vs).frozen? x) → ∀ ty dc sc, (Builtin.copy_ #[24, 24] ty #[.slice (some ⟨w.heap.size, (i + 1) * 4, none⟩) (n - i) dc, .slice (some ⟨b, i * 4, none⟩) (n - i) sc]).run Try.prog W = .ok (goInt (Nat.min (n - i) (n - i))) (W.setCells w.heap.size ((i + 1) * 4) (F.drop (i * 4))) := fun W hWc hWf ty dc sc =>
  mM W _ _ ty 65 4 w.heap.size ((i + 1) * 4) (n - i) dc ⟨b, i * 4, none⟩ (n - i) sc (F.drop (i * 4)) Try.underlying24 hsz (by rw [hdl]; simp only [Nat.min_def]; split <;> omega)
   (fun j v hj => by
    rw [Addr.add_lit, hWc, World.cell?_setCells_out _ _ _ _ _ (fun h _ => absurd h hbN)]
    exact hOb _ v (hR.cell (by rwa [List.getElem?_drop] at hj)))
   (fun j hj => by rw [hWc]; exact hR1.there (by omega))
   (fun j hj => by rw [hWf]; exact hR1.frozen _) (fun v hv => h1F v (List.mem_of_mem_drop hv))
 have HE : Aside (∀ W W' : World, RowAt w W w.heap.size 65 (G * 4) (ROW.toList.take (i * 4) ++ vs ++ ROW.toList.drop (i * 4 + vs.length)) → W' = W.setCells w.heap.size ((i + 1) * 4) (F.drop (i * 4)) → RowAt w W' w.heap.size 65 (G * 4) (F.take (i * 4) ++ vs ++ F.drop (i * 4))) := fun W W' hW e => by
  subst e
  have h := hW.set (F.drop (i * 4)) (s := (i + 1) * 4) (by simp only [List.length_append, List.length_take, List.length_drop, hlR]; omega) (by omega)
  rw [hRt, List.take_append_of_le_length (by simp; omega), List.take_of_length_le (by simp; omega)] at h
  exact h.pre (List.prefix_append _ _)
 have H1 : Aside (RowAt w (((w.alloc (.cells ROW 65)).drew.setCells w.heap.size (i * 4) vs).drew) w.heap.size 65 (G * 4) (ROW.toList.take (i * 4) ++ vs ++ ROW.toList.drop (i * 4 + vs.length))) := by
  rw [a2N, ← hW1]
  exact hR1.drew
 subst hW1
 have hE1 : ∀ x, ((w.alloc (.cells ROW 65)).drew).cell? x = (w.drew.alloc (.cells ROW 65)).cell? x := fun x => rfl
 have hE2 : ∀ x, ((w.alloc (.cells ROW 65)).drew).frozen? x = (w.drew.alloc (.cells ROW 65)).frozen? x := fun x => rfl
 have hF1 : ∀ x, (((w.alloc (.cells ROW 65)).drew.setCells w.heap.size (i * 4) vs).drew).cell? x = ((w.drew.alloc (.cells ROW 65)).setCells w.heap.size (i * 4) vs).cell? x := fun x => rfl
 have hF2 : ∀ x, (((w.alloc (.cells ROW 65)).drew.setCells w.heap.size (i * 4) vs).drew).frozen? x = ((w.drew.alloc (.cells ROW 65)).setCells w.heap.size (i * 4) vs).frozen? x := fun x => rfl
 have hGi : ¬ (G = i) := by omega
 have hGim : ¬ (G = i + 1) := by omega
 have hci : ¬ (c = i) := by omega
 have hw1 : IntKind.i64.wrap ((i : Int) + 1) = (i : Int) + 1 := by rw [IntKind.wrap_i64]; omega
 have hb1 : (0 : Int) ≤ (i : Int) + 1 := by omega
 have hin : i ≤ n := by omega
 have htn : ((i : Int) + 1).toNat = i + 1 := by omega
 have hb3 : (i : Int) ≤ (n : Int) := by omega
 clear hkk hik hold hROW hG hR hV hR0 hR1 h1F h1v hOb hOv hRt hRs hlR
 go_enter Try.func37, Try.ntmps37
 go_wp2_with (first
  | (at_builtin; refine Lib.wpList_append_run _ rfl _ _ _ _ rfl _ _ rfl rfl _ _ (hrz _) ?_)
  | (at_builtin; refine wpList_copy_runI _ rfl _ _ 24 24 rfl _ _ rfl rfl (hcpA _ hE1 hE2 _ _) ?_)
  | (at_builtin; refine wpList_copy_runI _ rfl _ _ 24 24 rfl _ _ rfl rfl (hcpB _ (fun _ => rfl) (fun _ => rfl) _ _ _) ?_))
 go_region_law_o (refine step_copy_runI rfl _ _ 24 24 rfl (.slice (some ⟨w.heap.size, (i + 1) * 4, none⟩) (n - i) (G - (i + 1))) (.slice (some ⟨b, i * 4, none⟩) (n - i) (c - i)) (by simp [Act.eval, Act.put]) (by simp [Act.eval, Act.put]) (hcpB _ hF1 hF2 3 (G - (i + 1)) (c - i)) ?_)
 go_wp2
 go_ret
 exact ⟨G, rfl, hGn, hGm, HE.out _ _ H1.out rfl⟩
end Go.Proofs.Ytjkbipgmckeckaa
end
section
set_option maxRecDepth 100000
namespace Go.Proofs.Ytjkbipgmckeckaa
open Go Go.Sx Go.RowKit Go.Proofs
theorem iC (rows : List (List D)) (r : List D) (i : Nat) (hi : i ≤ rows.length) (hl : rows.length ≤ 8388608) : FnJ Try.prog 37 65 4 rows i [r] (rows.take i ++ r :: rows.drop i) := by
 refine ⟨Try.call37, fun V w y S y2 S2 hm hrow hrow2 hnd hlt => ?_⟩
 obtain ⟨hu, h⟩ := xH hrow
 obtain ⟨hu2, h2⟩ := xH hrow2
 have hr : r.length = 4 := hu2 r (by simp)
 rcases h2 with ⟨_, h2, _⟩ | ⟨vb, vc, vs, Ts, rfl, v3, v4, hV, vl, vL, vV, rfl⟩
 ·cases h2
 have vL' : LayL V r vs Ts := by simpa using vL
 have vl' : vs.length = 4 := by simpa using vl
 have v3' : 1 ≤ vc := by simpa using v3
 have h1v := vL'.oneCell
 rcases h with ⟨⟨ao, rfl⟩, rfl, rfl⟩ | ⟨b, cap, ys, Ss, rfl, e3, e4, hR, el, eL, eV, rfl⟩
 ·have hi0 : i = 0 := by simpa using hi
  subst hi0
  refine (uR ao 0 0 vb vc [] vs w (by omega) (by omega) (by omega) (by simp) vl' (fun _ => rfl) (fun a _ j v hj => by simp at hj) hV h1v).mono ?_
  rintro e w' ⟨G, rfl, hG, hGm, hN⟩
  have hd := xI (S := []) (S2 := vb :: Ts.flatten) (rows := []) (r := r) (i := 0) (Ss := []) (ys := []) (V := V) (hi) hu hr (LayL.nil V) vL' (by simpa using hN) (by simpa using hG) hGm (hm.fresh (Nat.le_refl _)) (.inr ⟨Nat.le_refl _, hN.lt⟩) (fun n hn => by simp at hn) (fun n hn => List.mem_cons_of_mem _ hn)
   (by
    simp only [List.flatten_nil, List.nil_append]
    refine List.nodup_cons.2 ⟨fun h => ?_, (List.nodup_cons.1 (by simpa using hnd)).2⟩
    have := hlt _ (by simp only [List.nil_append]; exact List.mem_cons_of_mem _ h)
    omega)
  exact ⟨_, rfl, oD hN.grown, hd⟩
 ·have h1F := eL.oneCell
  have hbw := hR.lt
  have hvb : vb ≠ b := fun e => by subst e; simp at hnd
  have hnd2 : (Ss.flatten ++ Ts.flatten).Nodup := by
   have h1 : (Ss.flatten ++ vb :: Ts.flatten).Nodup := (List.nodup_cons.1 (by simpa using hnd)).2
   exact h1.sublist (List.Sublist.append_left (List.sublist_cons_self _ _) _)
  have hbS : b ∉ Ss.flatten ++ Ts.flatten := fun h => by
   have h1 := (List.nodup_cons.1 (show (b :: (Ss.flatten ++ vb :: Ts.flatten)).Nodup by simpa using hnd)).1
   rcases List.mem_append.1 h with h | h
   ·exact h1 (List.mem_append.2 (.inl h))
   ·exact h1 (List.mem_append.2 (.inr (List.mem_cons_of_mem _ h)))
  have hfr : w.heap.size ∉ Ss.flatten ++ Ts.flatten := fun h => by
   have := hlt w.heap.size (by
    rcases List.mem_append.1 h with h | h
    ·exact List.mem_append.2 (.inl (List.mem_cons_of_mem _ h))
    ·exact List.mem_append.2 (.inr (List.mem_cons_of_mem _ h)))
   omega
  have old : ∀ w', RowAt w w' b 65 (cap * 4) (ys.take (i * 4) ++ vs ++ ys.drop (i * 4)) → rows.length + 1 ≤ cap → ∃ S', RowR V w' 65 4 (rows.take i ++ r :: rows.drop i) (.slice (some ⟨b, 0, none⟩) (rows.length + 1) cap) S' ∧ S'.Nodup ∧ ∀ n ∈ S', n ∈ (b :: Ss.flatten) ∨ n ∈ (vb :: Ts.flatten) ∨ (w.heap.size ≤ n ∧ n < w'.heap.size) := fun w' h hc =>
   xI hi hu hr eL vL' h hc e4 eV (.inl (by simp)) (fun n hn => List.mem_cons_of_mem _ hn) (fun n hn => List.mem_cons_of_mem _ hn) (List.nodup_cons.2 ⟨hbS, hnd2⟩)
  have new : ∀ w' G, RowAt w w' w.heap.size 65 (G * 4) (ys.take (i * 4) ++ vs ++ ys.drop (i * 4)) → rows.length + 1 ≤ G → G ≤ maxLen → ∃ S', RowR V w' 65 4 (rows.take i ++ r :: rows.drop i) (.slice (some ⟨w.heap.size, 0, none⟩) (rows.length + 1) G) S' ∧ S'.Nodup ∧ ∀ n ∈ S', n ∈ (b :: Ss.flatten) ∨ n ∈ (vb :: Ts.flatten) ∨ (w.heap.size ≤ n ∧ n < w'.heap.size) := fun w' G h hc hGm =>
   xI hi hu hr eL vL' h hc hGm (hm.fresh (Nat.le_refl _)) (.inr ⟨Nat.le_refl _, h.lt⟩) (fun n hn => List.mem_cons_of_mem _ hn) (fun n hn => List.mem_cons_of_mem _ hn) (List.nodup_cons.2 ⟨hfr, hnd2⟩)
  have e63 : cap ≤ 9223372036854775807 := by unfold maxLen at e4; omega
  rcases Nat.lt_or_ge i rows.length with hlt' | hge
  ·rcases Nat.lt_or_ge cap (rows.length + 1) with hc | hc
   ·refine (a0M b cap i vb vc rows.length ys vs w hlt' e3 hc (by omega) v3' el vl' hR hV h1F h1v).mono ?_
    rintro e w' ⟨G, rfl, hG, hGm, hN⟩
    exact ⟨_, rfl, oD hN.grown, new w' G hN hG hGm⟩
   ·refine (yK b cap i vb vc rows.length ys vs w hlt' hc e63 hvb v3' el vl' hR hV h1F h1v).mono ?_
    rintro e w' ⟨rfl, hN⟩
    exact ⟨_, rfl, hN.grown, old w' hN hc⟩
  ·have hie : i = rows.length := by omega
   subst hie
   rw [List.take_of_length_le (l := ys) (by omega), List.drop_of_length_le (l := ys) (by omega), List.append_nil] at old new
   rcases Nat.lt_or_ge cap (rows.length + 1) with hc | hc
   ·refine (uR (some ⟨b, 0, none⟩) rows.length cap vb vc ys vs w e3 hc (by omega) el vl' (fun h => by cases h) (fun a ha j v hj => by cases ha; rw [Addr.add_lit, Nat.zero_add]; exact hR.cell hj) hV h1v).mono ?_
    rintro e w' ⟨G, rfl, hG, hGm, hN⟩
    exact ⟨_, rfl, oD hN.grown, new w' G hN hG hGm⟩
   ·refine (a0L b rows.length cap vb vc ys vs w hc e63 el vl' hR hV h1v).mono ?_
    rintro e w' ⟨rfl, hN⟩
    exact ⟨_, rfl, hN.grown, old w' hN hc⟩
end Go.Proofs.Ytjkbipgmckeckaa
end
section
namespace Go.Proofs.Ytjkbipgmckeckaa
open Go Go.Sx Go.RowKit Go.Proofs
theorem a7l {α : Type} (l : List α) : (l.all fun _ => true) = true := by simp
def bS {α : Type} (p : α → Bool) : List α → Nat
 | [] => 0
 | x :: l => if p x then 0 else bS p l + 1
theorem xJ {α : Type} (p : α → Bool) : ∀ l : List α, bS p l ≤ l.length
 | [] => by simp [bS]
 | x :: l => by
  have := xJ p l
  unfold bS
  split <;> simp <;> omega
theorem idxP_fst {α : Type} (p : α → Bool) : ∀ (l : List α) (k : Nat), (dC p l k < 0 ∧ dC p l k = -1 ∧ bS p l = l.length) ∨ (dC p l k = ((k + bS p l : Nat) : Int) ∧ bS p l < l.length)
 | [], k => .inl ⟨by simp [dC], rfl, rfl⟩
 | x :: l, k => by
  unfold dC bS
  cases hx : p x with
  | true => exact .inr ⟨by simp, by simp⟩
  | false =>
   rcases idxP_fst p l (k + 1) with ⟨h0, h1, h2⟩ | ⟨h1, h2⟩
   ·exact .inl ⟨by simpa using h0, by simpa using h1, by simp [h2]⟩
   ·exact .inr ⟨by simp only [Bool.false_eq_true, if_false]; rw [h1]; congr 1; omega, by simp; omega⟩
theorem a2O {α : Type} (p : α → Bool) (l : List α) (k : Nat) (h : k < l.length) : bS p (l.drop k) = if p l[k] then 0 else bS p (l.drop (k + 1)) + 1 := by
 rw [List.drop_eq_getElem_cons h, bS]
def fA {α : Type} (i : Nat) (x : α) (l : List α) : List α := l.take i ++ x :: l.drop i
theorem zR {α : Type} (i : Nat) (x : α) (l : List α) (h : i ≤ l.length) : (fA i x l).length = l.length + 1 := by simp [fA]; omega
end Go.Proofs.Ytjkbipgmckeckaa
end
section
set_option maxRecDepth 100000
set_option maxHeartbeats 4000000
namespace Go.Proofs.Ytjkbipgmckeckaa
open Go Go.Sx Go.RowKit Go.Proofs
theorem uS (l : List ByteArray) (hl : l.length ≤ 4300000) : FnC Try.prog 77 [.o (.d (.sl (l.map bX)))] (.o (.w 9 1 (l.map bX))) := by
 refine ent Try.func77 rfl Try.call77 rfl (fun C => ?_); simp only [go_sem, st0, Try.ntmps77]
 refine aP ?_
 intro b hb
 refine aP ?_
 refine cnd rfl (fun h1 => ?_) (fun h1 => ?_)
 ·have e := hb h1
  simp only [List.map_eq_nil_iff] at e
  subst e
  refine aP ?_
  exact aA ⟨⟨_, rfl, by simp only [go_sem]⟩, trivial⟩
 ·refine aP ?_
  exact aA ⟨⟨_, rfl, by simp only [go_sem, a7l]⟩, trivial⟩
theorem sI (l : List TAttr) (hl : l.length ≤ 4300000) : FnC Try.prog 34 [.o (.d (.sl (l.map aT)))] (.o (.w 65 4 (l.map aT))) := by
 refine ent Try.func34 rfl Try.call34 rfl (fun C => ?_); simp only [go_sem, st0, Try.ntmps34]
 refine aP ?_
 intro b hb
 refine aP ?_
 refine cnd rfl (fun h1 => ?_) (fun h1 => ?_)
 ·have e := hb h1
  simp only [List.map_eq_nil_iff] at e
  subst e
  refine aP ?_
  exact aA ⟨⟨_, rfl, by simp only [go_sem]⟩, trivial⟩
 ·refine aP ?_
  exact aA ⟨⟨_, rfl, by simp only [go_sem, a7l]⟩, trivial⟩
theorem gW (f : Nat) (c : List D) (p : TAttr → Bool) (l : List TAttr) (hf : ∀ s ∈ l, FnC Try.prog f [a1D s, .o (.q c)] (ob (p s))) (hl : l.length ≤ 8388608) : FnC Try.prog 35 [.o (.d (.sl (l.map aT))), .o (.f f [c])] (oi (dC p l 0)) := by
 refine ent Try.func35 rfl Try.call35 rfl (fun C => ?_); simp only [go_sem, st0, Try.ntmps35]
 refine aP ?_
 refine dD (α := Nat) (fun k => [(8, oi k)]) (fun _ => []) (fun k => k ≤ l.length ∧ dC p l 0 = dC p (l.drop k) k) (fun k => l.length - k) 0 (fun _ => ?_) ?_ ?_ (fun k hk => ?_)
 ·simp only [go_sem]
 ·simp only [go_sem]; simp
 ·simp
 ·obtain ⟨hk, hq⟩ := hk
  simp only [go_sem]
  refine aP ?_
  refine cnd rfl (fun h => ?_) (fun h => ?_)
  ·simp only [decide_eq_true_eq, Int.ofNat_lt] at h
   have hd := List.drop_eq_getElem_cons h
   rw [hd, dC] at hq
   have q0 := @h; refine nR (hf l[k] (List.getElem_mem h)) ?_
   refine cnd rfl (fun h2 => ?_) (fun h2 => ?_)
   ·refine aP ?_
    exact aA ⟨⟨_, rfl, by simp only [go_sem, hq, h2]⟩, trivial⟩
   ·refine aP ?_
    refine aR (k + 1) ?_ ?_ ?_
    ·simp only [go_sem]; simp
    ·rw [hq, h2]; exact ⟨h, by simp⟩
    ·omega
  ·simp only [decide_eq_false_iff_not] at h
   have e : k = l.length := by omega
   subst e
   simp only [List.drop_length, dC] at hq
   refine aP ?_
   exact aA ⟨⟨_, rfl, by simp only [go_sem, hq]⟩, trivial⟩
end Go.Proofs.Ytjkbipgmckeckaa
end
