/- Joined texts. -/
import Derived.Test.YtddimbdeggomaaaGreatZ07
import Derived.Test.YtddimbdeggomaaaGreatZ03
import Derived.Laws.IdiomCopy
import Derived.Deep.AppendSrc
import Derived.Test.YtddimbdeggomaaaGreatZ16
import Derived.Shelf.RegionOpenPlain
import Derived.WalkKit
import Derived.Deep.Draws
import Derived.Lib.Walk
import Derived.Lib.SliceRun
import Derived.Lib.AppendZeros
import Derived.Laws.Externs
import Derived.Laws.NewBlocks
import Derived.Test.YtddimbdeggomaaaGreatZ17
set_option linter.all false
section
set_option maxRecDepth 100000
namespace Go.Sx
open Go Go.RowKit
theorem run_clear_k {P : Program} (w : World) (t e ty : TypeId) (z : Value) (ht : P.underlying t = some (.slice e)) (hv : ∀ w, (zeroValue e).run P w = .ok z w) (b o n c : Nat) (hn : 0 < n)
    (hc : ∀ j, j < n * z.cells.size → (w.cell? ⟨b, o + j, none⟩).isSome = true) (hf : ∀ j, j < n * z.cells.size → w.frozen? ⟨b, o + j, none⟩ = false) (h1 : ∀ v ∈ (Builtin.zeroCells z.cells n).toList, v.oneCell' = true) :
    (Builtin.clear_ #[t] ty #[.slice (some ⟨b, o, none⟩) n c]).run P w = .ok (.tuple #[]) (w.setCells b o (Builtin.zeroCells z.cells n).toList) := by
 have hl : (Builtin.zeroCells z.cells n).toList.length = n * z.cells.size := by simp [Builtin.zeroCells]
 have hst := run_storeCells_cells (P := P) b o (Builtin.zeroCells z.cells n).toList 0 w (by rw [hl]; simpa using hc) (by rw [hl]; simpa using hf) h1
 simp only [Nat.add_zero] at hst
 obtain ⟨m, rfl⟩ : ∃ m, n = m + 1 := ⟨n - 1, by omega⟩
 simp [Builtin.clear_, run_underlying ht, hv, hst]
theorem zeroCells_len (z : Array Value) (n : Nat) : (Builtin.zeroCells z n).toList.length = n * z.size := by simp [Builtin.zeroCells]
theorem zeroCells_one {z : Array Value} (h : ∀ v ∈ z.toList, v.oneCell' = true) (n : Nat) : ∀ v ∈ (Builtin.zeroCells z n).toList, v.oneCell' = true := by
 intro v hv
 obtain ⟨j, hj, rfl⟩ := List.mem_iff_getElem.1 hv
 rw [zeroCells_len] at hj
 have hz : 0 < z.size := by
  rcases Nat.eq_zero_or_pos z.size with e | e
  ·rw [e] at hj; omega
  ·exact e
 have hm : j % z.size < z.size := Nat.mod_lt _ hz
 simp only [Builtin.zeroCells, Array.toList_map, Array.toList_range, List.getElem_map, List.getElem_range]
 rw [getElem!_pos z (j % z.size) hm]
 exact h _ (by simp)
theorem LayL.take {V : View} {ds : List D} {ys : List Value} {Ss : List (List Nat)} (h : LayL V ds ys Ss) (n : Nat) : LayL V (ds.take n) (ys.take n) (Ss.take n) :=
 ⟨by simp [h.1], by simp [h.2.1], fun k d y S h1 h2 h3 => by
  rw [List.getElem?_take] at h1 h2 h3
  split at h1
  ·rw [if_pos ‹_›] at h2 h3; exact h.2.2 k d y S h1 h2 h3
  ·cases h1⟩
theorem LayL.drop {V : View} {ds : List D} {ys : List Value} {Ss : List (List Nat)} (h : LayL V ds ys Ss) (n : Nat) : LayL V (ds.drop n) (ys.drop n) (Ss.drop n) :=
 ⟨by simp [h.1], by simp [h.2.1], fun k d y S h1 h2 h3 => by
  rw [List.getElem?_drop] at h1 h2 h3
  exact h.2.2 _ d y S h1 h2 h3⟩
theorem flat_len {α : Type} {sz : Nat} : ∀ {rows : List (List α)}, (∀ r ∈ rows, r.length = sz) → rows.flatten.length = rows.length * sz
 | [], _ => by simp
 | r :: rows, h => by
  rw [List.flatten_cons, List.length_append, flat_len (fun r hr => h r (by simp [hr])), h r (by simp), List.length_cons, Nat.add_mul]; omega
theorem flat_take {α : Type} {sz : Nat} : ∀ {rows : List (List α)} (i : Nat), (∀ r ∈ rows, r.length = sz) → (rows.take i).flatten = rows.flatten.take (i * sz)
 | [], i, _ => by simp
 | r :: rows, 0, h => by simp
 | r :: rows, i + 1, h => by
  have e := h r (by simp)
  rw [List.take_succ_cons, List.flatten_cons, List.flatten_cons, flat_take i (fun r hr => h r (by simp [hr])), List.take_append, List.take_of_length_le (l := r) (by rw [e, Nat.add_mul]; omega)]
  congr 2
  rw [e, Nat.add_mul]; omega
theorem flat_drop {α : Type} {sz : Nat} : ∀ {rows : List (List α)} (i : Nat), (∀ r ∈ rows, r.length = sz) → (rows.drop i).flatten = rows.flatten.drop (i * sz)
 | [], i, _ => by simp
 | r :: rows, 0, h => by simp
 | r :: rows, i + 1, h => by
  have e := h r (by simp)
  rw [List.drop_succ_cons, List.flatten_cons, flat_drop i (fun r hr => h r (by simp [hr])), List.drop_append, List.drop_of_length_le (l := r) (by rw [e, Nat.add_mul]; omega), List.nil_append]
  congr 1
  rw [e, Nat.add_mul]; omega
theorem RowAt.drew {w wr : World} {b ty N : Nat} {F : List Value} (h : RowAt w wr b ty N F) : RowAt w wr.drew b ty N F := by
 obtain ⟨c, h1, h2, h3⟩ := h.cells
 exact ⟨⟨c, h1, h2, h3⟩, grownBy_trans h.grown ⟨rfl, rfl, rfl, Nat.le_refl _, fun _ _ _ => rfl⟩⟩
theorem RowAt.shape {w wr : World} {b ty N : Nat} {F : List Value} (h : RowAt w wr b ty N F) : wr.shape? b = some (ty, N) := by
 obtain ⟨c, h1, h2, h3⟩ := h.cells
 simp [World.shape?, h1, h2]
theorem RowAt.pre {w wr : World} {b ty N : Nat} {F G : List Value} (h : RowAt w wr b ty N F) (hp : G <+: F) : RowAt w wr b ty N G := by
 obtain ⟨c, h1, h2, h3⟩ := h.cells
 exact ⟨⟨c, h1, h2, hp.trans h3⟩, h.grown⟩
theorem row_down {V : View} {w : World} {ty sz : Nat} {rows : List (List D)} {y : Value} {S : List Nat} (h : RowR V w ty sz rows y S) :
    (∀ r ∈ rows, r.length = sz) ∧ ((((∃ ao, y = .slice ao 0 0) ∧ rows = [] ∧ S = [])) ∨ ∃ b cap ys Ss, y = .slice (some ⟨b, 0, none⟩) rows.length cap ∧ rows.length ≤ cap ∧ cap ≤ maxLen ∧ RowAt w w b ty (cap * sz) ys ∧ ys.length = rows.length * sz ∧ LayL V rows.flatten ys Ss ∧ V b = none ∧ S = b :: Ss.flatten) := by
 obtain ⟨h0, ys, Ss, h1, h3⟩ := h
 refine ⟨h0, ?_⟩
 rcases h3 with h3 | ⟨b, cap, c, rfl, e3, e4, e5, e6, e7, e8, rfl⟩
 ·exact .inl h3
 ·exact .inr ⟨b, cap, ys, Ss, rfl, e3, e4, ⟨⟨c, e5, e6, e7⟩, grownBy_refl w _⟩, by rw [h1.1, flat_len h0], h1, e8, rfl⟩
theorem row_up {V : View} {w w' : World} {ty sz b cap : Nat} {rows : List (List D)} {ys : List Value} {Ss : List (List Nat)} {G : List Value} (hu : ∀ r ∈ rows, r.length = sz) (hl : LayL V rows.flatten ys Ss) (h : RowAt w w' b ty (cap * sz) (ys ++ G)) (hn : rows.length ≤ cap) (hcap : cap ≤ maxLen) (hV : V b = none) :
    RowR V w' ty sz rows (.slice (some ⟨b, 0, none⟩) rows.length cap) (b :: Ss.flatten) := by
 obtain ⟨c, h1, h2, h3⟩ := h.cells
 exact ⟨hu, ys, Ss, hl, .inr ⟨b, cap, c, rfl, hn, hcap, h1, h2, (List.prefix_append _ _).trans h3, hV, rfl⟩⟩
end Go.Sx
end
section
set_option maxRecDepth 100000
namespace Go.Sx
open Go Go.RowKit
structure DelK (k : Nat) (xs : List (List Value × Bool)) (i j : Nat) (F : List Value) : Prop where
 un : ∀ x ∈ xs, x.1.length = k
 len : F.length = xs.length * k
 ij : i < j
 jn : j ≤ xs.length
 lo : F.take (i * k) = (((xs.take j).filter fun x => !x.2).map (·.1)).flatten
 hi : F.drop (j * k) = ((xs.drop j).map (·.1)).flatten
 il : i = ((xs.take j).filter fun x => !x.2).length
theorem cells_len {k : Nat} {xs : List (List Value × Bool)} (h : ∀ x ∈ xs, x.1.length = k) : ((xs.map (·.1)).flatten).length = xs.length * k := by
 rw [flat_len (sz := k) fun r hr => by obtain ⟨x, hx, rfl⟩ := List.mem_map.1 hr; exact h x hx, List.length_map]
theorem DelK.at {k : Nat} {xs : List (List Value × Bool)} {i j : Nat} {F : List Value} (h : DelK k xs i j F) (hj : j < xs.length) {t : Nat} {v : Value} (ht : xs[j].1[t]? = some v) : F[j * k + t]? = some v := by
 have h0 : (F.drop (j * k))[t]? = ((xs.drop j).map (·.1)).flatten[t]? := by rw [h.hi]
 rw [List.getElem?_drop] at h0
 rw [h0, List.drop_eq_getElem_cons hj, List.map_cons, List.flatten_cons, List.getElem?_append_left (List.getElem?_eq_some_iff.1 ht).1]
 exact ht
theorem filt_all (xs : List (List Value × Bool)) (k : Nat) (h : ∀ j (hj : j < xs.length), j < k → xs[j].2 = false) : (xs.take k).filter (fun x => !x.2) = xs.take k := by
 refine List.filter_eq_self.2 fun x hx => ?_
 obtain ⟨j, hj, rfl⟩ := List.mem_iff_getElem.1 hx
 simp only [List.length_take] at hj
 rw [List.getElem_take, h j (by omega) (by omega)]; rfl
theorem DelK.start {k n : Nat} {xs : List (List Value × Bool)} (hu : ∀ x ∈ xs, x.1.length = k) (hn : n < xs.length) (h : ∀ j (hj : j < xs.length), j < n → xs[j].2 = false) (hp : xs[n].2 = true) : DelK k xs n (n + 1) (xs.map (·.1)).flatten := by
 have e1 : (xs.take (n + 1)).filter (fun x => !x.2) = xs.take n := by
  rw [List.take_succ_eq_append_getElem hn, List.filter_append, filt_all xs n h]
  simp [hp]
 have hu' : ∀ r ∈ xs.map (·.1), r.length = k := fun r hr => by obtain ⟨x, hx, rfl⟩ := List.mem_map.1 hr; exact hu x hx
 refine ⟨hu, cells_len hu, by omega, by omega, ?_, ?_, ?_⟩
 ·rw [e1, List.map_take, flat_take n hu']
 ·rw [List.map_drop, flat_drop (n + 1) hu']
 ·rw [e1]; simp; omega
theorem DelK.keep {k : Nat} {xs : List (List Value × Bool)} {i j : Nat} {F : List Value} (h : DelK k xs i j F) (hj : j < xs.length) (hp : xs[j].2 = false) : DelK k xs (i + 1) (j + 1) (F.take (i * k) ++ xs[j].1 ++ F.drop (i * k + xs[j].1.length)) := by
 have e1 : (xs.take (j + 1)).filter (fun x => !x.2) = (xs.take j).filter (fun x => !x.2) ++ [xs[j]] := by
  rw [List.take_succ_eq_append_getElem hj, List.filter_append]
  simp [hp]
 have hl := h.len
 have hij := h.ij
 have hu := h.un xs[j] (List.getElem_mem hj)
 have hle : (i + 1) * k ≤ j * k := Nat.mul_le_mul_right k hij
 have hle2 : (j + 1) * k ≤ xs.length * k := Nat.mul_le_mul_right k hj
 rw [Nat.add_mul] at hle hle2
 simp only [Nat.one_mul] at hle hle2
 have hFl : i * k + k ≤ F.length := by omega
 refine ⟨h.un, ?_, by omega, by omega, ?_, ?_, ?_⟩
 ·simp only [List.length_append, List.length_take, List.length_drop, hu]; omega
 ·rw [List.take_append_of_le_length (by simp [hu, Nat.add_mul]; omega), List.take_of_length_le (by simp [hu, Nat.add_mul]; omega), e1, List.map_append, List.flatten_append, h.lo]; simp
 ·rw [List.drop_append, List.drop_of_length_le (by simp [hu, Nat.add_mul]; omega), List.nil_append, List.drop_drop]
  have e2 : F.drop ((j + 1) * k) = ((xs.drop (j + 1)).map (·.1)).flatten := by
   have hu' : ∀ r ∈ (xs.drop j).map (·.1), r.length = k := fun r hr => by obtain ⟨x, hx, rfl⟩ := List.mem_map.1 hr; exact h.un x (List.mem_of_mem_drop hx)
   have := flat_drop 1 hu'
   rw [Nat.add_mul, ← List.drop_drop, h.hi, ← this, ← List.map_drop, List.drop_drop]
  rw [← e2]
  congr 1
  simp only [List.length_append, List.length_take, hu, Nat.add_mul]
  omega
 ·rw [e1, List.length_append, ← h.il]; rfl
theorem DelK.skip {k : Nat} {xs : List (List Value × Bool)} {i j : Nat} {F : List Value} (h : DelK k xs i j F) (hj : j < xs.length) (hp : xs[j].2 = true) : DelK k xs i (j + 1) F := by
 have e1 : (xs.take (j + 1)).filter (fun x => !x.2) = (xs.take j).filter (fun x => !x.2) := by
  rw [List.take_succ_eq_append_getElem hj, List.filter_append]
  simp [hp]
 have hij := h.ij
 refine ⟨h.un, h.len, by omega, by omega, by rw [e1]; exact h.lo, ?_, by rw [e1]; exact h.il⟩
 have hu' : ∀ r ∈ (xs.drop j).map (·.1), r.length = k := fun r hr => by obtain ⟨x, hx, rfl⟩ := List.mem_map.1 hr; exact h.un x (List.mem_of_mem_drop hx)
 have := flat_drop 1 hu'
 rw [Nat.add_mul, ← List.drop_drop, h.hi, ← this, ← List.map_drop, List.drop_drop]
theorem DelK.fin {k : Nat} {xs : List (List Value × Bool)} {i : Nat} {F : List Value} (h : DelK k xs i xs.length F) : F.take (i * k) = ((xs.filter fun x => !x.2).map (·.1)).flatten ∧ i = (xs.filter fun x => !x.2).length := by
 have h1 := h.lo
 have h2 := h.il
 rw [List.take_length] at h1 h2
 exact ⟨h1, h2⟩
theorem RowAt.other {w wr W : World} {b ty N : Nat} {F : List Value} (h : RowAt w wr b ty N F) (hb : Below wr.heap.size wr W) : RowAt w W b ty N F := h.behind hb
def chunks {τ : Type} (k : Nat) (p : τ → Bool) : List Value → List τ → List (List Value × Bool)
 | _, [] => []
 | ys, x :: l => (ys.take k, p x) :: chunks k p (ys.drop k) l
def selK {α τ : Type} (k : Nat) (p : τ → Bool) : List α → List τ → List α
 | _, [] => []
 | ys, x :: l => (if p x then [] else ys.take k) ++ selK k p (ys.drop k) l
theorem LayL.sel {τ : Type} {V : View} {k : Nat} (enc : τ → List D) (p : τ → Bool) (he : ∀ x, (enc x).length = k) : ∀ (l : List τ) (ys : List Value) (Ss : List (List Nat)), LayL V (l.map enc).flatten ys Ss → LayL V ((l.filter fun x => !p x).map enc).flatten (selK k p ys l) (selK k p Ss l)
 | [], ys, Ss, h => LayL.nil V
 | x :: l, ys, Ss, h => by
  have h1 := h.take k
  have h2 := h.drop k
  simp only [List.map_cons, List.flatten_cons] at h1 h2
  rw [List.take_left' (he x)] at h1
  rw [List.drop_left' (he x)] at h2
  have ih := LayL.sel enc p he l _ _ h2
  simp only [selK, List.filter_cons]
  cases p x
  ·simp only [Bool.not_false, if_true, Bool.false_eq_true, if_false, List.map_cons, List.flatten_cons]
   exact h1.append ih
  ·simp only [Bool.not_true, Bool.false_eq_true, if_false, if_true, List.nil_append]
   exact ih
theorem sub_flatten {α : Type} {l m : List (List α)} (h : l.Sublist m) : l.flatten.Sublist m.flatten := by
 induction h with
 | slnil => exact List.Sublist.refl _
 | cons a _ ih => exact ih.trans (by simp)
 | cons_cons a _ ih => simp only [List.flatten_cons]; exact (List.Sublist.refl a).append ih
end Go.Sx
end
section
namespace Go.Proofs.YtddimbdeggomaaaGreat
open Go Go.Sx Go.RowKit Go.Proofs Go.Lib
theorem step_append_runK {P : Program} {ops : Array Oper} {o : Oper} {a : Act} {w : World} {K : Act → World → Prop} {Q : Exit → Act → World → Prop} {E : Prop}
    (hg : o.guard = none) (d x : Operand) (dT sT : TypeId) (hop : o.op = Op.call { callee := Callee.builtin Builtin.append, args := #[d, x], argTypes := #[dT, sT] })
    (v u : Value) (hd : a.eval d = v) (hx : a.eval x = u) {v' : Value} {w' : World} (hr : (Builtin.append_ #[dT, sT] o.type #[v, u]).run P w = .ok v' w') (hK : K (a.put o.dst v') w') :
    if Region.wanted o (yielded ops a.tmps) = true then Oper.wp P o a w K Q else E := by
 have hw : Region.wanted o (yielded ops a.tmps) = true := by simp [Region.wanted, hg]
 rw [if_pos hw]
 unfold Oper.wp
 simp [execOp, hop, resolve, invoke, builtin, hd, hx, hr, Result.andThen]
 exact hK
set_option maxHeartbeats 4000000 in
set_option maxRecDepth 1000000 in
theorem delaFile_walk (b c i n : Nat) (F : List Value) (w : World) (hi : i < n) (hn : n ≤ c) (hc63 : c ≤ 9223372036854775807) (hF : F.length = n * 5) (hR : RowAt w w b 73 (c * 5) F) (h1F : ∀ v ∈ F, v.oneCell' = true) :
    Calls Tryz.prog 191 #[.slice (some ⟨b, 0, none⟩) n c, .int .i64 i, .int .i64 ((i : Int) + 1)] w fun e w' =>
     e = .returned (.slice (some ⟨b, 0, none⟩) (n - 1) c) ∧ ∃ G, RowAt w w' b 73 (c * 5) (F.take (i * 5) ++ F.drop ((i + 1) * 5) ++ G) := by
 obtain ⟨i0, hi0, hzs⟩ : ∃ i0, Tryz.prog.info? 73 = some i0 ∧ i0.size = 5 := ⟨Tryz.t73, by kernel_rfl, rfl⟩
 have hdl : (F.drop ((i + 1) * 5)).length = (n - (i + 1)) * 5 := by rw [List.length_drop, hF, Nat.sub_mul]
 have h1D : ∀ v ∈ F.drop ((i + 1) * 5), v.oneCell' = true := fun v hv => h1F v (List.mem_of_mem_drop hv)
 have hsrc : ∀ a cc, (n - (i + 1) ≠ 0 → a = ⟨b, (i + 1) * 5, none⟩) → Src Tryz.prog i0.size 37 (.slice (some a) (n - (i + 1)) cc) (n - (i + 1)) (F.drop ((i + 1) * 5)) w.drew := fun a cc ha => by
  have hRd := hR.drew
  refine Src.ofSlice w.drew Tryz.underlying37 a (n - (i + 1)) cc _ (by rw [hzs, hdl]) (fun j u hj => ?_) h1D
  have hjl := (List.getElem?_eq_some_iff.1 hj).1
  rw [hdl] at hjl
  rw [ha (by intro e; rw [e] at hjl; omega), Addr.add_lit]
  exact hRd.cell (by rwa [List.getElem?_drop] at hj)
 have hsub : i + (n - (i + 1)) = n - 1 := by omega
 have hle1 : i * 5 + (n - (i + 1)) * 5 ≤ c * 5 := by rw [← Nat.add_mul]; exact Nat.mul_le_mul_right _ (by omega)
 have hle2 : i * 5 ≤ n * 5 := Nat.mul_le_mul_right _ (by omega)
 have hRd := hR.drew
 have hrun : ∀ a cc ty, (n - (i + 1) ≠ 0 → a = ⟨b, (i + 1) * 5, none⟩) → (Builtin.append_ #[37, 37] ty #[.slice (some ⟨b, 0, none⟩) i c, .slice (some a) (n - (i + 1)) cc]).run Tryz.prog w.drew = .ok (.slice (some ⟨b, 0, none⟩) (n - 1) c) (w.drew.setCells b (i * 5) (F.drop ((i + 1) * 5))) := fun a cc ty ha => by
  have h := run_append_room_src w.drew 37 37 ty 73 i0 Tryz.underlying37 hi0 b 0 i c _ (n - (i + 1)) _ (hsrc a cc ha) (by omega) (fun j hj => hRd.there (by rw [hdl] at hj; rw [hzs]; omega)) (fun j hj => hRd.frozen _)
  rw [hzs, Nat.zero_add, hsub] at h
  exact h
 have hR1 := hRd.set (F.drop ((i + 1) * 5)) (s := i * 5) (by rw [hF]; exact hle2) (by rw [hdl]; exact hle1)
 obtain ⟨W1, hW1⟩ : ∃ W1, W1 = w.drew.setCells b (i * 5) (F.drop ((i + 1) * 5)) := ⟨_, rfl⟩
 rw [← hW1] at hrun hR1
 have hlF1 : (F.take (i * 5) ++ F.drop ((i + 1) * 5) ++ F.drop (i * 5 + (F.drop ((i + 1) * 5)).length)).length = n * 5 := by
  simp only [List.length_append, List.length_take, List.length_drop, hF]
  have h1 : (i + 1) * 5 ≤ n * 5 := Nat.mul_le_mul_right _ hi
  rw [Nat.add_mul] at h1 ⊢
  omega
 have hn1 : (n - 1) * 5 + 5 = n * 5 := by
  have : (n - 1 + 1) * 5 = n * 5 := by congr 1; omega
  rw [Nat.add_mul] at this; omega
 have hnc : n * 5 ≤ c * 5 := Nat.mul_le_mul_right _ hn
 have hzl := zeroCells_len (.agg #[.int .i64 0, .int .i64 0, .bool false, .int .i64 0, .slice none 0 0] : Value).cells 1
 have hz5 : (.agg #[.int .i64 0, .int .i64 0, .bool false, .int .i64 0, .slice none 0 0] : Value).cells.size = 5 := rfl
 rw [hz5] at hzl
 have hcl : ∀ ty cc, (Builtin.clear_ #[37] ty #[.slice (some ⟨b, (n - 1) * 5, none⟩) 1 cc]).run Tryz.prog W1 = .ok (.tuple #[]) (W1.setCells b ((n - 1) * 5) (Builtin.zeroCells (.agg #[.int .i64 0, .int .i64 0, .bool false, .int .i64 0, .slice none 0 0] : Value).cells 1).toList) :=
  fun ty cc => run_clear_k W1 _ _ ty _ Tryz.underlying37 (fun w => Tryz.zeroValue73 w) b ((n - 1) * 5) _ _ (by omega) (fun t ht => hR1.there (by rw [hz5] at ht; omega)) (fun t ht => hR1.frozen _) (zeroCells_one (by intro v hv; simp [Value.cells] at hv; rcases hv with rfl | rfl | rfl | rfl | rfl <;> rfl) _)
 have HE : Aside (∃ G, RowAt w (W1.setCells b ((n - 1) * 5) (Builtin.zeroCells (.agg #[.int .i64 0, .int .i64 0, .bool false, .int .i64 0, .slice none 0 0] : Value).cells 1).toList) b 73 (c * 5) (F.take (i * 5) ++ F.drop ((i + 1) * 5) ++ G)) := by
  have h := hR1.set (Builtin.zeroCells (.agg #[.int .i64 0, .int .i64 0, .bool false, .int .i64 0, .slice none 0 0] : Value).cells 1).toList (s := (n - 1) * 5) (by rw [hlF1]; omega) (by rw [hzl]; omega)
  have hd1 : (F.take (i * 5) ++ F.drop ((i + 1) * 5)).length = (n - 1) * 5 := by
   simp only [List.length_append, List.length_take, hdl, hF]
   have h2 : i * 5 + (n - (i + 1)) * 5 = (n - 1) * 5 := by rw [← Nat.add_mul, hsub]
   omega
  rw [List.take_append_of_le_length (by rw [hd1]; omega), List.take_of_length_le (by rw [hd1]; omega), List.append_assoc] at h
  exact ⟨_, h⟩
 have hb3 : (i : Int) + 1 ≤ (n : Int) := by omega
 have hb1 : (0 : Int) ≤ (i : Int) + 1 := by omega
 have hb4 : ¬ ((i : Int) = (i : Int) + 1) := by omega
 have hb5 : (i : Int) ≤ (i : Int) + 1 := by omega
 have htn : ((i : Int) + 1).toNat = i + 1 := by omega
 have hin : i ≤ n := by omega
 have hic : i ≤ c := by omega
 have hb6 : ((n - 1 : Nat) : Int) ≤ (n : Int) := by omega
 have hb7 : n - (n - 1) = 1 := by omega
 have hb8 : ¬ (c = n - 1) := by omega
 have mixed := fol
 clear hR hRd hR1 hsrc h1F h1D hlF1 hzl hz5 hn1 hnc hle1 hle2
 by_cases hci : c = i + 1
 ·have hni : n = i + 1 := by omega
  subst hni
  subst hci
  have hnil : F.drop ((i + 1) * 5) = [] := List.eq_nil_of_length_eq_zero (by rw [hdl, Nat.sub_self, Nat.zero_mul])
  have hW0 : W1 = w.drew := by rw [hW1, hnil]; rfl
  rw [hW0] at hcl HE
  simp only [Nat.add_sub_cancel] at hcl HE
  clear hW1 hW0 hF hdl hrun hnil
  go_enter Tryz.func191, Tryz.ntmps191
  go_wp2_with fail
  go_region_law_o (fail)
  go_wp2
  go_ret
  exact ⟨rfl, HE.out⟩
 ·clear hW1 hF hdl
  go_enter Tryz.func191, Tryz.ntmps191
  go_wp2_with fail
  go_region_law_o (refine step_append_runK rfl _ _ 37 37 rfl (.slice (some ⟨b, 0, none⟩) i c) (.slice (some ⟨b, (i + 1) * 5, none⟩) (n - (i + 1)) (c - (i + 1))) (by simp [Act.eval, Act.put]) (by simp [Act.eval, Act.put]) (hrun ⟨b, (i + 1) * 5, none⟩ (c - (i + 1)) _ (fun _ => rfl)) ?_)
  go_wp2
  go_ret
  exact ⟨rfl, HE.out⟩
theorem delaFile_ok (l : List TFile) (i : Nat) (hi : i < l.length) (hl : l.length ≤ 8388608) :
    FnI Tryz.prog 191 73 5 (l.map encFile) [oi i, oi ((i : Int) + 1)] false ((cutAt i l).map encFile) := by
 refine ⟨Tryz.call191, fun V w y S vs hm hrow hnd hlt hargs => ?_⟩
 have hl1 : vs.length = 2 := by have := hargs.1; simpa using this
 match vs, hl1 with
 | [v1, v2], _ =>
  obtain ⟨_, e1⟩ : ∃ S, Lay V (.v (.int .i64 i)) v1 S := hargs.2 0 _ v1 rfl rfl
  obtain ⟨_, e2⟩ : ∃ S, Lay V (.v (.int .i64 ((i : Int) + 1))) v2 S := hargs.2 1 _ v2 rfl rfl
  cases e1; cases e2
  obtain ⟨hu, h⟩ := row_down hrow
  have hi' : i < (l.map encFile).length := by simpa using hi
  rcases h with ⟨_, hnil, _⟩ | ⟨b, cap, ys, Ss, rfl, e3, e4, hR, el, eL, eV, rfl⟩
  ·rw [hnil] at hi'; exact absurd hi' (by simp)
  ·have hup2 := eL.take (i * 5)
   have hup3 := eL.drop ((i + 1) * 5)
   rw [← flat_take i hu] at hup2
   rw [← flat_drop (i + 1) hu] at hup3
   have hL := hup2.append hup3
   rw [← List.flatten_append] at hL
   refine (delaFile_walk b cap i (l.map encFile).length ys w hi' e3 (by unfold maxLen at e4; omega) el hR eL.oneCell).mono ?_
   rintro e w' ⟨rfl, G, hG⟩
   have hlen : ((l.map encFile).take i ++ (l.map encFile).drop (i + 1)).length = (l.map encFile).length - 1 := by simp; omega
   have hrw := row_up (V := V) (cap := cap) (fun r hr => by
    rcases List.mem_append.1 hr with h' | h'
    ·exact hu r (List.mem_of_mem_take h')
    ·exact hu r (List.mem_of_mem_drop h')) hL hG (by rw [hlen]; omega) e4 eV
   rw [hlen] at hrw
   have hsub : (Ss.take (i * 5) ++ Ss.drop ((i + 1) * 5)).Sublist Ss := by
    conv => rhs; rw [← List.take_append_drop (i * 5) Ss]
    refine List.Sublist.append_left ?_ _
    rw [Nat.add_mul, ← List.drop_drop]
    exact List.drop_sublist _ _
   have hfs := sub_flatten hsub
   refine ⟨_, rfl, (fun h => (by cases h)), ⟨hG.grown, b :: (Ss.take (i * 5) ++ Ss.drop ((i + 1) * 5)).flatten, ?_, ?_, (fun n hn => .inl ?_), (fun h => (by cases h))⟩⟩
   ·rw [cut_map]; exact hrw
   ·exact hnd.sublist (hfs.cons_cons b)
   ·exact (hfs.cons_cons b).subset hn
end Go.Proofs.YtddimbdeggomaaaGreat
end
section
set_option maxRecDepth 100000
set_option maxHeartbeats 4000000
namespace Go.Proofs.YtddimbdeggomaaaGreat
open Go Go.Sx Go.RowKit Go.Proofs
theorem implDelete_ok (s : TStore) (id : Int) (hs : wStore s ≤ 4300000) : FnC Tryz.prog 121 [gStore s, oi id] (.t [(true, (rStore (delS s id)).cells), (false, [.d (bv (delOK s id))])]) := by
 have h2 : s.fFiles.length ≤ 4300000 := by unfold wStore wFileS at hs; omega
 have hk := fileAt_ok s id h2
 refine ent Tryz.func121 rfl Tryz.call121 rfl (fun C => ?_); simp only [go_sem, st0, Tryz.ntmps121]
 cases hv : okStore s
 ·have e : delOK s id = false := by simp [delOK, hv]
  have q0 := @hv; refine w1_3 (cpStore_ok s hs) hk (implStore_ok s hs) ?_
  exact retK_ret ⟨⟨_, rfl, by simp only [go_sem, delS, e]; try simp⟩, by simp [notOne]⟩
 rcases ixF_cases id s.fFiles with ei | ⟨p, ei, hp, _⟩
 ·have e : delOK s id = false := by simp [delOK, ei]
  have hy : (-1 : Int) < 0 := by omega
  rw [ei] at hk
  have q0 := @hv; have q1 := @hy; have q2 := @decide_true; refine w3_3 (cpStore_ok s hs) hk (implStore_ok s hs) ?_
  exact retK_ret ⟨⟨_, rfl, by simp only [go_sem, delS, e]; try simp⟩, by simp [notOne]⟩
 ·have hy : ¬ (p : Int) < 0 := by omega
  rw [ei] at hk
  have e : delOK s id = true := by simp [delOK, hv, ei]
  have hp' : p < (s.fFiles.map encFile).length := by simpa using hp
  repeat' (with_reducible first | refine nY ?_ | (refine mX ?_; try simp only [go_sem, hv, hy, hp, decide_false, Int.toNat_natCast, List.length_map]) | refine kO ?_ (by decide) | refine regd (by kernel_rfl) ?_ | (refine cC (cpStore_ok s hs) ?_ ?_; focus simp only [go_sem, and_self]; done) | (refine cC (hk) ?_ ?_; focus simp only [go_sem, and_self]; done) | (refine cC (implStore_ok s hs) ?_ ?_; focus simp only [go_sem, and_self]; done) | (refine cali (delaFile_ok s.fFiles p hp (by omega)) ?_ ?_ ?_ (uX ?_); (focus simp only [go_sem, hv, hy, hp, decide_false, Int.toNat_natCast, List.length_map]; done); (focus simp only [go_sem, hv, hy, hp, decide_false, Int.toNat_natCast, List.length_map]; done); (focus simp only [go_sem, hv, hy, hp, decide_false, Int.toNat_natCast, List.length_map]; done)) | (refine calj (delaFile_ok s.fFiles p hp (by omega)) ?_ ?_ ?_ (uX ?_); (focus simp only [go_sem, hv, hy, hp, decide_false, Int.toNat_natCast, List.length_map]; done); (focus simp only [go_sem, hv, hy, hp, decide_false, Int.toNat_natCast, List.length_map]; done); (focus simp only [go_sem, hv, hy, hp, decide_false, Int.toNat_natCast, List.length_map]; done)) | (refine And.intro ?_ ?_; focus omega))
  exact retK_ret ⟨⟨_, rfl, by simp only [go_sem, delS, e, ei, Int.toNat_natCast, if_true]; try simp⟩, by simp [notOne]⟩
theorem uniFile (l : List TFile) : ∀ r ∈ l.map encFile, r.length = 5 := by intro r hr; obtain ⟨x, _, rfl⟩ := List.mem_map.1 hr; rfl
theorem specDelete_ok (s : TStore) (id : Int) (hs : wStore s ≤ 4300000) : FnC Tryz.prog 120 [gStore s, oi id] (.t [(true, (gStore (delS s id)).cells), (false, [.d (bv (delOK s id))])]) := by
 have h2 : s.fFiles.length ≤ 4300000 := by unfold wStore wFileS at hs; omega
 have hk := l05Place_ok s id h2
 have hcp : FnC Tryz.prog 100 [gStore s] (gStore s) := (l05Cp_ok s hs).pu (by simp only [go_sem, and_self])
 refine ent Tryz.func120 rfl Tryz.call120 rfl (fun C => ?_); simp only [go_sem, st0, Tryz.ntmps120]
 cases hv : okStore s
 ·have e : delOK s id = false := by simp [delOK, hv]
  have q0 := @hv; refine w1_3 hcp hk (specStore_ok s hs) ?_
  exact retK_ret ⟨⟨_, rfl, by simp only [go_sem, delS, e]; try simp⟩, by simp [notOne]⟩
 rcases ixF_cases id s.fFiles with ei | ⟨p, ei, hp, _⟩
 ·have e : delOK s id = false := by simp [delOK, ei]
  have hy : (-1 : Int) < 0 := by omega
  rw [ei] at hk
  have q0 := @hv; have q1 := @hy; have q2 := @decide_true; refine w3_3 hcp hk (specStore_ok s hs) ?_
  exact retK_ret ⟨⟨_, rfl, by simp only [go_sem, delS, e]; try simp⟩, by simp [notOne]⟩
 ·have hy : ¬ (p : Int) < 0 := by omega
  rw [ei] at hk
  have e : delOK s id = true := by simp [delOK, hv, ei]
  have hpn : ((p : Int) + 1).toNat = p + 1 := by omega
  have hT : List.take s.fFiles.length (List.map encFile s.fFiles) = List.map encFile s.fFiles := List.take_of_length_le (by simp)
  have hTk : List.take p (List.map encFile s.fFiles) = (s.fFiles.take p).map encFile := List.map_take.symm
  have hDp : List.drop (p + 1) (List.map encFile s.fFiles) = (s.fFiles.drop (p + 1)).map encFile := List.map_drop.symm
  repeat' (with_reducible first | refine nY ?_ | (refine mX ?_; try simp only [go_sem, hv, hy, hp, hpn, hT, hTk, hDp, List.length_take, List.length_drop, List.length_append, decide_false, Int.toNat_natCast, List.length_map]) | refine kO ?_ (by decide) | (apply rE [0,5,11,13] [] [1,2,3,4,6,7,8,9,10] [1,2,3,4,6,7,8,9,10] ((.c 0 [] [1,2,3,4,6,7,8,9,10] (.c 5 [] [6,7,8,9,10] (.c 11 [12] [12] (.c 13 [] [] .n .n) .n) .n) .n)) (by simp only [go_sem]; rfl) (by simp only [go_sem]; rfl) (by simp only [go_sem]; rfl) (by decide +kernel); (focus simp only [go_sem]; done)) | exact tt_nil | (refine tt_cons (uX ?_) ?_) | refine tn_leaf (aX ?_) ?_ | refine tn_node (aX ?_) ?_ | exact meet_eq | (refine oG ?_; (focus simp only [go_sem]; done)) | (refine uA ?_; simp only [go_sem, hv, hy, hp, hpn, hT, hTk, hDp, List.length_take, List.length_drop, List.length_append, decide_false, Int.toNat_natCast, List.length_map]; (repeat' first | omega | exact uniFile _ | refine And.intro ?_ ?_); done) | refine regd (by kernel_rfl) ?_ | refine And.intro (uniFile _) ?_ | (refine cC (hcp) ?_ ?_; focus simp only [go_sem, and_self]; done) | (refine cC (hk) ?_ ?_; focus simp only [go_sem, and_self]; done) | (refine cC (specStore_ok s hs) ?_ ?_; focus simp only [go_sem, and_self]; done) | (refine And.intro ?_ ?_; focus omega))
  first | refine retK_sees (Sees.frz 4 rfl) ?_ | refine retK_sees (Sees.frz 3 rfl) ?_ | refine retK_sees (Sees.frz 2 rfl) ?_
  simp only [go_sem]
  exact retK_ret ⟨⟨_, rfl, by simp only [go_sem, delS, e, ei, Int.toNat_natCast, if_true, cutAt, List.map_append]; try simp⟩, by simp [notOne]⟩
noncomputable def remB (c : TCatalog) (id : Int) : Bool := curB c && delOK c.fStore id
noncomputable def remC (c : TCatalog) (id : Int) : TCatalog := goC (remB c id) c (delS c.fStore id) c.fDirs (dirNs c.fDirs)
noncomputable def remD (c : TCatalog) (id : Int) : List TDiff := goD (remB c id) c (delS c.fStore id) c.fDirs (dirNs c.fDirs)
theorem implRemove_ok (c : TCatalog) (id : Int) (h : wCatalog c ≤ 4300000) : FnC Tryz.prog 50 [gCatalog c, oi id] (.t [(true, (rCatalog (remC c id)).cells), (false, [.w 158 3 ((remD c id).map encDiff)]), (false, [.d (bv (remB c id))])]) := by
 have hc : wCatalog c = wStore c.fStore + wDirS c.fDirs + wResultS c.fResults := rfl
 have hw := delS_w c.fStore id
 have hl : c.fDirs.length ≤ 4300000 := by unfold wDirS at hc; omega
 have hn : (dirNs c.fDirs).length ≤ 4300000 := by rw [dirNs_len]; exact hl
 refine ent Tryz.func50 rfl Tryz.call50 rfl (fun C => ?_); simp only [go_sem, st0, Tryz.ntmps50]
 cases h2 : delOK c.fStore id
 ·have e : remB c id = false := by simp [remB, h2]
  have q0 := @h2; refine w1_3 (implDelete_ok c.fStore id (by omega)) (implCur_ok c (by omega)) (cpCat_ok c (by omega)) ?_
  exact retK_ret ⟨⟨_, rfl, by simp only [go_sem, remC, remD, e, goC_no, goD_no, List.map_nil]; try simp⟩, by simp [notOne]⟩
 cases h1 : curB c
 ·have e : remB c id = false := by simp [remB, h1]
  have q0 := @h1; have q1 := @h2; refine w2_3 (implDelete_ok c.fStore id (by omega)) (implCur_ok c (by omega)) (cpCat_ok c (by omega)) ?_
  exact retK_ret ⟨⟨_, rfl, by simp only [go_sem, remC, remD, e, goC_no, goD_no, List.map_nil]; try simp⟩, by simp [notOne]⟩
 ·have e : remB c id = true := by simp [remB, h1, h2]
  have hev : evB (delS c.fStore id) c.fDirs = true := by unfold evB; rw [cur_s h1, del_ok h2]; rfl
  have hk := chTo_go c (delS c.fStore id) c.fDirs (dirNs c.fDirs) hev (by omega) (by omega) (by omega) hn
  repeat' (with_reducible first | refine nY ?_ | (refine mX ?_; try simp only [go_sem, h1, h2]) | refine kO ?_ (by decide) | (apply rE [6,7,11] [] [0,1,2,3,4,5] [0,1,2,3,4,5] ((.c 6 [] [0,1,2,3] (.c 7 [8,9,10] [8,9,10] (.c 11 [12,13] [12,13] .n .n) .n) .n)) (by simp only [go_sem]; rfl) (by simp only [go_sem]; rfl) (by simp only [go_sem]; rfl) (by decide +kernel); (focus simp only [go_sem]; done)) | exact tt_nil | (refine tt_cons (uX ?_) ?_) | refine tn_leaf (aX ?_) ?_ | refine tn_node (aX ?_) ?_ | exact meet_eq | (refine oG ?_; (focus simp only [go_sem]; done)) | (refine uA ?_; simp only [go_sem, h1, h2]; (repeat' first | omega | refine And.intro ?_ ?_); done) | refine regd (by kernel_rfl) ?_ | (refine cC (implDelete_ok c.fStore id (by omega)) ?_ ?_; focus simp only [go_sem, and_self]; done) | (refine cC (implCur_ok c (by omega)) ?_ ?_; focus simp only [go_sem, and_self]; done) | (refine cC (dirNamesd_ok c.fDirs hl) ?_ ?_; focus simp only [go_sem, and_self]; done) | (refine cC (hk) ?_ ?_; focus simp only [go_sem, and_self]; done) | (refine And.intro ?_ ?_; focus omega))
  exact retK_ret ⟨⟨_, rfl, by simp only [go_sem, remC, remD, e]; try simp⟩, by simp [notOne]⟩
theorem specRemove_ok (c : TCatalog) (id : Int) (h : wCatalog c ≤ 4300000) : FnC Tryz.prog 49 [gCatalog c, oi id] (.t [(true, (gCatalog (remC c id)).cells), (false, [.d (.sl ((remD c id).map encDiff))]), (false, [.d (bv (remB c id))])]) := by
 have hc : wCatalog c = wStore c.fStore + wDirS c.fDirs + wResultS c.fResults := rfl
 have hw := delS_w c.fStore id
 have hl : c.fDirs.length ≤ 4300000 := by unfold wDirS at hc; omega
 have hn : (dirNs c.fDirs).length ≤ 4300000 := by rw [dirNs_len]; exact hl
 refine ent Tryz.func49 rfl Tryz.call49 rfl (fun C => ?_); simp only [go_sem, st0, Tryz.ntmps49]
 cases h1 : curB c
 ·have e : remB c id = false := by simp [remB, h1]
  have q0 := @h1; refine w1_3 (l19Cpd_ok c (by omega)) (specDelete_ok c.fStore id (by omega)) (specCur_ok c (by omega)) ?_
  first | refine retK_sees (Sees.frz 1 rfl) ?_ | refine retK_sees (Sees.frz 2 rfl) ?_ | refine retK_sees (Sees.frz 3 rfl) ?_ | refine retK_sees (Sees.frz 4 rfl) ?_ | refine retK_sees (Sees.frz 5 rfl) ?_
  simp only [go_sem]
  exact retK_ret ⟨⟨_, rfl, by simp only [go_sem, remC, remD, e, goC_no, goD_no, List.map_nil]; try simp⟩, by simp [notOne]⟩
 cases h2 : delOK c.fStore id
 ·have e : remB c id = false := by simp [remB, h2]
  have q0 := @h1; have q1 := @h2; refine w2_3 (l19Cpd_ok c (by omega)) (specDelete_ok c.fStore id (by omega)) (specCur_ok c (by omega)) ?_
  first | refine retK_sees (Sees.frz 1 rfl) ?_ | refine retK_sees (Sees.frz 2 rfl) ?_ | refine retK_sees (Sees.frz 3 rfl) ?_ | refine retK_sees (Sees.frz 4 rfl) ?_ | refine retK_sees (Sees.frz 5 rfl) ?_
  simp only [go_sem]
  exact retK_ret ⟨⟨_, rfl, by simp only [go_sem, remC, remD, e, goC_no, goD_no, List.map_nil]; try simp⟩, by simp [notOne]⟩
 ·have e : remB c id = true := by simp [remB, h1, h2]
  repeat' (with_reducible first | refine nY ?_ | (refine mX ?_; try simp only [go_sem, h1, h2]) | refine kO ?_ (by decide) | (apply rE [6,7,11,12] [] [0,1,2,3,4,5] [0,1,2,3,4,5] ((.c 6 [] [0,1,2,3] (.c 7 [8,9,10] [8,9,10] (.c 11 [] [8,9,10] (.c 12 [13] [10,13] .n .n) .n) (.c 11 [] [0,1,2,3] (.c 7 [8,9,10] [8,9,10] (.c 12 [13] [10,13] .n .n) .n) .n)) (.c 11 [] [0,1,2,3,4,5] (.c 6 [] [0,1,2,3] (.c 7 [8,9,10] [8,9,10] (.c 12 [13] [10,13] .n .n) .n) .n) .n))) (by simp only [go_sem]; rfl) (by simp only [go_sem]; rfl) (by simp only [go_sem]; rfl) (by decide +kernel); (focus simp only [go_sem]; done)) | exact tt_nil | (refine tt_cons (uX ?_) ?_) | refine tn_leaf (aX ?_) ?_ | refine tn_node (aX ?_) ?_ | exact meet_eq | (refine oG ?_; (focus simp only [go_sem]; done)) | (refine uA ?_; simp only [go_sem, h1, h2]; (repeat' first | omega | refine And.intro ?_ ?_); done) | refine regd (by kernel_rfl) ?_ | (refine cC (l19Cpd_ok c (by omega)) ?_ ?_; focus simp only [go_sem, and_self]; done) | (refine cC (specDelete_ok c.fStore id (by omega)) ?_ ?_; focus simp only [go_sem, and_self]; done) | (refine cC (specCur_ok c (by omega)) ?_ ?_; focus simp only [go_sem, and_self]; done) | (refine cC (specDirNamesd_ok c.fDirs hl) ?_ ?_; focus simp only [go_sem, and_self]; done) | (refine cC (specTurnd_ok c (delS c.fStore id) c.fDirs (dirNs c.fDirs) (by omega) (by omega) (by omega) hn) ?_ ?_; focus simp only [go_sem, and_self]; done) | (refine And.intro ?_ ?_; focus omega))
  exact retK_ret ⟨⟨_, rfl, by simp only [go_sem, remC, remD, e, goC_yes, goD_yes]; try simp⟩, by simp [notOne]⟩
theorem rem_w (c : TCatalog) (id : Int) (h : wCatalog c ≤ 4300000) : wStore (remC c id).fStore ≤ 8600000 ∧ wDirS (remC c id).fDirs ≤ 8600000 ∧ wResultS (remC c id).fResults ≤ 8600000 ∧ wDiffS (remD c id) ≤ 8600000 := by
 have hc : wCatalog c = wStore c.fStore + wDirS c.fDirs + wResultS c.fResults := rfl
 have hw := delS_w c.fStore id
 exact go_w _ c _ _ _ (fun e => by unfold remB at e; rw [Bool.and_eq_true] at e; exact e.1) (by omega) (by omega) h
theorem lawRemoveFile_ok (c : TCatalog) (i : Int) (hfc : wfCatalog c) : FnC Tryz.prog 6 [gCatalog c, oi i] (ob true) := by
 refine ent Tryz.func6 rfl Tryz.call6 rfl (fun C => ?_); simp only [go_sem, st0, Tryz.ntmps6]
 have z1 := szCatalog_ok c 1048576 (by omega) hfc
 by_cases h1 : szOut 1048576 (wCatalog c) < 0
 ·have q0 := @h1; refine w1_1 z1 ?_
  exact retK_ret ⟨⟨_, rfl, by simp only [go_sem]⟩, trivial⟩
 have s1 : wCatalog c ≤ 1048576 := by have := szOut_le h1; omega
 have e1 : szOut 1048576 (wCatalog c) = 1048576 - (wCatalog c : Nat) := szOut_pos (by omega)
 rw [e1] at z1 h1
 have b1c : wStore c.fStore = wFieldS c.fStore.fSchema + wFileS c.fStore.fFiles := rfl
 have b2c : wFileS c.fStore.fFiles = c.fStore.fFiles.length + wsum wFile c.fStore.fFiles := rfl
 have b3c : c.fStore.fSchema.length ≤ wFieldS c.fStore.fSchema := by unfold wFieldS; omega
 have b4c : wDirS c.fDirs = c.fDirs.length + wsum wDir c.fDirs := rfl
 have b5c : wResultS c.fResults = c.fResults.length + wsum wResult c.fResults := rfl
 have b6c := csumField c.fStore.fSchema
 have b7c := csumFile c.fStore.fFiles
 have b8c := csumDir c.fDirs
 have b9c := csumResult c.fResults
 have b0c : wCatalog c = wStore c.fStore + wDirS c.fDirs + wResultS c.fResults := rfl
 have hi := implRemove_ok c i (by omega)
 have hk := specRemove_ok c i (by omega)
 have hC := rem_w c i (by omega)
 generalize (remC c i) = X at *
 generalize (remD c i) = Y at *
 generalize (remB c i) = B at *
 obtain ⟨q1, q2, q3, q4⟩ := hC
 have b1X : wStore X.fStore = wFieldS X.fStore.fSchema + wFileS X.fStore.fFiles := rfl
 have b2X : wFileS X.fStore.fFiles = X.fStore.fFiles.length + wsum wFile X.fStore.fFiles := rfl
 have b3X : X.fStore.fSchema.length ≤ wFieldS X.fStore.fSchema := by unfold wFieldS; omega
 have b4X : wDirS X.fDirs = X.fDirs.length + wsum wDir X.fDirs := rfl
 have b5X : wResultS X.fResults = X.fResults.length + wsum wResult X.fResults := rfl
 have b6X := csumField X.fStore.fSchema
 have b7X := csumFile X.fStore.fFiles
 have b8X := csumDir X.fDirs
 have b9X := csumResult X.fResults
 have b0X : wCatalog X = wStore X.fStore + wDirS X.fDirs + wResultS X.fResults := rfl
 have hX : wCatalog X ≤ 67108864 := by unfold wCatalog; omega
 have k1 : ¬ ((1 : Int) + (csum cnField c.fStore.fSchema : Nat) + (csum cnFile c.fStore.fFiles : Nat) + (csum cnDir c.fDirs : Nat) + (csum cnResult c.fResults : Nat) < 0) := by omega
 have k2 : ¬ ((1 : Int) + (csum cnField X.fStore.fSchema : Nat) + (csum cnFile X.fStore.fFiles : Nat) + (csum cnDir X.fDirs : Nat) + (csum cnResult X.fResults : Nat) < 0) := by omega
 have y1 := csumDiff Y
 have y2 : wDiffS Y = Y.length + wsum wDiff Y := rfl
 have k3 : ¬ ((1 : Int) + (csum cnField X.fStore.fSchema : Nat) + (csum cnFile X.fStore.fFiles : Nat) + (csum cnDir X.fDirs : Nat) + (csum cnResult X.fResults : Nat) + (csum cnDiff Y : Nat) < 0) := by omega
 cases B
 all_goals
  have q0 := @h1; have q1 := @k1; have q2 := @k2; have q3 := @k3; have q4 := @Bool.true_beq; have q5 := @Bool.false_beq; refine w6_1 z1 ?_
  repeat' (with_reducible first | refine nX ?_ | (refine mX ?_; try simp only [go_sem]) | refine kO ?_ (by decide) | (refine cC (toCatalogd_ok c (by omega)) ?_ ?_; focus simp only [go_sem, and_self]; done) | (refine cC (hk) ?_ ?_; focus simp only [go_sem, and_self]; done) | (refine And.intro ?_ ?_; focus omega))
  repeat' (with_reducible first | refine nY ?_ | (refine mX ?_; try simp only [go_sem, h1, k1, k2, k3, Bool.true_beq, Bool.false_beq]) | refine kO ?_ (by decide) | refine regd (by kernel_rfl) ?_ | (refine calo (toCatalog_ok c (by omega)) ?_ ?_ ?_ (uX ?_); (focus simp only [go_sem, h1, k1, k2, k3, Bool.true_beq, Bool.false_beq]; done); (focus simp only [go_sem, h1, k1, k2, k3, Bool.true_beq, Bool.false_beq]; done); (focus simp only [go_sem, h1, k1, k2, k3, Bool.true_beq, Bool.false_beq]; done)) | (refine caldo (toCatalog_ok c (by omega)) ?_ ?_ ?_ ?_ (uX ?_); (focus simp only [go_sem, h1, k1, k2, k3, Bool.true_beq, Bool.false_beq]; done); (focus simp only [go_sem, h1, k1, k2, k3, Bool.true_beq, Bool.false_beq]; done); (focus simp only [go_sem, h1, k1, k2, k3, Bool.true_beq, Bool.false_beq]; done); (focus simp only [go_sem, h1, k1, k2, k3, Bool.true_beq, Bool.false_beq]; done)) | (refine calo (hi) ?_ ?_ ?_ (uX ?_); (focus simp only [go_sem, h1, k1, k2, k3, Bool.true_beq, Bool.false_beq]; done); (focus simp only [go_sem, h1, k1, k2, k3, Bool.true_beq, Bool.false_beq]; done); (focus simp only [go_sem, h1, k1, k2, k3, Bool.true_beq, Bool.false_beq]; done)) | (refine caldo (hi) ?_ ?_ ?_ ?_ (uX ?_); (focus simp only [go_sem, h1, k1, k2, k3, Bool.true_beq, Bool.false_beq]; done); (focus simp only [go_sem, h1, k1, k2, k3, Bool.true_beq, Bool.false_beq]; done); (focus simp only [go_sem, h1, k1, k2, k3, Bool.true_beq, Bool.false_beq]; done); (focus simp only [go_sem, h1, k1, k2, k3, Bool.true_beq, Bool.false_beq]; done)) | (refine calo (eqCatalog_ok X hX) ?_ ?_ ?_ (uX ?_); (focus simp only [go_sem, h1, k1, k2, k3, Bool.true_beq, Bool.false_beq]; done); (focus simp only [go_sem, h1, k1, k2, k3, Bool.true_beq, Bool.false_beq]; done); (focus simp only [go_sem, h1, k1, k2, k3, Bool.true_beq, Bool.false_beq]; done)) | (refine caldo (eqCatalog_ok X hX) ?_ ?_ ?_ ?_ (uX ?_); (focus simp only [go_sem, h1, k1, k2, k3, Bool.true_beq, Bool.false_beq]; done); (focus simp only [go_sem, h1, k1, k2, k3, Bool.true_beq, Bool.false_beq]; done); (focus simp only [go_sem, h1, k1, k2, k3, Bool.true_beq, Bool.false_beq]; done); (focus simp only [go_sem, h1, k1, k2, k3, Bool.true_beq, Bool.false_beq]; done)) | (refine calo (eqDiffS_ok Y (by omega)) ?_ ?_ ?_ (uX ?_); (focus simp only [go_sem, h1, k1, k2, k3, Bool.true_beq, Bool.false_beq]; done); (focus simp only [go_sem, h1, k1, k2, k3, Bool.true_beq, Bool.false_beq]; done); (focus simp only [go_sem, h1, k1, k2, k3, Bool.true_beq, Bool.false_beq]; done)) | (refine caldo (eqDiffS_ok Y (by omega)) ?_ ?_ ?_ ?_ (uX ?_); (focus simp only [go_sem, h1, k1, k2, k3, Bool.true_beq, Bool.false_beq]; done); (focus simp only [go_sem, h1, k1, k2, k3, Bool.true_beq, Bool.false_beq]; done); (focus simp only [go_sem, h1, k1, k2, k3, Bool.true_beq, Bool.false_beq]; done); (focus simp only [go_sem, h1, k1, k2, k3, Bool.true_beq, Bool.false_beq]; done)) | (refine calo (eqCatalog_ok c (by omega)) ?_ ?_ ?_ (uX ?_); (focus simp only [go_sem, h1, k1, k2, k3, Bool.true_beq, Bool.false_beq]; done); (focus simp only [go_sem, h1, k1, k2, k3, Bool.true_beq, Bool.false_beq]; done); (focus simp only [go_sem, h1, k1, k2, k3, Bool.true_beq, Bool.false_beq]; done)) | (refine caldo (eqCatalog_ok c (by omega)) ?_ ?_ ?_ ?_ (uX ?_); (focus simp only [go_sem, h1, k1, k2, k3, Bool.true_beq, Bool.false_beq]; done); (focus simp only [go_sem, h1, k1, k2, k3, Bool.true_beq, Bool.false_beq]; done); (focus simp only [go_sem, h1, k1, k2, k3, Bool.true_beq, Bool.false_beq]; done); (focus simp only [go_sem, h1, k1, k2, k3, Bool.true_beq, Bool.false_beq]; done)) | (refine calm (markCatalog_ok c _ (by omega)) ?_ ?_ (uX ?_); (focus simp only [go_sem]; done); (focus simp only [go_sem, h1, k1, k2, k3, Bool.true_beq, Bool.false_beq]; done)) | (refine calm (markCatalog_ok X _ (by omega)) ?_ ?_ (uX ?_); (focus simp only [go_sem]; done); (focus simp only [go_sem, h1, k1, k2, k3, Bool.true_beq, Bool.false_beq]; done)) | (refine calm (markDiffS_ok Y _ (by omega)) ?_ ?_ (uX ?_); (focus simp only [go_sem]; done); (focus simp only [go_sem, h1, k1, k2, k3, Bool.true_beq, Bool.false_beq]; done)) | (refine calo (heldCatalog_ok X 1 (by omega)) ?_ ?_ ?_ (uX ?_); (focus simp only [go_sem, h1, k1, k2, k3, Bool.true_beq, Bool.false_beq]; done); (focus simp only [go_sem, h1, k1, k2, k3, Bool.true_beq, Bool.false_beq]; done); (focus simp only [go_sem, h1, k1, k2, k3, Bool.true_beq, Bool.false_beq]; done)) | (refine caldo (heldCatalog_ok X 1 (by omega)) ?_ ?_ ?_ ?_ (uX ?_); (focus simp only [go_sem, h1, k1, k2, k3, Bool.true_beq, Bool.false_beq]; done); (focus simp only [go_sem, h1, k1, k2, k3, Bool.true_beq, Bool.false_beq]; done); (focus simp only [go_sem, h1, k1, k2, k3, Bool.true_beq, Bool.false_beq]; done); (focus simp only [go_sem, h1, k1, k2, k3, Bool.true_beq, Bool.false_beq]; done)) | (refine calo (heldDiffS_ok Y ((1 : Int) + (csum cnField X.fStore.fSchema : Nat) + (csum cnFile X.fStore.fFiles : Nat) + (csum cnDir X.fDirs : Nat) + (csum cnResult X.fResults : Nat)) (by omega)) ?_ ?_ ?_ (uX ?_); (focus simp only [go_sem, h1, k1, k2, k3, Bool.true_beq, Bool.false_beq]; done); (focus simp only [go_sem, h1, k1, k2, k3, Bool.true_beq, Bool.false_beq]; done); (focus simp only [go_sem, h1, k1, k2, k3, Bool.true_beq, Bool.false_beq]; done)) | (refine caldo (heldDiffS_ok Y ((1 : Int) + (csum cnField X.fStore.fSchema : Nat) + (csum cnFile X.fStore.fFiles : Nat) + (csum cnDir X.fDirs : Nat) + (csum cnResult X.fResults : Nat)) (by omega)) ?_ ?_ ?_ ?_ (uX ?_); (focus simp only [go_sem, h1, k1, k2, k3, Bool.true_beq, Bool.false_beq]; done); (focus simp only [go_sem, h1, k1, k2, k3, Bool.true_beq, Bool.false_beq]; done); (focus simp only [go_sem, h1, k1, k2, k3, Bool.true_beq, Bool.false_beq]; done); (focus simp only [go_sem, h1, k1, k2, k3, Bool.true_beq, Bool.false_beq]; done)) | (refine cC (toCatalogd_ok c (by omega)) ?_ ?_; focus simp only [go_sem, and_self]; done) | (refine And.intro ?_ ?_; focus omega))
  exact retK_ret ⟨⟨_, rfl, by simp only [go_sem]⟩, trivial⟩
end Go.Proofs.YtddimbdeggomaaaGreat
end
