/-
  What slices.DeleteFunc keeps, in cells; a row's block behind blocks of one's own.
-/
import Derived.Test.YteganoldfldlhaaI7Cells
set_option linter.all false
set_option maxRecDepth 100000
namespace Go.Sx
open Go Go.RowKit

structure DelK (k : Nat) (xs : List (List Value × Bool)) (i j : Nat) (F : List Value) : Prop where
  un : ∀ x ∈ xs, x.1.length = k
  len : F.length = xs.length * k
  ij : i < j
  jn : j ≤ xs.length
  lo : F.take (i * k) = (((xs.take j).filter fun x => !x.2).map (·.1)).flatten
  hi : F.drop (j * k) = ((xs.drop j).map (·.1)).flatten
  il : i = ((xs.take j).filter fun x => !x.2).length
theorem cells_len {k : Nat} {xs : List (List Value × Bool)} (h : ∀ x ∈ xs, x.1.length = k) : ((xs.map (·.1)).flatten).length = xs.length * k := by
  rw [flat_len (sz := k) fun r hr => by obtain ⟨x, hx, rfl⟩ := List.mem_map.1 hr; exact h x hx, List.length_map]
theorem DelK.at {k : Nat} {xs : List (List Value × Bool)} {i j : Nat} {F : List Value} (h : DelK k xs i j F) (hj : j < xs.length) {t : Nat} {v : Value} (ht : xs[j].1[t]? = some v) : F[j * k + t]? = some v := by
  have h0 : (F.drop (j * k))[t]? = ((xs.drop j).map (·.1)).flatten[t]? := by rw [h.hi]
  rw [List.getElem?_drop] at h0
  rw [h0, List.drop_eq_getElem_cons hj, List.map_cons, List.flatten_cons, List.getElem?_append_left (List.getElem?_eq_some_iff.1 ht).1]
  exact ht
theorem filt_all (xs : List (List Value × Bool)) (k : Nat) (h : ∀ j (hj : j < xs.length), j < k → xs[j].2 = false) : (xs.take k).filter (fun x => !x.2) = xs.take k := by
  refine List.filter_eq_self.2 fun x hx => ?_
  obtain ⟨j, hj, rfl⟩ := List.mem_iff_getElem.1 hx
  simp only [List.length_take] at hj
  rw [List.getElem_take, h j (by omega) (by omega)]; rfl
theorem DelK.start {k n : Nat} {xs : List (List Value × Bool)} (hu : ∀ x ∈ xs, x.1.length = k) (hn : n < xs.length) (h : ∀ j (hj : j < xs.length), j < n → xs[j].2 = false) (hp : xs[n].2 = true) : DelK k xs n (n + 1) (xs.map (·.1)).flatten := by
  have e1 : (xs.take (n + 1)).filter (fun x => !x.2) = xs.take n := by
    rw [List.take_succ_eq_append_getElem hn, List.filter_append, filt_all xs n h]
    simp [hp]
  have hu' : ∀ r ∈ xs.map (·.1), r.length = k := fun r hr => by obtain ⟨x, hx, rfl⟩ := List.mem_map.1 hr; exact hu x hx
  refine ⟨hu, cells_len hu, by omega, by omega, ?_, ?_, ?_⟩
  · rw [e1, List.map_take, flat_take n hu']
  · rw [List.map_drop, flat_drop (n + 1) hu']
  · rw [e1]; simp; omega
theorem DelK.keep {k : Nat} {xs : List (List Value × Bool)} {i j : Nat} {F : List Value} (h : DelK k xs i j F) (hj : j < xs.length) (hp : xs[j].2 = false) : DelK k xs (i + 1) (j + 1) (F.take (i * k) ++ xs[j].1 ++ F.drop (i * k + xs[j].1.length)) := by
  have e1 : (xs.take (j + 1)).filter (fun x => !x.2) = (xs.take j).filter (fun x => !x.2) ++ [xs[j]] := by
    rw [List.take_succ_eq_append_getElem hj, List.filter_append]
    simp [hp]
  have hl := h.len
  have hij := h.ij
  have hu := h.un xs[j] (List.getElem_mem hj)
  have hle : (i + 1) * k ≤ j * k := Nat.mul_le_mul_right k hij
  have hle2 : (j + 1) * k ≤ xs.length * k := Nat.mul_le_mul_right k hj
  rw [Nat.add_mul] at hle hle2
  simp only [Nat.one_mul] at hle hle2
  have hFl : i * k + k ≤ F.length := by omega
  refine ⟨h.un, ?_, by omega, by omega, ?_, ?_, ?_⟩
  · simp only [List.length_append, List.length_take, List.length_drop, hu]; omega
  · rw [List.take_append_of_le_length (by simp [hu, Nat.add_mul]; omega), List.take_of_length_le (by simp [hu, Nat.add_mul]; omega), e1, List.map_append, List.flatten_append, h.lo]; simp
  · rw [List.drop_append, List.drop_of_length_le (by simp [hu, Nat.add_mul]; omega), List.nil_append, List.drop_drop]
    have e2 : F.drop ((j + 1) * k) = ((xs.drop (j + 1)).map (·.1)).flatten := by
      have hu' : ∀ r ∈ (xs.drop j).map (·.1), r.length = k := fun r hr => by obtain ⟨x, hx, rfl⟩ := List.mem_map.1 hr; exact h.un x (List.mem_of_mem_drop hx)
      have := flat_drop 1 hu'
      rw [Nat.add_mul, ← List.drop_drop, h.hi, ← this, ← List.map_drop, List.drop_drop]
    rw [← e2]
    congr 1
    simp only [List.length_append, List.length_take, hu, Nat.add_mul]
    omega
  · rw [e1, List.length_append, ← h.il]; rfl
theorem DelK.skip {k : Nat} {xs : List (List Value × Bool)} {i j : Nat} {F : List Value} (h : DelK k xs i j F) (hj : j < xs.length) (hp : xs[j].2 = true) : DelK k xs i (j + 1) F := by
  have e1 : (xs.take (j + 1)).filter (fun x => !x.2) = (xs.take j).filter (fun x => !x.2) := by
    rw [List.take_succ_eq_append_getElem hj, List.filter_append]
    simp [hp]
  have hij := h.ij
  refine ⟨h.un, h.len, by omega, by omega, by rw [e1]; exact h.lo, ?_, by rw [e1]; exact h.il⟩
  have hu' : ∀ r ∈ (xs.drop j).map (·.1), r.length = k := fun r hr => by obtain ⟨x, hx, rfl⟩ := List.mem_map.1 hr; exact h.un x (List.mem_of_mem_drop hx)
  have := flat_drop 1 hu'
  rw [Nat.add_mul, ← List.drop_drop, h.hi, ← this, ← List.map_drop, List.drop_drop]
theorem DelK.fin {k : Nat} {xs : List (List Value × Bool)} {i : Nat} {F : List Value} (h : DelK k xs i xs.length F) : F.take (i * k) = ((xs.filter fun x => !x.2).map (·.1)).flatten ∧ i = (xs.filter fun x => !x.2).length := by
  have h1 := h.lo
  have h2 := h.il
  rw [List.take_length] at h1 h2
  exact ⟨h1, h2⟩
/-- What stood stays: blocks from w's size on may turn. -/
theorem RowAt.other {w wr W : World} {b ty N : Nat} {F : List Value} (h : RowAt w wr b ty N F) (hb : Below wr.heap.size wr W) : RowAt w W b ty N F := h.behind hb
theorem below_set {w W : World} (h : Below w.heap.size w W) {b o : Nat} (ha : w.heap.size ≤ b) (v : Value) : Below w.heap.size w (W.setCell ⟨b, o, none⟩ v) := by
  refine ⟨h.os, h.tape, h.output, ?_, fun k hk => ?_⟩
  · rw [Sort.setCell_eq]; simp only [Sort.mapBlock, Array.size_modify]; exact h.size
  · rw [Sort.setCell_eq]
    simp only [Sort.mapBlock, Array.getElem?_modify]
    rw [if_neg (by omega)]
    exact h.block k hk
/-! ### Chunks -/
def chunks {τ : Type} (k : Nat) (p : τ → Bool) : List Value → List τ → List (List Value × Bool)
  | _, [] => []
  | ys, x :: l => (ys.take k, p x) :: chunks k p (ys.drop k) l
def selK {α τ : Type} (k : Nat) (p : τ → Bool) : List α → List τ → List α
  | _, [] => []
  | ys, x :: l => (if p x then [] else ys.take k) ++ selK k p (ys.drop k) l
theorem chunks_len {τ : Type} (k : Nat) (p : τ → Bool) : ∀ (l : List τ) (ys : List Value), (chunks k p ys l).length = l.length
  | [], _ => rfl
  | x :: l, ys => by simp [chunks, chunks_len k p l]
theorem chunks_un {τ : Type} (k : Nat) (p : τ → Bool) : ∀ (l : List τ) (ys : List Value), ys.length = l.length * k → ∀ x ∈ chunks k p ys l, x.1.length = k
  | [], _, _, x, hx => by simp [chunks] at hx
  | y :: l, ys, h, x, hx => by
    rw [List.length_cons, Nat.add_mul] at h
    rcases List.mem_cons.1 hx with rfl | hx
    · simp; omega
    · exact chunks_un k p l _ (by simp; omega) x hx
theorem chunks_get {τ : Type} (k : Nat) (p : τ → Bool) : ∀ (l : List τ) (ys : List Value) (j : Nat) (hj : j < l.length) (hj' : j < (chunks k p ys l).length), (chunks k p ys l)[j] = ((ys.drop (j * k)).take k, p l[j])
  | y :: l, ys, 0, _, _ => by simp [chunks]
  | y :: l, ys, j + 1, hj, hj' => by
    simp only [chunks, List.getElem_cons_succ]
    rw [chunks_get k p l (ys.drop k) j (by simpa using hj)]
    rw [List.drop_drop, Nat.add_mul, Nat.one_mul, Nat.add_comm]
theorem chunks_flat {τ : Type} (k : Nat) (p : τ → Bool) : ∀ (l : List τ) (ys : List Value), ys.length = l.length * k → ((chunks k p ys l).map (·.1)).flatten = ys
  | [], ys, h => by simp at h; subst h; rfl
  | x :: l, ys, h => by
    rw [List.length_cons, Nat.add_mul] at h
    simp only [chunks, List.map_cons, List.flatten_cons]
    rw [chunks_flat k p l _ (by simp; omega), List.take_append_drop]
theorem chunks_sel {τ : Type} (k : Nat) (p : τ → Bool) : ∀ (l : List τ) (ys : List Value), (((chunks k p ys l).filter fun x => !x.2).map (·.1)).flatten = selK k p ys l ∧ ((chunks k p ys l).filter fun x => !x.2).length = (l.filter fun x => !p x).length
  | [], ys => ⟨rfl, rfl⟩
  | x :: l, ys => by
    obtain ⟨h1, h2⟩ := chunks_sel k p l (ys.drop k)
    simp only [chunks, List.filter_cons, selK]
    cases p x
    · simp [h1, h2]
    · simp [h1, h2]
theorem selK_sub {τ : Type} (k : Nat) (p : τ → Bool) : ∀ (l : List τ) (Ss : List (List Nat)), (selK k p Ss l).Sublist Ss
  | [], _ => List.nil_sublist _
  | x :: l, Ss => by
    simp only [selK]
    conv => rhs; rw [← List.take_append_drop k Ss]
    refine List.Sublist.append ?_ (selK_sub k p l _)
    split
    · exact List.nil_sublist _
    · exact List.Sublist.refl _
theorem LayL.sel {τ : Type} {V : View} {k : Nat} (enc : τ → List D) (p : τ → Bool) (he : ∀ x, (enc x).length = k) : ∀ (l : List τ) (ys : List Value) (Ss : List (List Nat)), LayL V (l.map enc).flatten ys Ss → LayL V ((l.filter fun x => !p x).map enc).flatten (selK k p ys l) (selK k p Ss l)
  | [], ys, Ss, h => LayL.nil V
  | x :: l, ys, Ss, h => by
    have h1 := h.take k
    have h2 := h.drop k
    simp only [List.map_cons, List.flatten_cons] at h1 h2
    rw [List.take_left' (he x)] at h1
    rw [List.drop_left' (he x)] at h2
    have ih := LayL.sel enc p he l _ _ h2
    simp only [selK, List.filter_cons]
    cases p x
    · simp only [Bool.not_false, if_true, Bool.false_eq_true, if_false, List.map_cons, List.flatten_cons]
      exact h1.append ih
    · simp only [Bool.not_true, Bool.false_eq_true, if_false, if_true, List.nil_append]
      exact ih
theorem cl_lay {V : View} {ds : List D} {ys : List Value} {Ss : List (List Nat)} (h : LayL V ds ys Ss) : cL [] V (ds.map At.d) ys :=
  ⟨by simp [h.1], fun j a y h1 h2 => by
    rw [List.getElem?_map] at h1
    cases hd : ds[j]? with
    | none => rw [hd] at h1; cases h1
    | some d =>
      rw [hd] at h1
      cases h1
      have hj : j < Ss.length := by rw [h.2.1]; exact (List.getElem?_eq_some_iff.1 hd).1
      exact ⟨_, h.2.2 j d y _ hd h2 (List.getElem?_eq_getElem hj)⟩⟩
theorem LayL.chunk {τ : Type} {V : View} {k : Nat} {enc : τ → List D} (he : ∀ x, (enc x).length = k) {l : List τ} {ys : List Value} {Ss : List (List Nat)} (h : LayL V (l.map enc).flatten ys Ss) (j : Nat) (hj : j < l.length) : LayL V (enc l[j]) ((ys.drop (j * k)).take k) ((Ss.drop (j * k)).take k) := by
  have hu : ∀ r ∈ l.map enc, r.length = k := fun r hr => by obtain ⟨x, _, rfl⟩ := List.mem_map.1 hr; exact he x
  have h1 := (h.drop (j * k)).take k
  rw [← flat_drop j hu, List.drop_eq_getElem_cons (by simpa using hj), List.flatten_cons, List.getElem_map, List.take_left' (he _)] at h1
  exact h1
theorem box_cell {w W : World} {c : Array Value} {ty : Nat} (h : Below (w.alloc (.cells c ty)).heap.size (w.alloc (.cells c ty)) W) {t : Nat} {v : Value} (hv : c.toList[t]? = some v) : W.cell? ⟨w.heap.size, t, none⟩ = some v := by
  have hh : (w.alloc (.cells c ty)).heap = w.heap.push (.cells c ty) := rfl
  have h1 : W.heap[w.heap.size]? = some (.cells c ty) := by
    rw [h.block w.heap.size (by rw [hh, Array.size_push]; omega), hh, Array.getElem?_push, if_pos rfl]
  simp only [World.cell?, h1, Option.isSome_none, Bool.false_eq_true, if_false]
  rw [← Array.getElem?_toList]; exact hv
theorem sub_flatten {α : Type} {l m : List (List α)} (h : l.Sublist m) : l.flatten.Sublist m.flatten := by
  induction h with
  | slnil => exact List.Sublist.refl _
  | cons a _ ih => exact ih.trans (by simp)
  | cons_cons a _ ih => simp only [List.flatten_cons]; exact (List.Sublist.refl a).append ih
end Go.Sx
