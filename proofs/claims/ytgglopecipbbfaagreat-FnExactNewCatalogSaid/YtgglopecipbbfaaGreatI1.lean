/-
  Rows of scalars in the shelf's words.
  A row's block behind other work: its cells; stores; what it means for rows of data.
  slices.DeleteFunc at []string: the walk.
  slices.DeleteFunc at []string on a row of the caller's own.
  slices.IndexFunc and slices.DeleteFunc at []string with a closure that has captured one variable.
-/
import Derived.Test.YtgglopecipbbfaaGreatH1
import Derived.Sort.Row
import Derived.Sort.Grow
import Derived.Shelf.RegionOpenPlain
import Derived.WalkKit
import Derived.Deep.LoopGhost
import Derived.Deep.Draws
import Derived.Lib.Walk
import Derived.Lib.SliceRun
import Derived.Shelf.SlicesE.Kit
import Derived.Shelf.SlicesE.DeleteFunc
set_option linter.all false
section
set_option linter.all false
namespace Go.Sx
open Go Go.RowKit

def rowS {α : Type} (e : α → Value) (l : List α) : List (List D) := l.map fun x => [.v (e x)]
theorem rowS_flat {α : Type} (e : α → Value) (l : List α) : (rowS e l).flatten = l.map fun x => D.v (e x) := by
  induction l with
  | nil => rfl
  | cons x l ih => simp only [rowS, List.map_cons, List.flatten_cons] at ih ⊢; rw [ih]; rfl

theorem scal_down {α : Type} [Inhabited α] {e : α → Value} {V : View} {w : World} {ty : Nat} {l : List α} {y : Value} {S : List Nat} (h : RowR V w ty 1 (rowS e l) y S) :
    ((∃ ao, y = .slice ao 0 0) ∧ l = [] ∧ S = []) ∨ ∃ b cap c, y = .slice (some ⟨b, 0, none⟩) l.length cap ∧ l.length ≤ cap ∧ cap ≤ maxLen ∧ w.heap[b]? = some (.cells c ty (0, 0)) ∧ c.size = cap ∧ Sort.Holds e w b 0 l.toArray ∧ V b = none ∧ S = [b] := by
  obtain ⟨h0, ys, Ss, h1, h3⟩ := h
  rcases h3 with ⟨ha, hb, hc⟩ | ⟨b, cap, c, rfl, e3, e4, e5, e6, e7, e8, rfl⟩
  · exact .inl ⟨ha, by simpa [rowS] using hb, hc⟩
  · have key : ∀ j (hj : j < l.length), ys[j]? = some (e l[j]) ∧ Ss[j]? = some [] := fun j hj => by
      have hd : (rowS e l).flatten[j]? = some (.v (e l[j])) := by rw [rowS_flat]; simp [hj]
      have hlt : j < ys.length := by rw [h1.1]; exact (List.getElem?_eq_some_iff.1 hd).1
      have hls : j < Ss.length := by rw [h1.2.1]; exact (List.getElem?_eq_some_iff.1 hd).1
      have hl := h1.2.2 j _ _ _ hd (List.getElem?_eq_getElem hlt) (List.getElem?_eq_getElem hls)
      rw [List.getElem?_eq_getElem hlt, List.getElem?_eq_getElem hls]
      generalize ys[j] = z at hl ⊢
      generalize Ss[j] = s at hl ⊢
      cases hl
      exact ⟨rfl, rfl⟩
    have hlen : Ss.length = l.length := by rw [h1.2.1, rowS_flat, List.length_map]
    refine .inr ⟨b, cap, c, by simp [rowS], by simpa [rowS] using e3, e4, e5, by simpa using e6, fun j hj => ?_, e8, ?_⟩
    · have hj' : j < l.length := by simpa using hj
      have hy := prefix_get e7 (key j hj').1
      refine ⟨?_, by simp [World.frozen?, e5]⟩
      simp only [World.cell?, e5, Nat.zero_add]
      simp only [Option.isSome_none, Bool.false_eq_true, if_false]
      rw [← Array.getElem?_toList, hy]
      congr 1
      rw [getElem!_pos l.toArray j (by simpa using hj')]
      simp
    · congr 1
      refine List.flatten_eq_nil_iff.2 fun s hs => ?_
      obtain ⟨j, hj, rfl⟩ := List.mem_iff_getElem.1 hs
      have := (key j (by omega)).2
      rw [List.getElem?_eq_getElem hj] at this
      exact Option.some.inj this

theorem scal_up {α : Type} [Inhabited α] {e : α → Value} (hs : ∀ x, scalar (e x) = true) {V : View} {w w' : World} {b ty cap n : Nat} {c : Array Value} {d : Array α} {l : List α} {os : Array Obj} (hb : w.heap[b]? = some (.cells c ty (0, 0)))
    (hc : c.size = cap) (hcap : cap ≤ maxLen) (hd : d.size ≤ cap) (hw : w' = Sort.grow (Sort.putRow e (Sort.ahead w n) b 0 d) os) (hl : l <+: d.toList) (hV : V b = none) :
    RowR V w' ty 1 (rowS e l) (.slice (some ⟨b, 0, none⟩) l.length cap) [b] ∧ w.grownBy w' (some b) := by
  have hlt : b < w.heap.size := (Array.getElem?_eq_some_iff.1 hb).1
  have hle : l.length ≤ d.size := by have := hl.length_le; simpa using this
  have hheap : w'.heap[b]? = some (.cells (Sort.putCells e 0 d c) ty (0, 0)) := by
    subst hw
    rw [Sort.heap_grow_old _ _ (by simp [Sort.putRow, Sort.mapBlock, Sort.ahead]; exact hlt)]
    simp only [Sort.putRow, Sort.mapBlock, Sort.ahead, Array.getElem?_modify, if_true, hb, Option.map_some, Sort.onCells]
  refine ⟨⟨fun r hr => ?_, l.map e, List.replicate l.length [], ⟨by rw [rowS_flat]; simp, by rw [rowS_flat]; simp, fun k dd y s h1 h2 h3 => ?_⟩, .inr ⟨b, cap, _, by simp [rowS], by simp [rowS]; omega, hcap, hheap, by simp [Sort.putCells, hc], ?_, hV, ?_⟩⟩, ?_⟩
  · obtain ⟨x, _, rfl⟩ := List.mem_map.1 hr; rfl
  · rw [rowS_flat, List.getElem?_map] at h1
    rw [List.getElem?_map] at h2
    cases hk : l[k]? with
    | none => rw [hk] at h1; cases h1
    | some x =>
      rw [hk] at h1 h2
      cases h1; cases h2
      rw [List.getElem?_replicate] at h3
      split at h3
      · cases h3; exact .v _ (hs x)
      · cases h3
  · refine List.prefix_iff_eq_take.2 ?_
    apply List.ext_getElem?
    intro j
    rw [List.getElem?_take, List.getElem?_map]
    simp only [List.length_map]
    by_cases hj : j < l.length
    · have hjc : j < c.size := by omega
      have hdj : d.toList[j]? = some l[j] := prefix_get hl (List.getElem?_eq_getElem hj)
      rw [Array.getElem?_toList, Array.getElem?_eq_getElem (by omega)] at hdj
      have h1 : (Sort.putCells e 0 d c).toList[j]? = some (e l[j]) := by
        rw [Array.getElem?_toList]
        simp only [Sort.putCells, Array.getElem?_mapIdx, Array.getElem?_eq_getElem hjc, Option.map_some]
        rw [if_pos (by omega), Nat.sub_zero, getElem!_pos d j (by omega), Option.some.inj hdj]
      rw [if_pos hj, h1, List.getElem?_eq_getElem hj]; rfl
    · rw [if_neg hj, List.getElem?_eq_none (by omega)]; rfl
  · simp
  · subst hw
    refine ⟨rfl, rfl, rfl, by simp [Sort.putRow, Sort.mapBlock, Sort.ahead], fun k hk hne => ?_⟩
    rw [Sort.heap_grow_old _ _ (by simp [Sort.putRow, Sort.mapBlock, Sort.ahead]; exact hk)]
    simp only [Sort.putRow, Sort.mapBlock, Sort.ahead, Array.getElem?_modify]
    rw [if_neg (fun e => hne (by rw [e]))]
end Go.Sx
end

section
set_option linter.all false
namespace Go.Sx
open Go Go.RowKit

/-- Behind w: block b holds N cells whose first ones are F; nothing else of w has turned. -/
structure RowAt (w wr : World) (b ty N : Nat) (F : List Value) : Prop where
  cells : ∃ c : Array Value, wr.heap[b]? = some (.cells c ty (0, 0)) ∧ c.size = N ∧ F <+: c.toList
  grown : w.grownBy wr (some b)
theorem grownBy_trans {w w1 w2 : World} {r : Option Nat} (h1 : w.grownBy w1 r) (h2 : w1.grownBy w2 r) : w.grownBy w2 r :=
  ⟨h2.os.trans h1.os, h2.tape.trans h1.tape, h2.output.trans h1.output, Nat.le_trans h1.size h2.size, fun k hk hn => (h2.block k (Nat.lt_of_lt_of_le hk h1.size) hn).trans (h1.block k hk hn)⟩
theorem grownBy_below {w w' : World} (r : Option Nat) (h : Below w.heap.size w w') : w.grownBy w' r := ⟨h.os, h.tape, h.output, h.size, fun k hk _ => h.block k hk⟩

variable {w wr : World} {b ty N : Nat} {F : List Value}
theorem RowAt.lt (h : RowAt w wr b ty N F) : b < wr.heap.size := by
  obtain ⟨c, h1, _⟩ := h.cells
  exact (Array.getElem?_eq_some_iff.1 h1).1
theorem RowAt.le (h : RowAt w wr b ty N F) : F.length ≤ N := by
  obtain ⟨c, _, h2, h3⟩ := h.cells
  have := h3.length_le
  simpa [h2] using this
theorem RowAt.cell (h : RowAt w wr b ty N F) {t : Nat} {v : Value} (ht : F[t]? = some v) : wr.cell? ⟨b, t, none⟩ = some v := by
  obtain ⟨c, h1, h2, h3⟩ := h.cells
  have := prefix_get h3 ht
  simp only [World.cell?, h1, Option.isSome_none, Bool.false_eq_true, if_false]
  rw [← Array.getElem?_toList]; exact this
theorem RowAt.there (h : RowAt w wr b ty N F) {t : Nat} (ht : t < N) : (wr.cell? ⟨b, t, none⟩).isSome = true := by
  obtain ⟨c, h1, h2, h3⟩ := h.cells
  simp only [World.cell?, h1, Option.isSome_none, Bool.false_eq_true, if_false]
  simp [h2, ht]
theorem RowAt.behind (h : RowAt w wr b ty N F) {w' : World} (hb : Below wr.heap.size wr w') : RowAt w w' b ty N F := by
  obtain ⟨c, h1, h2, h3⟩ := h.cells
  exact ⟨⟨c, by rw [hb.block b h.lt]; exact h1, h2, h3⟩, grownBy_trans h.grown (grownBy_below _ hb)⟩
theorem take_set_drop (F : List Value) (s : Nat) (v : Value) (c : List Value) (hF : F <+: c) (hs : s ≤ F.length) (hc : s < c.length) : F.take s ++ v :: F.drop (s + 1) <+: c.set s v := by
  obtain ⟨r, rfl⟩ := hF
  rcases Nat.lt_or_ge s F.length with h | h
  · refine ⟨r, ?_⟩
    rw [List.set_append_left _ _ h, List.set_eq_take_append_cons_drop, if_pos h]
  · have e : s = F.length := by omega
    subst e
    rw [List.take_of_length_le (Nat.le_refl _), List.drop_of_length_le (by omega), List.set_append_right _ _ (Nat.le_refl _), Nat.sub_self]
    cases r with
    | nil => simp at hc
    | cons x r => exact ⟨r, by simp⟩
theorem RowAt.set1 (h : RowAt w wr b ty N F) {s : Nat} (hs : s ≤ F.length) (hN : s < N) (v : Value) : RowAt w (wr.setCell ⟨b, s, none⟩ v) b ty N (F.take s ++ v :: F.drop (s + 1)) := by
  obtain ⟨c, h1, h2, h3⟩ := h.cells
  rw [Sort.setCell_eq]
  refine ⟨⟨c.setIfInBounds s v, ?_, by simp [h2], ?_⟩, grownBy_trans h.grown ⟨rfl, rfl, rfl, by simp [Sort.mapBlock], fun k hk hne => ?_⟩⟩
  · simp only [Sort.mapBlock, Array.getElem?_modify, if_true, h1, Option.map_some, Sort.onCells]
  · rw [Array.toList_setIfInBounds]
    exact take_set_drop F s v c.toList h3 hs (by simpa [h2] using hN)
  · simp only [Sort.mapBlock, Array.getElem?_modify]
    rw [if_neg (fun e => hne (by rw [e]))]
theorem RowAt.set : ∀ (vs : List Value) {wr : World} {F : List Value} {s : Nat}, RowAt w wr b ty N F → s ≤ F.length → s + vs.length ≤ N → RowAt w (wr.setCells b s vs) b ty N (F.take s ++ vs ++ F.drop (s + vs.length))
  | [], wr, F, s, h, hs, hN => by simpa [World.setCells] using h
  | v :: vs, wr, F, s, h, hs, hN => by
    simp only [List.length_cons] at hN
    have h1 := h.set1 hs (by omega) v
    have h2 := RowAt.set vs (s := s + 1) h1 (by simp; omega) (by omega)
    rw [World.setCells]
    have e1 : (F.take s ++ v :: F.drop (s + 1)).take (s + 1) = F.take s ++ [v] := by
      rw [List.take_append, List.take_of_length_le (by simp; omega), List.length_take, Nat.min_eq_left hs, Nat.add_sub_cancel_left]; rfl
    have e2 : (F.take s ++ v :: F.drop (s + 1)).drop (s + 1 + vs.length) = F.drop (s + (vs.length + 1)) := by
      rw [List.drop_append, List.drop_of_length_le (by simp; omega), List.length_take, Nat.min_eq_left hs, List.nil_append, show s + 1 + vs.length - s = vs.length + 1 by omega, List.drop_succ_cons, List.drop_drop]
      congr 1; omega
    rw [e1, e2] at h2
    simpa [List.append_assoc] using h2
end Go.Sx
end

section
set_option linter.all false
namespace Go.Proofs.YtgglopecipbbfaaGreat
open Go Go.Sx Go.RowKit Go.Proofs Go.Lib

/-- Which elements stay. -/
structure DelInv {α : Type} (e : α → Value) (p : α → Bool) (xs : List α) (i j : Nat) (F : List Value) : Prop where
  len : F.length = xs.length
  ij : i < j
  jn : j ≤ xs.length
  lo : F.take i = ((xs.take j).filter fun x => !p x).map e
  hi : F.drop j = (xs.drop j).map e
  il : i = ((xs.take j).filter fun x => !p x).length
theorem take_map_filter_all {α : Type} (p : α → Bool) (xs : List α) (k : Nat) (h : ∀ j (hj : j < xs.length), j < k → p xs[j] = false) : (xs.take k).filter (fun x => !p x) = xs.take k := by
  refine List.filter_eq_self.2 fun x hx => ?_
  obtain ⟨j, hj, rfl⟩ := List.mem_iff_getElem.1 hx
  simp only [List.length_take] at hj
  rw [List.getElem_take, h j (by omega) (by omega)]; rfl
theorem DelInv.at {α : Type} {e : α → Value} {p : α → Bool} {xs : List α} {i j : Nat} {F : List Value} (h : DelInv e p xs i j F) (hj : j < xs.length) : F[j]? = some (e xs[j]) := by
  have h0 : (F.drop j)[0]? = ((xs.drop j).map e)[0]? := by rw [h.hi]
  rw [List.getElem?_drop, Nat.add_zero] at h0
  rw [h0, List.getElem?_map, List.getElem?_drop, Nat.add_zero, List.getElem?_eq_getElem hj]; rfl
theorem DelInv.start {α : Type} {e : α → Value} {p : α → Bool} {xs : List α} {k : Nat} (hk : k < xs.length) (h : ∀ j (hj : j < xs.length), j < k → p xs[j] = false) (hp : p xs[k] = true) : DelInv e p xs k (k + 1) (xs.map e) := by
  have e1 : (xs.take (k + 1)).filter (fun x => !p x) = xs.take k := by
    rw [List.take_succ_eq_append_getElem hk, List.filter_append, take_map_filter_all p xs k h]
    simp [hp]
  refine ⟨by simp, by omega, by omega, ?_, by simp, ?_⟩
  · rw [e1, List.map_take]
  · rw [e1]; simp; omega
theorem DelInv.keep {α : Type} {e : α → Value} {p : α → Bool} {xs : List α} {i j : Nat} {F : List Value} (h : DelInv e p xs i j F) (hj : j < xs.length) (hp : p xs[j] = false) : DelInv e p xs (i + 1) (j + 1) (F.take i ++ [e xs[j]] ++ F.drop (i + 1)) := by
  have e1 : (xs.take (j + 1)).filter (fun x => !p x) = (xs.take j).filter (fun x => !p x) ++ [xs[j]] := by
    rw [List.take_succ_eq_append_getElem hj, List.filter_append]
    simp [hp]
  have hl := h.len
  have hij := h.ij
  refine ⟨by simp; omega, by omega, by omega, ?_, ?_, ?_⟩
  · rw [List.take_append_of_le_length (by simp; omega), List.take_of_length_le (by simp; omega), e1, List.map_append, h.lo]; rfl
  · rw [List.drop_append, List.drop_of_length_le (by simp; omega), List.nil_append, List.drop_drop]
    have : F.drop (j + 1) = (xs.drop (j + 1)).map e := by rw [← List.drop_drop, h.hi, ← List.map_drop, List.drop_drop]
    rw [← this]
    congr 1
    simp; omega
  · rw [e1, List.length_append, ← h.il]; rfl
theorem DelInv.skip {α : Type} {e : α → Value} {p : α → Bool} {xs : List α} {i j : Nat} {F : List Value} (h : DelInv e p xs i j F) (hj : j < xs.length) (hp : p xs[j] = true) : DelInv e p xs i (j + 1) F := by
  have e1 : (xs.take (j + 1)).filter (fun x => !p x) = (xs.take j).filter (fun x => !p x) := by
    rw [List.take_succ_eq_append_getElem hj, List.filter_append]
    simp [hp]
  have hij := h.ij
  exact ⟨h.len, by omega, by omega, by rw [e1]; exact h.lo, by rw [← List.drop_drop, h.hi, ← List.map_drop, List.drop_drop], by rw [e1]; exact h.il⟩

end Go.Proofs.YtgglopecipbbfaaGreat
end

section
set_option linter.all false
set_option maxRecDepth 100000
namespace Go.Sx
open Go Go.RowKit

theorem RowAt.mod {V : View} {w W : World} {b ty N : Nat} {F : List Value} (hm : Mod V w) (hV : V b = none) (h : RowAt w W b ty N F) : Mod V W := fun k cs hk => by
  obtain ⟨c, t, fz, e1, e2⟩ := hm k cs hk
  exact ⟨c, t, fz, by rw [h.grown.block k (Array.getElem?_eq_some_iff.1 e1).1 (fun e => by cases e; rw [hV] at hk; cases hk)]; exact e1, e2⟩
/-- The view with the row's block. -/
def withB (V : View) (b : Nat) (cs : List Value) : View := fun k => if k = b then some cs else V k
theorem RowAt.row {α : Type} {e : α → Value} (hs : ∀ x, scalar (e x) = true) {V : View} {w w' : World} {ty b cap : Nat} {l : List α} {G : List Value} (h : RowAt w w' b ty cap (l.map e ++ G)) (hcap : cap ≤ maxLen) (hV : V b = none) : RowR V w' ty 1 (rowS e l) (.slice (some ⟨b, 0, none⟩) l.length cap) [b] := by
  have hle := h.le
  rw [List.length_append, List.length_map] at hle
  obtain ⟨c, h1, h2, h3⟩ := h.cells
  refine ⟨fun r hr => ?_, l.map e, List.replicate l.length [], ⟨by rw [rowS_flat]; simp, by rw [rowS_flat]; simp, fun k dd y s q1 q2 q3 => ?_⟩, .inr ⟨b, cap, c, by simp [rowS], by simp [rowS]; omega, hcap, h1, by simp [h2], (List.prefix_append _ _).trans h3, hV, by simp⟩⟩
  · obtain ⟨x, _, rfl⟩ := List.mem_map.1 hr; rfl
  · rw [rowS_flat, List.getElem?_map] at q1
    rw [List.getElem?_map] at q2
    cases hk : l[k]? with
    | none => rw [hk] at q1; cases q1
    | some x =>
      rw [hk] at q1 q2
      cases q1; cases q2
      rw [List.getElem?_replicate] at q3
      split at q3
      · cases q3; exact .v _ (hs x)
      · cases q3
end Go.Sx
end

section
set_option linter.all false
set_option maxRecDepth 100000
set_option maxHeartbeats 4000000
namespace Go.Proofs.YtgglopecipbbfaaGreat
open Go Go.Sx Go.RowKit Go.Proofs

def idxP {α : Type} (p : α → Bool) : List α → Nat → Int
  | [], _ => -1
  | x :: xs, k => if p x then k else idxP p xs (k + 1)
end Go.Proofs.YtgglopecipbbfaaGreat
end
