/- Joined texts. -/
import Derived.Test.YtakopfjdmmnjcaaGreatZ06
import Derived.Sort.Row
import Derived.Sort.Grow
import Derived.Shelf.RegionOpenPlain
import Derived.WalkKit
import Derived.Deep.LoopGhost
import Derived.Deep.Draws
import Derived.Lib.Walk
import Derived.Lib.SliceRun
import Derived.Shelf.SlicesE.Kit
import Derived.Shelf.SlicesE.DeleteFunc
import Derived.Test.YtakopfjdmmnjcaaGreatZ09
import Derived.Test.YtakopfjdmmnjcaaGreatZ04
set_option linter.all false
section
section
set_option linter.all false
namespace Go.Sx
open Go Go.RowKit
def uT {α : Type} (e : α → Value) (l : List α) : List (List D) := l.map fun x => [.v (e x)]
theorem jM {α : Type} (e : α → Value) (l : List α) : (uT e l).flatten = l.map fun x => D.v (e x) := by
 induction l with
 | nil => rfl
 | cons x l ih => simp only [uT, List.map_cons, List.flatten_cons] at ih ⊢; rw [ih]; rfl
theorem scal_down {α : Type} [Inhabited α] {e : α → Value} {V : View} {w : World} {ty : Nat} {l : List α} {y : Value} {S : List Nat} (h : RowR V w ty 1 (uT e l) y S) :
    ((∃ ao, y = .slice ao 0 0) ∧ l = [] ∧ S = []) ∨ ∃ b cap c, y = .slice (some ⟨b, 0, none⟩) l.length cap ∧ l.length ≤ cap ∧ cap ≤ maxLen ∧ w.heap[b]? = some (.cells c ty (0, 0)) ∧ c.size = cap ∧ Sort.Holds e w b 0 l.toArray ∧ V b = none ∧ S = [b] := by
 obtain ⟨h0, ys, Ss, h1, h3⟩ := h
 rcases h3 with ⟨ha, hb, hc⟩ | ⟨b, cap, c, rfl, e3, e4, e5, e6, e7, e8, rfl⟩
 ·exact .inl ⟨ha, by simpa [uT] using hb, hc⟩
 ·have key : ∀ j (hj : j < l.length), ys[j]? = some (e l[j]) ∧ Ss[j]? = some [] := fun j hj => by
   have hd : (uT e l).flatten[j]? = some (.v (e l[j])) := by rw [jM]; simp [hj]
   have hlt : j < ys.length := by rw [h1.1]; exact (List.getElem?_eq_some_iff.1 hd).1
   have hls : j < Ss.length := by rw [h1.2.1]; exact (List.getElem?_eq_some_iff.1 hd).1
   have hl := h1.2.2 j _ _ _ hd (List.getElem?_eq_getElem hlt) (List.getElem?_eq_getElem hls)
   rw [List.getElem?_eq_getElem hlt, List.getElem?_eq_getElem hls]
   generalize ys[j] = z at hl ⊢
   generalize Ss[j] = s at hl ⊢
   cases hl
   exact ⟨rfl, rfl⟩
  have hlen : Ss.length = l.length := by rw [h1.2.1, jM, List.length_map]
  refine .inr ⟨b, cap, c, by simp [uT], by simpa [uT] using e3, e4, e5, by simpa using e6, fun j hj => ?_, e8, ?_⟩
  ·have hj' : j < l.length := by simpa using hj
   have hy := eT e7 (key j hj').1
   refine ⟨?_, by simp [World.frozen?, e5]⟩
   simp only [World.cell?, e5, Nat.zero_add]
   simp only [Option.isSome_none, Bool.false_eq_true, if_false]
   rw [← Array.getElem?_toList, hy]
   congr 1
   rw [getElem!_pos l.toArray j (by simpa using hj')]
   simp
  ·congr 1
   refine List.flatten_eq_nil_iff.2 fun s hs => ?_
   obtain ⟨j, hj, rfl⟩ := List.mem_iff_getElem.1 hs
   have := (key j (by omega)).2
   rw [List.getElem?_eq_getElem hj] at this
   exact Option.some.inj this
theorem a8I {α : Type} [Inhabited α] {e : α → Value} (hs : ∀ x, scalar (e x) = true) {V : View} {w w' : World} {b ty cap n : Nat} {c : Array Value} {d : Array α} {l : List α} {os : Array Obj} (hb : w.heap[b]? = some (.cells c ty (0, 0)))
    (hc : c.size = cap) (hcap : cap ≤ maxLen) (hd : d.size ≤ cap) (hw : w' = Sort.grow (Sort.putRow e (Sort.ahead w n) b 0 d) os) (hl : l <+: d.toList) (hV : V b = none) :
    RowR V w' ty 1 (uT e l) (.slice (some ⟨b, 0, none⟩) l.length cap) [b] ∧ w.grownBy w' (some b) := by
 have hlt : b < w.heap.size := (Array.getElem?_eq_some_iff.1 hb).1
 have hle : l.length ≤ d.size := by have := hl.length_le; simpa using this
 have hheap : w'.heap[b]? = some (.cells (Sort.putCells e 0 d c) ty (0, 0)) := by
  subst hw
  rw [Sort.heap_grow_old _ _ (by simp [Sort.putRow, Sort.mapBlock, Sort.ahead]; exact hlt)]
  simp only [Sort.putRow, Sort.mapBlock, Sort.ahead, Array.getElem?_modify, if_true, hb, Option.map_some, Sort.onCells]
 refine ⟨⟨fun r hr => ?_, l.map e, List.replicate l.length [], ⟨by rw [jM]; simp, by rw [jM]; simp, fun k dd y s h1 h2 h3 => ?_⟩, .inr ⟨b, cap, _, by simp [uT], by simp [uT]; omega, hcap, hheap, by simp [Sort.putCells, hc], ?_, hV, ?_⟩⟩, ?_⟩
 ·obtain ⟨x, _, rfl⟩ := List.mem_map.1 hr; rfl
 ·rw [jM, List.getElem?_map] at h1
  rw [List.getElem?_map] at h2
  cases hk : l[k]? with
  | none => rw [hk] at h1; cases h1
  | some x =>
   rw [hk] at h1 h2
   cases h1; cases h2
   rw [List.getElem?_replicate] at h3
   split at h3
   ·cases h3; exact .v _ (hs x)
   ·cases h3
 ·refine List.prefix_iff_eq_take.2 ?_
  apply List.ext_getElem?
  intro j
  rw [List.getElem?_take, List.getElem?_map]
  simp only [List.length_map]
  by_cases hj : j < l.length
  ·have hjc : j < c.size := by omega
   have hdj : d.toList[j]? = some l[j] := eT hl (List.getElem?_eq_getElem hj)
   rw [Array.getElem?_toList, Array.getElem?_eq_getElem (by omega)] at hdj
   have h1 : (Sort.putCells e 0 d c).toList[j]? = some (e l[j]) := by
    rw [Array.getElem?_toList]
    simp only [Sort.putCells, Array.getElem?_mapIdx, Array.getElem?_eq_getElem hjc, Option.map_some]
    rw [if_pos (by omega), Nat.sub_zero, getElem!_pos d j (by omega), Option.some.inj hdj]
   rw [if_pos hj, h1, List.getElem?_eq_getElem hj]; rfl
  ·rw [if_neg hj, List.getElem?_eq_none (by omega)]; rfl
 ·simp
 ·subst hw
  refine ⟨rfl, rfl, rfl, by simp [Sort.putRow, Sort.mapBlock, Sort.ahead], fun k hk hne => ?_⟩
  rw [Sort.heap_grow_old _ _ (by simp [Sort.putRow, Sort.mapBlock, Sort.ahead]; exact hk)]
  simp only [Sort.putRow, Sort.mapBlock, Sort.ahead, Array.getElem?_modify]
  rw [if_neg (fun e => hne (by rw [e]))]
end Go.Sx
end
section
set_option linter.all false
namespace Go.Sx
open Go Go.RowKit
structure RowAt (w wr : World) (b ty N : Nat) (F : List Value) : Prop where
 cells : ∃ c : Array Value, wr.heap[b]? = some (.cells c ty (0, 0)) ∧ c.size = N ∧ F <+: c.toList
 grown : w.grownBy wr (some b)
theorem vC {w w1 w2 : World} {r : Option Nat} (h1 : w.grownBy w1 r) (h2 : w1.grownBy w2 r) : w.grownBy w2 r :=
 ⟨h2.os.trans h1.os, h2.tape.trans h1.tape, h2.output.trans h1.output, Nat.le_trans h1.size h2.size, fun k hk hn => (h2.block k (Nat.lt_of_lt_of_le hk h1.size) hn).trans (h1.block k hk hn)⟩
theorem a2A {w w' : World} (r : Option Nat) (h : Below w.heap.size w w') : w.grownBy w' r := ⟨h.os, h.tape, h.output, h.size, fun k hk _ => h.block k hk⟩
variable {w wr : World} {b ty N : Nat} {F : List Value}
theorem RowAt.lt (h : RowAt w wr b ty N F) : b < wr.heap.size := by
 obtain ⟨c, h1, _⟩ := h.cells
 exact (Array.getElem?_eq_some_iff.1 h1).1
theorem RowAt.le (h : RowAt w wr b ty N F) : F.length ≤ N := by
 obtain ⟨c, _, h2, h3⟩ := h.cells
 have := h3.length_le
 simpa [h2] using this
theorem RowAt.cell (h : RowAt w wr b ty N F) {t : Nat} {v : Value} (ht : F[t]? = some v) : wr.cell? ⟨b, t, none⟩ = some v := by
 obtain ⟨c, h1, h2, h3⟩ := h.cells
 have := eT h3 ht
 simp only [World.cell?, h1, Option.isSome_none, Bool.false_eq_true, if_false]
 rw [← Array.getElem?_toList]; exact this
theorem RowAt.there (h : RowAt w wr b ty N F) {t : Nat} (ht : t < N) : (wr.cell? ⟨b, t, none⟩).isSome = true := by
 obtain ⟨c, h1, h2, h3⟩ := h.cells
 simp only [World.cell?, h1, Option.isSome_none, Bool.false_eq_true, if_false]
 simp [h2, ht]
theorem RowAt.behind (h : RowAt w wr b ty N F) {w' : World} (hb : Below wr.heap.size wr w') : RowAt w w' b ty N F := by
 obtain ⟨c, h1, h2, h3⟩ := h.cells
 exact ⟨⟨c, by rw [hb.block b h.lt]; exact h1, h2, h3⟩, vC h.grown (a2A _ hb)⟩
theorem a2B (F : List Value) (s : Nat) (v : Value) (c : List Value) (hF : F <+: c) (hs : s ≤ F.length) (hc : s < c.length) : F.take s ++ v :: F.drop (s + 1) <+: c.set s v := by
 obtain ⟨r, rfl⟩ := hF
 rcases Nat.lt_or_ge s F.length with h | h
 ·refine ⟨r, ?_⟩
  rw [List.set_append_left _ _ h, List.set_eq_take_append_cons_drop, if_pos h]
 ·have e : s = F.length := by omega
  subst e
  rw [List.take_of_length_le (Nat.le_refl _), List.drop_of_length_le (by omega), List.set_append_right _ _ (Nat.le_refl _), Nat.sub_self]
  cases r with
  | nil => simp at hc
  | cons x r => exact ⟨r, by simp⟩
theorem RowAt.set1 (h : RowAt w wr b ty N F) {s : Nat} (hs : s ≤ F.length) (hN : s < N) (v : Value) : RowAt w (wr.setCell ⟨b, s, none⟩ v) b ty N (F.take s ++ v :: F.drop (s + 1)) := by
 obtain ⟨c, h1, h2, h3⟩ := h.cells
 rw [Sort.setCell_eq]
 refine ⟨⟨c.setIfInBounds s v, ?_, by simp [h2], ?_⟩, vC h.grown ⟨rfl, rfl, rfl, by simp [Sort.mapBlock], fun k hk hne => ?_⟩⟩
 ·simp only [Sort.mapBlock, Array.getElem?_modify, if_true, h1, Option.map_some, Sort.onCells]
 ·rw [Array.toList_setIfInBounds]
  exact a2B F s v c.toList h3 hs (by simpa [h2] using hN)
 ·simp only [Sort.mapBlock, Array.getElem?_modify]
  rw [if_neg (fun e => hne (by rw [e]))]
theorem RowAt.set : ∀ (vs : List Value) {wr : World} {F : List Value} {s : Nat}, RowAt w wr b ty N F → s ≤ F.length → s + vs.length ≤ N → RowAt w (wr.setCells b s vs) b ty N (F.take s ++ vs ++ F.drop (s + vs.length))
 | [], wr, F, s, h, hs, hN => by simpa [World.setCells] using h
 | v :: vs, wr, F, s, h, hs, hN => by
  simp only [List.length_cons] at hN
  have h1 := h.set1 hs (by omega) v
  have h2 := RowAt.set vs (s := s + 1) h1 (by simp; omega) (by omega)
  rw [World.setCells]
  have e1 : (F.take s ++ v :: F.drop (s + 1)).take (s + 1) = F.take s ++ [v] := by
   rw [List.take_append, List.take_of_length_le (by simp; omega), List.length_take, Nat.min_eq_left hs, Nat.add_sub_cancel_left]; rfl
  have e2 : (F.take s ++ v :: F.drop (s + 1)).drop (s + 1 + vs.length) = F.drop (s + (vs.length + 1)) := by
   rw [List.drop_append, List.drop_of_length_le (by simp; omega), List.length_take, Nat.min_eq_left hs, List.nil_append, show s + 1 + vs.length - s = vs.length + 1 by omega, List.drop_succ_cons, List.drop_drop]
   congr 1; omega
  rw [e1, e2] at h2
  simpa [List.append_assoc] using h2
end Go.Sx
end
section
set_option linter.all false
namespace Go.Proofs.YtakopfjdmmnjcaaGreat
open Go Go.Sx Go.RowKit Go.Proofs Go.Lib
structure DelInv {α : Type} (e : α → Value) (p : α → Bool) (xs : List α) (i j : Nat) (F : List Value) : Prop where
 len : F.length = xs.length
 ij : i < j
 jn : j ≤ xs.length
 lo : F.take i = ((xs.take j).filter fun x => !p x).map e
 hi : F.drop j = (xs.drop j).map e
 il : i = ((xs.take j).filter fun x => !p x).length
theorem uU {α : Type} (p : α → Bool) (xs : List α) (k : Nat) (h : ∀ j (hj : j < xs.length), j < k → p xs[j] = false) : (xs.take k).filter (fun x => !p x) = xs.take k := by
 refine List.filter_eq_self.2 fun x hx => ?_
 obtain ⟨j, hj, rfl⟩ := List.mem_iff_getElem.1 hx
 simp only [List.length_take] at hj
 rw [List.getElem_take, h j (by omega) (by omega)]; rfl
theorem DelInv.at {α : Type} {e : α → Value} {p : α → Bool} {xs : List α} {i j : Nat} {F : List Value} (h : DelInv e p xs i j F) (hj : j < xs.length) : F[j]? = some (e xs[j]) := by
 have h0 : (F.drop j)[0]? = ((xs.drop j).map e)[0]? := by rw [h.hi]
 rw [List.getElem?_drop, Nat.add_zero] at h0
 rw [h0, List.getElem?_map, List.getElem?_drop, Nat.add_zero, List.getElem?_eq_getElem hj]; rfl
theorem DelInv.start {α : Type} {e : α → Value} {p : α → Bool} {xs : List α} {k : Nat} (hk : k < xs.length) (h : ∀ j (hj : j < xs.length), j < k → p xs[j] = false) (hp : p xs[k] = true) : DelInv e p xs k (k + 1) (xs.map e) := by
 have e1 : (xs.take (k + 1)).filter (fun x => !p x) = xs.take k := by
  rw [List.take_succ_eq_append_getElem hk, List.filter_append, uU p xs k h]
  simp [hp]
 refine ⟨by simp, by omega, by omega, ?_, by simp, ?_⟩
 ·rw [e1, List.map_take]
 ·rw [e1]; simp; omega
theorem DelInv.keep {α : Type} {e : α → Value} {p : α → Bool} {xs : List α} {i j : Nat} {F : List Value} (h : DelInv e p xs i j F) (hj : j < xs.length) (hp : p xs[j] = false) : DelInv e p xs (i + 1) (j + 1) (F.take i ++ [e xs[j]] ++ F.drop (i + 1)) := by
 have e1 : (xs.take (j + 1)).filter (fun x => !p x) = (xs.take j).filter (fun x => !p x) ++ [xs[j]] := by
  rw [List.take_succ_eq_append_getElem hj, List.filter_append]
  simp [hp]
 have hl := h.len
 have hij := h.ij
 refine ⟨by simp; omega, by omega, by omega, ?_, ?_, ?_⟩
 ·rw [List.take_append_of_le_length (by simp; omega), List.take_of_length_le (by simp; omega), e1, List.map_append, h.lo]; rfl
 ·rw [List.drop_append, List.drop_of_length_le (by simp; omega), List.nil_append, List.drop_drop]
  have : F.drop (j + 1) = (xs.drop (j + 1)).map e := by rw [← List.drop_drop, h.hi, ← List.map_drop, List.drop_drop]
  rw [← this]
  congr 1
  simp; omega
 ·rw [e1, List.length_append, ← h.il]; rfl
theorem DelInv.skip {α : Type} {e : α → Value} {p : α → Bool} {xs : List α} {i j : Nat} {F : List Value} (h : DelInv e p xs i j F) (hj : j < xs.length) (hp : p xs[j] = true) : DelInv e p xs i (j + 1) F := by
 have e1 : (xs.take (j + 1)).filter (fun x => !p x) = (xs.take j).filter (fun x => !p x) := by
  rw [List.take_succ_eq_append_getElem hj, List.filter_append]
  simp [hp]
 have hij := h.ij
 exact ⟨h.len, by omega, by omega, by rw [e1]; exact h.lo, by rw [← List.drop_drop, h.hi, ← List.map_drop, List.drop_drop], by rw [e1]; exact h.il⟩
end Go.Proofs.YtakopfjdmmnjcaaGreat
end
section
set_option linter.all false
set_option maxRecDepth 100000
namespace Go.Sx
open Go Go.RowKit
theorem RowAt.mod {V : View} {w W : World} {b ty N : Nat} {F : List Value} (hm : Mod V w) (hV : V b = none) (h : RowAt w W b ty N F) : Mod V W := fun k cs hk => by
 obtain ⟨c, t, fz, e1, e2⟩ := hm k cs hk
 exact ⟨c, t, fz, by rw [h.grown.block k (Array.getElem?_eq_some_iff.1 e1).1 (fun e => by cases e; rw [hV] at hk; cases hk)]; exact e1, e2⟩
def b6B (V : View) (b : Nat) (cs : List Value) : View := fun k => if k = b then some cs else V k
theorem RowAt.row {α : Type} {e : α → Value} (hs : ∀ x, scalar (e x) = true) {V : View} {w w' : World} {ty b cap : Nat} {l : List α} {G : List Value} (h : RowAt w w' b ty cap (l.map e ++ G)) (hcap : cap ≤ maxLen) (hV : V b = none) : RowR V w' ty 1 (uT e l) (.slice (some ⟨b, 0, none⟩) l.length cap) [b] := by
 have hle := h.le
 rw [List.length_append, List.length_map] at hle
 obtain ⟨c, h1, h2, h3⟩ := h.cells
 refine ⟨fun r hr => ?_, l.map e, List.replicate l.length [], ⟨by rw [jM]; simp, by rw [jM]; simp, fun k dd y s q1 q2 q3 => ?_⟩, .inr ⟨b, cap, c, by simp [uT], by simp [uT]; omega, hcap, h1, by simp [h2], (List.prefix_append _ _).trans h3, hV, by simp⟩⟩
 ·obtain ⟨x, _, rfl⟩ := List.mem_map.1 hr; rfl
 ·rw [jM, List.getElem?_map] at q1
  rw [List.getElem?_map] at q2
  cases hk : l[k]? with
  | none => rw [hk] at q1; cases q1
  | some x =>
   rw [hk] at q1 q2
   cases q1; cases q2
   rw [List.getElem?_replicate] at q3
   split at q3
   ·cases q3; exact .v _ (hs x)
   ·cases q3
end Go.Sx
end
section
set_option linter.all false
set_option maxRecDepth 100000
set_option maxHeartbeats 4000000
namespace Go.Proofs.YtakopfjdmmnjcaaGreat
open Go Go.Sx Go.RowKit Go.Proofs
def idxP {α : Type} (p : α → Bool) : List α → Nat → Int
 | [], _ => -1
 | x :: xs, k => if p x then k else idxP p xs (k + 1)
theorem idxP_spec {α : Type} (p : α → Bool) : ∀ (xs : List α) (k : Nat), (idxP p xs k = -1 ∧ ∀ x ∈ xs, p x = false) ∨ ∃ k0 : Nat, idxP p xs k = ((k + k0 : Nat) : Int) ∧ ∃ h : k0 < xs.length, p xs[k0] = true ∧ ∀ j (hj : j < xs.length), j < k0 → p xs[j] = false
 | [], k => .inl ⟨rfl, fun x hx => by simp at hx⟩
 | x :: xs, k => by
  unfold idxP
  cases hx : p x with
  | true => exact .inr ⟨0, by simp, by simp, by simpa using hx, fun j hj h => by omega⟩
  | false =>
   rcases idxP_spec p xs (k + 1) with ⟨h1, h2⟩ | ⟨k0, h1, h2, h3, h4⟩
   ·exact .inl ⟨by simpa using h1, fun y hy => by
     rcases List.mem_cons.1 hy with rfl | hy
     ·exact hx
     ·exact h2 y hy⟩
   ·refine .inr ⟨k0 + 1, by simp only [Bool.false_eq_true, if_false]; rw [h1]; congr 1; omega, by simp; omega, by simpa using h3, fun j hj hk => ?_⟩
    cases j with
    | zero => simpa using hx
    | succ j => simpa using h4 j (by simpa using hj) (by omega)
end Go.Proofs.YtakopfjdmmnjcaaGreat
end
end
section
namespace Go.Proofs.YtakopfjdmmnjcaaGreat
open Go Go.Sx Go.RowKit Go.Proofs
theorem b1A {α : Type} (l : List α) : (l.all fun _ => true) = true := by simp
def fJ {α : Type} (p : α → Bool) : List α → Nat
 | [] => 0
 | x :: l => if p x then 0 else fJ p l + 1
theorem a1U {α : Type} (p : α → Bool) : ∀ l : List α, fJ p l ≤ l.length
 | [] => by simp [fJ]
 | x :: l => by
  have := a1U p l
  unfold fJ
  split <;> simp <;> omega
theorem idxP_fst {α : Type} (p : α → Bool) : ∀ (l : List α) (k : Nat), (idxP p l k < 0 ∧ idxP p l k = -1 ∧ fJ p l = l.length) ∨ (idxP p l k = ((k + fJ p l : Nat) : Int) ∧ fJ p l < l.length)
 | [], k => .inl ⟨by simp [idxP], rfl, rfl⟩
 | x :: l, k => by
  unfold idxP fJ
  cases hx : p x with
  | true => exact .inr ⟨by simp, by simp⟩
  | false =>
   rcases idxP_fst p l (k + 1) with ⟨h0, h1, h2⟩ | ⟨h1, h2⟩
   ·exact .inl ⟨by simpa using h0, by simpa using h1, by simp [h2]⟩
   ·exact .inr ⟨by simp only [Bool.false_eq_true, if_false]; rw [h1]; congr 1; omega, by simp; omega⟩
theorem a7O {α : Type} (p : α → Bool) (l : List α) (k : Nat) (h : k < l.length) : fJ p (l.drop k) = if p l[k] then 0 else fJ p (l.drop (k + 1)) + 1 := by
 rw [List.drop_eq_getElem_cons h, fJ]
def nU {α : Type} (i : Nat) (x : α) (l : List α) : List α := l.take i ++ x :: l.drop i
theorem a9V {α : Type} (i : Nat) (x : α) (l : List α) (h : i ≤ l.length) : (nU i x l).length = l.length + 1 := by simp [nU]; omega
def ixF (id : Int) (l : List TFile) : Int := idxP (fun f => decide (f.fID = id)) l 0
theorem ixF_cases (id : Int) (l : List TFile) : (ixF id l = -1) ∨ ∃ p : Nat, ixF id l = p ∧ ∃ h : p < l.length, l[p].fID = id := by
 rcases idxP_spec (fun f : TFile => decide (f.fID = id)) l 0 with h | ⟨k, e1, e2, e5, e6⟩
 ·exact .inl h.1
 ·exact .inr ⟨k, by unfold ixF; rw [e1]; simp, e2, by simpa using e5⟩
def zF : TFile := ⟨0, 0, false, 0, []⟩
def iT (id : Int) (l : List TFile) : TFile := if 0 ≤ ixF id l then l.getD (ixF id l).toNat zF else zF
theorem a1F {id : Int} {l : List TFile} (h : ixF id l = -1) : iT id l = zF := by unfold iT; rw [h]; rfl
theorem zA {id : Int} {l : List TFile} {p : Nat} (h : ixF id l = p) (hp : p < l.length) : iT id l = l[p] := by unfold iT; rw [h, if_pos (by omega)]; simp [hp]
theorem a4t (id : Int) (l : List TFile) : wFile (iT id l) ≤ dO l := by
 rcases ixF_cases id l with h | ⟨p, h, hp, _⟩
 ·rw [a1F h]; simp [zF, wFile, dV, wsum]
 ·rw [zA h hp]; have := bB wFile l hp; unfold dO; omega
def b5j {α : Type} (p : Nat) (l : List α) : List α := l.take p ++ l.drop (p + 1)
def b5k (s : TStore) (id : Int) : Bool := cO s && decide (0 ≤ ixF id s.fFiles)
def b6J (s : TStore) (id : Int) : TStore := if b5k s id then ⟨s.fSchema, b5j (ixF id s.fFiles).toNat s.fFiles, s.fNextID⟩ else s
def b3D (s : TStore) (f : TFile) : Bool := cO s && (decide (0 ≤ ixF f.fID s.fFiles) && eU s.fSchema f)
def b5l (s : TStore) (f : TFile) : TStore := if b3D s f then ⟨s.fSchema, s.fFiles.set (ixF f.fID s.fFiles).toNat f, s.fNextID⟩ else s
end Go.Proofs.YtakopfjdmmnjcaaGreat
end
section
namespace Go.Sx
open Go Go.RowKit
def a8J : Option Nat → SV → SV
 | none, s => s
 | some id, s => uZ id s
def kH (φ : Option Nat) (T : List SV) : List SV := T.map (a8J φ)
theorem a8K (φ : Option Nat) : a8J φ (.o .u) = .o .u := by cases φ <;> rfl
theorem bK (T : List SV) : kH none T = T := by
 have e : a8J none = id := rfl
 rw [kH, e, List.map_id]
def nC (all : List Oper) : Nat → Nat → Nat → Bool
 | 0, a, b => match all[b]? with
  | some o => onE o a
  | none => false
 | n + 1, a, b => match all[b]? with
  | some o => onE o a || o.after.any fun e => Region.binds .any e && nC all n a e.on
  | none => false
def b4w (all : List Oper) (L : Array Bool) : Prop := ∀ (b : Nat) (o : Oper), all[b]? = some o → L.getD b true = true → ∀ e ∈ o.after, Region.binds .any e = true → L.getD e.on true = true
theorem a1V {all : List Oper} {L : Array Bool} {a b : Nat} {o : Oper} (ho : all[b]? = some o) (hd : ∀ e ∈ o.after, Region.binds .any e = true → L.getD e.on true = true) (h : onE o a = true) : L.getD a true = true := by
 obtain ⟨e, he, hb⟩ := Array.any_eq_true'.1 h
 simp only [Bool.and_eq_true, beq_iff_eq] at hb
 have := hd e he hb.1
 rwa [hb.2] at this
theorem tK {all : List Oper} {L : Array Bool} (hc : b4w all L) : ∀ (n a b : Nat) (o : Oper), all[b]? = some o → (∀ e ∈ o.after, Region.binds .any e = true → L.getD e.on true = true) → nC all n a b = true → L.getD a true = true
 | 0, a, b, o, ho, hd, h => by
  unfold nC at h; rw [ho] at h; exact a1V ho hd h
 | n + 1, a, b, o, ho, hd, h => by
  unfold nC at h
  rw [ho] at h
  rcases Bool.or_eq_true_iff.1 h with h | h
  ·exact a1V ho hd h
  ·obtain ⟨e, he, hb⟩ := Array.any_eq_true'.1 h
   rw [Bool.and_eq_true] at hb
   have h1 := hd e he hb.1
   cases hq : all[e.on]? with
   | none => have := hb.2; cases n <;> (unfold nC at this; rw [hq] at this; cases this)
   | some p => exact tK hc n a e.on p hq (hc e.on p hq h1) hb.2
def okE (all : List Oper) (ps ls : List Nat) : Bool := (ls.all fun i => ps.contains i) &&
 (List.range all.length).all fun i => a5v all i fun o =>
  (match o.guard with | none => true | some _ => false) && (o.after.all fun e => !Region.binds .any e || decide (e.on < i)) &&
  (ps.contains i || o.dst.isSome) &&
  ((List.range all.length).all fun j => a5v all j fun p => match p.dst with
   | none => true
   | some d => ((mQ (opL o.op)).all fun t => t != d || onE o j || ls.contains j) && (j == i || o.dst != some d))
def b5w (all : List Oper) (ps dn rest w : List Nat) : Bool :=
 (List.range all.length).all fun i => ps.contains i || dn.any (fun e => nC all 4 i e) || rest.any (fun e => nC all 4 e i) || w.contains i
inductive PT where
 | n : PT
 | c : Nat → List Nat → List Nat → PT → PT → PT
def PT.tops : PT → List Nat
 | .n => []
 | .c p _ _ _ r => p :: r.tops
def PT.isNil : PT → Bool
 | .n => true
 | .c .. => false
def okN (all : List Oper) (ps dn rem w : List Nat) (t : PT) : Bool := b5w all ps dn rem w && rem.all fun p => (rem.any fun q => q != p && nC all 4 q p) || t.tops.contains p
def xZ (all : List Oper) (ps : List Nat) : PT → List Nat → List Nat → Bool
 | .n, _, _ => true
 | .c p li w' sub r, dn, rem => rem.contains p && (li.all fun i => !ps.contains i && nC all 4 p i) && okN all ps (p :: dn) (rem.filter (· != p)) w' sub && xZ all ps sub (p :: dn) (rem.filter (· != p)) && xZ all ps r dn rem
def dW (all : List Oper) : List Nat → List Oper
 | [] => []
 | i :: l => match a3O all i with
  | some o => o :: dW all l
  | none => dW all l
theorem lZ {all : List Oper} {o : Oper} : ∀ {l : List Nat}, o ∈ dW all l ↔ ∃ i ∈ l, all[i]? = some o
 | [] => by simp [dW]
 | j :: l => by
  have ih := lZ (all := all) (o := o) (l := l)
  unfold dW
  rw [tZ]
  cases hq : all[j]? with
  | none => simp only [ih, List.mem_cons]; constructor
            ·rintro ⟨i, h1, h2⟩; exact ⟨i, .inr h1, h2⟩
            ·rintro ⟨i, h1 | h1, h2⟩
             ·subst h1; rw [hq] at h2; cases h2
             ·exact ⟨i, h1, h2⟩
  | some p =>
   simp only [List.mem_cons, ih]
   constructor
   ·rintro (rfl | ⟨i, h1, h2⟩)
    ·exact ⟨j, .inl rfl, hq⟩
    ·exact ⟨i, .inr h1, h2⟩
   ·rintro ⟨i, h1 | h1, h2⟩
    ·subst h1; rw [hq] at h2; exact .inl (Option.some.inj h2).symm
    ·exact .inr ⟨i, h1, h2⟩
def lat (all : List Oper) (ls : List Nat) : List Oper := all.mapIdx fun i o => if ls.contains i then { o with dst := none } else o
theorem yA {all : List Oper} {ls : List Nat} {j d : Nat} {o' : Oper} (h : (lat all ls)[j]? = some o') (hd : o'.dst = some d) : ∃ o, all[j]? = some o ∧ o.dst = some d ∧ j ∉ ls := by
 unfold lat at h
 rw [List.getElem?_mapIdx] at h
 cases ho : all[j]? with
 | none => rw [ho] at h; cases h
 | some o =>
  rw [ho] at h
  simp only [Option.map_some, Option.some.injEq] at h
  split at h
  ·subst h; cases hd
  ·rename_i hn
   subst h
   exact ⟨o, rfl, hd, fun hm => hn (List.contains_iff_mem.2 hm)⟩
theorem yB {all : List Oper} {ls : List Nat} {j : Nat} {o : Oper} (h : all[j]? = some o) (hj : j ∉ ls) : (lat all ls)[j]? = some o := by
 unfold lat
 rw [List.getElem?_mapIdx, h, Option.map_some, if_neg (fun hm => hj (List.contains_iff_mem.1 hm))]
section
variable {E : Env}
def a4v : Op → Bool
 | .alloc _ => true
 | .assign _ => true
 | .move _ => true
 | .buildSlice .. => true
 | .store .. => true
 | .call c => match c.callee with
  | .builtin .append => true
  | _ => false
 | _ => false
def a1W (E : Env) (o : Oper) (st : St) (k : St → SV → Prop) : Prop := if a4v o.op then cZ E o.op st k else a7o E o st fun h' s => k ⟨st.t, h'⟩ s
structure CallH (E : Env) (f : Nat) (args : List SV) (h : List HB) (k : List HB → SV → Prop) (t : Tie k) : Prop where
 out : ∃ (β : Type) (Pb : β → Prop) (h' : β → List HB) (s : β → SV), (∀ T, CallS E f args ⟨T, h⟩ fun st2 s2 => ∃ b, Pb b ∧ st2 = ⟨T, h' b⟩ ∧ s2 = s b) ∧ ∀ b, Pb b → k (h' b) (s b)
theorem CallS.mono {E : Env} {f : Nat} {args : List SV} {st : St} {K K' : St → SV → Prop} (h : CallS E f args st K) (m : ∀ st2 s, K st2 s → K' st2 s) : CallS E f args st K' :=
 ⟨h.1, fun g V a w vs hr hl ha => (h.2 g V a w vs hr hl ha).mono fun _ _ ⟨y, g', V', st', s, e1, e2, e3, e4⟩ => ⟨y, g', V', st', s, e1, e2, e3, m _ _ e4⟩⟩
theorem CallH.det {E : Env} {f : Nat} {args : List SV} {h : List HB} {k : List HB → SV → Prop} (c : CallG E f args h k ⟨⟩) : CallH E f args h k ⟨⟩ := by
 obtain ⟨h', s, h1, h2⟩ := c.out
 exact ⟨Unit, fun _ => True, fun _ => h', fun _ => s, fun T => (h1 T).mono fun _ _ ⟨e1, e2⟩ => ⟨(), trivial, e1, e2⟩, fun _ _ => h2⟩
def b4x (E : Env) (o : Oper) (st : St) (k : List HB → SV → Prop) : Prop := match o.op with
 | .call c => (match c.callee with
  | .value f => (match ev st f with
   | .o (.f fn caps) => CallH E fn (c.args.toList.map (ev st) ++ caps.map (fun cs => .o (.q cs))) st.h k ⟨⟩
   | _ => False)
  | _ => False)
 | _ => False
def a8L (E : Env) (o : Oper) (st : St) (k : St → SV → Prop) : Prop := if a4v o.op then cZ E o.op st k else b4x E o st fun h' s => k ⟨st.t, h'⟩ s
def efX (E : Env) : Bool → Oper → St → (St → SV → Prop) → Prop
 | false => a1W E
 | true => a8L E
theorem rO {T : List SV} {st : St} : ∀ (l : List (Nat × Operand)) (n : Nat), (∀ p ∈ l, ev ⟨T, st.h⟩ p.2 = ev st p.2) → gV ⟨T, st.h⟩ n l = gV st n l
 | [], _, _ => rfl
 | (i, x) :: r, n, h => by
  have h1 : ev ⟨T, st.h⟩ x = ev st x := h (i, x) (by simp)
  simp only [gV, h1, rO r (n + 1) fun p hp => h p (by simp [hp])]
def b5x (E : Env) (op : Op) (st : St) : Prop := match op with
 | .buildSlice t _ _ => (E.T t).flds ≠ []
 | .call c => ∃ s r z, c.args.toList = s :: r ∧ ev st s = .o (.d (.v z))
 | _ => False
theorem b1B {op : Op} (ha : a4v op = true) {st : St} {k : St → SV → Prop} (hq : ¬ b5x E op st) (h : cZ E op st k) : ∃ φ h' s, (∀ T : List SV, (∀ x ∈ op.operands, ev ⟨T, st.h⟩ x = ev st x) → cZ E op ⟨T, st.h⟩ fun st2 s2 => st2 = ⟨kH φ T, h'⟩ ∧ s2 = s) ∧ k ⟨kH φ st.t, h'⟩ s := by
 cases op <;> simp only [a4v, Bool.false_eq_true] at ha
 case alloc t =>
  simp only [cZ] at h
  exact ⟨none, st.h ++ [.box t (E.T t).zero], _, fun T _ => by simp only [cZ]; exact ⟨h.1, by rw [bK]; rfl, rfl⟩, by rw [bK]; exact h.2⟩
 case assign x => exact ⟨none, st.h, ev st x, fun T he => by simp only [cZ, he x (by simp [Op.operands])]; exact ⟨by rw [bK], trivial⟩, by rw [bK]; exact h⟩
 case move x => exact ⟨none, st.h, ev st x, fun T he => by simp only [cZ, he x (by simp [Op.operands])]; exact ⟨by rw [bK], trivial⟩, by rw [bK]; exact h⟩
 case buildSlice t len parts =>
  have hf : (E.T t).flds = [] := Classical.byContradiction fun e => hq e
  simp only [cZ, mZ, hf] at h
  unfold jS at h
  obtain ⟨h1, h2, h3, h4, h⟩ := h
  split at h
  ·rename_i cs e
   obtain ⟨h5, h⟩ := h
   split at h
   ·rename_i rows lin e2
    refine ⟨none, _, .o (.s st.h.length), fun T he => ?_, by rw [bK]; exact h.2⟩
    simp only [cZ, mZ, hf]
    unfold jS
    have hp : gV ⟨T, st.h⟩ 0 parts.toList = gV st 0 parts.toList := rO _ _ fun p hp => he p.2 (by rw [← Array.mem_toList_iff, ← a3V]; exact List.mem_map.2 ⟨p, hp, rfl⟩)
    refine ⟨h1, h2, h3, h4, ?_⟩
    rw [hp, e]
    refine ⟨h5, ?_⟩
    simp only [e2]
    exact ⟨h.1, by rw [bK], trivial⟩
   ·exact h.elim
  ·exact h.elim
 case store t x v =>
  have key : ∀ T : List SV, (∀ y ∈ (Op.store t x v).operands, ev ⟨T, st.h⟩ y = ev st y) → ev ⟨T, st.h⟩ x = ev st x ∧ ev ⟨T, st.h⟩ v = ev st v := fun T he => ⟨he x (by simp [Op.operands]), he v (by simp [Op.operands])⟩
  simp only [cZ] at h
  split at h
  ·rename_i id sz i fo e
   unfold kL at h
   obtain ⟨h1, h2, h3, h4, h5, h⟩ := h
   split at h
   ·rename_i e1 e2
    split at h
    ·rename_i e3
     refine ⟨none, _, .t [], fun T he => ?_, by rw [bK]; exact h.2.2⟩
     obtain ⟨hx, hv⟩ := key T he
     simp only [cZ, hx, hv, e]
     unfold kL
     refine ⟨h1, h2, h3, h4, h5, ?_⟩
     simp only [e1, e2, e3]
     exact ⟨h.1, h.2.1, by rw [bK], trivial⟩
    ·exact h.elim
   ·exact h.elim
  ·rename_i id sz i fo e
   unfold jF at h
   split at h
   ·rename_i e0
    split at h
    ·rename_i e1
     split at h
     ·rename_i e2 e3
      refine ⟨none, _, .t [], fun T he => ?_, by rw [bK]; exact h.2.2.2.2⟩
      obtain ⟨hx, hv⟩ := key T he
      simp only [cZ, hx, hv, e]
      unfold jF
      simp only [e0, e1, e2, e3]
      exact ⟨h.1, h.2.1, h.2.2.1, h.2.2.2.1, by rw [bK], trivial⟩
     ·exact h.elim
    ·exact h.elim
   ·exact h.elim
  ·rename_i e0 e1
   unfold nO at h
   split at h
   ·rename_i e
    split at h
    ·rename_i e2
     split at h
     ·rename_i e3
      refine ⟨none, _, .t [], fun T he => ?_, by rw [bK]; exact h.2.2.2.2⟩
      obtain ⟨hx, hv⟩ := key T he
      simp only [cZ, hx, hv, e]
      unfold nO
      simp only [e2, e3]
      exact ⟨h.1, h.2.1, h.2.2.1, h.2.2.2.1, by rw [bK], trivial⟩
     ·exact h.elim
    ·rename_i e2
     split at h
     ·rename_i e4
      split at h
      ·rename_i e3
       refine ⟨none, _, .t [], fun T he => ?_, by rw [bK]; exact h.2.2⟩
       obtain ⟨hx, hv⟩ := key T he
       simp only [cZ, hx, hv, e]
       unfold nO
       simp only [e2, e4, e3]
       exact ⟨h.1, h.2.1, by rw [bK], trivial⟩
      ·exact h.elim
     ·exact h.elim
    ·exact h.elim
   ·exact h.elim
 case call c =>
  have hc : c.callee = .builtin .append := by
   split at ha
   ·rename_i e; exact e
   ·cases ha
  simp only [cZ, gD, hc] at h
  split at h
  ·rename_i s x t t' e1 e2
   have key : ∀ T : List SV, (∀ y ∈ (Op.call c).operands, ev ⟨T, st.h⟩ y = ev st y) → ev ⟨T, st.h⟩ s = ev st s ∧ ev ⟨T, st.h⟩ x = ev st x := fun T he =>
    ⟨he s (by simp only [Op.operands, Call.operands, Array.mem_append]; exact .inr (by rw [← Array.mem_toList_iff, e1]; simp)), he x (by simp only [Op.operands, Call.operands, Array.mem_append]; exact .inr (by rw [← Array.mem_toList_iff, e1]; simp))⟩
   have src : ∀ (T : List SV) (y : SV), a7i ⟨T, st.h⟩ y = a7i st y := fun T y => by unfold a7i; rfl
   obtain ⟨h0, h⟩ := h
   have nz : ∀ z, ev st s ≠ .o (.d (.v z)) := fun z e => hq ⟨s, [x], z, e1, e⟩
   have toX : ∀ (y : SV) (T : List SV) (K : St → SV → Prop), (∀ z, y ≠ .o (.d (.v z))) → mY E t y (ev ⟨T, st.h⟩ x) ⟨T, st.h⟩ K → yT E t y (ev ⟨T, st.h⟩ x) ⟨T, st.h⟩ K := fun y T K hy hh => by
    unfold yT
    split
    ·exact (hy _ rfl).elim
    ·exact hh
   unfold yT at h
   split at h
   ·rename_i z ez; exact (nz z ez).elim
   unfold mY at h
   obtain ⟨h1, h2, h⟩ := h
   split at h
   ·rename_i rows2 lin2 ids e3
    obtain ⟨h3, h⟩ := h
    split at h
    ·rename_i id e4
     split at h
     ·rename_i ty sz rows lin e5
      refine ⟨some id, _, .o (.s id), fun T he => ?_, h.2.2.2.2.2⟩
      obtain ⟨hs, hx⟩ := key T he
      simp only [cZ, gD, hc, e1, e2]
      refine ⟨h0, toX _ _ _ (fun z => by rw [hs]; exact nz z) ?_⟩
      unfold mY
      refine ⟨h1, h2, ?_⟩
      rw [hx, src, e3]
      refine ⟨h3, ?_⟩
      rw [hs, e4]
      simp only [e5]
      exact ⟨h.1, h.2.1, h.2.2.1, h.2.2.2.1, h.2.2.2.2.1, rfl, trivial⟩
     ·exact h.elim
    ·rename_i e4
     refine ⟨none, _, _, fun T he => ?_, by rw [bK]; exact h.2.2⟩
     obtain ⟨hs, hx⟩ := key T he
     simp only [cZ, gD, hc, e1, e2]
     refine ⟨h0, toX _ _ _ (fun z => by rw [hs]; exact nz z) ?_⟩
     unfold mY
     refine ⟨h1, h2, ?_⟩
     rw [hx, src, e3]
     refine ⟨h3, ?_⟩
     rw [hs, e4]
     exact ⟨h.1, h.2.1, by rw [bK], rfl⟩
    ·exact h.elim
   ·exact h.elim
  ·exact h.elim
end
section
variable {E : Env}
def tL (E : Env) (eb : Bool) (all : List Oper) : PT → St → (St → Prop) → Prop
 | .n, _, _ => True
 | .c p li w' sub r, st, K => (∃ o, all[p]? = some o ∧ efX E eb o st fun st' s => a0F E all (dW all li) (st'.put o.dst s) fun st'' => pK E st'' (dW all w') ∧ if sub.isNil = true then K st'' else tL E eb all sub st'' K) ∧ tL E eb all r st K
theorem a8M {eb : Bool} {all : List Oper} {ps dn rem : List Nat} {st : St} {K : St → Prop} {p : Nat} : ∀ {t : PT}, p ∈ t.tops → xZ all ps t dn rem = true → tL E eb all t st K → ∃ li w' sub, (li.all fun i => !ps.contains i && nC all 4 p i) = true ∧ okN all ps (p :: dn) (rem.filter (· != p)) w' sub = true ∧ xZ all ps sub (p :: dn) (rem.filter (· != p)) = true ∧
    ∃ o, all[p]? = some o ∧ efX E eb o st fun st' s => a0F E all (dW all li) (st'.put o.dst s) fun st'' => pK E st'' (dW all w') ∧ if sub.isNil = true then K st'' else tL E eb all sub st'' K
 | .n, h, _, _ => by simp [PT.tops] at h
 | .c q li w' sub r, h, ho, hv => by
  unfold xZ at ho
  simp only [Bool.and_eq_true] at ho
  obtain ⟨⟨⟨⟨h1, h2⟩, h3⟩, h4⟩, h5⟩ := ho
  obtain ⟨v1, v2⟩ := hv
  simp only [PT.tops, List.mem_cons] at h
  rcases h with rfl | h
  ·exact ⟨li, w', sub, h2, h3, h4, v1⟩
  ·exact a8M h h5 v2
theorem yC {all : List Oper} : ∀ {l : List Oper} {st : St} {K : St → Prop}, a0F E all l st K → ∃ st1, K st1 ∧ st1.h = st.h ∧ st1.t.length = st.t.length ∧ ∀ d, (∀ o ∈ l, o.dst ≠ some d) → nth st1.t d = nth st.t d
 | [], st, K, h => ⟨st, h, rfl, rfl, fun _ _ => rfl⟩
 | o :: l, st, K, h => by
  obtain ⟨s, h1, _⟩ := a3S h
  obtain ⟨st1, k1, k2, k3, k4⟩ := yC h1
  refine ⟨st1, k1, by rw [k2, a5g], by rw [k3, a0S], fun d hd => ?_⟩
  rw [k4 d fun p hp => hd p (List.mem_cons_of_mem _ hp)]
  cases ho : o.dst with
  | none => rfl
  | some e => exact a4l fun e2 => hd o (by simp) (by rw [ho, e2])
theorem a5W (φ : Option Nat) (T : List SV) (d : Nat) : nth (kH φ T) d = a8J φ (nth T d) := by
 rw [oF, oF, List.getD_eq_getElem?_getD, List.getD_eq_getElem?_getD, kH, List.getElem?_map]
 cases T[d]? with
 | none => simp [a8K]
 | some s => rfl
theorem b1C {o : Oper} {st : St} {k : St → SV → Prop} (ha : ¬ a4v o.op = true) (h : a1W E o st k) : ∃ φ h' s, (∀ T : List SV, (∀ x ∈ o.op.operands, ev ⟨T, st.h⟩ x = ev st x) → cZ E o.op ⟨T, st.h⟩ fun st2 s2 => st2 = ⟨kH φ T, h'⟩ ∧ s2 = s) ∧ k ⟨kH φ st.t, h'⟩ s := by
 unfold a1W at h
 rw [if_neg ha] at h
 unfold a7o at h
 split at h
 ·rename_i c hop
  split at h
  ·rename_i f hc
   split at h
   ·rename_i fn caps hfn
    obtain ⟨h', s', hcall, hk⟩ := h
    refine ⟨none, h', s', fun T he => ?_, by rw [bK]; exact hk⟩
    rw [hop] at he
    have hfe : ev ⟨T, st.h⟩ f = ev st f := he f (by simp [Op.operands, Call.operands, hc])
    have hargs : c.args.toList.map (ev ⟨T, st.h⟩) = c.args.toList.map (ev st) := List.map_congr_left fun x hx => he x (by simp only [Op.operands, Call.operands, Array.mem_append]; exact .inr (by simpa using hx))
    rw [hop]
    simp only [cZ, gD, hc, hfe, hfn, hargs]
    rw [bK]
    exact ⟨hcall T⟩
   ·exact h.elim
  ·exact h.elim
 ·exact h.elim
theorem a8N {op : Op} {st : St} {k : St → SV → Prop} (φ : Option Nat) (h' : List HB) (s : SV) (h1 : ∀ T : List SV, (∀ x ∈ op.operands, ev ⟨T, st.h⟩ x = ev st x) → cZ E op ⟨T, st.h⟩ fun st2 s2 => st2 = ⟨kH φ T, h'⟩ ∧ s2 = s) (h2 : k ⟨kH φ st.t, h'⟩ s) :
    ∃ (β : Type) (Pb : β → Prop) (φ : Option Nat) (h' : β → List HB) (s : β → SV), (∀ T : List SV, (∀ x ∈ op.operands, ev ⟨T, st.h⟩ x = ev st x) → cZ E op ⟨T, st.h⟩ fun st2 s2 => ∃ b, Pb b ∧ st2 = ⟨kH φ T, h' b⟩ ∧ s2 = s b) ∧ ∀ b, Pb b → k ⟨kH φ st.t, h' b⟩ (s b) :=
 ⟨Unit, fun _ => True, φ, fun _ => h', fun _ => s, fun T hT => by
  have e : (fun (st2 : St) (s2 : SV) => ∃ _ : Unit, True ∧ st2 = ⟨kH φ T, h'⟩ ∧ s2 = s) = fun st2 s2 => st2 = ⟨kH φ T, h'⟩ ∧ s2 = s := funext fun a => funext fun b => propext ⟨fun ⟨_, _, q⟩ => q, fun q => ⟨(), trivial, q⟩⟩
  rw [e]; exact h1 T hT, fun _ _ => h2⟩
theorem a8O {op : Op} (ha : a4v op = true) {st : St} {k : St → SV → Prop} (h : cZ E op st k) : ∃ (β : Type) (Pb : β → Prop) (φ : Option Nat) (h' : β → List HB) (s : β → SV), (∀ T : List SV, (∀ x ∈ op.operands, ev ⟨T, st.h⟩ x = ev st x) → cZ E op ⟨T, st.h⟩ fun st2 s2 => ∃ b, Pb b ∧ st2 = ⟨kH φ T, h' b⟩ ∧ s2 = s b) ∧ ∀ b, Pb b → k ⟨kH φ st.t, h' b⟩ (s b) := by
 by_cases hq : b5x E op st
 ·cases op <;> simp only [a4v, Bool.false_eq_true] at ha
  case buildSlice t len parts =>
   have hf : (E.T t).flds ≠ [] := hq
   have hX : ∀ (st : St) (k : St → SV → Prop), mZ E t len parts.toList st k = a8v E t len parts.toList st k := fun st k => by
    unfold mZ
    split
    ·rename_i e; exact (hf e).elim
    ·rfl
   simp only [cZ, hX] at h
   obtain ⟨h1, h2, h3, h4, h⟩ := h
   split at h
   ·rename_i css e
    split at h
    ·rename_i rows e2
     refine ⟨Value, fun _ => True, none, fun z => st.h ++ [.pool (E.T t).elem (E.T (E.T t).elem).size [(z, rows)]], fun z => .o (.d (.v z)), fun T he => ?_, fun z _ => by rw [bK]; exact h.2.2.out z⟩
     simp only [cZ, hX]
     have hp : gV ⟨T, st.h⟩ 0 parts.toList = gV st 0 parts.toList := rO _ _ fun p hp => he p.2 (by rw [← Array.mem_toList_iff, ← a3V]; exact List.mem_map.2 ⟨p, hp, rfl⟩)
     refine ⟨h1, h2, h3, h4, ?_⟩
     rw [hp, e]
     simp only [e2]
     exact ⟨h.1, h.2.1, ⟨fun z => ⟨z, trivial, by rw [bK], rfl⟩⟩⟩
    ·exact h.elim
   ·exact h.elim
  case call c =>
   have hc : c.callee = .builtin .append := by
    split at ha
    ·rename_i e; exact e
    ·cases ha
   obtain ⟨s0, r, z, ea, ez⟩ := hq
   simp only [cZ, gD, hc] at h
   split at h
   ·rename_i s x t t' e1 e2
    have hs0 : s = s0 := by rw [e1] at ea; exact (List.cons.inj ea).1
    subst hs0
    have key : ∀ T : List SV, (∀ y ∈ (Op.call c).operands, ev ⟨T, st.h⟩ y = ev st y) → ev ⟨T, st.h⟩ s = ev st s ∧ ev ⟨T, st.h⟩ x = ev st x := fun T he =>
     ⟨he s (by simp only [Op.operands, Call.operands, Array.mem_append]; exact .inr (by rw [← Array.mem_toList_iff, e1]; simp)), he x (by simp only [Op.operands, Call.operands, Array.mem_append]; exact .inr (by rw [← Array.mem_toList_iff, e1]; simp))⟩
    obtain ⟨h0, h⟩ := h
    rw [ez] at h
    have h : a4e E t z (ev st x) st k := h
    obtain ⟨h1, h2, h⟩ := h
    split at h
    ·rename_i z2 ex
     obtain ⟨id, items, i, xs, id2, items2, xs2, q1, q2, q3, q4, q5, q6, q7, hk⟩ := h.out
     refine ⟨Value, fun _ => True, none, fun z' => eQ st.h id (.pool (E.T t).elem (E.T (E.T t).elem).size (items.set i (z', xs ++ xs2))), fun z' => .o (.d (.v z')), fun T he => ?_, fun z' _ => by rw [bK]; exact hk z'⟩
     obtain ⟨hs, hx⟩ := key T he
     simp only [cZ, gD, hc, e1, e2]
     refine ⟨h0, ?_⟩
     rw [hs, ez, hx, ex]
     exact ⟨h1, h2, ⟨⟨id, items, i, xs, id2, items2, xs2, q1, q2, q3, q4, q5, q6, q7, fun z' => ⟨z', trivial, by rw [bK], rfl⟩⟩⟩⟩
    ·exact h.elim
   ·exact h.elim
  all_goals exact hq.elim
 ·obtain ⟨φ, h', s, h1, h2⟩ := b1B ha hq h
  exact a8N φ h' s h1 h2
theorem b1D {eb : Bool} {o : Oper} {st : St} {k : St → SV → Prop} (h : efX E eb o st k) : ∃ (β : Type) (Pb : β → Prop) (φ : Option Nat) (h' : β → List HB) (s : β → SV), (∀ T : List SV, (∀ x ∈ o.op.operands, ev ⟨T, st.h⟩ x = ev st x) → cZ E o.op ⟨T, st.h⟩ fun st2 s2 => ∃ b, Pb b ∧ st2 = ⟨kH φ T, h' b⟩ ∧ s2 = s b) ∧ ∀ b, Pb b → k ⟨kH φ st.t, h' b⟩ (s b) := by
 cases eb with
 | false =>
  by_cases ha : a4v o.op = true
  ·have h : a1W E o st k := h
   unfold a1W at h
   rw [if_pos ha] at h
   exact a8O ha h
  ·obtain ⟨φ, h', s, h1, h2⟩ := b1C ha (show a1W E o st k from h)
   exact a8N φ h' s h1 h2
 | true =>
  have h : a8L E o st k := h
  unfold a8L at h
  split at h
  ·rename_i ha
   exact a8O ha h
  ·unfold b4x at h
   split at h
   ·rename_i c hop
    split at h
    ·rename_i f hc
     split at h
     ·rename_i fn caps hfn
      obtain ⟨β, Pb, h', s', hcall, hk⟩ := h.out
      refine ⟨β, Pb, none, h', s', fun T he => ?_, by rw [bK]; exact hk⟩
      rw [hop] at he
      have hfe : ev ⟨T, st.h⟩ f = ev st f := he f (by simp [Op.operands, Call.operands, hc])
      have hargs : c.args.toList.map (ev ⟨T, st.h⟩) = c.args.toList.map (ev st) := List.map_congr_left fun x hx => he x (by simp only [Op.operands, Call.operands, Array.mem_append]; exact .inr (by simpa using hx))
      rw [hop]
      simp only [cZ, gD, hc, hfe, hfn, hargs]
      rw [bK]
      exact ⟨hcall T⟩
     ·exact h.elim
    ·exact h.elim
   ·exact h.elim
theorem b3b {all : List Oper} {listed : Array Bool} {i d : Nat} {o : Oper} {T : List SV} {H : List HB} (s6 : ∀ (j : Nat) (p : Oper) (d : Nat), all[j]? = some p → p.dst = some d → j ≠ i → o.dst ≠ some d) (ho : all[i]? = some o) (hd : o.dst = some d) :
    St.put ⟨dX all listed T, H⟩ o.dst (nth T d) = ⟨dX all (listed.setIfInBounds i true) T, H⟩ := by
 have keep : ∀ j, j ≠ i → (listed.setIfInBounds i true).getD j true = listed.getD j true := fun j hj => getD_set_ne true (fun e => hj e.symm)
 rw [hd]
 simp only [St.put, kW]
 congr 1
 apply List.ext_getElem?
 intro m
 rw [List.getElem?_set]
 rcases Nat.lt_or_ge m T.length with hm | hm
 ·rw [iY (l := dX all (listed.setIfInBounds i true) T) (by rw [dC]; exact hm), fH]
  by_cases e : d = m
  ·subst e
   rw [if_pos rfl, if_pos (by rw [dC]; exact hm)]
   have : jA all (listed.setIfInBounds i true) d = false := by
    cases hh : jA all (listed.setIfInBounds i true) d with
    | false => rfl
    | true =>
     obtain ⟨j, p, hj, hd2, hu⟩ := (dZ _ _ d).1 hh
     by_cases e : j = i
     ·subst e; rw [bR] at hu; cases hu
     ·exact (s6 j p d hj hd2 e hd).elim
   rw [this]; simp
  ·rw [if_neg e, iY (by rw [dC]; exact hm), fH]
   have : jA all (listed.setIfInBounds i true) m = jA all listed m := by
    rw [Bool.eq_iff_iff, dZ, dZ]
    constructor
    ·rintro ⟨j, p, hj, hd2, hu⟩
     refine ⟨j, p, hj, hd2, ?_⟩
     by_cases e2 : j = i
     ·subst e2; rw [bR] at hu; cases hu
     ·rwa [keep j e2] at hu
    ·rintro ⟨j, p, hj, hd2, hu⟩
     refine ⟨j, p, hj, hd2, ?_⟩
     by_cases e2 : j = i
     ·subst e2; rw [ho] at hj; cases hj; rw [hd] at hd2; cases hd2; exact (e rfl).elim
     ·rwa [keep j e2]
   rw [this]
 ·rw [List.getElem?_eq_none (l := dX all (listed.setIfInBounds i true) T) (by rw [dC]; exact hm)]
  split
  ·rename_i e; subst e
   rw [if_neg (by rw [dC]; omega)]
  ·rw [List.getElem?_eq_none (l := dX all listed T) (by rw [dC]; exact hm)]
theorem b1E {eb : Bool} (hT : TyOK E.P E.T) (hE : ∀ t, E.eqk t ≠ [] → EqT E.P t (E.eqk t)) {all : List Oper} {ps0 ls : List Nat} (hok : okE all ps0 ls = true) {Q : Exit → Act → World → Prop} {K : St → Prop} (hQ : ∀ g V st a w, Rel E.C g V st a w → K st → Q .normal a w) :
    ∀ (n : Nat) (listed : Array Bool) (dn rem : List Nat) (t : PT) (wi : List Nat) (st : St) (g : List Gh) (V : View) (a : Act) (w : World), listed.size = all.length → a0I all listed ≤ n → b4w all listed → okN all ps0 dn rem wi t = true → xZ all ps0 t dn rem = true → (∀ e ∈ dn, listed.getD e true = true) → (∀ q ∈ rem, q < all.length ∧ q ∈ ps0 ∧ listed.getD q true = false) → (∀ i, i < all.length → i ∈ ps0 → listed.getD i true = false → i ∈ rem) →
     pK E st (dW all wi) → (if t.isNil = true then K st else tL E eb all t st K) → Rel E.C g V ⟨dX (lat all ls) listed st.t, st.h⟩ a w → wpAny E.P .any all.toArray Q n listed a w := by
 unfold okE at hok
 rw [Bool.and_eq_true] at hok
 obtain ⟨hls0, hok⟩ := hok
 have hls : ∀ i ∈ ls, i ∈ ps0 := fun i hi => List.contains_iff_mem.1 (List.all_eq_true.1 hls0 i hi)
 have spec : ∀ (i : Nat) (o : Oper), all[i]? = some o → o.guard = none ∧ (∀ e ∈ o.after, Region.binds .any e = true → e.on < i) ∧ (i ∉ ps0 → ∃ d, o.dst = some d) ∧
     (∀ (j : Nat) (p : Oper) (d : Nat), all[j]? = some p → p.dst = some d → (∀ t ∈ mQ (opL o.op), t = d → onE o j = true ∨ j ∈ ls) ∧ (j ≠ i → o.dst ≠ some d)) := fun i o ho => by
  have h := List.all_eq_true.1 hok i (List.mem_range.2 (List.getElem?_eq_some_iff.1 ho).1)
  unfold a5v at h
  rw [ho] at h
  simp only [Bool.and_eq_true] at h
  obtain ⟨⟨⟨h1, h2⟩, h4⟩, h5⟩ := h
  refine ⟨?_, fun e he hb => ?_, fun hs => ?_, fun j p d hj hd => ?_⟩
  ·cases hg : o.guard with
   | none => rfl
   | some x => rw [hg] at h1; cases h1
  ·have := (Array.all_eq_true_iff_forall_mem.1 h2) e he
   rw [hb] at this
   simpa using this
  ·rcases Bool.or_eq_true_iff.1 h4 with h | h
   ·exact (hs (List.contains_iff_mem.1 h)).elim
   ·exact Option.isSome_iff_exists.1 h
  ·have h := List.all_eq_true.1 h5 j (List.mem_range.2 (List.getElem?_eq_some_iff.1 hj).1)
   rw [hj] at h
   simp only [hd, Bool.and_eq_true] at h
   refine ⟨fun t ht e => ?_, fun hne => ?_⟩
   ·have := List.all_eq_true.1 h.1 t ht
    subst e
    simp only [bne_self_eq_false, Bool.false_or, Bool.or_eq_true] at this
    exact this.imp id List.contains_iff_mem.1
   ·rcases Bool.or_eq_true_iff.1 h.2 with h | h
    ·exact (hne (beq_iff_eq.1 h)).elim
    ·simpa using h
 have toT : ∀ {listed : Array Bool} {j : Nat}, listed.getD j false = true → listed.getD j true = true := fun {listed j} h => by
  rcases Nat.lt_or_ge j listed.size with h' | h'
  ·simp [h'] at h ⊢; exact h
  ·simp [Array.getElem?_eq_none h'] at h
 have fin : ∀ (listed : Array Bool) (dn rem : List Nat) (t : PT) (wi : List Nat) (st : St) (g : List Gh) (V : View) (a : Act) (w : World), (∀ j, j < all.length → listed.getD j true = true) → xZ all ps0 t dn rem = true → (∀ q ∈ rem, q < all.length ∧ q ∈ ps0 ∧ listed.getD q true = false) → (if t.isNil = true then K st else tL E eb all t st K) → Rel E.C g V ⟨dX (lat all ls) listed st.t, st.h⟩ a w → Q .normal a w := fun listed dn rem t wi st g V a w hl hpt h2 hv hr => by
  have hm : dX (lat all ls) listed st.t = st.t := by
   apply List.ext_getElem?
   intro d
   rcases Nat.lt_or_ge d st.t.length with h | h
   ·rw [iY (by rw [dC]; exact h), iY h, fH]
    have : jA (lat all ls) listed d = false := by
     cases hh : jA (lat all ls) listed d with
     | false => rfl
     | true =>
      obtain ⟨j, o', ho', hd', hu⟩ := (dZ (lat all ls) listed d).1 hh
      obtain ⟨o, ho, _, _⟩ := yA ho' hd'
      rw [hl j (List.getElem?_eq_some_iff.1 ho).1] at hu; cases hu
    rw [this]; simp
   ·rw [List.getElem?_eq_none (by rw [dC]; exact h), List.getElem?_eq_none h]
  rw [hm] at hr
  cases t with
  | n => exact hQ _ _ _ _ _ hr hv
  | c p li w' sub r =>
   unfold xZ at hpt
   simp only [Bool.and_eq_true] at hpt
   obtain ⟨h3, _, h4⟩ := h2 p (List.contains_iff_mem.1 hpt.1.1.1.1)
   rw [hl _ h3] at h4; cases h4
 have none_left : ∀ (listed : Array Bool), listed.size = all.length → Region.ready .any all.toArray listed = [] → ∀ j, j < all.length → listed.getD j true = true := fun listed hsz hr => by
  intro j
  induction j using Nat.strongRecOn with
  | _ j ih =>
   intro hj
   cases hq : listed.getD j true with
   | true => rfl
   | false =>
    have ho : all[j]? = some (all[j]'hj) := List.getElem?_eq_getElem hj
    have : j ∈ Region.ready .any all.toArray listed := mem_ready.2 ⟨hq, _, toA ho, fun e he hb => by
     have hlt := (spec j _ ho).2.1 e he hb
     have h1 := ih e.on hlt (by omega)
     have hes : e.on < listed.size := by omega
     simp [hes] at h1 ⊢; exact h1⟩
    rw [hr] at this; cases this
 intro n
 induction n with
 | zero =>
  intro listed dn rem t wi st g V a w hsz hn hclo hokn hokt hdn hphs hall hchk hv hr
  have hl : ∀ j, j < all.length → listed.getD j true = true := fun j hj => by
   cases hq : listed.getD j true with
   | true => rfl
   | false =>
    have : j ∈ (List.range all.length).filter fun j => !listed.getD j true := List.mem_filter.2 ⟨List.mem_range.2 hj, by rw [hq]; rfl⟩
    have := List.length_pos_of_mem this
    unfold a0I at hn
    omega
  refine ⟨List.eq_nil_iff_forall_not_mem.2 fun i hi => ?_, fin listed dn rem t wi st g V a w hl hokt hphs hv hr⟩
  obtain ⟨h1, o, h2, _⟩ := mem_ready.1 hi
  rw [hl i (by simpa using (Array.getElem?_eq_some_iff.1 h2).1)] at h1; cases h1
 | succ n ih =>
  intro listed dn rem t wi st g V a w hsz hn hclo hokn hokt hdn hphs hall hchk hv hr
  refine ⟨fun he => fin listed dn rem t wi st g V a w (none_left listed hsz he) hokt hphs hv hr, fun i hi => ?_⟩
  obtain ⟨hun, o, ho', haft⟩ := mem_ready.1 hi
  have ho : all[i]? = some o := by simpa using ho'
  have hil := (List.getElem?_eq_some_iff.1 ho).1
  obtain ⟨s1, s2, s5, s6⟩ := spec i o ho
  have hun' : a0I all (listed.setIfInBounds i true) ≤ n := by have := a3j hil hun; omega
  have haft' : ∀ e ∈ o.after, Region.binds .any e = true → listed.getD e.on true = true := fun e he hb => toT (haft e he hb)
  have keep : ∀ j, j ≠ i → (listed.setIfInBounds i true).getD j true = listed.getD j true := fun j hj => getD_set_ne true (fun e => hj e.symm)
  have up : ∀ j, listed.getD j true = true → (listed.setIfInBounds i true).getD j true = true := fun j hj => by
   by_cases e : j = i
   ·subst e; rw [bR]
   ·rw [keep j e]; exact hj
  have hclo' : b4w all (listed.setIfInBounds i true) := fun b p hb hl e he hbd => by
   by_cases e2 : b = i
   ·subst e2; rw [ho] at hb; cases hb; exact up _ (haft' e he hbd)
   ·rw [keep b e2] at hl; exact up _ (hclo b p hb hl e he hbd)
  have evEq : ∀ x ∈ o.op.operands, ev ⟨dX (lat all ls) listed st.t, st.h⟩ x = ev st x := fun x hx => by
   cases x with
   | tmp t =>
    show nth (dX (lat all ls) listed st.t) t = nth st.t t
    rw [fH]
    have : jA (lat all ls) listed t = false := by
     cases hh : jA (lat all ls) listed t with
     | false => rfl
     | true =>
      obtain ⟨j, p', hj', hd', hu⟩ := (dZ (lat all ls) listed t).1 hh
      obtain ⟨p, hj, hd, hnl⟩ := yA hj' hd'
      rcases (s6 j p t hj hd).1 t (qJ.2 (by rw [a3V]; simpa using hx)) rfl with h1 | h1
      ·have h2 := a1V ho haft' h1
       rw [hu] at h2; cases h2
      ·exact (hnl h1).elim
    rw [this]; simp
   | const v => rfl
   | func f => rfl
   | global m => rfl
  unfold wpOp
  rw [ho']
  simp only [Region.wanted, s1, if_true]
  refine .inl ?_
  have hwin : ∀ (rest : List Nat), b5w all ps0 dn rest wi = true → i ∉ ps0 → (∀ e ∈ rest, listed.getD e true = false) → i ∈ wi := fun rest hw hni hrest => by
   have h := List.all_eq_true.1 hw i (List.mem_range.2 hil)
   simp only [Bool.or_eq_true] at h
   rcases h with ((h | h) | h) | h
   ·exact (hni (List.contains_iff_mem.1 h)).elim
   ·obtain ⟨e, he, hr⟩ := List.any_eq_true.1 h
    have hle := hdn e he
    cases hq : all[e]? with
    | none => unfold nC at hr; rw [hq] at hr; cases hr
    | some p =>
     have := tK hclo 4 i e p hq (hclo e p hq hle) hr
     rw [hun] at this; cases this
   ·obtain ⟨e, he, hr⟩ := List.any_eq_true.1 h
    have := tK hclo 4 e i o ho haft' hr
    rw [hrest e he] at this; cases this
   ·exact List.contains_iff_mem.1 h
  by_cases hp : i ∈ ps0
  ·have hip := hall i hil hp hun
   have htop : i ∈ t.tops := by
    unfold okN at hokn
    rw [Bool.and_eq_true] at hokn
    have h1 := List.all_eq_true.1 hokn.2 i hip
    rcases Bool.or_eq_true_iff.1 h1 with h | h
    ·obtain ⟨q, hq, hr⟩ := List.any_eq_true.1 h
     rw [Bool.and_eq_true] at hr
     have h2 := tK hclo 4 q i o ho haft' hr.2
     rw [(hphs q hq).2.2] at h2; cases h2
    ·exact List.contains_iff_mem.1 h
   have hv' : tL E eb all t st K := by
    cases t with
    | n => simp [PT.tops] at htop
    | c => exact hv
   obtain ⟨l, w', sub, hw3, hw4, hw5, o2, ho2, hvo⟩ := a8M htop hokt hv'
   rw [ho] at ho2; cases ho2
   obtain ⟨p, rfl⟩ : ∃ p, p = i := ⟨i, rfl⟩
   have hphs0 := hphs
   ·skip
    obtain ⟨β, Pb, φ, h'', s, hsw, hk⟩ := b1D hvo
    refine qK hT hE (hsw _ evEq) hr fun g' V' st' w2 s2 y hr' hsy hk2 => ?_
    obtain ⟨b0, hb0, rfl, rfl⟩ := hk2
    obtain ⟨st1, k1, k2, k3, k4⟩ := yC (hk b0 hb0)
    generalize h'' b0 = h' at *
    generalize s b0 = s2 at *
    have hr2 := hr'.put o.dst hsy
    have hh1 : st1.h = h' := by rw [k2, a5g]
    have hlen1 : st1.t.length = st.t.length := by rw [k3, a0S]; simp [kH]
    have e : (St.put ⟨kH φ (dX (lat all ls) listed st.t), h'⟩ o.dst s2) = ⟨dX (lat all ls) (listed.setIfInBounds p true) st1.t, st1.h⟩ := by
     rw [hh1]
     have key : ∀ m, m < st.t.length → nth (St.put ⟨kH φ (dX (lat all ls) listed st.t), h'⟩ o.dst s2).t m = nth (dX (lat all ls) (listed.setIfInBounds p true) st1.t) m := fun m hm => by
      rw [fH]
      by_cases ed : o.dst = some m
      ·have hid : jA (lat all ls) (listed.setIfInBounds p true) m = false := by
        cases hh : jA (lat all ls) (listed.setIfInBounds p true) m with
        | false => rfl
        | true =>
         obtain ⟨j, q', hj', hd', hu⟩ := (dZ _ _ m).1 hh
         obtain ⟨q, hj, hd2, _⟩ := yA hj' hd'
         by_cases e : j = p
         ·subst e; rw [bR] at hu; cases hu
         ·exact ((s6 j q m hj hd2).2 e ed).elim
       have hnl : ∀ q ∈ dW all l, q.dst ≠ some m := fun q hq hd => by
        obtain ⟨j, hj, hjq⟩ := lZ.1 hq
        have h1 := List.all_eq_true.1 hw3 j hj
        simp only [Bool.and_eq_true] at h1
        by_cases e : j = p
        ·subst e
         have := h1.1
         simp [hp] at this
        ·exact (s6 j q m hjq hd).2 e ed
       rw [hid, k4 m hnl, ed]
       simp only [St.put, kW, oF, List.getD_eq_getElem?_getD, List.getElem?_set, Bool.false_eq_true, if_false, if_true]
       rw [if_pos (by simp [kH, dC]; exact hm), if_pos (by simp [kH]; exact hm)]
      ·have ep : ∀ (T : List SV) (H : List HB), nth (St.put ⟨T, H⟩ o.dst s2).t m = nth T m := fun T H => by
        cases hq : o.dst with
        | none => rfl
        | some d => exact a4l (st := ⟨T, H⟩) fun e => ed (by rw [hq, e])
       rw [ep, a5W, fH]
       have ehid : jA (lat all ls) (listed.setIfInBounds p true) m = jA (lat all ls) listed m := by
        rw [Bool.eq_iff_iff, dZ, dZ]
        constructor
        ·rintro ⟨j, q, hj, hd2, hu⟩
         refine ⟨j, q, hj, hd2, ?_⟩
         by_cases e2 : j = p
         ·subst e2; rw [bR] at hu; cases hu
         ·rwa [keep j e2] at hu
        ·rintro ⟨j, q, hj, hd2, hu⟩
         refine ⟨j, q, hj, hd2, ?_⟩
         by_cases e2 : j = p
         ·subst e2
          obtain ⟨q0, hq0, hd3, _⟩ := yA hj hd2
          rw [ho] at hq0; cases hq0; exact (ed hd3).elim
         ·rwa [keep j e2]
       rw [ehid]
       cases hh : jA (lat all ls) listed m with
       | true => simp [a8K]
       | false =>
        simp only [Bool.false_eq_true, if_false]
        have hnl : ∀ q ∈ dW all l, q.dst ≠ some m := fun q hq hd => by
         obtain ⟨j, hj, hjq⟩ := lZ.1 hq
         have h1 := List.all_eq_true.1 hw3 j hj
         simp only [Bool.and_eq_true] at h1
         have hju : listed.getD j true = false := by
          cases hx : listed.getD j true with
          | false => rfl
          | true =>
           have := tK hclo 4 p j q hjq (hclo j q hjq hx) h1.2
           rw [hun] at this; cases this
         have hjl : j ∉ ls := fun hm => by have := h1.1; simp [hls j hm] at this
         have := (dZ (lat all ls) listed m).2 ⟨j, q, yB hjq hjl, hd, hju⟩
         rw [hh] at this; cases this
        rw [k4 m hnl, ep, a5W]
     have eh : (St.put ⟨kH φ (dX (lat all ls) listed st.t), h'⟩ o.dst s2).h = h' := a5g _ _ _
     have el : (St.put ⟨kH φ (dX (lat all ls) listed st.t), h'⟩ o.dst s2).t.length = st.t.length := by rw [a0S]; simp [kH, dC]
     have et : (St.put ⟨kH φ (dX (lat all ls) listed st.t), h'⟩ o.dst s2).t = dX (lat all ls) (listed.setIfInBounds p true) st1.t := by
      apply List.ext_getElem?
      intro m
      rcases Nat.lt_or_ge m st.t.length with hm | hm
      ·rw [iY (by rw [el]; exact hm), iY (by rw [dC, hlen1]; exact hm), key m hm]
      ·rw [List.getElem?_eq_none (by rw [el]; exact hm), List.getElem?_eq_none (by rw [dC, hlen1]; exact hm)]
     generalize (St.put ⟨kH φ (dX (lat all ls) listed st.t), h'⟩ o.dst s2) = X at eh et
     cases X
     simp only at eh et
     rw [eh, et]
    rw [e] at hr2
    have memf : ∀ q, q ∈ rem.filter (· != p) → q ∈ rem ∧ q ≠ p := fun q hq => by
     obtain ⟨h1, h2⟩ := List.mem_filter.1 hq
     exact ⟨h1, by simpa using h2⟩
    refine ih _ (p :: dn) (rem.filter (· != p)) sub w' st1 g' V' _ _ (by simp [hsz]) hun' hclo' hw4 hw5 (fun e2 he => ?_) (fun q hq => ?_) (fun j hj hj0 hu => ?_) k1.1 k1.2 hr2
    ·rcases List.mem_cons.1 he with rfl | he
     ·rw [bR]
     ·exact up _ (hdn e2 he)
    ·obtain ⟨hq, hne⟩ := memf q hq
     obtain ⟨q1, q2, q3⟩ := hphs q hq
     exact ⟨q1, q2, by rw [keep _ hne]; exact q3⟩
    ·by_cases e2 : j = p
     ·subst e2; rw [bR] at hu; cases hu
     ·rw [keep j e2] at hu
      exact List.mem_filter.2 ⟨hall j hj hj0 hu, by simpa using e2⟩
  ·have hmem : i ∈ wi ∧ pK E st (dW all wi) := by
    unfold okN at hokn
    rw [Bool.and_eq_true] at hokn
    exact ⟨hwin rem hokn.1 hp fun e he => (hphs e he).2.2, hchk⟩
   obtain ⟨d, hd, hvc⟩ := a5y hmem.2 (lZ.2 ⟨i, hmem.1, ho⟩)
   have h1 := a5f (st := ⟨dX (lat all ls) listed st.t, st.h⟩) (uG (fun x hx => (evEq x hx).symm) hvc)
   refine qK hT hE h1 hr fun g' V' st' w' s y hr' hsy hk => ?_
   obtain ⟨rfl, rfl⟩ := hk
   have hr2 := hr'.put o.dst hsy
   have hil : i ∉ ls := fun hm => hp (hls i hm)
   rw [b3b (all := lat all ls) (fun j p d hj hd hne => by
    obtain ⟨p0, hj0, hd0, _⟩ := yA hj hd
    exact (s6 j p0 d hj0 hd0).2 hne) (yB ho hil) hd] at hr2
   refine ih _ dn rem t wi st g' V' _ _ (by simp [hsz]) hun' hclo' hokn hokt (fun e he => up e (hdn e he)) (fun q hq => ?_) (fun j hj hj0 hu => ?_) hchk hv hr2
   ·obtain ⟨q1, q2, q3⟩ := hphs q hq
    exact ⟨q1, q2, by rw [keep q (fun e => hp (e ▸ q2))]; exact q3⟩
   ·by_cases e2 : j = i
    ·subst e2; rw [bR] at hu; cases hu
    ·rw [keep j e2] at hu; exact hall j hj hj0 hu
end
section
variable {E : Env}
inductive PO where
 | nil : PO
 | cons : Nat → List Oper → List Oper → PO → PO → PO
def PO.isNil : PO → Bool
 | .nil => true
 | .cons .. => false
def lQ (all : List Oper) : PT → PO
 | .n => .nil
 | .c p l w sub r => .cons p (dW all l) (dW all w) (lQ all sub) (lQ all r)
theorem iO {all : List Oper} (t : PT) : (lQ all t).isNil = t.isNil := by cases t <;> rfl
def vcEJ (E : Env) (eb : Bool) (all : List Oper) : PO → St → (St → Prop) → Prop
 | .nil, _, _ => True
 | .cons p l w' sub r, st, K => (∃ o, all[p]? = some o ∧ efX E eb o st fun st' s => a0F E all l (st'.put o.dst s) fun st'' => pK E st'' w' ∧ if sub.isNil = true then K st'' else vcEJ E eb all sub st'' K) ∧ vcEJ E eb all r st K
theorem oO {eb : Bool} {all : List Oper} {K : St → Prop} : ∀ (t : PT) (st : St), vcEJ E eb all (lQ all t) st K = tL E eb all t st K
 | .n, _ => rfl
 | .c p l w' sub r, st => by
  have h1 : ∀ st, vcEJ E eb all (lQ all sub) st K = tL E eb all sub st K := oO sub
  have h2 : vcEJ E eb all (lQ all r) st K = tL E eb all r st K := oO r st
  simp only [lQ, vcEJ, tL, h1, h2, iO]
def zH (G : St) (s : St) : Prop := ∃ (l : List (Nat × Nat)) (s' : St), swL s l = some s' ∧ s'.le G
theorem a5X : ∀ l : List SV, leT l l
 | [] => trivial
 | _ :: l => ⟨.inr rfl, a5X l⟩
theorem St.le_refl (s : St) : s.le s := ⟨a5X _, sZ _⟩
theorem jE {s : St} : zH s s := ⟨[], s, rfl, s.le_refl⟩
theorem a8P {G s s' : St} (l : List (Nat × Nat)) (h : swL s l = some s') (e : s' = G) : zH G s := ⟨l, s', h, e ▸ s'.le_refl⟩
theorem b1F (hT : TyOK E.P E.T) (hE : ∀ t, E.eqk t ≠ [] → EqT E.P t (E.eqk t)) (hm : E.P.follows .mixedOrders = true) {id : Nat} {ops : List Oper} {F : Ex → St → Prop} {st G : St} (ps ls l0 w0 : List Nat) (t : PT)
    (hok : okE ops ps ls = true) (hl0 : (l0.all fun i => !ps.contains i) = true) (hn : okN ops ps [] ps w0 t = true) (ht : xZ ops ps t [] ps = true) (hlt : (ps.all fun q => decide (q < ops.length)) = true) (hb : st.okB = true)
    (h : a0F E ops (dW ops l0) st fun st1 => pK E st1 (dW ops w0) ∧ if t.isNil = true then zH G st1 else tL E false ops t st1 (zH G)) (hG : G.okB = true) (hF : F .normal G) : WP E.P E.C (.region id ops.toArray true) F st := fun g V a w hr => by
 refine wp_region_any hm ?_
 obtain ⟨st1, k1, k2, k3, k4⟩ := yC h
 have hf : ∀ j : Nat, j < ops.length → (Array.replicate ops.toArray.size false).getD j true = false := fun j hj => by simp [hj]
 have hle : st.le ⟨dX (lat ops ls) (Array.replicate ops.toArray.size false) st1.t, st1.h⟩ := by
  refine ⟨a4k (by rw [dC, k3]) fun d _ => ?_, by show leH st.h st1.h; rw [k2]; exact sZ _⟩
  rw [fH]
  cases hh : jA (lat ops ls) (Array.replicate ops.toArray.size false) d with
  | true => exact .inl rfl
  | false =>
   right
   simp only [Bool.false_eq_true, if_false]
   refine (k4 d fun o ho hd => ?_).symm
   obtain ⟨j, hjl, hj⟩ := lZ.1 ho
   have hnl : j ∉ ls := fun hm => by
    unfold okE at hok
    rw [Bool.and_eq_true] at hok
    have h1 := List.all_eq_true.1 hok.1 j hm
    have h2 := List.all_eq_true.1 hl0 j hjl
    rw [h1] at h2; cases h2
   have := (dZ (lat ops ls) (Array.replicate ops.toArray.size false) d).2 ⟨j, o, yB hj hnl, hd, hf j (List.getElem?_eq_some_iff.1 hj).1⟩
   rw [hh] at this; cases this
 have hbt : ((dX (lat ops ls) (Array.replicate ops.toArray.size false) st1.t).all (·.below st1.h.length) && st1.h.all (·.below st1.h.length)) = true := by
  unfold St.okB at hb
  rw [Bool.and_eq_true] at hb ⊢
  rw [k2]
  refine ⟨List.all_eq_true.2 fun s hs => ?_, hb.2⟩
  obtain ⟨d, hd⟩ := List.mem_iff_getElem?.1 hs
  rcases (hle.1.get).2 d s hd with e | e
  ·subst e; rfl
  ·exact List.all_eq_true.1 hb.1 s (List.mem_of_getElem? e)
 have := b1E (eb := false) hT hE hok (Q := fun e a w => Post E.C F e a w) (K := zH G) (fun g V st _ _ hr h => by
     obtain ⟨l, s', hs, hle⟩ := h
     obtain ⟨g', h1⟩ := hr.swL l hs
     exact ⟨_, V, G, h1.forget hle hG, hF⟩) ops.toArray.size (Array.replicate ops.toArray.size false) [] ps t w0 st1 _ V a { w with drawn := w.drawn + 1 } (by simp)
  (by unfold a0I; exact Nat.le_trans (List.length_filter_le _ _) (by simp)) (fun b o ho hl => by rw [hf b (List.getElem?_eq_some_iff.1 ho).1] at hl; cases hl) hn ht (fun e he => by simp at he)
  (fun q hq => by
   have hlq := of_decide_eq_true (List.all_eq_true.1 hlt q hq)
   exact ⟨hlq, hq, hf _ hlq⟩) (fun i _ hi _ => hi) k1.1 k1.2 ((hr.drawn).forget hle hbt)
 exact this
theorem a8Q (hT : TyOK E.P E.T) (hE : ∀ t, E.eqk t ≠ [] → EqT E.P t (E.eqk t)) (hm : E.P.follows .mixedOrders = true) {id : Nat} {ops : List Oper} {F : Ex → St → Prop} {st : St} (ps ls l0 w0 : List Nat) (t : PT)
    (hok : okE ops ps ls = true) (hl0 : (l0.all fun i => !ps.contains i) = true) (hn : okN ops ps [] ps w0 t = true) (ht : xZ ops ps t [] ps = true) (hlt : (ps.all fun q => decide (q < ops.length)) = true) (hb : st.okB = true)
    (h : a0F E ops (dW ops l0) st fun st1 => pK E st1 (dW ops w0) ∧ if t.isNil = true then F .normal st1 else tL E true ops t st1 (F .normal)) : WP E.P E.C (.region id ops.toArray true) F st := fun g V a w hr => by
 refine wp_region_any hm ?_
 obtain ⟨st1, k1, k2, k3, k4⟩ := yC h
 have hf : ∀ j : Nat, j < ops.length → (Array.replicate ops.toArray.size false).getD j true = false := fun j hj => by simp [hj]
 have hle : st.le ⟨dX (lat ops ls) (Array.replicate ops.toArray.size false) st1.t, st1.h⟩ := by
  refine ⟨a4k (by rw [dC, k3]) fun d _ => ?_, by show leH st.h st1.h; rw [k2]; exact sZ _⟩
  rw [fH]
  cases hh : jA (lat ops ls) (Array.replicate ops.toArray.size false) d with
  | true => exact .inl rfl
  | false =>
   right
   simp only [Bool.false_eq_true, if_false]
   refine (k4 d fun o ho hd => ?_).symm
   obtain ⟨j, hjl, hj⟩ := lZ.1 ho
   have hnl : j ∉ ls := fun hm => by
    unfold okE at hok
    rw [Bool.and_eq_true] at hok
    have h1 := List.all_eq_true.1 hok.1 j hm
    have h2 := List.all_eq_true.1 hl0 j hjl
    rw [h1] at h2; cases h2
   have := (dZ (lat ops ls) (Array.replicate ops.toArray.size false) d).2 ⟨j, o, yB hj hnl, hd, hf j (List.getElem?_eq_some_iff.1 hj).1⟩
   rw [hh] at this; cases this
 have hbt : ((dX (lat ops ls) (Array.replicate ops.toArray.size false) st1.t).all (·.below st1.h.length) && st1.h.all (·.below st1.h.length)) = true := by
  unfold St.okB at hb
  rw [Bool.and_eq_true] at hb ⊢
  rw [k2]
  refine ⟨List.all_eq_true.2 fun s hs => ?_, hb.2⟩
  obtain ⟨d, hd⟩ := List.mem_iff_getElem?.1 hs
  rcases (hle.1.get).2 d s hd with e | e
  ·subst e; rfl
  ·exact List.all_eq_true.1 hb.1 s (List.mem_of_getElem? e)
 have := b1E (eb := true) hT hE hok (Q := fun e a w => Post E.C F e a w) (K := F .normal) (fun g V st _ _ hr h => ⟨g, V, st, hr, h⟩) ops.toArray.size (Array.replicate ops.toArray.size false) [] ps t w0 st1 _ V a { w with drawn := w.drawn + 1 } (by simp)
  (by unfold a0I; exact Nat.le_trans (List.length_filter_le _ _) (by simp)) (fun b o ho hl => by rw [hf b (List.getElem?_eq_some_iff.1 ho).1] at hl; cases hl) hn ht (fun e he => by simp at he)
  (fun q hq => by
   have hlq := of_decide_eq_true (List.all_eq_true.1 hlt q hq)
   exact ⟨hlq, hq, hf _ hlq⟩) (fun i _ hi _ => hi) k1.1 k1.2 ((hr.drawn).forget hle hbt)
 exact this
structure vcTT (E : Env) (eb : Bool) (all : List Oper) (t : PO) (st : St) (K : St → Prop) (u : Tie (all, t, K)) : Prop where
 out : vcEJ E eb all t st K
structure vcTN (E : Env) (eb : Bool) (all w : List Oper) (t : PO) (st : St) (K : St → Prop) (u : Tie (all, w, t, K)) : Prop where
 out : pK E st w ∧ if t.isNil = true then K st else vcEJ E eb all t st K
def b1G (E : Env) (eb : Bool) (all : List Oper) (p : Nat) (l : List Oper) (st : St) (k : St → Prop) (_ : Tie (l, k)) : Prop := match a3O all p with
 | some o => efX E eb o st fun st' s => vcDRun E all l (st'.put o.dst s) k ⟨⟩
 | none => False
theorem iV {eb : Bool} {all : List Oper} {st : St} {K : St → Prop} : vcTT E eb all .nil st K ⟨⟩ := ⟨trivial⟩
theorem fU {eb : Bool} {all l w' : List Oper} {p : Nat} {sub r : PO} {st : St} {K : St → Prop} (h : b1G E eb all p l st (fun st'' => vcTN E eb all w' sub st'' K ⟨⟩) ⟨⟩) (hr : vcTT E eb all r st K ⟨⟩) : vcTT E eb all (.cons p l w' sub r) st K ⟨⟩ := ⟨by
 refine ⟨?_, hr.out⟩
 have e2 : (fun st'' => vcTN E eb all w' sub st'' K ⟨⟩) = (fun st'' => pK E st'' w' ∧ if sub.isNil = true then K st'' else vcEJ E eb all sub st'' K) := funext fun s => propext ⟨fun h => h.out, fun h => ⟨h⟩⟩
 rw [e2] at h
 unfold b1G at h
 rw [tZ] at h
 split at h
 ·rename_i o ho
  refine ⟨o, ho, ?_⟩
  have e4 : (fun (st' : St) (s : SV) => vcDRun E all l (st'.put o.dst s) (fun st'' => pK E st'' w' ∧ if sub.isNil = true then K st'' else vcEJ E eb all sub st'' K) ⟨⟩) = (fun st' s => a0F E all l (st'.put o.dst s) (fun st'' => pK E st'' w' ∧ if sub.isNil = true then K st'' else vcEJ E eb all sub st'' K)) := funext fun st' => funext fun s => propext ⟨fun h => h.out, fun h => ⟨h⟩⟩
  rw [e4] at h
  exact h
 ·exact h.elim⟩
theorem fV {eb : Bool} {all w : List Oper} {st : St} {K : St → Prop} (hc : pK E st w) (h : K st) : vcTN E eb all w .nil st K ⟨⟩ := ⟨hc, h⟩
theorem fZ {eb : Bool} {all w l w' : List Oper} {p : Nat} {sub r : PO} {st : St} {K : St → Prop} (hc : pK E st w) (h : vcTT E eb all (.cons p l w' sub r) st K ⟨⟩) : vcTN E eb all w (.cons p l w' sub r) st K ⟨⟩ := ⟨hc, h.out⟩
end
attribute [go_sem] dW lQ b1G efX a1W a8L b4x a4v
end Go.Sx
end
