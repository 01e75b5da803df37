/-
  Rows of scalars in the shelf's words.
  A row's block behind other work: its cells; stores; what it means for rows of data.
  slices.DeleteFunc at []string: the walk.
  slices.DeleteFunc at []string on a row of the caller's own.
  slices.IndexFunc and slices.DeleteFunc at []string with a closure that has captured one variable.
-/
import Derived.Test.YteganoldfldlhaaH1
import Derived.Sort.Row
import Derived.Sort.Grow
import Derived.Shelf.RegionOpenPlain
import Derived.WalkKit
import Derived.Deep.LoopGhost
import Derived.Deep.Draws
import Derived.Lib.Walk
import Derived.Lib.SliceRun
import Derived.Shelf.SlicesE.Kit
import Derived.Shelf.SlicesE.DeleteFunc
set_option linter.all false
section
set_option linter.all false
namespace Go.Sx
open Go Go.RowKit

def rowS {α : Type} (e : α → Value) (l : List α) : List (List D) := l.map fun x => [.v (e x)]
theorem rowS_flat {α : Type} (e : α → Value) (l : List α) : (rowS e l).flatten = l.map fun x => D.v (e x) := by
  induction l with
  | nil => rfl
  | cons x l ih => simp only [rowS, List.map_cons, List.flatten_cons] at ih ⊢; rw [ih]; rfl

theorem scal_down {α : Type} [Inhabited α] {e : α → Value} {V : View} {w : World} {ty : Nat} {l : List α} {y : Value} {S : List Nat} (h : RowR V w ty 1 (rowS e l) y S) :
    ((∃ ao, y = .slice ao 0 0) ∧ l = [] ∧ S = []) ∨ ∃ b cap c, y = .slice (some ⟨b, 0, none⟩) l.length cap ∧ l.length ≤ cap ∧ cap ≤ maxLen ∧ w.heap[b]? = some (.cells c ty (0, 0)) ∧ c.size = cap ∧ Sort.Holds e w b 0 l.toArray ∧ V b = none ∧ S = [b] := by
  obtain ⟨h0, ys, Ss, h1, h3⟩ := h
  rcases h3 with ⟨ha, hb, hc⟩ | ⟨b, cap, c, rfl, e3, e4, e5, e6, e7, e8, rfl⟩
  · exact .inl ⟨ha, by simpa [rowS] using hb, hc⟩
  · have key : ∀ j (hj : j < l.length), ys[j]? = some (e l[j]) ∧ Ss[j]? = some [] := fun j hj => by
      have hd : (rowS e l).flatten[j]? = some (.v (e l[j])) := by rw [rowS_flat]; simp [hj]
      have hlt : j < ys.length := by rw [h1.1]; exact (List.getElem?_eq_some_iff.1 hd).1
      have hls : j < Ss.length := by rw [h1.2.1]; exact (List.getElem?_eq_some_iff.1 hd).1
      have hl := h1.2.2 j _ _ _ hd (List.getElem?_eq_getElem hlt) (List.getElem?_eq_getElem hls)
      rw [List.getElem?_eq_getElem hlt, List.getElem?_eq_getElem hls]
      generalize ys[j] = z at hl ⊢
      generalize Ss[j] = s at hl ⊢
      cases hl
      exact ⟨rfl, rfl⟩
    have hlen : Ss.length = l.length := by rw [h1.2.1, rowS_flat, List.length_map]
    refine .inr ⟨b, cap, c, by simp [rowS], by simpa [rowS] using e3, e4, e5, by simpa using e6, fun j hj => ?_, e8, ?_⟩
    · have hj' : j < l.length := by simpa using hj
      have hy := prefix_get e7 (key j hj').1
      refine ⟨?_, by simp [World.frozen?, e5]⟩
      simp only [World.cell?, e5, Nat.zero_add]
      simp only [Option.isSome_none, Bool.false_eq_true, if_false]
      rw [← Array.getElem?_toList, hy]
      congr 1
      rw [getElem!_pos l.toArray j (by simpa using hj')]
      simp
    · congr 1
      refine List.flatten_eq_nil_iff.2 fun s hs => ?_
      obtain ⟨j, hj, rfl⟩ := List.mem_iff_getElem.1 hs
      have := (key j (by omega)).2
      rw [List.getElem?_eq_getElem hj] at this
      exact Option.some.inj this

theorem scal_up {α : Type} [Inhabited α] {e : α → Value} (hs : ∀ x, scalar (e x) = true) {V : View} {w w' : World} {b ty cap n : Nat} {c : Array Value} {d : Array α} {l : List α} {os : Array Obj} (hb : w.heap[b]? = some (.cells c ty (0, 0)))
    (hc : c.size = cap) (hcap : cap ≤ maxLen) (hd : d.size ≤ cap) (hw : w' = Sort.grow (Sort.putRow e (Sort.ahead w n) b 0 d) os) (hl : l <+: d.toList) (hV : V b = none) :
    RowR V w' ty 1 (rowS e l) (.slice (some ⟨b, 0, none⟩) l.length cap) [b] ∧ w.grownBy w' (some b) := by
  have hlt : b < w.heap.size := (Array.getElem?_eq_some_iff.1 hb).1
  have hle : l.length ≤ d.size := by have := hl.length_le; simpa using this
  have hheap : w'.heap[b]? = some (.cells (Sort.putCells e 0 d c) ty (0, 0)) := by
    subst hw
    rw [Sort.heap_grow_old _ _ (by simp [Sort.putRow, Sort.mapBlock, Sort.ahead]; exact hlt)]
    simp only [Sort.putRow, Sort.mapBlock, Sort.ahead, Array.getElem?_modify, if_true, hb, Option.map_some, Sort.onCells]
  refine ⟨⟨fun r hr => ?_, l.map e, List.replicate l.length [], ⟨by rw [rowS_flat]; simp, by rw [rowS_flat]; simp, fun k dd y s h1 h2 h3 => ?_⟩, .inr ⟨b, cap, _, by simp [rowS], by simp [rowS]; omega, hcap, hheap, by simp [Sort.putCells, hc], ?_, hV, ?_⟩⟩, ?_⟩
  · obtain ⟨x, _, rfl⟩ := List.mem_map.1 hr; rfl
  · rw [rowS_flat, List.getElem?_map] at h1
    rw [List.getElem?_map] at h2
    cases hk : l[k]? with
    | none => rw [hk] at h1; cases h1
    | some x =>
      rw [hk] at h1 h2
      cases h1; cases h2
      rw [List.getElem?_replicate] at h3
      split at h3
      · cases h3; exact .v _ (hs x)
      · cases h3
  · refine List.prefix_iff_eq_take.2 ?_
    apply List.ext_getElem?
    intro j
    rw [List.getElem?_take, List.getElem?_map]
    simp only [List.length_map]
    by_cases hj : j < l.length
    · have hjc : j < c.size := by omega
      have hdj : d.toList[j]? = some l[j] := prefix_get hl (List.getElem?_eq_getElem hj)
      rw [Array.getElem?_toList, Array.getElem?_eq_getElem (by omega)] at hdj
      have h1 : (Sort.putCells e 0 d c).toList[j]? = some (e l[j]) := by
        rw [Array.getElem?_toList]
        simp only [Sort.putCells, Array.getElem?_mapIdx, Array.getElem?_eq_getElem hjc, Option.map_some]
        rw [if_pos (by omega), Nat.sub_zero, getElem!_pos d j (by omega), Option.some.inj hdj]
      rw [if_pos hj, h1, List.getElem?_eq_getElem hj]; rfl
    · rw [if_neg hj, List.getElem?_eq_none (by omega)]; rfl
  · simp
  · subst hw
    refine ⟨rfl, rfl, rfl, by simp [Sort.putRow, Sort.mapBlock, Sort.ahead], fun k hk hne => ?_⟩
    rw [Sort.heap_grow_old _ _ (by simp [Sort.putRow, Sort.mapBlock, Sort.ahead]; exact hk)]
    simp only [Sort.putRow, Sort.mapBlock, Sort.ahead, Array.getElem?_modify]
    rw [if_neg (fun e => hne (by rw [e]))]
end Go.Sx
end

section
set_option linter.all false
namespace Go.Sx
open Go Go.RowKit

/-- Behind w: block b holds N cells whose first ones are F; nothing else of w has turned. -/
structure RowAt (w wr : World) (b ty N : Nat) (F : List Value) : Prop where
  cells : ∃ c : Array Value, wr.heap[b]? = some (.cells c ty (0, 0)) ∧ c.size = N ∧ F <+: c.toList
  grown : w.grownBy wr (some b)
theorem grownBy_refl (w : World) (r : Option Nat) : w.grownBy w r := ⟨rfl, rfl, rfl, Nat.le_refl _, fun _ _ _ => rfl⟩
theorem grownBy_trans {w w1 w2 : World} {r : Option Nat} (h1 : w.grownBy w1 r) (h2 : w1.grownBy w2 r) : w.grownBy w2 r :=
  ⟨h2.os.trans h1.os, h2.tape.trans h1.tape, h2.output.trans h1.output, Nat.le_trans h1.size h2.size, fun k hk hn => (h2.block k (Nat.lt_of_lt_of_le hk h1.size) hn).trans (h1.block k hk hn)⟩
theorem grownBy_below {w w' : World} (r : Option Nat) (h : Below w.heap.size w w') : w.grownBy w' r := ⟨h.os, h.tape, h.output, h.size, fun k hk _ => h.block k hk⟩

variable {w wr : World} {b ty N : Nat} {F : List Value}
theorem RowAt.lt (h : RowAt w wr b ty N F) : b < wr.heap.size := by
  obtain ⟨c, h1, _⟩ := h.cells
  exact (Array.getElem?_eq_some_iff.1 h1).1
theorem RowAt.le (h : RowAt w wr b ty N F) : F.length ≤ N := by
  obtain ⟨c, _, h2, h3⟩ := h.cells
  have := h3.length_le
  simpa [h2] using this
theorem RowAt.cell (h : RowAt w wr b ty N F) {t : Nat} {v : Value} (ht : F[t]? = some v) : wr.cell? ⟨b, t, none⟩ = some v := by
  obtain ⟨c, h1, h2, h3⟩ := h.cells
  have := prefix_get h3 ht
  simp only [World.cell?, h1, Option.isSome_none, Bool.false_eq_true, if_false]
  rw [← Array.getElem?_toList]; exact this
theorem RowAt.there (h : RowAt w wr b ty N F) {t : Nat} (ht : t < N) : (wr.cell? ⟨b, t, none⟩).isSome = true := by
  obtain ⟨c, h1, h2, h3⟩ := h.cells
  simp only [World.cell?, h1, Option.isSome_none, Bool.false_eq_true, if_false]
  simp [h2, ht]
theorem RowAt.frozen (h : RowAt w wr b ty N F) (t : Nat) : wr.frozen? ⟨b, t, none⟩ = false := by
  obtain ⟨c, h1, _⟩ := h.cells
  simp [World.frozen?, h1]
theorem RowAt.behind (h : RowAt w wr b ty N F) {w' : World} (hb : Below wr.heap.size wr w') : RowAt w w' b ty N F := by
  obtain ⟨c, h1, h2, h3⟩ := h.cells
  exact ⟨⟨c, by rw [hb.block b h.lt]; exact h1, h2, h3⟩, grownBy_trans h.grown (grownBy_below _ hb)⟩
theorem take_set_drop (F : List Value) (s : Nat) (v : Value) (c : List Value) (hF : F <+: c) (hs : s ≤ F.length) (hc : s < c.length) : F.take s ++ v :: F.drop (s + 1) <+: c.set s v := by
  obtain ⟨r, rfl⟩ := hF
  rcases Nat.lt_or_ge s F.length with h | h
  · refine ⟨r, ?_⟩
    rw [List.set_append_left _ _ h, List.set_eq_take_append_cons_drop, if_pos h]
  · have e : s = F.length := by omega
    subst e
    rw [List.take_of_length_le (Nat.le_refl _), List.drop_of_length_le (by omega), List.set_append_right _ _ (Nat.le_refl _), Nat.sub_self]
    cases r with
    | nil => simp at hc
    | cons x r => exact ⟨r, by simp⟩
theorem RowAt.set1 (h : RowAt w wr b ty N F) {s : Nat} (hs : s ≤ F.length) (hN : s < N) (v : Value) : RowAt w (wr.setCell ⟨b, s, none⟩ v) b ty N (F.take s ++ v :: F.drop (s + 1)) := by
  obtain ⟨c, h1, h2, h3⟩ := h.cells
  rw [Sort.setCell_eq]
  refine ⟨⟨c.setIfInBounds s v, ?_, by simp [h2], ?_⟩, grownBy_trans h.grown ⟨rfl, rfl, rfl, by simp [Sort.mapBlock], fun k hk hne => ?_⟩⟩
  · simp only [Sort.mapBlock, Array.getElem?_modify, if_true, h1, Option.map_some, Sort.onCells]
  · rw [Array.toList_setIfInBounds]
    exact take_set_drop F s v c.toList h3 hs (by simpa [h2] using hN)
  · simp only [Sort.mapBlock, Array.getElem?_modify]
    rw [if_neg (fun e => hne (by rw [e]))]
theorem RowAt.set : ∀ (vs : List Value) {wr : World} {F : List Value} {s : Nat}, RowAt w wr b ty N F → s ≤ F.length → s + vs.length ≤ N → RowAt w (wr.setCells b s vs) b ty N (F.take s ++ vs ++ F.drop (s + vs.length))
  | [], wr, F, s, h, hs, hN => by simpa [World.setCells] using h
  | v :: vs, wr, F, s, h, hs, hN => by
    simp only [List.length_cons] at hN
    have h1 := h.set1 hs (by omega) v
    have h2 := RowAt.set vs (s := s + 1) h1 (by simp; omega) (by omega)
    rw [World.setCells]
    have e1 : (F.take s ++ v :: F.drop (s + 1)).take (s + 1) = F.take s ++ [v] := by
      rw [List.take_append, List.take_of_length_le (by simp; omega), List.length_take, Nat.min_eq_left hs, Nat.add_sub_cancel_left]; rfl
    have e2 : (F.take s ++ v :: F.drop (s + 1)).drop (s + 1 + vs.length) = F.drop (s + (vs.length + 1)) := by
      rw [List.drop_append, List.drop_of_length_le (by simp; omega), List.length_take, Nat.min_eq_left hs, List.nil_append, show s + 1 + vs.length - s = vs.length + 1 by omega, List.drop_succ_cons, List.drop_drop]
      congr 1; omega
    rw [e1, e2] at h2
    simpa [List.append_assoc] using h2
end Go.Sx
end

section
set_option linter.all false
namespace Go.Proofs.Yteganoldfldlhaa
open Go Go.Sx Go.RowKit Go.Proofs Go.Lib

/-- Which elements stay. -/
structure DelInv {α : Type} (e : α → Value) (p : α → Bool) (xs : List α) (i j : Nat) (F : List Value) : Prop where
  len : F.length = xs.length
  ij : i < j
  jn : j ≤ xs.length
  lo : F.take i = ((xs.take j).filter fun x => !p x).map e
  hi : F.drop j = (xs.drop j).map e
  il : i = ((xs.take j).filter fun x => !p x).length
theorem take_map_filter_all {α : Type} (p : α → Bool) (xs : List α) (k : Nat) (h : ∀ j (hj : j < xs.length), j < k → p xs[j] = false) : (xs.take k).filter (fun x => !p x) = xs.take k := by
  refine List.filter_eq_self.2 fun x hx => ?_
  obtain ⟨j, hj, rfl⟩ := List.mem_iff_getElem.1 hx
  simp only [List.length_take] at hj
  rw [List.getElem_take, h j (by omega) (by omega)]; rfl
theorem DelInv.at {α : Type} {e : α → Value} {p : α → Bool} {xs : List α} {i j : Nat} {F : List Value} (h : DelInv e p xs i j F) (hj : j < xs.length) : F[j]? = some (e xs[j]) := by
  have h0 : (F.drop j)[0]? = ((xs.drop j).map e)[0]? := by rw [h.hi]
  rw [List.getElem?_drop, Nat.add_zero] at h0
  rw [h0, List.getElem?_map, List.getElem?_drop, Nat.add_zero, List.getElem?_eq_getElem hj]; rfl
theorem DelInv.start {α : Type} {e : α → Value} {p : α → Bool} {xs : List α} {k : Nat} (hk : k < xs.length) (h : ∀ j (hj : j < xs.length), j < k → p xs[j] = false) (hp : p xs[k] = true) : DelInv e p xs k (k + 1) (xs.map e) := by
  have e1 : (xs.take (k + 1)).filter (fun x => !p x) = xs.take k := by
    rw [List.take_succ_eq_append_getElem hk, List.filter_append, take_map_filter_all p xs k h]
    simp [hp]
  refine ⟨by simp, by omega, by omega, ?_, by simp, ?_⟩
  · rw [e1, List.map_take]
  · rw [e1]; simp; omega
theorem DelInv.keep {α : Type} {e : α → Value} {p : α → Bool} {xs : List α} {i j : Nat} {F : List Value} (h : DelInv e p xs i j F) (hj : j < xs.length) (hp : p xs[j] = false) : DelInv e p xs (i + 1) (j + 1) (F.take i ++ [e xs[j]] ++ F.drop (i + 1)) := by
  have e1 : (xs.take (j + 1)).filter (fun x => !p x) = (xs.take j).filter (fun x => !p x) ++ [xs[j]] := by
    rw [List.take_succ_eq_append_getElem hj, List.filter_append]
    simp [hp]
  have hl := h.len
  have hij := h.ij
  refine ⟨by simp; omega, by omega, by omega, ?_, ?_, ?_⟩
  · rw [List.take_append_of_le_length (by simp; omega), List.take_of_length_le (by simp; omega), e1, List.map_append, h.lo]; rfl
  · rw [List.drop_append, List.drop_of_length_le (by simp; omega), List.nil_append, List.drop_drop]
    have : F.drop (j + 1) = (xs.drop (j + 1)).map e := by rw [← List.drop_drop, h.hi, ← List.map_drop, List.drop_drop]
    rw [← this]
    congr 1
    simp; omega
  · rw [e1, List.length_append, ← h.il]; rfl
theorem DelInv.skip {α : Type} {e : α → Value} {p : α → Bool} {xs : List α} {i j : Nat} {F : List Value} (h : DelInv e p xs i j F) (hj : j < xs.length) (hp : p xs[j] = true) : DelInv e p xs i (j + 1) F := by
  have e1 : (xs.take (j + 1)).filter (fun x => !p x) = (xs.take j).filter (fun x => !p x) := by
    rw [List.take_succ_eq_append_getElem hj, List.filter_append]
    simp [hp]
  have hij := h.ij
  exact ⟨h.len, by omega, by omega, by rw [e1]; exact h.lo, by rw [← List.drop_drop, h.hi, ← List.map_drop, List.drop_drop], by rw [e1]; exact h.il⟩

set_option maxHeartbeats 4000000 in
set_option maxRecDepth 1000000 in
theorem delString_walk (b cap : Nat) (xs : List ByteArray) (w : World) (p : ByteArray → Bool) (g : Nat) (lb : Array Value) (hR : RowAt w w b 9 cap (xs.map Value.string)) (hn : xs.length ≤ cap) (hbig : cap ≤ 9223372036854775807) (k : Int)
    (hk : (k = -1 ∧ ∀ x ∈ xs, p x = false) ∨ ∃ k0 : Nat, k = k0 ∧ ∃ h : k0 < xs.length, p xs[k0] = true ∧ ∀ j (hj : j < xs.length), j < k0 → p xs[j] = false)
    (eg : ∀ args w, (callFunc g args).run Try.prog w = .ok (.enter g args) w)
    (hIF : Calls Try.prog 157 #[.slice (some ⟨b, 0, none⟩) xs.length cap, .func (.func g) #[] lb] w fun e w' => e = .returned (.int .i64 k) ∧ Below w.heap.size w w')
    (hp : ∀ W F x, x ∈ xs → RowAt w W b 9 cap F → Calls Try.prog g (#[.string x] ++ lb) W fun e w' => e = .returned (.bool (p x)) ∧ Below W.heap.size W w') :
    Calls Try.prog 91 #[.slice (some ⟨b, 0, none⟩) xs.length cap, .func (.func g) #[] lb] w fun e w' =>
      e = .returned (.slice (some ⟨b, 0, none⟩) (xs.filter fun x => !p x).length cap) ∧ ∃ G, RowAt w w' b 9 cap ((xs.filter fun x => !p x).map Value.string ++ G) := by
  have e6 := Try.call157
  rcases hk with ⟨rfl, hall⟩ | ⟨k0, rfl, hk0, ht, hall⟩
  · have hkeep : (xs.filter fun x => !p x) = xs := List.filter_eq_self.2 fun x hx => by rw [hall x hx]; rfl
    rw [hkeep]
    have HR : Aside (RowAt w w b 9 cap (xs.map Value.string)) := hR
    clear hR hp
    go_enter Try.func91, Try.ntmps91
    go_wp2_with fail
    refine hIF.mono ?_
    rintro e w' ⟨rfl, hb⟩
    go_wp2
    go_ret
    exact ⟨rfl, [], by simpa using HR.out.behind hb⟩
  · have hne1 : ((k0 : Int) == -1) = false := beq_eq_false_iff_ne.2 (by omega)
    have HS : Aside (DelInv Value.string p xs k0 (k0 + 1) (xs.map Value.string)) := DelInv.start hk0 hall ht
    have HR : Aside (RowAt w w b 9 cap (xs.map Value.string)) := hR
    have HC : Aside _ := hp
    clear hR hp ht hall
    go_enter Try.func91, Try.ntmps91
    go_wp2_with fail
    refine hIF.mono ?_
    rintro e w' ⟨rfl, hb⟩
    go_wp2
    go_loopg [5, 6, 7] xs.length (fun gg s5 s6 _ wr => ∃ (i j : Nat) (F : List Value), s5 = .int .i64 i ∧ s6 = .int .i64 j ∧ j ≤ xs.length ∧ xs.length - j ≤ gg ∧ Aside (RowAt w wr b 9 cap F) ∧ Aside (DelInv Value.string p xs i j F))
    case atStart => exact ⟨k0, k0 + 1, _, rfl, by go_num, by omega, by omega, HR.out.behind hb, HS⟩
    case round =>
      obtain ⟨i, j, F, rfl, rfl, hjd, hgg, R2, I2⟩ := hrel
      have hI := I2.out
      have hlF := hI.len
      have hij := hI.ij
      by_cases hlt : j < xs.length
      · have hltz : (j : Int) < (xs.length : Int) := by omega
        have cj : wr.cell? ⟨b, j, none⟩ = some (.string xs[j]) := R2.out.cell (hI.at hlt)
        have hcall := HC.out wr F xs[j] (List.getElem_mem hlt) R2.out
        generalize hu : xs[j] = u at cj hcall
        have C : Aside (xs[j] = u) := hu
        clear hu hI
        cases hq : p u with
        | false =>
          rw [hq] at hcall
          go_wp2_with fail
          refine hcall.mono ?_
          rintro e w'' ⟨rfl, hb'⟩
          have R3 := R2.out.behind hb'
          have ci := R3.cell (List.getElem?_eq_getElem (show i < F.length by omega))
          have fi := R3.frozen i
          have A3 : Aside (RowAt w w'' b 9 cap F) := R3
          clear R3
          generalize F[i] = old at ci
          go_wp2
          go_roundg (xs.length - (j + 1))
          case measure => omega
          case rel =>
            refine ⟨i + 1, j + 1, F.take i ++ [.string u] ++ F.drop (i + 1), by go_num, by go_num, by omega, Nat.le_refl _, (show Aside _ from ?_), (show Aside _ from ?_)⟩
            · exact A3.out.set [.string u] (by omega) (by simp; omega)
            · have := I2.out.keep hlt (by rw [C.out]; exact hq)
              rwa [C.out] at this
        | true =>
          rw [hq] at hcall
          go_wp2_with fail
          refine hcall.mono ?_
          rintro e w'' ⟨rfl, hb'⟩
          go_wp2
          go_roundg (xs.length - (j + 1))
          case measure => omega
          case rel => exact ⟨i, j + 1, F, rfl, by go_num, by omega, Nat.le_refl _, R2.out.behind hb', I2.out.skip hlt (by rw [C.out]; exact hq)⟩
      · obtain rfl : j = xs.length := by omega
        have hltz : ¬ (xs.length : Int) < (xs.length : Int) := by omega
        have hRN := R2.out.le
        have hcl : ∀ ty, (Builtin.clear_ #[41] ty #[.slice (some ⟨b, i, none⟩) (xs.length - i) (cap - i)]).run Try.prog wr = .ok (.tuple #[]) (wr.setCells b i (List.replicate (xs.length - i) (.string ⟨#[]⟩))) :=
          fun ty => Lib.run_clear_slice wr _ _ ty _ Try.underlying41 (fun w => Try.zeroValue9 w) rfl rfl b i _ _ (by omega) (fun t ht => R2.out.there (by omega)) (fun t ht => R2.out.frozen _)
        have hle : ((xs.take xs.length).filter fun x => !p x) = xs.filter fun x => !p x := by rw [List.take_length]
        have hil := hI.il
        have hlo := hI.lo
        rw [hle] at hil hlo
        have HE : Aside (∃ G, RowAt w (wr.setCells b i (List.replicate (xs.length - i) (.string ⟨#[]⟩))) b 9 cap ((xs.filter fun x => !p x).map Value.string ++ G)) := by
          have := R2.out.set (List.replicate (xs.length - i) (Value.string ⟨#[]⟩)) (s := i) (by omega) (by simp; omega)
          rw [hlo, List.append_assoc] at this
          exact ⟨_, this⟩
        have HL : Aside (i = (xs.filter fun x => !p x).length) := hil
        clear hil hlo hle hI
        go_wp2
        go_ret
        exact ⟨by rw [← HL.out]; rfl, HE.out⟩

set_option maxHeartbeats 4000000 in
set_option maxRecDepth 1000000 in
theorem delString_none (ao : Option Addr) (n cap : Nat) (w : World) (g : Nat) (lb : Array Value)
    (hIF : Calls Try.prog 157 #[.slice ao n cap, .func (.func g) #[] lb] w fun e w' => e = .returned (.int .i64 (-1)) ∧ Below w.heap.size w w') :
    Calls Try.prog 91 #[.slice ao n cap, .func (.func g) #[] lb] w fun e w' => e = .returned (.slice ao n cap) ∧ Below w.heap.size w w' := by
  have e6 := Try.call157
  go_enter Try.func91, Try.ntmps91
  go_wp2_with fail
  refine hIF.mono ?_
  rintro e w' ⟨rfl, hb⟩
  go_wp2
  go_ret
  exact ⟨rfl, hb⟩
end Go.Proofs.Yteganoldfldlhaa
end

section
set_option linter.all false
set_option maxRecDepth 100000
namespace Go.Sx
open Go Go.RowKit

theorem RowAt.mod {V : View} {w W : World} {b ty N : Nat} {F : List Value} (hm : Mod V w) (hV : V b = none) (h : RowAt w W b ty N F) : Mod V W := fun k cs hk => by
  obtain ⟨c, t, fz, e1, e2⟩ := hm k cs hk
  exact ⟨c, t, fz, by rw [h.grown.block k (Array.getElem?_eq_some_iff.1 e1).1 (fun e => by cases e; rw [hV] at hk; cases hk)]; exact e1, e2⟩
/-- The view with the row's block. -/
def withB (V : View) (b : Nat) (cs : List Value) : View := fun k => if k = b then some cs else V k
theorem withB_le {V : View} {b : Nat} (hV : V b = none) (cs : List Value) : V.le (withB V b cs) := fun k c hk => ⟨c, by
  unfold withB
  rw [if_neg (fun e => by subst e; rw [hV] at hk; cases hk)]; exact hk, List.prefix_refl _⟩
theorem withB_mod {V : View} {w : World} {b ty N : Nat} {F : List Value} (hm : Mod V w) (h : RowAt w w b ty N F) : Mod (withB V b F) w := fun k cs hk => by
  unfold withB at hk
  split at hk
  · cases hk
    rename_i e
    subst e
    obtain ⟨c, e1, _, e3⟩ := h.cells
    exact ⟨c, ty, (0, 0), e1, e3⟩
  · exact hm k cs hk
theorem withB_lay {α : Type} {e : α → Value} (hs : ∀ x, scalar (e x) = true) {V : View} {b cap : Nat} {l : List α} (h1 : l.length ≤ cap) (h2 : cap ≤ maxLen) : Lay (withB V b (l.map e)) (.sl (rowS e l)) (.slice (some ⟨b, 0, none⟩) l.length cap) ((if (rowS e l).isEmpty then [] else [b]) ++ (List.replicate l.length []).flatten) := by
  have := Lay.sl (V := withB V b (l.map e)) (rowS e l) ⟨b, 0, none⟩ cap 1 (l.map e) (List.replicate l.length []) (fun r hr => by obtain ⟨x, _, rfl⟩ := List.mem_map.1 hr; rfl) (by simpa [rowS] using h1) h2 (by rw [rowS_flat]; simp) (by rw [rowS_flat]; simp)
    (fun k y hk => by
      have : (Addr.add ⟨b, 0, none⟩ k) = ⟨b, k, none⟩ := by rw [Addr.add_lit, Nat.zero_add]
      rw [this]
      simp only [View.cell, withB, if_true]
      simpa using hk)
    (fun k d y S h1 h2 h3 => by
      rw [rowS_flat, List.getElem?_map] at h1
      rw [List.getElem?_map] at h2
      cases hk : l[k]? with
      | none => rw [hk] at h1; cases h1
      | some x =>
        rw [hk] at h1 h2
        cases h1; cases h2
        rw [List.getElem?_replicate] at h3
        split at h3
        · cases h3; exact .v _ (hs x)
        · cases h3)
  simpa [rowS] using this
theorem RowAt.of_row {α : Type} [Inhabited α] {e : α → Value} {w : World} {ty b cap : Nat} {c : Array Value} {l : List α} (h1 : w.heap[b]? = some (.cells c ty (0, 0))) (h2 : c.size = cap) (h3 : l.length ≤ cap) (h4 : Sort.Holds e w b 0 l.toArray) : RowAt w w b ty cap (l.map e) := by
  refine ⟨⟨c, h1, h2, ?_⟩, grownBy_refl w _⟩
  refine List.prefix_iff_eq_take.2 ?_
  apply List.ext_getElem?
  intro j
  rw [List.getElem?_take, List.getElem?_map]
  simp only [List.length_map]
  by_cases hj : j < l.length
  · rw [if_pos hj]
    have := (h4 j (by simpa using hj)).1
    simp only [World.cell?, h1, Nat.zero_add, Option.isSome_none, Bool.false_eq_true, if_false] at this
    have h5 : c.toList[j]? = some (e l[j]) := by
      rw [Array.getElem?_toList, this, getElem!_pos l.toArray j (by simpa using hj)]
      simp
    rw [h5, List.getElem?_eq_getElem hj]; rfl
  · rw [if_neg hj, List.getElem?_eq_none (by omega)]; rfl
theorem RowAt.row {α : Type} {e : α → Value} (hs : ∀ x, scalar (e x) = true) {V : View} {w w' : World} {ty b cap : Nat} {l : List α} {G : List Value} (h : RowAt w w' b ty cap (l.map e ++ G)) (hcap : cap ≤ maxLen) (hV : V b = none) : RowR V w' ty 1 (rowS e l) (.slice (some ⟨b, 0, none⟩) l.length cap) [b] := by
  have hle := h.le
  rw [List.length_append, List.length_map] at hle
  obtain ⟨c, h1, h2, h3⟩ := h.cells
  refine ⟨fun r hr => ?_, l.map e, List.replicate l.length [], ⟨by rw [rowS_flat]; simp, by rw [rowS_flat]; simp, fun k dd y s q1 q2 q3 => ?_⟩, .inr ⟨b, cap, c, by simp [rowS], by simp [rowS]; omega, hcap, h1, by simp [h2], (List.prefix_append _ _).trans h3, hV, by simp⟩⟩
  · obtain ⟨x, _, rfl⟩ := List.mem_map.1 hr; rfl
  · rw [rowS_flat, List.getElem?_map] at q1
    rw [List.getElem?_map] at q2
    cases hk : l[k]? with
    | none => rw [hk] at q1; cases q1
    | some x =>
      rw [hk] at q1 q2
      cases q1; cases q2
      rw [List.getElem?_replicate] at q3
      split at q3
      · cases q3; exact .v _ (hs x)
      · cases q3
theorem lay_none {V : View} (ao : Option Addr) : ∃ S, Lay V (.sl []) (.slice ao 0 0) S := by
  cases ao with
  | none => exact ⟨_, .nil⟩
  | some a => exact ⟨_, .sl [] a 0 0 [] [] (by simp) (by simp) (by simp [maxLen]) rfl rfl (fun k y h => by simp at h) (fun k d y S h => by simp at h)⟩
end Go.Sx
end

section
set_option linter.all false
set_option maxRecDepth 100000
set_option maxHeartbeats 4000000
namespace Go.Proofs.Yteganoldfldlhaa
open Go Go.Sx Go.RowKit Go.Proofs

def idxP {α : Type} (p : α → Bool) : List α → Nat → Int
  | [], _ => -1
  | x :: xs, k => if p x then k else idxP p xs (k + 1)
theorem idxP_spec {α : Type} (p : α → Bool) : ∀ (xs : List α) (k : Nat), (idxP p xs k = -1 ∧ ∀ x ∈ xs, p x = false) ∨ ∃ k0 : Nat, idxP p xs k = ((k + k0 : Nat) : Int) ∧ ∃ h : k0 < xs.length, p xs[k0] = true ∧ ∀ j (hj : j < xs.length), j < k0 → p xs[j] = false
  | [], k => .inl ⟨rfl, fun x hx => by simp at hx⟩
  | x :: xs, k => by
    unfold idxP
    cases hx : p x with
    | true => exact .inr ⟨0, by simp, by simp, by simpa using hx, fun j hj h => by omega⟩
    | false =>
      rcases idxP_spec p xs (k + 1) with ⟨h1, h2⟩ | ⟨k0, h1, h2, h3, h4⟩
      · exact .inl ⟨by simpa using h1, fun y hy => by
          rcases List.mem_cons.1 hy with rfl | hy
          · exact hx
          · exact h2 y hy⟩
      · refine .inr ⟨k0 + 1, by simp only [Bool.false_eq_true, if_false]; rw [h1]; congr 1; omega, by simp; omega, by simpa using h3, fun j hj hk => ?_⟩
        cases j with
        | zero => simpa using hx
        | succ j => simpa using h4 j (by simpa using hj) (by omega)

theorem indexFuncS_ok (f : Nat) (c : List D) (p : ByteArray → Bool) (l : List ByteArray) (hf : ∀ s ∈ l, FnC Try.prog f [os s, .o (.q c)] (ob (p s))) (hl : l.length ≤ 1048576) : FnC Try.prog 157 [.o (.d (.sl (l.map encS))), .o (.f f [c])] (oi (idxP p l 0)) := by
  refine ent Try.func157 rfl Try.call157 rfl (fun C => ?_)
  simp only [go_sem, st0, Try.ntmps157]
  repeat' (with_reducible first | refine WP_ret ?_ | refine WP_skip ?_ | refine WP_exit ?_ | refine WP_seq ?_ | refine WP_block ?_ | refine K_code ?_ | refine K_blk ?_ | refine K_code_ret ?_ | refine K_blk_ret ?_ | refine K_code_exit ?_ | refine K_blk_exit_same ?_ | refine K_blk_exit_other (by decide) ?_ | refine K_nil ?_ | refine L_ret ?_ | refine L_exit ?_ | (refine run_cons ?_; simp only [go_sem]) | (refine run_nil ?_) | (refine drun_cons ?_; simp only [go_sem]) | (refine drun_nil ?_) | (refine reg ?_) | (refine regx (by simp only [bodyX, isStX, Bool.false_eq_true, if_false, if_true]; rfl) (by kernel_rfl) (by kernel_rfl) (by decide) ?_ ?_ ?_; (focus (simp only [go_sem]; done)); (focus (simp only [go_sem]; done))) | (refine xrun_cons ?_; simp only [go_sem]) | (refine xrun_nil ?_; refine xend (by simp only [tailX, isStX, Bool.false_eq_true, if_false, if_true]; rfl) (by simp only [go_sem]; rfl) ?_) | (refine regd (by kernel_rfl) ?_) | (refine cndt ?_ ?_; (focus (simp only [go_sem]; done))) | (refine cndf ?_ ?_; (focus (simp only [go_sem]; done))) | (refine And.intro ?_ ?_; (focus omega)))
  refine WP_lp (α := Nat) (fun k => [(8, oi k)]) (fun _ => []) (fun k => k ≤ l.length ∧ idxP p l 0 = idxP p (l.drop k) k) (fun k => l.length - k) 0 (fun _ => ?_) ?_ ?_ (fun k hk => ?_)
  · simp only [go_sem]
  · simp only [go_sem]; simp
  · simp
  · obtain ⟨hk, hq⟩ := hk
    simp only [go_sem]
    repeat' (with_reducible first | refine WP_ret ?_ | refine WP_skip ?_ | refine WP_exit ?_ | refine WP_seq ?_ | refine WP_block ?_ | refine K_code ?_ | refine K_blk ?_ | refine K_code_ret ?_ | refine K_blk_ret ?_ | refine K_code_exit ?_ | refine K_blk_exit_same ?_ | refine K_blk_exit_other (by decide) ?_ | refine K_nil ?_ | refine L_ret ?_ | refine L_exit ?_ | (refine run_cons ?_; simp only [go_sem]) | (refine run_nil ?_) | (refine drun_cons ?_; simp only [go_sem]) | (refine drun_nil ?_) | (refine reg ?_) | (refine regx (by simp only [bodyX, isStX, Bool.false_eq_true, if_false, if_true]; rfl) (by kernel_rfl) (by kernel_rfl) (by decide) ?_ ?_ ?_; (focus (simp only [go_sem]; done)); (focus (simp only [go_sem]; done))) | (refine xrun_cons ?_; simp only [go_sem]) | (refine xrun_nil ?_; refine xend (by simp only [tailX, isStX, Bool.false_eq_true, if_false, if_true]; rfl) (by simp only [go_sem]; rfl) ?_) | (refine regd (by kernel_rfl) ?_) | (refine cndt ?_ ?_; (focus (simp only [go_sem]; done))) | (refine cndf ?_ ?_; (focus (simp only [go_sem]; done))) | (refine And.intro ?_ ?_; (focus omega)))
    refine cnd rfl (fun h => ?_) (fun h => ?_)
    · simp only [decide_eq_true_eq, Int.ofNat_lt] at h
      have hd := List.drop_eq_getElem_cons h
      rw [hd, idxP] at hq
      repeat' (with_reducible first | refine WP_ret ?_ | refine WP_skip ?_ | refine WP_exit ?_ | refine WP_seq ?_ | refine WP_block ?_ | refine K_code ?_ | refine K_blk ?_ | refine K_code_ret ?_ | refine K_blk_ret ?_ | refine K_code_exit ?_ | refine K_blk_exit_same ?_ | refine K_blk_exit_other (by decide) ?_ | refine K_nil ?_ | refine L_ret ?_ | refine L_exit ?_ | (refine run_cons ?_; simp only [go_sem, h]) | (refine run_nil ?_) | (refine drun_cons ?_; simp only [go_sem, h]) | (refine drun_nil ?_) | (refine reg ?_) | (refine regx (by simp only [bodyX, isStX, Bool.false_eq_true, if_false, if_true]; rfl) (by kernel_rfl) (by kernel_rfl) (by decide) ?_ ?_ ?_; (focus (simp only [go_sem]; done)); (focus (simp only [go_sem]; done))) | (refine xrun_cons ?_; simp only [go_sem, h]) | (refine xrun_nil ?_; refine xend (by simp only [tailX, isStX, Bool.false_eq_true, if_false, if_true]; rfl) (by simp only [go_sem]; rfl) ?_) | (refine regd (by kernel_rfl) ?_) | (refine cal (hf l[k] (List.getElem_mem h)) ?_ ?_ ?_; (focus (simp only [go_sem]; done)); (focus (simp only [go_sem]; done)); try simp only [go_sem, h]) | (refine calx (hf l[k] (List.getElem_mem h)) ?_ ?_ ?_; (focus (simp only [go_sem]; done)); (focus (simp only [go_sem]; done)); try simp only [go_sem, h]) | (refine caldx (hf l[k] (List.getElem_mem h)) ?_ ?_ ?_ ?_; (focus (simp only [go_sem]; done)); (focus (simp only [go_sem]; done)); (focus (simp only [go_sem]; done)); try simp only [go_sem, h]) | (refine cald (hf l[k] (List.getElem_mem h)) ?_ ?_ ?_ ?_; (focus (simp only [go_sem]; done)); (focus (simp only [go_sem]; done)); (focus (simp only [go_sem]; done)); try simp only [go_sem, h]) | (refine cndt ?_ ?_; (focus (simp only [go_sem]; done))) | (refine cndf ?_ ?_; (focus (simp only [go_sem]; done))) | (refine And.intro ?_ ?_; (focus omega)))
      refine cnd rfl (fun h2 => ?_) (fun h2 => ?_)
      · repeat' (with_reducible first | refine WP_ret ?_ | refine WP_skip ?_ | refine WP_exit ?_ | refine WP_seq ?_ | refine WP_block ?_ | refine K_code ?_ | refine K_blk ?_ | refine K_code_ret ?_ | refine K_blk_ret ?_ | refine K_code_exit ?_ | refine K_blk_exit_same ?_ | refine K_blk_exit_other (by decide) ?_ | refine K_nil ?_ | refine L_ret ?_ | refine L_exit ?_ | (refine run_cons ?_; simp only [go_sem]) | (refine run_nil ?_) | (refine drun_cons ?_; simp only [go_sem]) | (refine drun_nil ?_) | (refine reg ?_) | (refine regx (by simp only [bodyX, isStX, Bool.false_eq_true, if_false, if_true]; rfl) (by kernel_rfl) (by kernel_rfl) (by decide) ?_ ?_ ?_; (focus (simp only [go_sem]; done)); (focus (simp only [go_sem]; done))) | (refine xrun_cons ?_; simp only [go_sem]) | (refine xrun_nil ?_; refine xend (by simp only [tailX, isStX, Bool.false_eq_true, if_false, if_true]; rfl) (by simp only [go_sem]; rfl) ?_) | (refine regd (by kernel_rfl) ?_) | (refine cndt ?_ ?_; (focus (simp only [go_sem]; done))) | (refine cndf ?_ ?_; (focus (simp only [go_sem]; done))) | (refine And.intro ?_ ?_; (focus omega)))
        exact retK_ret ⟨⟨_, rfl, by simp only [go_sem, hq, h2]⟩, trivial⟩
      · repeat' (with_reducible first | refine WP_ret ?_ | refine WP_skip ?_ | refine WP_exit ?_ | refine WP_seq ?_ | refine WP_block ?_ | refine K_code ?_ | refine K_blk ?_ | refine K_code_ret ?_ | refine K_blk_ret ?_ | refine K_code_exit ?_ | refine K_blk_exit_same ?_ | refine K_blk_exit_other (by decide) ?_ | refine K_nil ?_ | refine L_ret ?_ | refine L_exit ?_ | (refine run_cons ?_; simp only [go_sem]) | (refine run_nil ?_) | (refine drun_cons ?_; simp only [go_sem]) | (refine drun_nil ?_) | (refine reg ?_) | (refine regx (by simp only [bodyX, isStX, Bool.false_eq_true, if_false, if_true]; rfl) (by kernel_rfl) (by kernel_rfl) (by decide) ?_ ?_ ?_; (focus (simp only [go_sem]; done)); (focus (simp only [go_sem]; done))) | (refine xrun_cons ?_; simp only [go_sem]) | (refine xrun_nil ?_; refine xend (by simp only [tailX, isStX, Bool.false_eq_true, if_false, if_true]; rfl) (by simp only [go_sem]; rfl) ?_) | (refine regd (by kernel_rfl) ?_) | (refine cndt ?_ ?_; (focus (simp only [go_sem]; done))) | (refine cndf ?_ ?_; (focus (simp only [go_sem]; done))) | (refine And.intro ?_ ?_; (focus omega)))
        refine L_next (k + 1) ?_ ?_ ?_
        · simp only [go_sem]; simp
        · rw [hq, h2]; exact ⟨h, by simp⟩
        · omega
    · simp only [decide_eq_false_iff_not] at h
      have e : k = l.length := by omega
      subst e
      simp only [List.drop_length, idxP] at hq
      repeat' (with_reducible first | refine WP_ret ?_ | refine WP_skip ?_ | refine WP_exit ?_ | refine WP_seq ?_ | refine WP_block ?_ | refine K_code ?_ | refine K_blk ?_ | refine K_code_ret ?_ | refine K_blk_ret ?_ | refine K_code_exit ?_ | refine K_blk_exit_same ?_ | refine K_blk_exit_other (by decide) ?_ | refine K_nil ?_ | refine L_ret ?_ | refine L_exit ?_ | (refine run_cons ?_; simp only [go_sem]) | (refine run_nil ?_) | (refine drun_cons ?_; simp only [go_sem]) | (refine drun_nil ?_) | (refine reg ?_) | (refine regx (by simp only [bodyX, isStX, Bool.false_eq_true, if_false, if_true]; rfl) (by kernel_rfl) (by kernel_rfl) (by decide) ?_ ?_ ?_; (focus (simp only [go_sem]; done)); (focus (simp only [go_sem]; done))) | (refine xrun_cons ?_; simp only [go_sem]) | (refine xrun_nil ?_; refine xend (by simp only [tailX, isStX, Bool.false_eq_true, if_false, if_true]; rfl) (by simp only [go_sem]; rfl) ?_) | (refine regd (by kernel_rfl) ?_) | (refine cndt ?_ ?_; (focus (simp only [go_sem]; done))) | (refine cndf ?_ ?_; (focus (simp only [go_sem]; done))) | (refine And.intro ?_ ?_; (focus omega)))
      exact retK_ret ⟨⟨_, rfl, by simp only [go_sem, hq]⟩, trivial⟩

theorem done_sc {V : View} {w w' : World} {v y : Value} (hs : scalar v = true) (h : Done V w (.o (.d (.v v))) y w') : Ending.returned y = Ending.returned v := by
  obtain ⟨V', S, _, _, _, ⟨l, hsh, Ss, r1, r2, r3, r4⟩, _, _⟩ := h.out
  have hl : l = [y] := hsh
  subst hl
  have hlt : 0 < Ss.length := by rw [r2]; simp [SV.all]
  obtain ⟨_, T, hL⟩ := r4 0 (.d (.v v)) y _ rfl rfl (List.getElem?_eq_getElem hlt)
  cases hL
  rfl
theorem done_oi {V : View} {w w' : World} {n : Int} {y : Value} (h : Done V w (oi n) y w') : Ending.returned y = Ending.returned (.int .i64 n) := done_sc rfl h
theorem done_ob {V : View} {w w' : World} {n : Bool} {y : Value} (h : Done V w (ob n) y w') : Ending.returned y = Ending.returned (.bool n) := done_sc rfl h
theorem deleteFuncS_ok (f : Nat) (c : List D) (p : ByteArray → Bool) (l : List ByteArray) (hf : ∀ s ∈ l, FnC Try.prog f [os s, .o (.q c)] (ob (p s))) (hl : l.length ≤ 1048576) :
    FnI Try.prog 91 9 1 (l.map encS) [.o (.f f [c])] false ((l.filter fun x => !p x).map encS) := by
  refine ⟨Try.call91, fun V w y S vs hm hrow hnd hlt hargs => ?_⟩
  have hl1 : vs.length = 1 := by have := hargs.1; simpa using this
  match vs, hl1 with
  | [v], _ =>
    have hv := hargs.2 0 _ v rfl rfl
    obtain ⟨lb, rfl, hlb, hcaps⟩ := hv
    have hcl : cSV [] V (.o (.f f [c])) (.func (.func f) #[] lb.toArray) := ⟨lb, rfl, hlb, hcaps⟩
    have hone : ∃ pv, lb = [pv] := by
      match lb, hlb with
      | [pv], _ => exact ⟨pv, rfl⟩
    obtain ⟨pv, rfl⟩ := hone
    have hq : cSV [] V (.o (.q c)) pv := hcaps 0 c pv rfl rfl
    have hI := indexFuncS_ok f c p l hf hl
    rcases scal_down (e := Value.string) hrow with ⟨⟨ao, rfl⟩, rfl, rfl⟩ | ⟨b, cap, cc, rfl, h1, h2, h3, h4, h5, h6, rfl⟩
    · have hIF := hI.calls V w [.slice ao 0 0, .func (.func f) #[] #[pv]] hm ⟨rfl, fun i s y e1 e2 => by
        match i with
        | 0 => simp at e1 e2; subst e1; subst e2; exact lay_none ao
        | 1 => simp at e1 e2; subst e1; subst e2; exact hcl
        | i + 2 => simp at e1⟩
      have hD := delString_none ao 0 0 w f #[pv] (hIF.mono (by
        rintro e w' ⟨y, rfl, hd⟩
        obtain ⟨V', S', _, _, _, ⟨l', hsh, hr⟩, _, _⟩ := hd.out
        exact ⟨by simpa [idxP] using done_oi hd, hd.below⟩))
      refine hD.mono ?_
      rintro e w' ⟨rfl, hb⟩
      exact ⟨_, rfl, (fun h => (by cases h)), ⟨grownBy_below _ hb, [], ⟨by simp, [], [], LayL.nil V, .inl ⟨⟨ao, rfl⟩, rfl, rfl⟩⟩, hnd, (fun b hb => .inl hb), (fun _ => rfl)⟩⟩
    · have hR := RowAt.of_row (e := Value.string) h3 h4 h1 h5
      have hlt' : b < w.heap.size := (Array.getElem?_eq_some_iff.1 h3).1
      have hIF := hI.calls (withB V b (l.map Value.string)) w [.slice (some ⟨b, 0, none⟩) l.length cap, .func (.func f) #[] #[pv]] (withB_mod hm hR) ⟨rfl, fun i s y e1 e2 => by
        match i with
        | 0 => simp at e1 e2; subst e1; subst e2; exact ⟨_, withB_lay (e := Value.string) (fun _ => rfl) h1 h2⟩
        | 1 => simp at e1 e2; subst e1; subst e2; exact hcl.mono (GLe.refl _) (withB_le h6 _)
        | i + 2 => simp at e1⟩
      rcases Nat.eq_zero_or_pos l.length with h0 | h0
      · have hnil : l = [] := List.eq_nil_of_length_eq_zero h0
        subst hnil
        have hD := delString_none (some ⟨b, 0, none⟩) 0 cap w f #[pv] (hIF.mono (by
          rintro e w' ⟨y, rfl, hd⟩
          exact ⟨by simpa [idxP] using done_oi hd, hd.below⟩))
        refine hD.mono ?_
        rintro e w' ⟨rfl, hb⟩
        have hG := (hR.behind hb).row (l := ([] : List ByteArray)) (G := []) (V := V) (e := Value.string) (fun _ => rfl) h2 h6
        exact ⟨_, rfl, (fun h => (by cases h)), ⟨grownBy_below _ hb, [b], hG, hnd, (fun b hb => .inl hb), (fun _ => rfl)⟩⟩
      · have hg := hf l[0] (List.getElem_mem h0)
        have hW := delString_walk b cap l w p f #[pv] hR h1 (by simp only [maxLen] at h2; omega) (idxP p l 0) (by
            rcases idxP_spec p l 0 with h | ⟨k0, e1, e2⟩
            · exact .inl h
            · exact .inr ⟨k0, by rw [e1]; simp, e2⟩) hg.enters (hIF.mono (by
            rintro e w' ⟨y, rfl, hd⟩
            exact ⟨done_oi hd, hd.below⟩)) (fun W F x hx hRW => by
            refine ((hf x hx).calls V W [.string x, pv] (hRW.mod hm h6) ⟨rfl, fun i s y e1 e2 => ?_⟩).mono ?_
            · match i with
              | 0 => simp at e1 e2; subst e1; subst e2; exact ⟨_, .v _ rfl⟩
              | 1 => simp at e1 e2; subst e1; subst e2; exact hq
              | i + 2 => simp at e1
            · rintro e w' ⟨y, rfl, hd⟩
              exact ⟨done_ob hd, hd.below⟩)
        refine hW.mono ?_
        rintro e w' ⟨rfl, G, hG⟩
        exact ⟨_, rfl, (fun h => (by cases h)), ⟨hG.grown, [b], hG.row (fun _ => rfl) h2 h6, hnd, (fun b hb => .inl hb), (fun _ => rfl)⟩⟩
end Go.Proofs.Yteganoldfldlhaa
end
