/-
  Rows whose elements take k cells, in the block's words: copy, clear; rows taken apart and put together.
-/
import Derived.Test.YteganoldfldlhaaI1
import Derived.Test.YteganoldfldlhaaL3
import Derived.Laws.IdiomCopy
import Derived.Deep.AppendSrc
set_option linter.all false
set_option maxRecDepth 100000
namespace Go.Sx
open Go Go.RowKit

theorem run_copy_k {P : Program} (w : World) (dT sT ty elem : TypeId) (k b o dLen dCap : Nat) (a : Addr) (sLen sCap : Nat) (cs : List Value)
    (hu : P.underlying dT = some (.slice elem)) (hs : (P.info? elem).map (·.size) = some k) (hn : cs.length = Nat.min sLen dLen * k)
    (hsrc : ∀ j v, cs[j]? = some v → w.cell? (a.add j) = some v) (hc : ∀ j, j < cs.length → (w.cell? ⟨b, o + j, none⟩).isSome = true) (hf : ∀ j, j < cs.length → w.frozen? ⟨b, o + j, none⟩ = false) (h1 : ∀ v ∈ cs, v.oneCell' = true) :
    (Builtin.copy_ #[dT, sT] ty #[.slice (some ⟨b, o, none⟩) dLen dCap, .slice (some a) sLen sCap]).run P w = .ok (goInt (Nat.min sLen dLen)) (w.setCells b o cs) := by
  have hl := run_loadCells_list (P := P) w a cs hsrc
  have hst := run_storeCells_cells (P := P) b o cs 0 w (by simpa using hc) (by simpa using hf) h1
  rw [hn] at hl
  cases hq : P.info? elem with
  | none => simp [hq] at hs
  | some i =>
    have hi : i.size = k := by simpa [hq] using hs
    simp [Builtin.copy_, run_underlying hu, Builtin.lenOf, Builtin.firstCells, sizeOf, typeInfo, hq, hi, hl, hst]

theorem LayL.take {V : View} {ds : List D} {ys : List Value} {Ss : List (List Nat)} (h : LayL V ds ys Ss) (n : Nat) : LayL V (ds.take n) (ys.take n) (Ss.take n) :=
  ⟨by simp [h.1], by simp [h.2.1], fun k d y S h1 h2 h3 => by
    rw [List.getElem?_take] at h1 h2 h3
    split at h1
    · rw [if_pos ‹_›] at h2 h3; exact h.2.2 k d y S h1 h2 h3
    · cases h1⟩
theorem LayL.drop {V : View} {ds : List D} {ys : List Value} {Ss : List (List Nat)} (h : LayL V ds ys Ss) (n : Nat) : LayL V (ds.drop n) (ys.drop n) (Ss.drop n) :=
  ⟨by simp [h.1], by simp [h.2.1], fun k d y S h1 h2 h3 => by
    rw [List.getElem?_drop] at h1 h2 h3
    exact h.2.2 _ d y S h1 h2 h3⟩
theorem flat_len {α : Type} {sz : Nat} : ∀ {rows : List (List α)}, (∀ r ∈ rows, r.length = sz) → rows.flatten.length = rows.length * sz
  | [], _ => by simp
  | r :: rows, h => by
    rw [List.flatten_cons, List.length_append, flat_len (fun r hr => h r (by simp [hr])), h r (by simp), List.length_cons, Nat.add_mul]; omega
theorem flat_take {α : Type} {sz : Nat} : ∀ {rows : List (List α)} (i : Nat), (∀ r ∈ rows, r.length = sz) → (rows.take i).flatten = rows.flatten.take (i * sz)
  | [], i, _ => by simp
  | r :: rows, 0, h => by simp
  | r :: rows, i + 1, h => by
    have e := h r (by simp)
    rw [List.take_succ_cons, List.flatten_cons, List.flatten_cons, flat_take i (fun r hr => h r (by simp [hr])), List.take_append, List.take_of_length_le (l := r) (by rw [e, Nat.add_mul]; omega)]
    congr 2
    rw [e, Nat.add_mul]; omega
theorem flat_drop {α : Type} {sz : Nat} : ∀ {rows : List (List α)} (i : Nat), (∀ r ∈ rows, r.length = sz) → (rows.drop i).flatten = rows.flatten.drop (i * sz)
  | [], i, _ => by simp
  | r :: rows, 0, h => by simp
  | r :: rows, i + 1, h => by
    have e := h r (by simp)
    rw [List.drop_succ_cons, List.flatten_cons, flat_drop i (fun r hr => h r (by simp [hr])), List.drop_append, List.drop_of_length_le (l := r) (by rw [e, Nat.add_mul]; omega), List.nil_append]
    congr 1
    rw [e, Nat.add_mul]; omega

theorem RowAt.drew {w wr : World} {b ty N : Nat} {F : List Value} (h : RowAt w wr b ty N F) : RowAt w wr.drew b ty N F := by
  obtain ⟨c, h1, h2, h3⟩ := h.cells
  exact ⟨⟨c, h1, h2, h3⟩, grownBy_trans h.grown ⟨rfl, rfl, rfl, Nat.le_refl _, fun _ _ _ => rfl⟩⟩
theorem RowAt.shape {w wr : World} {b ty N : Nat} {F : List Value} (h : RowAt w wr b ty N F) : wr.shape? b = some (ty, N) := by
  obtain ⟨c, h1, h2, h3⟩ := h.cells
  simp [World.shape?, h1, h2]
theorem RowAt.pre {w wr : World} {b ty N : Nat} {F G : List Value} (h : RowAt w wr b ty N F) (hp : G <+: F) : RowAt w wr b ty N G := by
  obtain ⟨c, h1, h2, h3⟩ := h.cells
  exact ⟨⟨c, h1, h2, hp.trans h3⟩, h.grown⟩

/-- A row in memory, taken apart. -/
theorem row_down {V : View} {w : World} {ty sz : Nat} {rows : List (List D)} {y : Value} {S : List Nat} (h : RowR V w ty sz rows y S) :
    (∀ r ∈ rows, r.length = sz) ∧ ((((∃ ao, y = .slice ao 0 0) ∧ rows = [] ∧ S = [])) ∨ ∃ b cap ys Ss, y = .slice (some ⟨b, 0, none⟩) rows.length cap ∧ rows.length ≤ cap ∧ cap ≤ maxLen ∧ RowAt w w b ty (cap * sz) ys ∧ ys.length = rows.length * sz ∧ LayL V rows.flatten ys Ss ∧ V b = none ∧ S = b :: Ss.flatten) := by
  obtain ⟨h0, ys, Ss, h1, h3⟩ := h
  refine ⟨h0, ?_⟩
  rcases h3 with h3 | ⟨b, cap, c, rfl, e3, e4, e5, e6, e7, e8, rfl⟩
  · exact .inl h3
  · exact .inr ⟨b, cap, ys, Ss, rfl, e3, e4, ⟨⟨c, e5, e6, e7⟩, grownBy_refl w _⟩, by rw [h1.1, flat_len h0], h1, e8, rfl⟩
/-- .. and put together. -/
theorem row_up {V : View} {w w' : World} {ty sz b cap : Nat} {rows : List (List D)} {ys : List Value} {Ss : List (List Nat)} {G : List Value} (hu : ∀ r ∈ rows, r.length = sz) (hl : LayL V rows.flatten ys Ss) (h : RowAt w w' b ty (cap * sz) (ys ++ G)) (hn : rows.length ≤ cap) (hcap : cap ≤ maxLen) (hV : V b = none) :
    RowR V w' ty sz rows (.slice (some ⟨b, 0, none⟩) rows.length cap) (b :: Ss.flatten) := by
  obtain ⟨c, h1, h2, h3⟩ := h.cells
  exact ⟨hu, ys, Ss, hl, .inr ⟨b, cap, c, rfl, hn, hcap, h1, h2, (List.prefix_append _ _).trans h3, hV, rfl⟩⟩
theorem grownBy_new {w w' : World} {r : Option Nat} (h : w.grownBy w' (some w.heap.size)) : w.grownBy w' r :=
  ⟨h.os, h.tape, h.output, h.size, fun k hk _ => h.block k hk fun e => by cases e; omega⟩
theorem alloc_drew (w : World) (o : Obj) : (w.alloc o).drew = w.drew.alloc o := rfl
theorem RowAt.freshd (w : World) (c : Array Value) (ty : Nat) : RowAt w (w.drew.alloc (.cells c ty)) w.heap.size ty c.size c.toList := by
  have hh : (w.drew.alloc (.cells c ty)).heap = w.heap.push (.cells c ty) := rfl
  refine ⟨⟨c, by rw [hh, Array.getElem?_push, if_pos rfl], rfl, List.prefix_refl _⟩, rfl, rfl, rfl, by rw [hh, Array.size_push]; omega, fun k hk _ => ?_⟩
  rw [hh, Array.getElem?_push, if_neg (Nat.ne_of_lt hk)]
theorem lay_ins {V : View} {rows : List (List D)} {r : List D} {ys vs : List Value} {Ss Ts : List (List Nat)} {k : Nat} (i : Nat) (hu : ∀ r ∈ rows, r.length = k) (hl : LayL V rows.flatten ys Ss) (hl2 : LayL V r vs Ts) :
    LayL V (rows.take i ++ r :: rows.drop i).flatten (ys.take (i * k) ++ vs ++ ys.drop (i * k)) (Ss.take (i * k) ++ Ts ++ Ss.drop (i * k)) := by
  have h := ((hl.take (i * k)).append hl2).append (hl.drop (i * k))
  rw [← flat_take i hu, ← flat_drop i hu] at h
  simpa [List.append_assoc] using h
theorem perm_ins (Ss Ts : List (List Nat)) (n : Nat) : (Ss.take n ++ Ts ++ Ss.drop n).flatten.Perm (Ss.flatten ++ Ts.flatten) := by
  have e : Ss.flatten = (Ss.take n).flatten ++ (Ss.drop n).flatten := by rw [← List.flatten_append, List.take_append_drop]
  rw [e, List.flatten_append, List.flatten_append, List.append_assoc, List.append_assoc]
  exact List.Perm.append_left _ List.perm_append_comm
/-- What is left of a row that took another one's element. -/
theorem ins_done {V : View} {w w' : World} {ty sz b cap : Nat} {rows : List (List D)} {r : List D} {ys vs : List Value} {Ss Ts : List (List Nat)} {S S2 : List Nat} {i : Nat} (hi : i ≤ rows.length) (hu : ∀ r ∈ rows, r.length = sz) (hr : r.length = sz) (hl : LayL V rows.flatten ys Ss) (hl2 : LayL V r vs Ts)
    (h : RowAt w w' b ty (cap * sz) (ys.take (i * sz) ++ vs ++ ys.drop (i * sz))) (hn : rows.length + 1 ≤ cap) (hcap : cap ≤ maxLen) (hV : V b = none) (hb : b ∈ S ∨ (w.heap.size ≤ b ∧ b < w'.heap.size)) (hS : ∀ n ∈ Ss.flatten, n ∈ S) (hT : ∀ n ∈ Ts.flatten, n ∈ S2) (hnd : (b :: (Ss.flatten ++ Ts.flatten)).Nodup) :
    ∃ S', RowR V w' ty sz (rows.take i ++ r :: rows.drop i) (.slice (some ⟨b, 0, none⟩) (rows.length + 1) cap) S' ∧ S'.Nodup ∧ ∀ n ∈ S', n ∈ S ∨ n ∈ S2 ∨ (w.heap.size ≤ n ∧ n < w'.heap.size) := by
  have hlen : (rows.take i ++ r :: rows.drop i).length = rows.length + 1 := by simp; omega
  have hup := row_up (cap := cap) (G := []) (w := w) (fun x hx => by
    rcases List.mem_append.1 hx with h' | h'
    · exact hu x (List.mem_of_mem_take h')
    · rcases List.mem_cons.1 h' with rfl | h'
      · exact hr
      · exact hu x (List.mem_of_mem_drop h')) (lay_ins i hu hl hl2) (by simpa using h) (by rw [hlen]; exact hn) hcap hV
  rw [hlen] at hup
  have hp := perm_ins Ss Ts (i * sz)
  refine ⟨_, hup, ?_, fun n hn' => ?_⟩
  · exact (hp.cons b).nodup_iff.2 hnd
  · rcases List.mem_cons.1 hn' with rfl | hn'
    · rcases hb with hb | hb
      · exact .inl hb
      · exact .inr (.inr hb)
    · rcases List.mem_append.1 (hp.mem_iff.1 hn') with h' | h'
      · exact .inl (hS n h')
      · exact .inr (.inl (hT n h'))
end Go.Sx
