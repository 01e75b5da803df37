/-
  The relation between the symbolic state and a run's state, and what keeps it.
-/
import Derived.Test.YteganoldfldlhaaA1Core
set_option linter.all false
namespace Go.Sx
open Go Go.RowKit

def Mod (V : View) (w : World) : Prop := ∀ b cs, V b = some cs → ∃ c ty fz, w.heap[b]? = some (.cells c ty fz) ∧ cs <+: c.toList
theorem Mod.lt {V : View} {w : World} (h : Mod V w) {b : Nat} {cs : List Value} (hb : V b = some cs) : b < w.heap.size := by
  obtain ⟨c, ty, fz, h1, _⟩ := h b cs hb
  exact (Array.getElem?_eq_some_iff.1 h1).1
theorem Mod.cell {V : View} {w : World} (h : Mod V w) {a : Addr} {y : Value} (hc : V.cell a = some y) : w.cell? a = some y := by
  unfold View.cell at hc
  split at hc
  · cases hc
  · rename_i hs
    cases hb : V a.block with
    | none => simp [hb] at hc
    | some cs =>
      obtain ⟨c, ty, fz, h1, p1⟩ := h _ _ hb
      rw [hb] at hc
      have := prefix_get p1 hc
      simp only [World.cell?, h1, hs]
      simpa using this

/-- Cells that read as data, one by one. -/
def LayL (V : View) (ds : List D) (ys : List Value) (Ss : List (List Nat)) : Prop :=
  ys.length = ds.length ∧ Ss.length = ds.length ∧ ∀ (k : Nat) (d : D) (y : Value) (S : List Nat), ds[k]? = some d → ys[k]? = some y → Ss[k]? = some S → Lay V d y S
theorem LayL.mono {V V' : View} {ds : List D} {ys : List Value} {Ss : List (List Nat)} (h : LayL V ds ys Ss) (hv : V.le V') : LayL V' ds ys Ss :=
  ⟨h.1, h.2.1, fun k d y S h1 h2 h3 => (h.2.2 k d y S h1 h2 h3).mono hv⟩
theorem LayL.nil (V : View) : LayL V [] [] [] := ⟨rfl, rfl, fun k d y S h => by simp at h⟩
theorem LayL.append {V : View} {ds ds' : List D} {ys ys' : List Value} {Ss Ss' : List (List Nat)} (h : LayL V ds ys Ss) (h' : LayL V ds' ys' Ss') : LayL V (ds ++ ds') (ys ++ ys') (Ss ++ Ss') :=
  ⟨by simp [h.1, h'.1], by simp [h.2.1, h'.2.1], fun k d y S h1 h2 h3 => by
    rw [List.getElem?_append] at h1 h2 h3
    rw [h.1] at h2
    rw [h.2.1] at h3
    split at h1
    · rw [if_pos ‹_›] at h2 h3; exact h.2.2 k d y S h1 h2 h3
    · rw [if_neg ‹_›] at h2 h3; exact h'.2.2 _ d y S h1 h2 h3⟩
theorem LayL.oneCell {V : View} {ds : List D} {ys : List Value} {Ss : List (List Nat)} (h : LayL V ds ys Ss) : ∀ u ∈ ys, u.oneCell' = true := by
  intro u hu
  obtain ⟨k, hk, e⟩ := List.mem_iff_getElem.1 hu
  have h1 : ys[k]? = some u := by rw [List.getElem?_eq_getElem hk, e]
  have hd : k < ds.length := by rw [← h.1]; exact hk
  have hs : k < Ss.length := by rw [h.2.1]; exact hd
  exact (h.2.2 k _ u _ (List.getElem?_eq_getElem hd) h1 (List.getElem?_eq_getElem hs)).oneCell

def rootB (x : Gh) : HB → List Nat
  | .box .. => x.blk.toList
  | .row .. => x.blk.toList
  | .frz .. => []
  | .gone => []
  | .own .. => x.tr

/-- A row of cells to which one may write. -/
def Unf (w : World) (b : Nat) : Prop := ∃ c ty, w.heap[b]? = some (.cells c ty (0, 0))
/-- A slice that reads as the rows, with all that it leads to, in the blocks S and in no others; hd: the slices in its cells. -/
def OwnR (w : World) (sz : Nat) (rows : List (List D)) (y : Value) (S : List Nat) (hd : List Value) : Prop :=
  (∀ r ∈ rows, r.length = sz) ∧ ∃ (U : View) (ys : List Value) (Ss : List (List Nat)), Mod U w ∧ (∀ b cs, U b = some cs → b ∈ S ∧ Unf w b) ∧ LayL U rows.flatten ys Ss ∧
    (∀ (k : Nat) (rs : List (List D)), rows.flatten[k]? = some (.sl rs) → hd[k]? = ys[k]?) ∧
    ((y = .slice none 0 0 ∧ rows = [] ∧ S = []) ∨
     ∃ a cap, y = .slice (some a) rows.length cap ∧ rows.length ≤ cap ∧ cap ≤ maxLen ∧ (∀ (k : Nat) (z : Value), ys[k]? = some z → U.cell (a.add k) = some z) ∧ S = (if rows.isEmpty then [] else [a.block]) ++ Ss.flatten)
theorem OwnR.mono {w w' : World} {sz : Nat} {rows : List (List D)} {y : Value} {S : List Nat} {hd : List Value} (h : OwnR w sz rows y S hd) (hw : ∀ k ∈ S, w'.heap[k]? = w.heap[k]?) : OwnR w' sz rows y S hd := by
  obtain ⟨h0, U, ys, Ss, h1, h2, h3, h4, h5⟩ := h
  exact ⟨h0, U, ys, Ss, fun b cs hb => by obtain ⟨c, ty, fz, e1, e2⟩ := h1 b cs hb; exact ⟨c, ty, fz, by rw [hw b (h2 b cs hb).1]; exact e1, e2⟩, fun b cs hb => ⟨(h2 b cs hb).1, by obtain ⟨c, ty, e⟩ := (h2 b cs hb).2; exact ⟨c, ty, by rw [hw b (h2 b cs hb).1]; exact e⟩⟩, h3, h4, h5⟩

def HBok (g : List Gh) (V : View) (w : World) (x : Gh) : HB → Prop
  | .box ty cs => ∃ b l, x.blk = some b ∧ w.heap[b]? = some (.cells (List.toArray l) ty (0, 0)) ∧ cL g V cs l
  | .row ty sz rows lin => (∀ r ∈ rows, r.length = sz) ∧ ∃ ys Ss, LayL V rows.flatten ys Ss ∧ (lin = true → x.tr = Ss.flatten) ∧
      ((x.blk = none ∧ (∃ ao, x.val = .slice ao 0 0) ∧ rows = []) ∨
       ∃ b cap c, x.blk = some b ∧ x.val = .slice (some ⟨b, 0, none⟩) rows.length cap ∧ rows.length ≤ cap ∧ cap ≤ maxLen ∧ w.heap[b]? = some (.cells c ty (0, 0)) ∧ c.size = cap * sz ∧ ys <+: c.toList)
  | .frz rows lin => x.val.oneCell' = true ∧ ∃ S, Lay V (.sl rows) x.val S ∧ (lin = true → x.tr = S)
  | .gone => True
  | .own tag sz rows => (∀ v S hd, tag = some (v, S, hd) → x.val = v ∧ x.tr = S ∧ x.hd = hd) ∧ OwnR w sz rows x.val x.tr x.hd
theorem HBok.mono {g g' : List Gh} {V V' : View} {w w' : World} {x : Gh} {b : HB} (h : HBok g V w x b) (hg : GLe g g') (hv : V.le V') (hw : ∀ k ∈ rootB x b, w'.heap[k]? = w.heap[k]?) : HBok g' V' w' x b := by
  cases b with
  | box ty cs => obtain ⟨b, l, h1, h2, h3⟩ := h; exact ⟨b, l, h1, by rw [hw b (by simp [rootB, h1])]; exact h2, h3.mono hg hv⟩
  | row ty sz rows lin =>
    obtain ⟨h0, ys, Ss, h1, h2, h3⟩ := h
    refine ⟨h0, ys, Ss, h1.mono hv, h2, ?_⟩
    rcases h3 with h3 | ⟨b, cap, c, e1, e2, e3, e4, e5, e6, e7⟩
    · exact .inl h3
    · exact .inr ⟨b, cap, c, e1, e2, e3, e4, by rw [hw b (by simp [rootB, e1])]; exact e5, e6, e7⟩
  | frz rows lin => obtain ⟨h0, S, h1, h2⟩ := h; exact ⟨h0, S, h1.mono hv, h2⟩
  | gone => trivial
  | own tag sz rows => exact ⟨h.1, h.2.mono hw⟩

def ownB (x : Gh) : HB → List Nat
  | .box .. => x.blk.toList
  | .row _ _ _ lin => x.blk.toList ++ (if lin then x.tr else [])
  | .frz _ lin => if lin then x.tr else []
  | .gone => []
  | .own .. => x.tr
theorem rootB_own {x : Gh} {b : HB} {k : Nat} (h : k ∈ rootB x b) : k ∈ ownB x b := by
  cases b with
  | box ty cs => exact h
  | row ty sz rows lin => exact List.mem_append.2 (.inl h)
  | frz rows lin => simp [rootB] at h
  | gone => exact h
  | own tag sz rows => exact h

/-- What a function started from: the world, and which old blocks it may write. -/
structure Ctx where
  w0 : World
  X : List Nat
  V0 : View

/-- The view has grown from the one at the start, and only over new blocks. -/
structure Vw (C : Ctx) (V : View) (w : World) : Prop where
  le : C.V0.le V
  fresh : ∀ b cs, V b = some cs → C.V0 b = none → C.w0.heap.size ≤ b ∨ b ∈ C.X
  unf : ∀ b cs, V b = some cs → C.V0 b = none → Unf w b
theorem Vw.move {C : Ctx} {V : View} {w w' : World} (h : Vw C V w) (hw : ∀ b cs, V b = some cs → w'.heap[b]? = w.heap[b]?) : Vw C V w' :=
  ⟨h.le, h.fresh, fun b cs h1 h2 => by obtain ⟨c, ty, e⟩ := h.unf b cs h1 h2; exact ⟨c, ty, by rw [hw b cs h1]; exact e⟩⟩
theorem Vw.grow {C : Ctx} {V V' : View} {w : World} (h : Vw C V w) (hv : V.le V') (hn : ∀ b cs, V' b = some cs → V b = none → (C.w0.heap.size ≤ b ∨ b ∈ C.X) ∧ Unf w b) : Vw C V' w :=
  ⟨h.le.trans hv, fun b cs h1 h2 => by
    cases hc : V b with
    | none => exact (hn b cs h1 hc).1
    | some c => exact h.fresh b c hc h2, fun b cs h1 h2 => by
    cases hc : V b with
    | none => exact (hn b cs h1 hc).2
    | some c => exact h.unf b c hc h2⟩

structure Fr (C : Ctx) (w : World) : Prop where
  os : w.os = C.w0.os
  tape : w.tape = C.w0.tape
  output : w.output = C.w0.output
  size : C.w0.heap.size ≤ w.heap.size
  block : ∀ k, k < C.w0.heap.size → k ∉ C.X → w.heap[k]? = C.w0.heap[k]?

structure Hp (C : Ctx) (g : List Gh) (V : View) (h : List HB) (w : World) : Prop where
  glen : g.length = h.length
  hb : ∀ (i : Nat) (b : HB) (x : Gh), h[i]? = some b → g[i]? = some x → HBok g V w x b
  nd : ∀ (i : Nat) (b : HB) (x : Gh), h[i]? = some b → g[i]? = some x → (ownB x b).Nodup
  dj : ∀ (i j : Nat) (b b' : HB) (x x' : Gh), i ≠ j → h[i]? = some b → g[i]? = some x → h[j]? = some b' → g[j]? = some x' → ∀ k ∈ ownB x b, k ∉ ownB x' b'
  lo : ∀ (i : Nat) (b : HB) (x : Gh), h[i]? = some b → g[i]? = some x → ∀ k ∈ ownB x b, (C.w0.heap.size ≤ k ∨ k ∈ C.X) ∧ k < w.heap.size
  rt : ∀ (i : Nat) (b : HB) (x : Gh), h[i]? = some b → g[i]? = some x → ∀ k ∈ rootB x b, V k = none

structure Sl (g : List Gh) (V : View) (t : List SV) (a : Act) : Prop where
  size : a.tmps.size = t.length
  slot : ∀ (i : Nat) (s : SV) (y : Value), t[i]? = some s → a.tmps[i]? = some y → cSV g V s y
  defers : a.defers = []

structure Rel (C : Ctx) (g : List Gh) (V : View) (st : St) (a : Act) (w : World) : Prop where
  sl : Sl g V st.t a
  hp : Hp C g V st.h w
  mod : Mod V w
  fr : Fr C w
  vw : Vw C V w

theorem Sl.mono {g g' : List Gh} {V V' : View} {t : List SV} {a : Act} (h : Sl g V t a) (hg : GLe g g') (hv : V.le V') : Sl g' V' t a :=
  ⟨h.size, fun i s y h1 h2 => (h.slot i s y h1 h2).mono hg hv, h.defers⟩
theorem GLe.refl (g : List Gh) : GLe g g := fun _ x h => ⟨x, h, rfl, rfl, rfl⟩
theorem GLe.push (g g' : List Gh) : GLe g (g ++ g') := fun i x h => ⟨x, by
  rw [List.getElem?_append_left (List.getElem?_eq_some_iff.1 h).1]; exact h, rfl, rfl, rfl⟩
theorem GLe.trans {g g' g'' : List Gh} (h : GLe g g') (k : GLe g' g'') : GLe g g'' := fun i x hx => by
  obtain ⟨x', e1, e2, e3, e4⟩ := h i x hx
  obtain ⟨x'', f1, f2, f3, f4⟩ := k i x' e1
  exact ⟨x'', f1, f2.trans e2, f3.trans e3, f4.trans e4⟩
theorem GLe.set {g : List Gh} {id : Nat} {x x' : Gh} (hx : g[id]? = some x) (h1 : x'.blk = x.blk) (h2 : x'.val = x.val) (h3 : x'.hd = x.hd) : GLe g (g.set id x') := fun i y hy => by
  by_cases e : id = i
  · subst e
    rw [hx] at hy
    cases hy
    exact ⟨x', by rw [List.getElem?_set, if_pos rfl, if_pos (List.getElem?_eq_some_iff.1 hx).1], h1, h2, h3⟩
  · exact ⟨y, by rw [List.getElem?_set, if_neg e]; exact hy, rfl, rfl, rfl⟩

/-- A slot is set. -/
theorem Sl.put {g : List Gh} {V : View} {t : List SV} {a : Act} (h : Sl g V t a) (d : Nat) {s : SV} {y : Value} (hy : cSV g V s y) : Sl g V (t.set d s) (a.put (some d) y) := by
  refine ⟨by simp [Act.put, h.size], fun i s' y' h1 h2 => ?_, h.defers⟩
  simp only [Act.put, Array.getElem?_setIfInBounds] at h2
  rw [List.getElem?_set] at h1
  by_cases e : d = i
  · subst e
    simp only [if_true] at h1 h2
    split at h1
    · rw [if_pos (by rw [h.size]; assumption)] at h2
      cases h1; cases h2; exact hy
    · cases h1
  · rw [if_neg e] at h1 h2
    exact h.slot i s' y' h1 h2
theorem Sl.put_none {g : List Gh} {V : View} {t : List SV} {a : Act} (h : Sl g V t a) (y : Value) : Sl g V t (a.put none y) := h

/-- The heap part in a later world. -/
theorem Hp.later {C : Ctx} {g : List Gh} {V V' : View} {h : List HB} {w w' : World} (k : Hp C g V h w) (hv : V.le V') (hsz : w.heap.size ≤ w'.heap.size)
    (hw : ∀ (i : Nat) (b : HB) (x : Gh), h[i]? = some b → g[i]? = some x → ∀ n ∈ ownB x b, w'.heap[n]? = w.heap[n]?)
    (hr : ∀ (i : Nat) (b : HB) (x : Gh), h[i]? = some b → g[i]? = some x → ∀ n ∈ rootB x b, V' n = none) : Hp C g V' h w' :=
  ⟨k.glen, fun i b x h1 h2 => by
      exact (k.hb i b x h1 h2).mono (GLe.refl g) hv fun n hn => hw i b x h1 h2 n (rootB_own hn),
    k.nd, k.dj, fun i b x h1 h2 n hn => ⟨(k.lo i b x h1 h2 n hn).1, Nat.lt_of_lt_of_le (k.lo i b x h1 h2 n hn).2 hsz⟩, hr⟩

/-- One more block of the function's own. -/
theorem Hp.push {C : Ctx} {g : List Gh} {V : View} {h : List HB} {w : World} (k : Hp C g V h w) {b : HB} {x : Gh}
    (hb : HBok (g ++ [x]) V w x b) (hnd : (ownB x b).Nodup) (hlo : ∀ n ∈ ownB x b, (C.w0.heap.size ≤ n ∨ n ∈ C.X) ∧ n < w.heap.size)
    (hdj : ∀ (i : Nat) (b' : HB) (x' : Gh), h[i]? = some b' → g[i]? = some x' → ∀ n ∈ ownB x' b', n ∉ ownB x b) (hrt : ∀ n ∈ rootB x b, V n = none) : Hp C (g ++ [x]) V (h ++ [b]) w := by
  have key : ∀ (i : Nat) (b' : HB) (x' : Gh), (h ++ [b])[i]? = some b' → (g ++ [x])[i]? = some x' → (h[i]? = some b' ∧ g[i]? = some x') ∨ (i = h.length ∧ b' = b ∧ x' = x) := by
    intro i b' x' h1 h2
    rcases Nat.lt_trichotomy i h.length with hl | hl | hl
    · left
      rw [List.getElem?_append_left hl] at h1
      rw [List.getElem?_append_left (by rw [k.glen]; exact hl)] at h2
      exact ⟨h1, h2⟩
    · right
      subst hl
      rw [List.getElem?_append_right (Nat.le_refl _)] at h1
      rw [List.getElem?_append_right (by rw [k.glen]; exact Nat.le_refl _)] at h2
      simp [k.glen] at h1 h2
      exact ⟨rfl, h1.symm, h2.symm⟩
    · rw [List.getElem?_eq_none (by simp; omega)] at h1
      cases h1
  refine ⟨by simp [k.glen], ?_, ?_, ?_, ?_, ?_⟩
  · intro i b' x' h1 h2
    rcases key i b' x' h1 h2 with ⟨e1, e2⟩ | ⟨_, rfl, rfl⟩
    · exact (k.hb i b' x' e1 e2).mono (GLe.push _ _) (View.le.refl V) fun _ _ => rfl
    · exact hb
  · intro i b' x' h1 h2
    rcases key i b' x' h1 h2 with ⟨e1, e2⟩ | ⟨_, rfl, rfl⟩
    · exact k.nd i b' x' e1 e2
    · exact hnd
  · intro i j b1 b2 x1 x2 hij h1 h2 h3 h4 n hn
    rcases key i b1 x1 h1 h2 with ⟨e1, e2⟩ | ⟨q, rfl, rfl⟩
    · rcases key j b2 x2 h3 h4 with ⟨e3, e4⟩ | ⟨_, rfl, rfl⟩
      · exact k.dj i j b1 b2 x1 x2 hij e1 e2 e3 e4 n hn
      · exact hdj i b1 x1 e1 e2 n hn
    · rcases key j b2 x2 h3 h4 with ⟨e3, e4⟩ | ⟨q', _, _⟩
      · exact fun hn' => hdj j b2 x2 e3 e4 n hn' hn
      · exact (hij (q.trans q'.symm)).elim
  · intro i b' x' h1 h2
    rcases key i b' x' h1 h2 with ⟨e1, e2⟩ | ⟨_, rfl, rfl⟩
    · exact k.lo i b' x' e1 e2
    · exact hlo
  · intro i b' x' h1 h2
    rcases key i b' x' h1 h2 with ⟨e1, e2⟩ | ⟨_, rfl, rfl⟩
    · exact k.rt i b' x' e1 e2
    · exact hrt

/-- An entry is replaced, its ghost stays; the world may turn at its own root alone. -/
theorem Hp.set {C : Ctx} {g : List Gh} {V : View} {h : List HB} {w w' : World} (k : Hp C g V h w) (id : Nat) {b b' : HB} {x : Gh} (h1 : h[id]? = some b) (h2 : g[id]? = some x)
    (hown : ∀ n ∈ ownB x b', n ∈ ownB x b) (hnd : (ownB x b').Nodup) (hroot : ∀ n ∈ rootB x b', n ∈ rootB x b) (hb : HBok g V w' x b')
    (hw : ∀ n, n ∉ rootB x b → w'.heap[n]? = w.heap[n]?) (hsz : w'.heap.size = w.heap.size) : Hp C g V (h.set id b') w' := by
  have key : ∀ (i : Nat) (c : HB) (y : Gh), (h.set id b')[i]? = some c → g[i]? = some y → (i ≠ id ∧ h[i]? = some c) ∨ (i = id ∧ c = b' ∧ y = x) := by
    intro i c y e1 e2
    rw [List.getElem?_set] at e1
    by_cases e : id = i
    · subst e
      simp only [if_true] at e1
      split at e1
      · cases e1; rw [h2] at e2; cases e2; exact .inr ⟨rfl, rfl, rfl⟩
      · cases e1
    · rw [if_neg e] at e1
      exact .inl ⟨fun h => e h.symm, e1⟩
  refine ⟨by simp [k.glen], ?_, ?_, ?_, ?_, ?_⟩
  · intro i c y e1 e2
    rcases key i c y e1 e2 with ⟨hne, e⟩ | ⟨_, rfl, rfl⟩
    · exact (k.hb i c y e e2).mono (GLe.refl g) (View.le.refl V) fun n hn => hw n fun hr => k.dj i id c b y x hne e e2 h1 h2 n (rootB_own hn) (rootB_own hr)
    · exact hb
  · intro i c y e1 e2
    rcases key i c y e1 e2 with ⟨_, e⟩ | ⟨_, rfl, rfl⟩
    · exact k.nd i c y e e2
    · exact hnd
  · intro i j c c' y y' hij e1 e2 e3 e4 n hn
    rcases key i c y e1 e2 with ⟨ni, e⟩ | ⟨rfl, rfl, rfl⟩
    · rcases key j c' y' e3 e4 with ⟨nj, e'⟩ | ⟨rfl, rfl, rfl⟩
      · exact k.dj i j c c' y y' hij e e2 e' e4 n hn
      · exact fun hn' => k.dj i j c b y y' hij e e2 h1 h2 n hn (hown n hn')
    · rcases key j c' y' e3 e4 with ⟨nj, e'⟩ | ⟨rfl, _, _⟩
      · exact k.dj i j b c' y y' hij h1 h2 e' e4 n (hown n hn)
      · exact (hij rfl).elim
  · intro i c y e1 e2 n hn
    rw [hsz]
    rcases key i c y e1 e2 with ⟨_, e⟩ | ⟨_, rfl, rfl⟩
    · exact k.lo i c y e e2 n hn
    · exact k.lo id b y h1 h2 n (hown n hn)
  · intro i c y e1 e2 n hn
    rcases key i c y e1 e2 with ⟨_, e⟩ | ⟨_, rfl, rfl⟩
    · exact k.rt i c y e e2 n hn
    · exact k.rt id b y h1 h2 n (hroot n hn)

/-- An entry and its ghost are replaced; the view and the world may turn at the entry's old blocks alone, or grow. -/
theorem Hp.swap {C : Ctx} {g : List Gh} {V V' : View} {h : List HB} {w w' : World} (k : Hp C g V h w) (id : Nat) {b b' : HB} {x x' : Gh} (h1 : h[id]? = some b) (h2 : g[id]? = some x)
    (hblk : x'.blk = x.blk) (hval : x'.val = x.val) (hhd : x'.hd = x.hd) (hv : V.le V') (hown : ∀ n ∈ ownB x' b', n ∈ ownB x b ∨ (w.heap.size ≤ n ∧ n < w'.heap.size)) (hnd : (ownB x' b').Nodup) (hroot : ∀ n ∈ rootB x' b', V' n = none) (hb : HBok (g.set id x') V' w' x' b')
    (hw : ∀ n, n < w.heap.size → n ∉ rootB x b → w'.heap[n]? = w.heap[n]?) (hsz : w.heap.size ≤ w'.heap.size) (hfr : C.w0.heap.size ≤ w.heap.size)
    (hV : ∀ n, n ∉ ownB x b → n < w.heap.size → V n = none → V' n = none) : Hp C (g.set id x') V' (h.set id b') w' := by
  have key : ∀ (i : Nat) (c : HB) (y : Gh), (h.set id b')[i]? = some c → (g.set id x')[i]? = some y → (i ≠ id ∧ h[i]? = some c ∧ g[i]? = some y) ∨ (i = id ∧ c = b' ∧ y = x') := by
    intro i c y e1 e2
    rw [List.getElem?_set] at e1 e2
    by_cases e : id = i
    · subst e
      simp only [if_true] at e1 e2
      split at e1
      · split at e2
        · cases e1; cases e2; exact .inr ⟨rfl, rfl, rfl⟩
        · cases e2
      · cases e1
    · rw [if_neg e] at e1 e2
      exact .inl ⟨fun h => e h.symm, e1, e2⟩
  have hg := GLe.set (x' := x') h2 hblk hval hhd
  refine ⟨by simp [k.glen], ?_, ?_, ?_, ?_, ?_⟩
  · intro i c y e1 e2
    rcases key i c y e1 e2 with ⟨hne, e, e'⟩ | ⟨_, rfl, rfl⟩
    · exact (k.hb i c y e e').mono hg hv fun n hn => hw n (k.lo i c y e e' n (rootB_own hn)).2 fun hr => k.dj i id c b y x hne e e' h1 h2 n (rootB_own hn) (rootB_own hr)
    · exact hb
  · intro i c y e1 e2
    rcases key i c y e1 e2 with ⟨_, e, e'⟩ | ⟨_, rfl, rfl⟩
    · exact k.nd i c y e e'
    · exact hnd
  · intro i j c c' y y' hij e1 e2 e3 e4 n hn
    rcases key i c y e1 e2 with ⟨ni, e, e'⟩ | ⟨rfl, rfl, rfl⟩
    · rcases key j c' y' e3 e4 with ⟨nj, f, f'⟩ | ⟨rfl, rfl, rfl⟩
      · exact k.dj i j c c' y y' hij e e' f f' n hn
      · intro hn'
        rcases hown n hn' with ho | ho
        · exact k.dj i j c b y x hij e e' h1 h2 n hn ho
        · have := (k.lo i c y e e' n hn).2; omega
    · rcases key j c' y' e3 e4 with ⟨nj, f, f'⟩ | ⟨rfl, _, _⟩
      · intro hn'
        rcases hown n hn with ho | ho
        · exact k.dj i j b c' x y' hij h1 h2 f f' n ho hn'
        · have := (k.lo j c' y' f f' n hn').2; omega
      · exact (hij rfl).elim
  · intro i c y e1 e2 n hn
    rcases key i c y e1 e2 with ⟨_, e, e'⟩ | ⟨_, rfl, rfl⟩
    · exact ⟨(k.lo i c y e e' n hn).1, Nat.lt_of_lt_of_le (k.lo i c y e e' n hn).2 hsz⟩
    · rcases hown n hn with ho | ho
      · exact ⟨(k.lo id b x h1 h2 n ho).1, Nat.lt_of_lt_of_le (k.lo id b x h1 h2 n ho).2 hsz⟩
      · exact ⟨.inl (by omega), ho.2⟩
  · intro i c y e1 e2 n hn
    rcases key i c y e1 e2 with ⟨hne, e, e'⟩ | ⟨_, rfl, rfl⟩
    · exact hV n (fun ho => k.dj i id c b y x hne e e' h1 h2 n (rootB_own hn) ho) (k.lo i c y e e' n (rootB_own hn)).2 (k.rt i c y e e' n hn)
    · exact hroot n hn

/-- The same where what is new may come from blocks that are nobody's; the view stays. -/
theorem Hp.swapG {C : Ctx} {g : List Gh} {V : View} {h : List HB} {w w' : World} (k : Hp C g V h w) (id : Nat) {b b' : HB} {x x' : Gh} (h1 : h[id]? = some b) (h2 : g[id]? = some x)
    (hblk : x'.blk = x.blk) (hval : x'.val = x.val) (hhd : x'.hd = x.hd)
    (hown : ∀ n ∈ ownB x' b', n ∈ ownB x b ∨ (((C.w0.heap.size ≤ n ∨ n ∈ C.X) ∧ n < w.heap.size) ∧ ∀ (i : Nat) (c : HB) (y : Gh), h[i]? = some c → g[i]? = some y → n ∉ ownB y c)) (hnd : (ownB x' b').Nodup) (hroot : ∀ n ∈ rootB x' b', V n = none) (hb : HBok (g.set id x') V w' x' b')
    (hw : ∀ n, n < w.heap.size → n ∉ rootB x b → w'.heap[n]? = w.heap[n]?) (hsz : w.heap.size ≤ w'.heap.size) : Hp C (g.set id x') V (h.set id b') w' := by
  have key : ∀ (i : Nat) (c : HB) (y : Gh), (h.set id b')[i]? = some c → (g.set id x')[i]? = some y → (i ≠ id ∧ h[i]? = some c ∧ g[i]? = some y) ∨ (i = id ∧ c = b' ∧ y = x') := by
    intro i c y e1 e2
    rw [List.getElem?_set] at e1 e2
    by_cases e : id = i
    · subst e
      simp only [if_true] at e1 e2
      split at e1
      · split at e2
        · cases e1; cases e2; exact .inr ⟨rfl, rfl, rfl⟩
        · cases e2
      · cases e1
    · rw [if_neg e] at e1 e2
      exact .inl ⟨fun h => e h.symm, e1, e2⟩
  have hg := GLe.set (x' := x') h2 hblk hval hhd
  refine ⟨by simp [k.glen], ?_, ?_, ?_, ?_, ?_⟩
  · intro i c y e1 e2
    rcases key i c y e1 e2 with ⟨hne, e, e'⟩ | ⟨_, rfl, rfl⟩
    · exact (k.hb i c y e e').mono hg (View.le.refl V) fun n hn => hw n (k.lo i c y e e' n (rootB_own hn)).2 fun hr => k.dj i id c b y x hne e e' h1 h2 n (rootB_own hn) (rootB_own hr)
    · exact hb
  · intro i c y e1 e2
    rcases key i c y e1 e2 with ⟨_, e, e'⟩ | ⟨_, rfl, rfl⟩
    · exact k.nd i c y e e'
    · exact hnd
  · intro i j c c' y y' hij e1 e2 e3 e4 n hn
    rcases key i c y e1 e2 with ⟨ni, e, e'⟩ | ⟨rfl, rfl, rfl⟩
    · rcases key j c' y' e3 e4 with ⟨nj, f, f'⟩ | ⟨rfl, rfl, rfl⟩
      · exact k.dj i j c c' y y' hij e e' f f' n hn
      · intro hn'
        rcases hown n hn' with ho | ho
        · exact k.dj i j c b y x hij e e' h1 h2 n hn ho
        · exact ho.2 i c y e e' hn
    · rcases key j c' y' e3 e4 with ⟨nj, f, f'⟩ | ⟨rfl, _, _⟩
      · intro hn'
        rcases hown n hn with ho | ho
        · exact k.dj i j b c' x y' hij h1 h2 f f' n ho hn'
        · exact ho.2 j c' y' f f' hn'
      · exact (hij rfl).elim
  · intro i c y e1 e2 n hn
    rcases key i c y e1 e2 with ⟨_, e, e'⟩ | ⟨_, rfl, rfl⟩
    · exact ⟨(k.lo i c y e e' n hn).1, Nat.lt_of_lt_of_le (k.lo i c y e e' n hn).2 hsz⟩
    · rcases hown n hn with ho | ho
      · exact ⟨(k.lo id b x h1 h2 n ho).1, Nat.lt_of_lt_of_le (k.lo id b x h1 h2 n ho).2 hsz⟩
      · exact ⟨ho.1.1, Nat.lt_of_lt_of_le ho.1.2 hsz⟩
  · intro i c y e1 e2 n hn
    rcases key i c y e1 e2 with ⟨hne, e, e'⟩ | ⟨_, rfl, rfl⟩
    · exact k.rt i c y e e' n hn
    · exact hroot n hn

/-- Forgetting: slots become unknown, boxes of the end are dropped. -/
def leT : List SV → List SV → Prop
  | [], [] => True
  | x :: xs, y :: ys => (y = .o .u ∨ x = y) ∧ leT xs ys
  | _, _ => False
theorem leT.get {l m : List SV} (h : leT l m) : l.length = m.length ∧ ∀ (i : Nat) (y : SV), m[i]? = some y → y = .o .u ∨ l[i]? = some y := by
  induction l generalizing m with
  | nil => cases m with
    | nil => exact ⟨rfl, fun i y hy => by simp at hy⟩
    | cons => exact h.elim
  | cons x xs ih => cases m with
    | nil => exact h.elim
    | cons z ys =>
      obtain ⟨h1, h2⟩ := h
      obtain ⟨e, k⟩ := ih h2
      refine ⟨by simp [e], fun i y hy => ?_⟩
      cases i with
      | zero => simp at hy; subst hy; rcases h1 with h1 | h1
                · exact .inl h1
                · subst h1; exact .inr rfl
      | succ i => simpa using k i y (by simpa using hy)
def leH : List HB → List HB → Prop
  | _, [] => True
  | x :: xs, y :: ys => (y = .gone ∨ x = y) ∧ leH xs ys
  | [], _ :: _ => False
theorem leH.get {l m : List HB} (h : leH l m) : m.length ≤ l.length ∧ ∀ (i : Nat) (y : HB), m[i]? = some y → y = .gone ∨ l[i]? = some y := by
  induction l generalizing m with
  | nil => cases m with
    | nil => exact ⟨Nat.le_refl _, fun i y hy => by simp at hy⟩
    | cons => exact h.elim
  | cons x xs ih => cases m with
    | nil => exact ⟨by simp, fun i y hy => by simp at hy⟩
    | cons z ys =>
      obtain ⟨h1, h2⟩ := h
      obtain ⟨e, k⟩ := ih h2
      refine ⟨by simpa using e, fun i y hy => ?_⟩
      cases i with
      | zero => simp at hy; subst hy; rcases h1 with h1 | h1
                · exact .inl h1
                · subst h1; exact .inr rfl
      | succ i => simpa using k i y (by simpa using hy)
def St.le (s s' : St) : Prop := leT s.t s'.t ∧ leH s.h s'.h

/-- A slot whose content does not lean on the boxes from n on. -/
def At.below (n : Nat) : At → Bool
  | .p id _ | .r id _ _ _ | .s id | .e id _ _ _ | .n id _ _ _ => decide (id < n)
  | _ => true
def SV.below (n : Nat) : SV → Bool
  | .o a => a.below n
  | .g cs => cs.all (·.below n)
  | .t l => l.all fun x => x.2.all (·.below n)
def HB.below (n : Nat) : HB → Bool
  | .box _ cs => cs.all (·.below n)
  | _ => true
theorem cAt.cut {g : List Gh} {V : View} {a : At} {y : Value} {n : Nat} (h : cAt g V a y) (hb : a.below n = true) : cAt (g.take n) V a y := by
  have key : ∀ (id : Nat) (x : Gh), id < n → g[id]? = some x → (g.take n)[id]? = some x := fun id x h1 h2 => by rw [List.getElem?_take, if_pos h1]; exact h2
  cases a with
  | p id off => obtain ⟨gh, b, h1, h2, h3⟩ := h; exact ⟨gh, b, key _ _ (by simpa [At.below] using hb) h1, h2, h3⟩
  | r id sz i fo => obtain ⟨gh, b, h1, h2, h3⟩ := h; exact ⟨gh, b, key _ _ (by simpa [At.below] using hb) h1, h2, h3⟩
  | s id => obtain ⟨gh, h1, h2, h3⟩ := h; exact ⟨gh, key _ _ (by simpa [At.below] using hb) h1, h2, h3⟩
  | e id sz i fo => obtain ⟨gh, a, n, c, h1, h2, h3⟩ := h; exact ⟨gh, a, n, c, key _ _ (by simpa [At.below] using hb) h1, h2, h3⟩
  | n id sz i fo => obtain ⟨gh, h1, h2, h3⟩ := h; exact ⟨gh, key _ _ (by simpa [At.below] using hb) h1, h2, h3⟩
  | _ => exact h
theorem cL.cut {g : List Gh} {V : View} {cs : List At} {l : List Value} {n : Nat} (h : cL g V cs l) (hb : cs.all (·.below n) = true) : cL (g.take n) V cs l :=
  ⟨h.1, fun k a y h1 h2 => (h.2 k a y h1 h2).cut (List.all_eq_true.1 hb a (List.mem_of_getElem? h1))⟩
theorem cSV.cut {g : List Gh} {V : View} {s : SV} {y : Value} {n : Nat} (h : cSV g V s y) (hb : s.below n = true) : cSV (g.take n) V s y := by
  cases s with
  | o a => exact cAt.cut h hb
  | g cs => obtain ⟨l, h1, h2⟩ := h; exact ⟨l, h1, h2.cut hb⟩
  | t l =>
    obtain ⟨ys, h1, h2, h3⟩ := h
    refine ⟨ys, h1, h2, fun k b cs v hk hl => ?_⟩
    have hc : cs.all (·.below n) = true := List.all_eq_true.1 hb _ (List.mem_of_getElem? hk)
    have := h3 k b cs v hk hl
    cases b
    · simp only [Bool.false_eq_true, if_false] at this ⊢; exact this.cut hc
    · simp only [if_true] at this ⊢; obtain ⟨m, e, hm⟩ := this; exact ⟨m, e, hm.cut hc⟩

/-- Forgetting keeps the relation (what stays must not lean on what is dropped). -/
theorem Rel.forget {C : Ctx} {g : List Gh} {V : View} {st st' : St} {a : Act} {w : World} (k : Rel C g V st a w) (h : st.le st')
    (hb : (st'.t.all (·.below st'.h.length) && st'.h.all (·.below st'.h.length)) = true) : Rel C (g.take st'.h.length) V st' a w := by
  obtain ⟨ht, hh⟩ := h
  obtain ⟨e1, q1⟩ := ht.get
  obtain ⟨e2, q2⟩ := hh.get
  rw [Bool.and_eq_true] at hb
  obtain ⟨hb1, hb2⟩ := hb
  have kg : ∀ (i : Nat) (x : Gh), (g.take st'.h.length)[i]? = some x → g[i]? = some x := fun i x h => by
    rw [List.getElem?_take] at h; split at h <;> simp_all
  have own : ∀ (i : Nat) (b : HB) (x : Gh), st'.h[i]? = some b → (g.take st'.h.length)[i]? = some x → b = .gone ∨ st.h[i]? = some b := fun i b x h1 _ => q2 i b h1
  refine ⟨⟨by rw [k.sl.size, e1], fun i s y h1 h2 => ?_, k.sl.defers⟩, ⟨by simp [k.hp.glen]; omega, ?_, ?_, ?_, ?_, ?_⟩, k.mod, k.fr, k.vw⟩
  · rcases q1 i s h1 with rfl | h
    · trivial
    · exact (k.sl.slot i s y h h2).cut (List.all_eq_true.1 hb1 s (List.mem_of_getElem? h1))
  · intro i b x h1 h2
    rcases own i b x h1 h2 with rfl | h
    · trivial
    · have := k.hp.hb i b x h (kg i x h2)
      cases b with
      | box ty cs => obtain ⟨b, l, h1', h2', h3'⟩ := this; exact ⟨b, l, h1', h2', h3'.cut (List.all_eq_true.1 hb2 _ (List.mem_of_getElem? h1))⟩
      | row ty sz rows lin => exact this
      | frz rows lin => exact this
      | gone => trivial
      | own tag sz rows => exact this
  · intro i b x h1 h2
    rcases own i b x h1 h2 with rfl | h
    · simp [ownB]
    · exact k.hp.nd i b x h (kg i x h2)
  · intro i j b b' x x' hij h1 h2 h3 h4 n hn
    rcases own i b x h1 h2 with rfl | h
    · simp [ownB] at hn
    · rcases own j b' x' h3 h4 with rfl | h'
      · simp [ownB]
      · exact k.hp.dj i j b b' x x' hij h (kg i x h2) h' (kg j x' h4) n hn
  · intro i b x h1 h2 n hn
    rcases own i b x h1 h2 with rfl | h
    · simp [ownB] at hn
    · exact k.hp.lo i b x h (kg i x h2) n hn
  · intro i b x h1 h2 n hn
    rcases own i b x h1 h2 with rfl | h
    · simp [rootB] at hn
    · exact k.hp.rt i b x h (kg i x h2) n hn

end Go.Sx
