/- Joined texts. -/
import Derived.WalkKit
set_option linter.all false
section
section
set_option linter.all false
namespace Go.Sx
open Go Go.RowKit
abbrev View := Nat → Option (List Value)
def View.cell (V : View) (a : Addr) : Option Value := if a.spot.isSome then none else (V a.block).bind (·[a.off]?)
def View.le (V V' : View) : Prop := ∀ b cs, V b = some cs → ∃ cs', V' b = some cs' ∧ cs <+: cs'
theorem View.le.refl (V : View) : V.le V := fun _ cs h => ⟨cs, h, List.prefix_refl _⟩
theorem View.le.trans {A B C : View} (h : A.le B) (k : B.le C) : A.le C := fun b cs hb => by
 obtain ⟨cs', h1, p1⟩ := h b cs hb
 obtain ⟨cs'', h2, p2⟩ := k b cs' h1
 exact ⟨cs'', h2, p1.trans p2⟩
theorem fQ {α : Type} {l l' : List α} (h : l <+: l') {i : Nat} {x : α} (hx : l[i]? = some x) : l'[i]? = some x := by
 obtain ⟨t, rfl⟩ := h
 rw [List.getElem?_append_left (List.getElem?_eq_some_iff.1 hx).1]
 exact hx
theorem View.le.cell {V V' : View} (h : V.le V') {a : Addr} {y : Value} (hc : V.cell a = some y) : V'.cell a = some y := by
 unfold View.cell at hc ⊢
 split at hc
 ·cases hc
 ·rename_i hs
  rw [if_neg hs]
  cases hb : V a.block with
  | none => simp [hb] at hc
  | some cs =>
   obtain ⟨cs', h1, p1⟩ := h _ _ hb
   rw [hb] at hc
   rw [h1]
   exact fQ p1 hc
inductive D where
 | v (x : Value)
 | sl (rows : List (List D))
def scalar : Value → Bool
 | .int .. | .bool _ | .string _ | .slice .. => true
 | _ => false
inductive Lay (V : View) : D → Value → List Nat → Prop
 | v (x : Value) (h : scalar x = true) : Lay V (.v x) x []
 | nil : Lay V (.sl []) (.slice none 0 0) []
 | sl (rows : List (List D)) (a : Addr) (cap sz : Nat) (ys : List Value) (Ss : List (List Nat))
     (hsz : ∀ r ∈ rows, r.length = sz) (hcap : rows.length ≤ cap) (hmax : cap ≤ maxLen)
     (hy : ys.length = rows.flatten.length) (hS : Ss.length = rows.flatten.length)
     (hc : ∀ (k : Nat) (y : Value), ys[k]? = some y → V.cell (a.add k) = some y)
     (hl : ∀ (k : Nat) (d : D) (y : Value) (S : List Nat), rows.flatten[k]? = some d → ys[k]? = some y → Ss[k]? = some S → Lay V d y S) :
     Lay V (.sl rows) (.slice (some a) rows.length cap) ((if rows.isEmpty then [] else [a.block]) ++ Ss.flatten)
theorem Lay.mono {V V' : View} {d : D} {y : Value} {S : List Nat} (h : Lay V d y S) (hv : V.le V') : Lay V' d y S := by
 induction h with
 | v x h => exact .v x h
 | nil => exact .nil
 | sl rows a cap sz ys Ss hsz hcap hmax hy hS hc hl ih => exact .sl rows a cap sz ys Ss hsz hcap hmax hy hS (fun k y h => hv.cell (hc k y h)) (fun k d y S h1 h2 h3 => ih k d y S h1 h2 h3)
theorem a0d (a : Addr) (n : Nat) : (a.add n).block = a.block := by unfold Addr.add; split <;> rfl
theorem yH (a : Addr) (i j : Nat) : (a.add i).add j = a.add (i + j) := by
 unfold Addr.add
 by_cases hi : i = 0 <;> by_cases hj : j = 0 <;> simp [hi, hj, Nat.add_assoc]
theorem Lay.restrict {V V' : View} {d : D} {y : Value} {S : List Nat} (h : Lay V d y S) (hv : ∀ b ∈ S, ∀ cs, V b = some cs → ∃ cs', V' b = some cs' ∧ cs <+: cs') : Lay V' d y S := by
 induction h with
 | v x h => exact .v x h
 | nil => exact .nil
 | sl rows a cap sz ys Ss hsz hcap hmax hy hS hc hl ih =>
  refine .sl rows a cap sz ys Ss hsz hcap hmax hy hS (fun k y h => ?_) (fun k d y S h1 h2 h3 => ih k d y S h1 h2 h3 fun b hb => hv b (List.mem_append.2 (.inr (List.mem_flatten.2 ⟨S, List.mem_of_getElem? h3, hb⟩))))
  have hne : rows.isEmpty = false := by
   cases rows with
   | nil => simp at hy; subst hy; simp at h
   | cons => rfl
  rw [hne] at hv
  have hc' := hc k y h
  unfold View.cell at hc' ⊢
  split at hc'
  ·cases hc'
  ·rename_i hs
   rw [if_neg hs]
   rw [a0d] at hc' ⊢
   cases hb : V a.block with
   | none => simp [hb] at hc'
   | some cs =>
    obtain ⟨cs', h1, p1⟩ := hv a.block (by simp) _ hb
    rw [hb] at hc'
    rw [h1]
    exact fQ p1 hc'
theorem Lay.oneCell {V : View} {d : D} {y : Value} {S : List Nat} (h : Lay V d y S) : y.oneCell' = true := by
 cases h with
 | v _ h => cases y <;> simp_all [scalar, Value.oneCell']
 | nil => rfl
 | sl => rfl
def QC (V : View) (p : Addr) (cs : List D) : Prop := ∀ (j : Nat) (d : D), cs[j]? = some d → ∃ z S, V.cell (p.add j) = some z ∧ Lay V d z S
theorem QC.mono {V V' : View} {p : Addr} {cs : List D} (h : QC V p cs) (hv : V.le V') : QC V' p cs := fun j d hj => by
 obtain ⟨z, S, h1, h2⟩ := h j d hj
 exact ⟨z, S, hv.cell h1, h2.mono hv⟩
theorem QC.drop {V : View} {p : Addr} {cs : List D} (h : QC V p cs) (n : Nat) : QC V (p.add n) (cs.drop n) := fun j d hj => by
 rw [List.getElem?_drop] at hj
 obtain ⟨z, S, h1, h2⟩ := h _ _ hj
 exact ⟨z, S, by rw [yH]; exact h1, h2⟩
inductive At where
 | u                                        -- unknown
 | d (x : D)                                -- pure data
 | z                                        -- a nil slice
 | p (id off : Nat)                         -- a pointer into box 'id'
 | r (id sz i fo : Nat)                     -- a pointer into row 'id': element i, cell fo of it
 | s (id : Nat)                             -- the slice of row 'id'
 | q (cs : List D)                          -- a pointer to cells that do not change any more
 | f (fn : Nat) (caps : List (List D))      -- a function value; it captured pointers to such cells
 | w (ty sz : Nat) (rows : List (List D))   -- of a result: a slice in new memory, nobody else's
 | e (id sz i fo : Nat)                     -- a pointer into the owned tree 'id': element i, cell fo
 | n (id sz i fo : Nat)                     -- the slice that lies in that cell
 | m (ty sz : Nat) (rows : List (List D))   -- of a result: a slice in new memory; what its elements lead to may be others' too
inductive SV where
 | o (a : At)
 | g (cs : List At)
 | t (l : List (Bool × List At))
inductive HB where
 | box (ty : Nat) (cs : List At)
 | row (ty sz : Nat) (rows : List (List D)) (lin : Bool)     -- a slice that it may still write
 | frz (rows : List (List D)) (lin : Bool)                    -- one that nobody writes any more
 | gone
 | own (tag : Option (Value × List Nat × List Value)) (sz : Nat) (rows : List (List D))   -- a slice with all that it leads to, nobody else's, in no view
 | pin (b ty : Nat) (ds : List D)   -- the caller's block b, lent to be written; plain data lie in it
 | isv (id : Nat) (v : Value)   -- no block: the block 'id' is the slice of this value
 | pool (ty sz : Nat) (items : List (Value × List (List Value)))   -- slices known by their values, each in memory of its own; the cells that lie in them
structure St where
 t : List SV
 h : List HB
structure Gh where
 blk : Option Nat
 val : Value
 tr : List Nat
 hd : List Value
def cAt (g : List Gh) (V : View) : At → Value → Prop
 | .u, _ => True
 | .d x, y => ∃ S, Lay V x y S
 | .z, y => y = .slice none 0 0
 | .p id off, y => ∃ gh b, g[id]? = some gh ∧ gh.blk = some b ∧ y = .pointer (some ⟨b, off, none⟩)
 | .r id sz i fo, y => ∃ gh b, g[id]? = some gh ∧ gh.blk = some b ∧ y = .pointer (some ⟨b, i * sz + fo, none⟩)
 | .s id, y => ∃ gh, g[id]? = some gh ∧ y = gh.val ∧ y.oneCell' = true
 | .q cs, y => ∃ p, y = .pointer (some p) ∧ QC V p cs
 | .f fn caps, y => ∃ l : List Value, y = .func (.func fn) #[] l.toArray ∧ l.length = caps.length ∧ ∀ (k : Nat) (c : List D) (v : Value), caps[k]? = some c → l[k]? = some v → ∃ p, v = .pointer (some p) ∧ QC V p c
 | .w .., _ => False
 | .m .., _ => False
 | .e id sz i fo, y => ∃ gh a n c, g[id]? = some gh ∧ gh.val = .slice (some a) n c ∧ y = .pointer (some (a.add (i * sz + fo)))
 | .n id sz i fo, y => ∃ gh, g[id]? = some gh ∧ gh.hd[i * sz + fo]? = some y ∧ y.oneCell' = true
def At.isU : At → Bool | .u => true | _ => false
theorem cAt.oneCell {g : List Gh} {V : View} {a : At} {y : Value} (h : cAt g V a y) (ha : a.isU = false) : y.oneCell' = true := by
 cases a with
 | u => simp [At.isU] at ha
 | d x => obtain ⟨S, h⟩ := h; exact h.oneCell
 | z => cases h; rfl
 | p id off => obtain ⟨_, _, _, _, rfl⟩ := h; rfl
 | r id sz i fo => obtain ⟨_, _, _, _, rfl⟩ := h; rfl
 | s id => obtain ⟨_, _, rfl, h⟩ := h; exact h
 | q cs => obtain ⟨_, rfl, _⟩ := h; rfl
 | f fn caps => obtain ⟨_, rfl, _⟩ := h; rfl
 | w ty sz rows => exact h.elim
 | m ty sz rows => exact h.elim
 | e id sz i fo => obtain ⟨_, _, _, _, _, _, rfl⟩ := h; rfl
 | n id sz i fo => obtain ⟨_, _, _, h⟩ := h; exact h
def GLe (g g' : List Gh) : Prop := ∀ (i : Nat) (x : Gh), g[i]? = some x → ∃ x' : Gh, g'[i]? = some x' ∧ x'.blk = x.blk ∧ x'.val = x.val ∧ x'.hd = x.hd
theorem cAt.mono {g g' : List Gh} {V V' : View} {a : At} {y : Value} (h : cAt g V a y) (hg : GLe g g') (hv : V.le V') : cAt g' V' a y := by
 cases a with
 | u => trivial
 | d x => obtain ⟨S, h⟩ := h; exact ⟨S, h.mono hv⟩
 | z => exact h
 | p id off => obtain ⟨gh, b, h1, h2, h3⟩ := h; obtain ⟨x', e1, e2, e3, _⟩ := hg _ _ h1; exact ⟨x', b, e1, e2.trans h2, h3⟩
 | r id sz i fo => obtain ⟨gh, b, h1, h2, h3⟩ := h; obtain ⟨x', e1, e2, e3, _⟩ := hg _ _ h1; exact ⟨x', b, e1, e2.trans h2, h3⟩
 | s id => obtain ⟨gh, h1, h2, h3⟩ := h; obtain ⟨x', e1, e2, e3, _⟩ := hg _ _ h1; exact ⟨x', e1, h2.trans e3.symm, h3⟩
 | q cs => obtain ⟨p, h1, h2⟩ := h; exact ⟨p, h1, h2.mono hv⟩
 | f fn caps => obtain ⟨l, h1, h2, h3⟩ := h; exact ⟨l, h1, h2, fun k c v hk hl => by obtain ⟨p, e, q⟩ := h3 k c v hk hl; exact ⟨p, e, q.mono hv⟩⟩
 | w ty sz rows => exact h
 | m ty sz rows => exact h
 | e id sz i fo => obtain ⟨gh, a, n, c, h1, h2, h3⟩ := h; obtain ⟨x', e1, e2, e3, _⟩ := hg _ _ h1; exact ⟨x', a, n, c, e1, e3.trans h2, h3⟩
 | n id sz i fo => obtain ⟨gh, h1, h2, h3⟩ := h; obtain ⟨x', e1, _, _, e4⟩ := hg _ _ h1; exact ⟨x', e1, by rw [e4]; exact h2, h3⟩
def cL (g : List Gh) (V : View) (cs : List At) (l : List Value) : Prop := l.length = cs.length ∧ ∀ (k : Nat) (a : At) (y : Value), cs[k]? = some a → l[k]? = some y → cAt g V a y
theorem cL.mono {g g' : List Gh} {V V' : View} {cs : List At} {l : List Value} (h : cL g V cs l) (hg : GLe g g') (hv : V.le V') : cL g' V' cs l :=
 ⟨h.1, fun k a y h1 h2 => (h.2 k a y h1 h2).mono hg hv⟩
theorem cL.nil (g : List Gh) (V : View) : cL g V [] [] := ⟨rfl, fun k a y h => by simp at h⟩
theorem cL.cons {g : List Gh} {V : View} {a : At} {y : Value} {cs : List At} {l : List Value} (h : cAt g V a y) (hs : cL g V cs l) : cL g V (a :: cs) (y :: l) :=
 ⟨by simp [hs.1], fun k => by
  cases k with
  | zero => intro a' y' h1 h2; simp at h1 h2; subst h1; subst h2; exact h
  | succ k => intro a' y' h1 h2; simp at h1 h2; exact hs.2 k a' y' h1 h2⟩
theorem cL.cons_inv {g : List Gh} {V : View} {a : At} {cs : List At} {l : List Value} (h : cL g V (a :: cs) l) : ∃ y l', l = y :: l' ∧ cAt g V a y ∧ cL g V cs l' := by
 cases l with
 | nil => have := h.1; simp at this
 | cons y l' => exact ⟨y, l', rfl, h.2 0 a y rfl rfl, by have := h.1; simpa using this, fun k a' y' h1 h2 => h.2 (k + 1) a' y' (by simpa using h1) (by simpa using h2)⟩
theorem cL.nil_inv {g : List Gh} {V : View} {l : List Value} (h : cL g V [] l) : l = [] := List.eq_nil_of_length_eq_zero h.1
theorem cL.drop {g : List Gh} {V : View} {cs : List At} {l : List Value} (h : cL g V cs l) (n : Nat) : cL g V (cs.drop n) (l.drop n) :=
 ⟨by simp [h.1], fun k a y h1 h2 => by rw [List.getElem?_drop] at h1 h2; exact h.2 _ a y h1 h2⟩
theorem cL.take {g : List Gh} {V : View} {cs : List At} {l : List Value} (h : cL g V cs l) (n : Nat) : cL g V (cs.take n) (l.take n) :=
 ⟨by simp [h.1], fun k a y h1 h2 => by
  rw [List.getElem?_take] at h1 h2
  split at h1
  ·rw [if_pos ‹_›] at h2; exact h.2 _ a y h1 h2
  ·cases h1⟩
theorem cL.append {g : List Gh} {V : View} {cs cs' : List At} {l l' : List Value} (h : cL g V cs l) (h' : cL g V cs' l') : cL g V (cs ++ cs') (l ++ l') :=
 ⟨by simp [h.1, h'.1], fun k a y h1 h2 => by
  rw [List.getElem?_append] at h1 h2
  rw [h.1] at h2
  split at h1
  ·rw [if_pos ‹_›] at h2; exact h.2 _ a y h1 h2
  ·rw [if_neg ‹_›] at h2; exact h'.2 _ a y h1 h2⟩
def a0U (agg : Bool) (cs : List At) : SV := if agg then .g cs else match cs with | [a] => .o a | _ => .o .u
def cSV (g : List Gh) (V : View) : SV → Value → Prop
 | .o a, y => cAt g V a y
 | .g cs, y => ∃ l : List Value, y = .agg l.toArray ∧ cL g V cs l
 | .t l, y => ∃ ys : List Value, y = .tuple ys.toArray ∧ ys.length = l.length ∧ ∀ (k : Nat) (b : Bool) (cs : List At) (v : Value), l[k]? = some (b, cs) → ys[k]? = some v →
     if b then ∃ m : List Value, v = .agg m.toArray ∧ cL g V cs m else cL g V cs [v]
theorem cSV.mono {g g' : List Gh} {V V' : View} {s : SV} {y : Value} (h : cSV g V s y) (hg : GLe g g') (hv : V.le V') : cSV g' V' s y := by
 cases s with
 | o a => exact cAt.mono h hg hv
 | g cs => obtain ⟨l, h1, h2⟩ := h; exact ⟨l, h1, h2.mono hg hv⟩
 | t l =>
  obtain ⟨ys, h1, h2, h3⟩ := h
  refine ⟨ys, h1, h2, fun k b cs v hk hl => ?_⟩
  have := h3 k b cs v hk hl
  cases b
  ·simp only [Bool.false_eq_true, if_false] at this ⊢; exact this.mono hg hv
  ·simp only [if_true] at this ⊢; obtain ⟨m, e, hm⟩ := this; exact ⟨m, e, hm.mono hg hv⟩
end Go.Sx
end
section
set_option linter.all false
namespace Go.Sx
open Go Go.RowKit
def Mod (V : View) (w : World) : Prop := ∀ b cs, V b = some cs → ∃ c ty fz, w.heap[b]? = some (.cells c ty fz) ∧ cs <+: c.toList
theorem Mod.lt {V : View} {w : World} (h : Mod V w) {b : Nat} {cs : List Value} (hb : V b = some cs) : b < w.heap.size := by
 obtain ⟨c, ty, fz, h1, _⟩ := h b cs hb
 exact (Array.getElem?_eq_some_iff.1 h1).1
theorem Mod.cell {V : View} {w : World} (h : Mod V w) {a : Addr} {y : Value} (hc : V.cell a = some y) : w.cell? a = some y := by
 unfold View.cell at hc
 split at hc
 ·cases hc
 ·rename_i hs
  cases hb : V a.block with
  | none => simp [hb] at hc
  | some cs =>
   obtain ⟨c, ty, fz, h1, p1⟩ := h _ _ hb
   rw [hb] at hc
   have := fQ p1 hc
   simp only [World.cell?, h1, hs]
   simpa using this
def LayL (V : View) (ds : List D) (ys : List Value) (Ss : List (List Nat)) : Prop :=
 ys.length = ds.length ∧ Ss.length = ds.length ∧ ∀ (k : Nat) (d : D) (y : Value) (S : List Nat), ds[k]? = some d → ys[k]? = some y → Ss[k]? = some S → Lay V d y S
theorem LayL.mono {V V' : View} {ds : List D} {ys : List Value} {Ss : List (List Nat)} (h : LayL V ds ys Ss) (hv : V.le V') : LayL V' ds ys Ss :=
 ⟨h.1, h.2.1, fun k d y S h1 h2 h3 => (h.2.2 k d y S h1 h2 h3).mono hv⟩
theorem LayL.nil (V : View) : LayL V [] [] [] := ⟨rfl, rfl, fun k d y S h => by simp at h⟩
theorem LayL.append {V : View} {ds ds' : List D} {ys ys' : List Value} {Ss Ss' : List (List Nat)} (h : LayL V ds ys Ss) (h' : LayL V ds' ys' Ss') : LayL V (ds ++ ds') (ys ++ ys') (Ss ++ Ss') :=
 ⟨by simp [h.1, h'.1], by simp [h.2.1, h'.2.1], fun k d y S h1 h2 h3 => by
  rw [List.getElem?_append] at h1 h2 h3
  rw [h.1] at h2
  rw [h.2.1] at h3
  split at h1
  ·rw [if_pos ‹_›] at h2 h3; exact h.2.2 k d y S h1 h2 h3
  ·rw [if_neg ‹_›] at h2 h3; exact h'.2.2 _ d y S h1 h2 h3⟩
theorem LayL.oneCell {V : View} {ds : List D} {ys : List Value} {Ss : List (List Nat)} (h : LayL V ds ys Ss) : ∀ u ∈ ys, u.oneCell' = true := by
 intro u hu
 obtain ⟨k, hk, e⟩ := List.mem_iff_getElem.1 hu
 have h1 : ys[k]? = some u := by rw [List.getElem?_eq_getElem hk, e]
 have hd : k < ds.length := by rw [← h.1]; exact hk
 have hs : k < Ss.length := by rw [h.2.1]; exact hd
 exact (h.2.2 k _ u _ (List.getElem?_eq_getElem hd) h1 (List.getElem?_eq_getElem hs)).oneCell
def aY (x : Gh) : HB → List Nat
 | .box .. => x.blk.toList
 | .pin .. => x.blk.toList
 | .pool .. => x.tr
 | .isv .. => []
 | .row .. => x.blk.toList
 | .frz .. => []
 | .gone => []
 | .own .. => x.tr
def Unf (w : World) (b : Nat) : Prop := ∃ c ty, w.heap[b]? = some (.cells c ty (0, 0))
def OwnR (w : World) (sz : Nat) (rows : List (List D)) (y : Value) (S : List Nat) (hd : List Value) : Prop :=
 (∀ r ∈ rows, r.length = sz) ∧ ∃ (U : View) (ys : List Value) (Ss : List (List Nat)), Mod U w ∧ (∀ b cs, U b = some cs → b ∈ S ∧ Unf w b) ∧ LayL U rows.flatten ys Ss ∧
  (∀ (k : Nat) (rs : List (List D)), rows.flatten[k]? = some (.sl rs) → hd[k]? = ys[k]?) ∧
  ((y = .slice none 0 0 ∧ rows = [] ∧ S = []) ∨
   ∃ a cap, y = .slice (some a) rows.length cap ∧ rows.length ≤ cap ∧ cap ≤ maxLen ∧ (∀ (k : Nat) (z : Value), ys[k]? = some z → U.cell (a.add k) = some z) ∧ S = (if rows.isEmpty then [] else [a.block]) ++ Ss.flatten)
theorem OwnR.mono {w w' : World} {sz : Nat} {rows : List (List D)} {y : Value} {S : List Nat} {hd : List Value} (h : OwnR w sz rows y S hd) (hw : ∀ k ∈ S, w'.heap[k]? = w.heap[k]?) : OwnR w' sz rows y S hd := by
 obtain ⟨h0, U, ys, Ss, h1, h2, h3, h4, h5⟩ := h
 exact ⟨h0, U, ys, Ss, fun b cs hb => by obtain ⟨c, ty, fz, e1, e2⟩ := h1 b cs hb; exact ⟨c, ty, fz, by rw [hw b (h2 b cs hb).1]; exact e1, e2⟩, fun b cs hb => ⟨(h2 b cs hb).1, by obtain ⟨c, ty, e⟩ := (h2 b cs hb).2; exact ⟨c, ty, by rw [hw b (h2 b cs hb).1]; exact e⟩⟩, h3, h4, h5⟩
def bls (items : List (Value × List (List Value))) : List Nat := items.flatMap fun p => p.1.ownBlock.toList
structure PoolR (w : World) (ty sz : Nat) (items : List (Value × List (List Value))) (S : List Nat) : Prop where
 nd : (bls items).Nodup
 sub : ∀ b ∈ bls items, b ∈ S
 at_ : ∀ p ∈ items, (∀ r ∈ p.2, r.length = sz) ∧ (∀ r ∈ p.2, ∀ v ∈ r, scalar v = true) ∧ w.ownsRow 0 ty sz p.1 p.2.length p.2.flatten
theorem yI {w w' : World} {base ty sz n : Nat} {v : Value} {xs : List Value} (h : w.ownsRow base ty sz v n xs) (hw : ∀ b ∈ v.ownBlock, w'.heap[b]? = w.heap[b]?) : w'.ownsRow base ty sz v n xs := by
 refine ⟨h.1, ?_⟩
 rcases h.2 with h1 | ⟨g, cap, cur, rfl, h2, h3, h4⟩
 ·exact .inl h1
 ·exact .inr ⟨g, cap, cur, rfl, h2, by rw [hw g rfl]; exact h3, h4⟩
theorem a1k {items : List (Value × List (List Value))} {p : Value × List (List Value)} (hp : p ∈ items) {b : Nat} (hb : b ∈ p.1.ownBlock) : b ∈ bls items :=
 List.mem_flatMap.2 ⟨p, hp, by simpa using hb⟩
theorem PoolR.mono {w w' : World} {ty sz : Nat} {items : List (Value × List (List Value))} {S : List Nat} (h : PoolR w ty sz items S) (hw : ∀ k ∈ S, w'.heap[k]? = w.heap[k]?) : PoolR w' ty sz items S :=
 ⟨h.nd, h.sub, fun p hp => ⟨(h.at_ p hp).1, (h.at_ p hp).2.1, yI (h.at_ p hp).2.2 fun b hb => hw b (h.sub b (a1k hp hb))⟩⟩
def isvOK (x : Gh) : Value → Prop
 | .pointer (some a) => x.blk = some a.block
 | v => x.val = v
theorem isvOK.move {x x' : Gh} {v : Value} (h : isvOK x v) (h1 : x'.blk = x.blk) (h2 : x'.val = x.val) : isvOK x' v := by
 unfold isvOK at *
 split at h
 ·exact h1.trans h
 ·exact h2.trans h
def HBok (g : List Gh) (V : View) (w : World) (x : Gh) : HB → Prop
 | .pin b ty ds => x.blk = some b ∧ ∃ l, w.heap[b]? = some (.cells (List.toArray l) ty (0, 0)) ∧ cL [] V (ds.map At.d) l
 | .pool ty sz items => PoolR w ty sz items x.tr
 | .isv id v => ∃ y, g[id]? = some y ∧ isvOK y v
 | .box ty cs => ∃ b l, x.blk = some b ∧ w.heap[b]? = some (.cells (List.toArray l) ty (0, 0)) ∧ cL g V cs l
 | .row ty sz rows lin => (∀ r ∈ rows, r.length = sz) ∧ ∃ ys Ss, LayL V rows.flatten ys Ss ∧ (lin = true → x.tr = Ss.flatten) ∧
     ((x.blk = none ∧ (∃ ao, x.val = .slice ao 0 0) ∧ rows = []) ∨
      ∃ b cap c, x.blk = some b ∧ x.val = .slice (some ⟨b, 0, none⟩) rows.length cap ∧ rows.length ≤ cap ∧ cap ≤ maxLen ∧ w.heap[b]? = some (.cells c ty (0, 0)) ∧ c.size = cap * sz ∧ ys <+: c.toList)
 | .frz rows lin => x.val.oneCell' = true ∧ ∃ S, Lay V (.sl rows) x.val S ∧ (lin = true → x.tr = S)
 | .gone => True
 | .own tag sz rows => (∀ v S hd, tag = some (v, S, hd) → x.val = v ∧ x.tr = S ∧ x.hd = hd) ∧ OwnR w sz rows x.val x.tr x.hd
theorem HBok.mono {g g' : List Gh} {V V' : View} {w w' : World} {x : Gh} {b : HB} (h : HBok g V w x b) (hg : GLe g g') (hv : V.le V') (hw : ∀ k ∈ aY x b, w'.heap[k]? = w.heap[k]?) : HBok g' V' w' x b := by
 cases b with
 | pin b ty ds => obtain ⟨h1, l, h2, h3⟩ := h; exact ⟨h1, l, by rw [hw b (by simp [aY, h1])]; exact h2, h3.mono (fun _ x h => ⟨x, h, rfl, rfl, rfl⟩) hv⟩
 | box ty cs => obtain ⟨b, l, h1, h2, h3⟩ := h; exact ⟨b, l, h1, by rw [hw b (by simp [aY, h1])]; exact h2, h3.mono hg hv⟩
 | row ty sz rows lin =>
  obtain ⟨h0, ys, Ss, h1, h2, h3⟩ := h
  refine ⟨h0, ys, Ss, h1.mono hv, h2, ?_⟩
  rcases h3 with h3 | ⟨b, cap, c, e1, e2, e3, e4, e5, e6, e7⟩
  ·exact .inl h3
  ·exact .inr ⟨b, cap, c, e1, e2, e3, e4, by rw [hw b (by simp [aY, e1])]; exact e5, e6, e7⟩
 | frz rows lin => obtain ⟨h0, S, h1, h2⟩ := h; exact ⟨h0, S, h1.mono hv, h2⟩
 | gone => trivial
 | own tag sz rows => exact ⟨h.1, h.2.mono hw⟩
 | pool ty sz items => exact PoolR.mono h hw
 | isv id v => obtain ⟨y, h1, h2⟩ := h; obtain ⟨y', k1, k4, k3, _⟩ := hg id y h1; exact ⟨y', k1, h2.move k4 k3⟩
def ownB (x : Gh) : HB → List Nat
 | .box .. => x.blk.toList
 | .pin .. => x.blk.toList
 | .pool .. => x.tr
 | .isv .. => []
 | .row _ _ _ lin => x.blk.toList ++ (if lin then x.tr else [])
 | .frz _ lin => if lin then x.tr else []
 | .gone => []
 | .own .. => x.tr
theorem aZ {x : Gh} {b : HB} {k : Nat} (h : k ∈ aY x b) : k ∈ ownB x b := by
 cases b with
 | box ty cs => exact h
 | pin b ty ds => exact h
 | row ty sz rows lin => exact List.mem_append.2 (.inl h)
 | frz rows lin => simp [aY] at h
 | gone => exact h
 | own tag sz rows => exact h
 | pool ty sz items => exact h
 | isv id v => simp [aY] at h
def b4y : List (Nat × (Array Value → Prop)) := [(4, fun cs => cs = ((List.range 20).map fun i => Value.int .u64 ((10 ^ i : Nat) : Int)).toArray)]
def a5Q : List (Nat × (Array Value → Prop)) := [(0, fun cs => cs = ((List.range 256).map fun i => Value.int .u8 (if i = 9 ∨ i = 10 ∨ i = 11 ∨ i = 12 ∨ i = 13 ∨ i = 32 then 1 else 0)).toArray), (2, fun cs => ∃ te pe, cs = #[.iface te pe]), (1, fun cs => ∃ m, cs[0]? = some (.int .i64 m))]
def b1A : List (Nat × (Array Value → Prop)) := b4y ++ a5Q
def tabOK (w : World) (X : List Nat) : Prop := ∀ t ∈ b1A, t.1 ∉ X ∧ ∃ cs ty fz, w.heap[t.1]? = some (.cells cs ty fz) ∧ t.2 cs
theorem tabOK.lt {w : World} {X : List Nat} (h : tabOK w X) {t : Nat × (Array Value → Prop)} (ht : t ∈ b1A) : t.1 < w.heap.size := by
 obtain ⟨_, cs, ty, fz, h1, _⟩ := h t ht
 exact (Array.getElem?_eq_some_iff.1 h1).1
theorem tabOK.nil {w : World} {X : List Nat} (h : tabOK w X) : tabOK w [] := fun t ht => ⟨by simp, (h t ht).2⟩
structure Ctx where
 w0 : World
 X : List Nat
 V0 : View
 tab : tabOK w0 X
structure Vw (C : Ctx) (V : View) (w : World) : Prop where
 le : C.V0.le V
 fresh : ∀ b cs, V b = some cs → C.V0 b = none → C.w0.heap.size ≤ b ∨ b ∈ C.X
 unf' : ∀ b cs, V b = some cs → C.w0.heap.size ≤ b ∨ b ∈ C.X → Unf w b
theorem Vw.unf {C : Ctx} {V : View} {w : World} (h : Vw C V w) (b : Nat) (cs : List Value) (h1 : V b = some cs) (h2 : C.V0 b = none) : Unf w b := h.unf' b cs h1 (h.fresh b cs h1 h2)
theorem Vw.move {C : Ctx} {V : View} {w w' : World} (h : Vw C V w) (hw : ∀ b cs, V b = some cs → w'.heap[b]? = w.heap[b]?) : Vw C V w' :=
 ⟨h.le, h.fresh, fun b cs h1 h2 => by obtain ⟨c, ty, e⟩ := h.unf' b cs h1 h2; exact ⟨c, ty, by rw [hw b cs h1]; exact e⟩⟩
theorem Vw.grow {C : Ctx} {V V' : View} {w : World} (h : Vw C V w) (hv : V.le V') (hn : ∀ b cs, V' b = some cs → V b = none → (C.w0.heap.size ≤ b ∨ b ∈ C.X) ∧ Unf w b) : Vw C V' w :=
 ⟨h.le.trans hv, fun b cs h1 h2 => by
  cases hc : V b with
  | none => exact (hn b cs h1 hc).1
  | some c => exact h.fresh b c hc h2, fun b cs h1 h2 => by
  cases hc : V b with
  | none => exact (hn b cs h1 hc).2
  | some c => exact h.unf' b c hc h2⟩
theorem Vw.init {w : World} {X : List Nat} {V : View} {htab : tabOK w X} (hm : Mod V w) (hX : ∀ b ∈ X, V b = none) : Vw ⟨w, X, V, htab⟩ V w :=
 ⟨View.le.refl V, (fun b cs h1 h2 => by have h2' : V b = none := h2; rw [h1] at h2'; cases h2'), fun b cs h1 h2 => by
  rcases h2 with h2 | h2
  ·have := hm.lt h1
   have h2 : w.heap.size ≤ b := h2
   omega
  ·rw [hX b h2] at h1; cases h1⟩
structure Fr (C : Ctx) (w : World) : Prop where
 os : w.os = C.w0.os
 tape : w.tape = C.w0.tape
 output : w.output = C.w0.output
 size : C.w0.heap.size ≤ w.heap.size
 block : ∀ k, k < C.w0.heap.size → k ∉ C.X → w.heap[k]? = C.w0.heap[k]?
structure Hp (C : Ctx) (g : List Gh) (V : View) (h : List HB) (w : World) : Prop where
 glen : g.length = h.length
 hb : ∀ (i : Nat) (b : HB) (x : Gh), h[i]? = some b → g[i]? = some x → HBok g V w x b
 nd : ∀ (i : Nat) (b : HB) (x : Gh), h[i]? = some b → g[i]? = some x → (ownB x b).Nodup
 dj : ∀ (i j : Nat) (b b' : HB) (x x' : Gh), i ≠ j → h[i]? = some b → g[i]? = some x → h[j]? = some b' → g[j]? = some x' → ∀ k ∈ ownB x b, k ∉ ownB x' b'
 lo : ∀ (i : Nat) (b : HB) (x : Gh), h[i]? = some b → g[i]? = some x → ∀ k ∈ ownB x b, (C.w0.heap.size ≤ k ∨ k ∈ C.X) ∧ k < w.heap.size
 rt : ∀ (i : Nat) (b : HB) (x : Gh), h[i]? = some b → g[i]? = some x → ∀ k ∈ aY x b, V k = none
structure Sl (g : List Gh) (V : View) (t : List SV) (a : Act) : Prop where
 size : a.tmps.size = t.length
 slot : ∀ (i : Nat) (s : SV) (y : Value), t[i]? = some s → a.tmps[i]? = some y → cSV g V s y
 defers : a.defers = []
structure Rel (C : Ctx) (g : List Gh) (V : View) (st : St) (a : Act) (w : World) : Prop where
 sl : Sl g V st.t a
 hp : Hp C g V st.h w
 mod : Mod V w
 fr : Fr C w
 vw : Vw C V w
theorem Fr.tab {C : Ctx} {w : World} (h : Fr C w) {X : List Nat} (hX : ∀ k ∈ X, C.w0.heap.size ≤ k ∨ k ∈ C.X) : tabOK w X := fun t ht => by
 obtain ⟨h1, h2⟩ := C.tab t ht
 have h3 := C.tab.lt ht
 refine ⟨fun hm => ?_, by rw [h.block _ h3 h1]; exact h2⟩
 rcases hX _ hm with h4 | h4
 ·omega
 ·exact h1 h4
theorem Rel.tab {C : Ctx} {g : List Gh} {V : View} {st : St} {a : Act} {w : World} (h : Rel C g V st a w) : tabOK w [] := h.fr.tab fun k hk => by cases hk
theorem Sl.mono {g g' : List Gh} {V V' : View} {t : List SV} {a : Act} (h : Sl g V t a) (hg : GLe g g') (hv : V.le V') : Sl g' V' t a :=
 ⟨h.size, fun i s y h1 h2 => (h.slot i s y h1 h2).mono hg hv, h.defers⟩
theorem GLe.refl (g : List Gh) : GLe g g := fun _ x h => ⟨x, h, rfl, rfl, rfl⟩
theorem GLe.push (g g' : List Gh) : GLe g (g ++ g') := fun i x h => ⟨x, by
 rw [List.getElem?_append_left (List.getElem?_eq_some_iff.1 h).1]; exact h, rfl, rfl, rfl⟩
theorem GLe.trans {g g' g'' : List Gh} (h : GLe g g') (k : GLe g' g'') : GLe g g'' := fun i x hx => by
 obtain ⟨x', e1, e2, e3, e4⟩ := h i x hx
 obtain ⟨x'', f1, f2, f3, f4⟩ := k i x' e1
 exact ⟨x'', f1, f2.trans e2, f3.trans e3, f4.trans e4⟩
theorem GLe.set {g : List Gh} {id : Nat} {x x' : Gh} (hx : g[id]? = some x) (h1 : x'.blk = x.blk) (h2 : x'.val = x.val) (h3 : x'.hd = x.hd) : GLe g (g.set id x') := fun i y hy => by
 by_cases e : id = i
 ·subst e
  rw [hx] at hy
  cases hy
  exact ⟨x', by rw [List.getElem?_set, if_pos rfl, if_pos (List.getElem?_eq_some_iff.1 hx).1], h1, h2, h3⟩
 ·exact ⟨y, by rw [List.getElem?_set, if_neg e]; exact hy, rfl, rfl, rfl⟩
theorem Sl.put {g : List Gh} {V : View} {t : List SV} {a : Act} (h : Sl g V t a) (d : Nat) {s : SV} {y : Value} (hy : cSV g V s y) : Sl g V (t.set d s) (a.put (some d) y) := by
 refine ⟨by simp [Act.put, h.size], fun i s' y' h1 h2 => ?_, h.defers⟩
 simp only [Act.put, Array.getElem?_setIfInBounds] at h2
 rw [List.getElem?_set] at h1
 by_cases e : d = i
 ·subst e
  simp only [if_true] at h1 h2
  split at h1
  ·rw [if_pos (by rw [h.size]; assumption)] at h2
   cases h1; cases h2; exact hy
  ·cases h1
 ·rw [if_neg e] at h1 h2
  exact h.slot i s' y' h1 h2
theorem Hp.later {C : Ctx} {g : List Gh} {V V' : View} {h : List HB} {w w' : World} (k : Hp C g V h w) (hv : V.le V') (hsz : w.heap.size ≤ w'.heap.size)
    (hw : ∀ (i : Nat) (b : HB) (x : Gh), h[i]? = some b → g[i]? = some x → ∀ n ∈ ownB x b, w'.heap[n]? = w.heap[n]?)
    (hr : ∀ (i : Nat) (b : HB) (x : Gh), h[i]? = some b → g[i]? = some x → ∀ n ∈ aY x b, V' n = none) : Hp C g V' h w' :=
 ⟨k.glen, fun i b x h1 h2 => by
     exact (k.hb i b x h1 h2).mono (GLe.refl g) hv fun n hn => hw i b x h1 h2 n (aZ hn),
  k.nd, k.dj, fun i b x h1 h2 n hn => ⟨(k.lo i b x h1 h2 n hn).1, Nat.lt_of_lt_of_le (k.lo i b x h1 h2 n hn).2 hsz⟩, hr⟩
theorem Hp.push {C : Ctx} {g : List Gh} {V : View} {h : List HB} {w : World} (k : Hp C g V h w) {b : HB} {x : Gh}
    (hb : HBok (g ++ [x]) V w x b) (hnd : (ownB x b).Nodup) (hlo : ∀ n ∈ ownB x b, (C.w0.heap.size ≤ n ∨ n ∈ C.X) ∧ n < w.heap.size)
    (hdj : ∀ (i : Nat) (b' : HB) (x' : Gh), h[i]? = some b' → g[i]? = some x' → ∀ n ∈ ownB x' b', n ∉ ownB x b) (hrt : ∀ n ∈ aY x b, V n = none) : Hp C (g ++ [x]) V (h ++ [b]) w := by
 have key : ∀ (i : Nat) (b' : HB) (x' : Gh), (h ++ [b])[i]? = some b' → (g ++ [x])[i]? = some x' → (h[i]? = some b' ∧ g[i]? = some x') ∨ (i = h.length ∧ b' = b ∧ x' = x) := by
  intro i b' x' h1 h2
  rcases Nat.lt_trichotomy i h.length with hl | hl | hl
  ·left
   rw [List.getElem?_append_left hl] at h1
   rw [List.getElem?_append_left (by rw [k.glen]; exact hl)] at h2
   exact ⟨h1, h2⟩
  ·right
   subst hl
   rw [List.getElem?_append_right (Nat.le_refl _)] at h1
   rw [List.getElem?_append_right (by rw [k.glen]; exact Nat.le_refl _)] at h2
   simp [k.glen] at h1 h2
   exact ⟨rfl, h1.symm, h2.symm⟩
  ·rw [List.getElem?_eq_none (by simp; omega)] at h1
   cases h1
 refine ⟨by simp [k.glen], ?_, ?_, ?_, ?_, ?_⟩
 ·intro i b' x' h1 h2
  rcases key i b' x' h1 h2 with ⟨e1, e2⟩ | ⟨_, rfl, rfl⟩
  ·exact (k.hb i b' x' e1 e2).mono (GLe.push _ _) (View.le.refl V) fun _ _ => rfl
  ·exact hb
 ·intro i b' x' h1 h2
  rcases key i b' x' h1 h2 with ⟨e1, e2⟩ | ⟨_, rfl, rfl⟩
  ·exact k.nd i b' x' e1 e2
  ·exact hnd
 ·intro i j b1 b2 x1 x2 hij h1 h2 h3 h4 n hn
  rcases key i b1 x1 h1 h2 with ⟨e1, e2⟩ | ⟨q, rfl, rfl⟩
  ·rcases key j b2 x2 h3 h4 with ⟨e3, e4⟩ | ⟨_, rfl, rfl⟩
   ·exact k.dj i j b1 b2 x1 x2 hij e1 e2 e3 e4 n hn
   ·exact hdj i b1 x1 e1 e2 n hn
  ·rcases key j b2 x2 h3 h4 with ⟨e3, e4⟩ | ⟨q', _, _⟩
   ·exact fun hn' => hdj j b2 x2 e3 e4 n hn' hn
   ·exact (hij (q.trans q'.symm)).elim
 ·intro i b' x' h1 h2
  rcases key i b' x' h1 h2 with ⟨e1, e2⟩ | ⟨_, rfl, rfl⟩
  ·exact k.lo i b' x' e1 e2
  ·exact hlo
 ·intro i b' x' h1 h2
  rcases key i b' x' h1 h2 with ⟨e1, e2⟩ | ⟨_, rfl, rfl⟩
  ·exact k.rt i b' x' e1 e2
  ·exact hrt
theorem Hp.set {C : Ctx} {g : List Gh} {V : View} {h : List HB} {w w' : World} (k : Hp C g V h w) (id : Nat) {b b' : HB} {x : Gh} (h1 : h[id]? = some b) (h2 : g[id]? = some x)
    (hown : ∀ n ∈ ownB x b', n ∈ ownB x b) (hnd : (ownB x b').Nodup) (hroot : ∀ n ∈ aY x b', n ∈ aY x b) (hb : HBok g V w' x b')
    (hw : ∀ n, n ∉ aY x b → w'.heap[n]? = w.heap[n]?) (hsz : w'.heap.size = w.heap.size) : Hp C g V (h.set id b') w' := by
 have key : ∀ (i : Nat) (c : HB) (y : Gh), (h.set id b')[i]? = some c → g[i]? = some y → (i ≠ id ∧ h[i]? = some c) ∨ (i = id ∧ c = b' ∧ y = x) := by
  intro i c y e1 e2
  rw [List.getElem?_set] at e1
  by_cases e : id = i
  ·subst e
   simp only [if_true] at e1
   split at e1
   ·cases e1; rw [h2] at e2; cases e2; exact .inr ⟨rfl, rfl, rfl⟩
   ·cases e1
  ·rw [if_neg e] at e1
   exact .inl ⟨fun h => e h.symm, e1⟩
 refine ⟨by simp [k.glen], ?_, ?_, ?_, ?_, ?_⟩
 ·intro i c y e1 e2
  rcases key i c y e1 e2 with ⟨hne, e⟩ | ⟨_, rfl, rfl⟩
  ·exact (k.hb i c y e e2).mono (GLe.refl g) (View.le.refl V) fun n hn => hw n fun hr => k.dj i id c b y x hne e e2 h1 h2 n (aZ hn) (aZ hr)
  ·exact hb
 ·intro i c y e1 e2
  rcases key i c y e1 e2 with ⟨_, e⟩ | ⟨_, rfl, rfl⟩
  ·exact k.nd i c y e e2
  ·exact hnd
 ·intro i j c c' y y' hij e1 e2 e3 e4 n hn
  rcases key i c y e1 e2 with ⟨ni, e⟩ | ⟨rfl, rfl, rfl⟩
  ·rcases key j c' y' e3 e4 with ⟨nj, e'⟩ | ⟨rfl, rfl, rfl⟩
   ·exact k.dj i j c c' y y' hij e e2 e' e4 n hn
   ·exact fun hn' => k.dj i j c b y y' hij e e2 h1 h2 n hn (hown n hn')
  ·rcases key j c' y' e3 e4 with ⟨nj, e'⟩ | ⟨rfl, _, _⟩
   ·exact k.dj i j b c' y y' hij h1 h2 e' e4 n (hown n hn)
   ·exact (hij rfl).elim
 ·intro i c y e1 e2 n hn
  rw [hsz]
  rcases key i c y e1 e2 with ⟨_, e⟩ | ⟨_, rfl, rfl⟩
  ·exact k.lo i c y e e2 n hn
  ·exact k.lo id b y h1 h2 n (hown n hn)
 ·intro i c y e1 e2 n hn
  rcases key i c y e1 e2 with ⟨_, e⟩ | ⟨_, rfl, rfl⟩
  ·exact k.rt i c y e e2 n hn
  ·exact k.rt id b y h1 h2 n (hroot n hn)
theorem Hp.swap {C : Ctx} {g : List Gh} {V V' : View} {h : List HB} {w w' : World} (k : Hp C g V h w) (id : Nat) {b b' : HB} {x x' : Gh} (h1 : h[id]? = some b) (h2 : g[id]? = some x)
    (hblk : x'.blk = x.blk) (hval : x'.val = x.val) (hhd : x'.hd = x.hd) (hv : V.le V') (hown : ∀ n ∈ ownB x' b', n ∈ ownB x b ∨ (w.heap.size ≤ n ∧ n < w'.heap.size)) (hnd : (ownB x' b').Nodup) (hroot : ∀ n ∈ aY x' b', V' n = none) (hb : HBok (g.set id x') V' w' x' b')
    (hw : ∀ n, n < w.heap.size → n ∉ aY x b → w'.heap[n]? = w.heap[n]?) (hsz : w.heap.size ≤ w'.heap.size) (hfr : C.w0.heap.size ≤ w.heap.size)
    (hV : ∀ n, n ∉ ownB x b → n < w.heap.size → V n = none → V' n = none) : Hp C (g.set id x') V' (h.set id b') w' := by
 have key : ∀ (i : Nat) (c : HB) (y : Gh), (h.set id b')[i]? = some c → (g.set id x')[i]? = some y → (i ≠ id ∧ h[i]? = some c ∧ g[i]? = some y) ∨ (i = id ∧ c = b' ∧ y = x') := by
  intro i c y e1 e2
  rw [List.getElem?_set] at e1 e2
  by_cases e : id = i
  ·subst e
   simp only [if_true] at e1 e2
   split at e1
   ·split at e2
    ·cases e1; cases e2; exact .inr ⟨rfl, rfl, rfl⟩
    ·cases e2
   ·cases e1
  ·rw [if_neg e] at e1 e2
   exact .inl ⟨fun h => e h.symm, e1, e2⟩
 have hg := GLe.set (x' := x') h2 hblk hval hhd
 refine ⟨by simp [k.glen], ?_, ?_, ?_, ?_, ?_⟩
 ·intro i c y e1 e2
  rcases key i c y e1 e2 with ⟨hne, e, e'⟩ | ⟨_, rfl, rfl⟩
  ·exact (k.hb i c y e e').mono hg hv fun n hn => hw n (k.lo i c y e e' n (aZ hn)).2 fun hr => k.dj i id c b y x hne e e' h1 h2 n (aZ hn) (aZ hr)
  ·exact hb
 ·intro i c y e1 e2
  rcases key i c y e1 e2 with ⟨_, e, e'⟩ | ⟨_, rfl, rfl⟩
  ·exact k.nd i c y e e'
  ·exact hnd
 ·intro i j c c' y y' hij e1 e2 e3 e4 n hn
  rcases key i c y e1 e2 with ⟨ni, e, e'⟩ | ⟨rfl, rfl, rfl⟩
  ·rcases key j c' y' e3 e4 with ⟨nj, f, f'⟩ | ⟨rfl, rfl, rfl⟩
   ·exact k.dj i j c c' y y' hij e e' f f' n hn
   ·intro hn'
    rcases hown n hn' with ho | ho
    ·exact k.dj i j c b y x hij e e' h1 h2 n hn ho
    ·have := (k.lo i c y e e' n hn).2; omega
  ·rcases key j c' y' e3 e4 with ⟨nj, f, f'⟩ | ⟨rfl, _, _⟩
   ·intro hn'
    rcases hown n hn with ho | ho
    ·exact k.dj i j b c' x y' hij h1 h2 f f' n ho hn'
    ·have := (k.lo j c' y' f f' n hn').2; omega
   ·exact (hij rfl).elim
 ·intro i c y e1 e2 n hn
  rcases key i c y e1 e2 with ⟨_, e, e'⟩ | ⟨_, rfl, rfl⟩
  ·exact ⟨(k.lo i c y e e' n hn).1, Nat.lt_of_lt_of_le (k.lo i c y e e' n hn).2 hsz⟩
  ·rcases hown n hn with ho | ho
   ·exact ⟨(k.lo id b x h1 h2 n ho).1, Nat.lt_of_lt_of_le (k.lo id b x h1 h2 n ho).2 hsz⟩
   ·exact ⟨.inl (by omega), ho.2⟩
 ·intro i c y e1 e2 n hn
  rcases key i c y e1 e2 with ⟨hne, e, e'⟩ | ⟨_, rfl, rfl⟩
  ·exact hV n (fun ho => k.dj i id c b y x hne e e' h1 h2 n (aZ hn) ho) (k.lo i c y e e' n (aZ hn)).2 (k.rt i c y e e' n hn)
  ·exact hroot n hn
theorem Hp.swapG {C : Ctx} {g : List Gh} {V : View} {h : List HB} {w w' : World} (k : Hp C g V h w) (id : Nat) {b b' : HB} {x x' : Gh} (h1 : h[id]? = some b) (h2 : g[id]? = some x)
    (hblk : x'.blk = x.blk) (hval : x'.val = x.val) (hhd : x'.hd = x.hd)
    (hown : ∀ n ∈ ownB x' b', n ∈ ownB x b ∨ (((C.w0.heap.size ≤ n ∨ n ∈ C.X) ∧ n < w.heap.size) ∧ ∀ (i : Nat) (c : HB) (y : Gh), h[i]? = some c → g[i]? = some y → n ∉ ownB y c)) (hnd : (ownB x' b').Nodup) (hroot : ∀ n ∈ aY x' b', V n = none) (hb : HBok (g.set id x') V w' x' b')
    (hw : ∀ n, n < w.heap.size → n ∉ aY x b → w'.heap[n]? = w.heap[n]?) (hsz : w.heap.size ≤ w'.heap.size) : Hp C (g.set id x') V (h.set id b') w' := by
 have key : ∀ (i : Nat) (c : HB) (y : Gh), (h.set id b')[i]? = some c → (g.set id x')[i]? = some y → (i ≠ id ∧ h[i]? = some c ∧ g[i]? = some y) ∨ (i = id ∧ c = b' ∧ y = x') := by
  intro i c y e1 e2
  rw [List.getElem?_set] at e1 e2
  by_cases e : id = i
  ·subst e
   simp only [if_true] at e1 e2
   split at e1
   ·split at e2
    ·cases e1; cases e2; exact .inr ⟨rfl, rfl, rfl⟩
    ·cases e2
   ·cases e1
  ·rw [if_neg e] at e1 e2
   exact .inl ⟨fun h => e h.symm, e1, e2⟩
 have hg := GLe.set (x' := x') h2 hblk hval hhd
 refine ⟨by simp [k.glen], ?_, ?_, ?_, ?_, ?_⟩
 ·intro i c y e1 e2
  rcases key i c y e1 e2 with ⟨hne, e, e'⟩ | ⟨_, rfl, rfl⟩
  ·exact (k.hb i c y e e').mono hg (View.le.refl V) fun n hn => hw n (k.lo i c y e e' n (aZ hn)).2 fun hr => k.dj i id c b y x hne e e' h1 h2 n (aZ hn) (aZ hr)
  ·exact hb
 ·intro i c y e1 e2
  rcases key i c y e1 e2 with ⟨_, e, e'⟩ | ⟨_, rfl, rfl⟩
  ·exact k.nd i c y e e'
  ·exact hnd
 ·intro i j c c' y y' hij e1 e2 e3 e4 n hn
  rcases key i c y e1 e2 with ⟨ni, e, e'⟩ | ⟨rfl, rfl, rfl⟩
  ·rcases key j c' y' e3 e4 with ⟨nj, f, f'⟩ | ⟨rfl, rfl, rfl⟩
   ·exact k.dj i j c c' y y' hij e e' f f' n hn
   ·intro hn'
    rcases hown n hn' with ho | ho
    ·exact k.dj i j c b y x hij e e' h1 h2 n hn ho
    ·exact ho.2 i c y e e' hn
  ·rcases key j c' y' e3 e4 with ⟨nj, f, f'⟩ | ⟨rfl, _, _⟩
   ·intro hn'
    rcases hown n hn with ho | ho
    ·exact k.dj i j b c' x y' hij h1 h2 f f' n ho hn'
    ·exact ho.2 j c' y' f f' hn'
   ·exact (hij rfl).elim
 ·intro i c y e1 e2 n hn
  rcases key i c y e1 e2 with ⟨_, e, e'⟩ | ⟨_, rfl, rfl⟩
  ·exact ⟨(k.lo i c y e e' n hn).1, Nat.lt_of_lt_of_le (k.lo i c y e e' n hn).2 hsz⟩
  ·rcases hown n hn with ho | ho
   ·exact ⟨(k.lo id b x h1 h2 n ho).1, Nat.lt_of_lt_of_le (k.lo id b x h1 h2 n ho).2 hsz⟩
   ·exact ⟨ho.1.1, Nat.lt_of_lt_of_le ho.1.2 hsz⟩
 ·intro i c y e1 e2 n hn
  rcases key i c y e1 e2 with ⟨hne, e, e'⟩ | ⟨_, rfl, rfl⟩
  ·exact k.rt i c y e e' n hn
  ·exact hroot n hn
def leT : List SV → List SV → Prop
 | [], [] => True
 | x :: xs, y :: ys => (y = .o .u ∨ x = y) ∧ leT xs ys
 | _, _ => False
theorem leT.get {l m : List SV} (h : leT l m) : l.length = m.length ∧ ∀ (i : Nat) (y : SV), m[i]? = some y → y = .o .u ∨ l[i]? = some y := by
 induction l generalizing m with
 | nil => cases m with
  | nil => exact ⟨rfl, fun i y hy => by simp at hy⟩
  | cons => exact h.elim
 | cons x xs ih => cases m with
  | nil => exact h.elim
  | cons z ys =>
   obtain ⟨h1, h2⟩ := h
   obtain ⟨e, k⟩ := ih h2
   refine ⟨by simp [e], fun i y hy => ?_⟩
   cases i with
   | zero => simp at hy; subst hy; rcases h1 with h1 | h1
             ·exact .inl h1
             ·subst h1; exact .inr rfl
   | succ i => simpa using k i y (by simpa using hy)
def leH : List HB → List HB → Prop
 | _, [] => True
 | x :: xs, y :: ys => (y = .gone ∨ x = y) ∧ leH xs ys
 | [], _ :: _ => False
theorem leH.get {l m : List HB} (h : leH l m) : m.length ≤ l.length ∧ ∀ (i : Nat) (y : HB), m[i]? = some y → y = .gone ∨ l[i]? = some y := by
 induction l generalizing m with
 | nil => cases m with
  | nil => exact ⟨Nat.le_refl _, fun i y hy => by simp at hy⟩
  | cons => exact h.elim
 | cons x xs ih => cases m with
  | nil => exact ⟨by simp, fun i y hy => by simp at hy⟩
  | cons z ys =>
   obtain ⟨h1, h2⟩ := h
   obtain ⟨e, k⟩ := ih h2
   refine ⟨by simpa using e, fun i y hy => ?_⟩
   cases i with
   | zero => simp at hy; subst hy; rcases h1 with h1 | h1
             ·exact .inl h1
             ·subst h1; exact .inr rfl
   | succ i => simpa using k i y (by simpa using hy)
def St.le (s s' : St) : Prop := leT s.t s'.t ∧ leH s.h s'.h
def At.below (n : Nat) : At → Bool
 | .p id _ | .r id _ _ _ | .s id | .e id _ _ _ | .n id _ _ _ => decide (id < n)
 | _ => true
def SV.below (n : Nat) : SV → Bool
 | .o a => a.below n
 | .g cs => cs.all (·.below n)
 | .t l => l.all fun x => x.2.all (·.below n)
def HB.below (n : Nat) : HB → Bool
 | .box _ cs => cs.all (·.below n)
 | .isv id _ => decide (id < n)
 | _ => true
theorem cAt.cut {g : List Gh} {V : View} {a : At} {y : Value} {n : Nat} (h : cAt g V a y) (hb : a.below n = true) : cAt (g.take n) V a y := by
 have key : ∀ (id : Nat) (x : Gh), id < n → g[id]? = some x → (g.take n)[id]? = some x := fun id x h1 h2 => by rw [List.getElem?_take, if_pos h1]; exact h2
 cases a with
 | p id off => obtain ⟨gh, b, h1, h2, h3⟩ := h; exact ⟨gh, b, key _ _ (by simpa [At.below] using hb) h1, h2, h3⟩
 | r id sz i fo => obtain ⟨gh, b, h1, h2, h3⟩ := h; exact ⟨gh, b, key _ _ (by simpa [At.below] using hb) h1, h2, h3⟩
 | s id => obtain ⟨gh, h1, h2, h3⟩ := h; exact ⟨gh, key _ _ (by simpa [At.below] using hb) h1, h2, h3⟩
 | e id sz i fo => obtain ⟨gh, a, n, c, h1, h2, h3⟩ := h; exact ⟨gh, a, n, c, key _ _ (by simpa [At.below] using hb) h1, h2, h3⟩
 | n id sz i fo => obtain ⟨gh, h1, h2, h3⟩ := h; exact ⟨gh, key _ _ (by simpa [At.below] using hb) h1, h2, h3⟩
 | _ => exact h
theorem cL.cut {g : List Gh} {V : View} {cs : List At} {l : List Value} {n : Nat} (h : cL g V cs l) (hb : cs.all (·.below n) = true) : cL (g.take n) V cs l :=
 ⟨h.1, fun k a y h1 h2 => (h.2 k a y h1 h2).cut (List.all_eq_true.1 hb a (List.mem_of_getElem? h1))⟩
theorem cSV.cut {g : List Gh} {V : View} {s : SV} {y : Value} {n : Nat} (h : cSV g V s y) (hb : s.below n = true) : cSV (g.take n) V s y := by
 cases s with
 | o a => exact cAt.cut h hb
 | g cs => obtain ⟨l, h1, h2⟩ := h; exact ⟨l, h1, h2.cut hb⟩
 | t l =>
  obtain ⟨ys, h1, h2, h3⟩ := h
  refine ⟨ys, h1, h2, fun k b cs v hk hl => ?_⟩
  have hc : cs.all (·.below n) = true := List.all_eq_true.1 hb _ (List.mem_of_getElem? hk)
  have := h3 k b cs v hk hl
  cases b
  ·simp only [Bool.false_eq_true, if_false] at this ⊢; exact this.cut hc
  ·simp only [if_true] at this ⊢; obtain ⟨m, e, hm⟩ := this; exact ⟨m, e, hm.cut hc⟩
theorem Rel.forget {C : Ctx} {g : List Gh} {V : View} {st st' : St} {a : Act} {w : World} (k : Rel C g V st a w) (h : st.le st')
    (hb : (st'.t.all (·.below st'.h.length) && st'.h.all (·.below st'.h.length)) = true) : Rel C (g.take st'.h.length) V st' a w := by
 obtain ⟨ht, hh⟩ := h
 obtain ⟨e1, q1⟩ := ht.get
 obtain ⟨e2, q2⟩ := hh.get
 rw [Bool.and_eq_true] at hb
 obtain ⟨hb1, hb2⟩ := hb
 have kg : ∀ (i : Nat) (x : Gh), (g.take st'.h.length)[i]? = some x → g[i]? = some x := fun i x h => by
  rw [List.getElem?_take] at h; split at h <;> simp_all
 have own : ∀ (i : Nat) (b : HB) (x : Gh), st'.h[i]? = some b → (g.take st'.h.length)[i]? = some x → b = .gone ∨ st.h[i]? = some b := fun i b x h1 _ => q2 i b h1
 refine ⟨⟨by rw [k.sl.size, e1], fun i s y h1 h2 => ?_, k.sl.defers⟩, ⟨by simp [k.hp.glen]; omega, ?_, ?_, ?_, ?_, ?_⟩, k.mod, k.fr, k.vw⟩
 ·rcases q1 i s h1 with rfl | h
  ·trivial
  ·exact (k.sl.slot i s y h h2).cut (List.all_eq_true.1 hb1 s (List.mem_of_getElem? h1))
 ·intro i b x h1 h2
  rcases own i b x h1 h2 with rfl | h
  ·trivial
  ·have := k.hp.hb i b x h (kg i x h2)
   cases b with
   | box ty cs => obtain ⟨b, l, h1', h2', h3'⟩ := this; exact ⟨b, l, h1', h2', h3'.cut (List.all_eq_true.1 hb2 _ (List.mem_of_getElem? h1))⟩
   | pin b ty ds => exact this
   | row ty sz rows lin => exact this
   | frz rows lin => exact this
   | gone => trivial
   | own tag sz rows => exact this
   | pool ty sz items => exact this
   | isv id v =>
    obtain ⟨y, k1, k2⟩ := this
    have hid : id < st'.h.length := by simpa [HB.below] using List.all_eq_true.1 hb2 _ (List.mem_of_getElem? h1)
    exact ⟨y, by rw [List.getElem?_take, if_pos hid]; exact k1, k2⟩
 ·intro i b x h1 h2
  rcases own i b x h1 h2 with rfl | h
  ·simp [ownB]
  ·exact k.hp.nd i b x h (kg i x h2)
 ·intro i j b b' x x' hij h1 h2 h3 h4 n hn
  rcases own i b x h1 h2 with rfl | h
  ·simp [ownB] at hn
  ·rcases own j b' x' h3 h4 with rfl | h'
   ·simp [ownB]
   ·exact k.hp.dj i j b b' x x' hij h (kg i x h2) h' (kg j x' h4) n hn
 ·intro i b x h1 h2 n hn
  rcases own i b x h1 h2 with rfl | h
  ·simp [ownB] at hn
  ·exact k.hp.lo i b x h (kg i x h2) n hn
 ·intro i b x h1 h2 n hn
  rcases own i b x h1 h2 with rfl | h
  ·simp [aY] at hn
  ·exact k.hp.rt i b x h (kg i x h2) n hn
def swN (i j n : Nat) : Nat := if n = i then j else if n = j then i else n
theorem a1l (i j n : Nat) : swN i j (swN i j n) = n := by
 unfold swN
 repeat' split
 all_goals omega
theorem b3v {i j a b : Nat} (h : swN i j a = swN i j b) : a = b := by rw [← a1l i j a, h, a1l]
def swA (i j : Nat) : At → At
 | .p id o => .p (swN i j id) o
 | .r id sz k fo => .r (swN i j id) sz k fo
 | .s id => .s (swN i j id)
 | .e id sz k fo => .e (swN i j id) sz k fo
 | .n id sz k fo => .n (swN i j id) sz k fo
 | a => a
def swS (i j : Nat) : SV → SV
 | .o a => .o (swA i j a)
 | .g cs => .g (cs.map (swA i j))
 | .t l => .t (l.map fun x => (x.1, x.2.map (swA i j)))
def swB (i j : Nat) : HB → HB
 | .box ty cs => .box ty (cs.map (swA i j))
 | .isv id v => .isv (swN i j id) v
 | b => b
def swG {α : Type} (l : List α) (i j : Nat) (x y : α) : List α := (l.set i y).set j x
theorem a8I {α : Type} {l : List α} {i j : Nat} (hi : i < l.length) (hj : j < l.length) (n : Nat) : (swG l i j l[i] l[j])[n]? = l[swN i j n]? := by
 unfold swG swN
 rw [List.getElem?_set, List.getElem?_set]
 by_cases h1 : j = n
 ·subst h1
  rw [if_pos rfl, if_pos (by simpa using hj)]
  by_cases h2 : j = i
  ·subst h2; simp
  ·rw [if_neg h2, if_pos rfl]; simp
 ·rw [if_neg h1]
  by_cases h2 : i = n
  ·subst h2; simp [hi]
  ·rw [if_neg h2, if_neg (fun e => h2 e.symm), if_neg (fun e => h1 e.symm)]
theorem b3w {α : Type} (l : List α) (i j : Nat) (x y : α) : (swG l i j x y).length = l.length := by simp [swG]
theorem cAt.sw {g g' : List Gh} {i j : Nat} (hg : ∀ n, g'[n]? = g[swN i j n]?) {V : View} {a : At} {y : Value} (h : cAt g V a y) : cAt g' V (swA i j a) y := by
 have key : ∀ n, g'[swN i j n]? = g[n]? := fun n => by rw [hg, a1l]
 cases a with
 | p id o => obtain ⟨gh, b, h1, h2, h3⟩ := h; exact ⟨gh, b, by rw [key]; exact h1, h2, h3⟩
 | r id sz k fo => obtain ⟨gh, b, h1, h2, h3⟩ := h; exact ⟨gh, b, by rw [key]; exact h1, h2, h3⟩
 | s id => obtain ⟨gh, h1, h2, h3⟩ := h; exact ⟨gh, by rw [key]; exact h1, h2, h3⟩
 | e id sz k fo => obtain ⟨gh, a, n, c, h1, h2, h3⟩ := h; exact ⟨gh, a, n, c, by rw [key]; exact h1, h2, h3⟩
 | n id sz k fo => obtain ⟨gh, h1, h2, h3⟩ := h; exact ⟨gh, by rw [key]; exact h1, h2, h3⟩
 | u => trivial
 | d x => exact h
 | z => exact h
 | q cs => exact h
 | f fn caps => exact h
 | w ty sz rows => exact h.elim
 | m ty sz rows => exact h.elim
theorem cL.sw {g g' : List Gh} {i j : Nat} (hg : ∀ n, g'[n]? = g[swN i j n]?) {V : View} {cs : List At} {l : List Value} (h : cL g V cs l) : cL g' V (cs.map (swA i j)) l :=
 ⟨by simp [h.1], fun k a y h1 h2 => by
  rw [List.getElem?_map] at h1
  cases hk : cs[k]? with
  | none => rw [hk] at h1; cases h1
  | some c => rw [hk] at h1; cases h1; exact (h.2 k c y hk h2).sw hg⟩
theorem cSV.sw {g g' : List Gh} {i j : Nat} (hg : ∀ n, g'[n]? = g[swN i j n]?) {V : View} {s : SV} {y : Value} (h : cSV g V s y) : cSV g' V (swS i j s) y := by
 cases s with
 | o a => exact cAt.sw hg h
 | g cs => obtain ⟨l, h1, h2⟩ := h; exact ⟨l, h1, h2.sw hg⟩
 | t l =>
  obtain ⟨ys, h1, h2, h3⟩ := h
  refine ⟨ys, h1, by simp [h2], fun k b cs v hk hl => ?_⟩
  rw [List.getElem?_map] at hk
  cases hc : l[k]? with
  | none => rw [hc] at hk; cases hk
  | some c =>
   obtain ⟨b0, cs0⟩ := c
   rw [hc] at hk
   cases hk
   have := h3 k b0 cs0 v hc hl
   cases b0
   ·simp only [Bool.false_eq_true, if_false] at this ⊢; exact this.sw hg
   ·simp only [if_true] at this ⊢; obtain ⟨m, e, hm⟩ := this; exact ⟨m, e, hm.sw hg⟩
theorem HBok.sw {g g' : List Gh} {i j : Nat} (hg : ∀ n, g'[n]? = g[swN i j n]?) {V : View} {w : World} {x : Gh} {b : HB} (h : HBok g V w x b) : HBok g' V w x (swB i j b) := by
 cases b with
 | box ty cs => obtain ⟨b, l, h1, h2, h3⟩ := h; exact ⟨b, l, h1, h2, h3.sw hg⟩
 | pin b ty ds => exact h
 | row ty sz rows lin => exact h
 | frz rows lin => exact h
 | gone => trivial
 | own tag sz rows => exact h
 | pool ty sz items => exact h
 | isv id v => obtain ⟨y, h1, h2⟩ := h; exact ⟨y, by rw [hg, a1l]; exact h1, h2⟩
theorem a4E (x : Gh) (i j : Nat) (b : HB) : ownB x (swB i j b) = ownB x b := by cases b <;> rfl
theorem b1B (x : Gh) (i j : Nat) (b : HB) : aY x (swB i j b) = aY x b := by cases b <;> rfl
theorem Rel.sw {C : Ctx} {g : List Gh} {V : View} {st : St} {a : Act} {w : World} (k : Rel C g V st a w) {i j : Nat} (hi : i < st.h.length) (hj : j < st.h.length) :
    ∃ g', Rel C g' V ⟨st.t.map (swS i j), (swG st.h i j st.h[i] st.h[j]).map (swB i j)⟩ a w := by
 have hgl : g.length = st.h.length := k.hp.glen
 have hi' : i < g.length := by omega
 have hj' : j < g.length := by omega
 have hg : ∀ n, (swG g i j g[i] g[j])[n]? = g[swN i j n]? := fun n => a8I hi' hj' n
 have hh : ∀ n, (swG st.h i j st.h[i] st.h[j])[n]? = st.h[swN i j n]? := fun n => a8I hi hj n
 have key : ∀ (n : Nat) (b : HB) (x : Gh), ((swG st.h i j st.h[i] st.h[j]).map (swB i j))[n]? = some b → (swG g i j g[i] g[j])[n]? = some x → ∃ b0, b = swB i j b0 ∧ st.h[swN i j n]? = some b0 ∧ g[swN i j n]? = some x := fun n b x h1 h2 => by
  rw [List.getElem?_map, hh] at h1
  rw [hg] at h2
  cases hb : st.h[swN i j n]? with
  | none => rw [hb] at h1; cases h1
  | some b0 => rw [hb] at h1; cases h1; exact ⟨b0, rfl, rfl, h2⟩
 refine ⟨swG g i j g[i] g[j], ⟨by simp [k.sl.size], fun n s y h1 h2 => ?_, k.sl.defers⟩, ⟨by simp [b3w, hgl], ?_, ?_, ?_, ?_, ?_⟩, k.mod, k.fr, k.vw⟩
 ·rw [List.getElem?_map] at h1
  cases hs : st.t[n]? with
  | none => rw [hs] at h1; cases h1
  | some s0 => rw [hs] at h1; cases h1; exact (k.sl.slot n s0 y hs h2).sw hg
 ·intro n b x h1 h2
  obtain ⟨b0, rfl, e1, e2⟩ := key n b x h1 h2
  exact (k.hp.hb _ b0 x e1 e2).sw hg
 ·intro n b x h1 h2
  obtain ⟨b0, rfl, e1, e2⟩ := key n b x h1 h2
  rw [a4E]; exact k.hp.nd _ b0 x e1 e2
 ·intro n m b b' x x' hnm h1 h2 h3 h4 v hv
  obtain ⟨b0, rfl, e1, e2⟩ := key n b x h1 h2
  obtain ⟨b1, rfl, e3, e4⟩ := key m b' x' h3 h4
  rw [a4E] at hv ⊢
  exact k.hp.dj _ _ b0 b1 x x' (fun e => hnm (b3v e)) e1 e2 e3 e4 v hv
 ·intro n b x h1 h2 v hv
  obtain ⟨b0, rfl, e1, e2⟩ := key n b x h1 h2
  rw [a4E] at hv
  exact k.hp.lo _ b0 x e1 e2 v hv
 ·intro n b x h1 h2 v hv
  obtain ⟨b0, rfl, e1, e2⟩ := key n b x h1 h2
  rw [b1B] at hv
  exact k.hp.rt _ b0 x e1 e2 v hv
def swL (st : St) : List (Nat × Nat) → Option St
 | [] => some st
 | (i, j) :: r => match st.h[i]?, st.h[j]? with
  | some x, some y => swL ⟨st.t.map (swS i j), (swG st.h i j x y).map (swB i j)⟩ r
  | _, _ => none
theorem Rel.swL {C : Ctx} {V : View} {a : Act} {w : World} : ∀ (l : List (Nat × Nat)) {st st' : St} {g : List Gh}, Rel C g V st a w → swL st l = some st' → ∃ g', Rel C g' V st' a w
 | [], st, st', g, k, h => by cases h; exact ⟨g, k⟩
 | (i, j) :: r, st, st', g, k, h => by
  simp only [Go.Sx.swL] at h
  split at h
  ·rename_i x y h1 h2
   obtain ⟨hi, e1⟩ := List.getElem?_eq_some_iff.1 h1
   obtain ⟨hj, e2⟩ := List.getElem?_eq_some_iff.1 h2
   subst e1; subst e2
   obtain ⟨g', k'⟩ := k.sw hi hj
   exact Rel.swL r k' h
  ·cases h
end Go.Sx
end
section
set_option linter.all false
namespace Go.Sx
open Go Go.RowKit
inductive Ex where
 | normal
 | exit (id : Nat)
 | ret
section
variable (P : Program) (C : Ctx)
def Post (F : Ex → St → Prop) : Exit → Act → World → Prop
 | .normal, a, w => ∃ g V st, Rel C g V st a w ∧ F .normal st
 | .exit id, a, w => ∃ g V st, Rel C g V st a w ∧ F (.exit id) st
 | .ret, a, w => ∃ g V st, Rel C g V st a w ∧ F .ret st
 | _, _, _ => False
def WP (c : Code) (F : Ex → St → Prop) (st : St) : Prop := ∀ g V a w, Rel C g V st a w → c.wp P (Post C F) a w
inductive Kn where
 | code (c : Code)
 | blk (id : Nat)
def bN : List Kn → (Ex → St → Prop) → Ex → St → Prop
 | [], F => F
 | .code c :: ks, F => fun e st => match e with
  | .normal => WP P C c (bN ks F) st
  | .exit j => bN ks F (.exit j) st
  | .ret => bN ks F .ret st
 | .blk id :: ks, F => fun e st => match e with
  | .normal => bN ks F .normal st
  | .exit j => if j = id then bN ks F .normal st else bN ks F (.exit j) st
  | .ret => bN ks F .ret st
end
section
variable {P : Program} {C : Ctx} {ks : List Kn} {F : Ex → St → Prop} {st : St}
theorem WP.imp {c : Code} {F G : Ex → St → Prop} (h : WP P C c F st) (hi : ∀ e s, F e s → G e s) : WP P C c G st := fun g V a w hr =>
 wp_mono (h g V a w hr) fun e a w q => by
  cases e with
  | normal => obtain ⟨g, V, s, h1, h2⟩ := q; exact ⟨g, V, s, h1, hi _ _ h2⟩
  | exit id => obtain ⟨g, V, s, h1, h2⟩ := q; exact ⟨g, V, s, h1, hi _ _ h2⟩
  | ret => obtain ⟨g, V, s, h1, h2⟩ := q; exact ⟨g, V, s, h1, hi _ _ h2⟩
  | goto l => exact q.elim
  | panic ch => exact q.elim
  | outgrown => exact q.elim
theorem b5e {x y : Code} (h : WP P C x (bN P C (.code y :: ks) F) st) : WP P C (.seq x y) (bN P C ks F) st := fun g V a w hr =>
 wp_seq (wp_mono (h g V a w hr) fun e a w q => by
  cases e with
  | normal => obtain ⟨g, V, s, h1, h2⟩ := q; exact h2 g V a w h1
  | exit id => exact q
  | ret => exact q
  | goto l => exact q.elim
  | panic ch => exact q.elim
  | outgrown => exact q.elim)
theorem b1C {id : Nat} {c : Code} (h : WP P C c (bN P C (.blk id :: ks) F) st) : WP P C (.block id c) (bN P C ks F) st := fun g V a w hr =>
 wp_block (wp_mono (h g V a w hr) fun e a w q => by
  cases e with
  | normal => exact q
  | exit j =>
   obtain ⟨g, V, s, h1, h2⟩ := q
   simp only [Exit.inBlock]
   simp only [bN] at h2
   split
   ·rw [if_pos ‹_›] at h2; exact ⟨g, V, s, h1, h2⟩
   ·rw [if_neg ‹_›] at h2; exact ⟨g, V, s, h1, h2⟩
  | ret => exact q
  | goto l => exact q.elim
  | panic ch => exact q.elim
  | outgrown => exact q.elim)
theorem b3x (h : bN P C ks F .normal st) : WP P C .skip (bN P C ks F) st := fun g V _ _ hr => wp_skip ⟨g, V, st, hr, h⟩
theorem b3y {id : Nat} (h : bN P C ks F (.exit id) st) : WP P C (.exit id) (bN P C ks F) st := fun g V _ _ hr => wp_exit ⟨g, V, st, hr, h⟩
theorem b5f (h : bN P C ks F .ret st) : WP P C .ret (bN P C ks F) st := fun g V _ _ hr => wp_ret ⟨g, V, st, hr, h⟩
theorem b5g {c : Code} (h : WP P C c (bN P C ks F) st) : bN P C (.code c :: ks) F .normal st := h
theorem b6A {id : Nat} (h : bN P C ks F .normal st) : bN P C (.blk id :: ks) F .normal st := h
theorem a7x {c : Code} (h : bN P C ks F .ret st) : bN P C (.code c :: ks) F .ret st := h
theorem b0i {id : Nat} (h : bN P C ks F .ret st) : bN P C (.blk id :: ks) F .ret st := h
theorem a5R {c : Code} {j : Nat} (h : bN P C ks F (.exit j) st) : bN P C (.code c :: ks) F (.exit j) st := h
theorem a0V {id : Nat} (h : bN P C ks F .normal st) : bN P C (.blk id :: ks) F (.exit id) st := by simp only [bN, if_true]; exact h
theorem pM {id j : Nat} (hn : j ≠ id) (h : bN P C ks F (.exit j) st) : bN P C (.blk id :: ks) F (.exit j) st := by simp only [bN, if_neg hn]; exact h
theorem b6B {e : Ex} (h : F e st) : bN P C [] F e st := h
theorem WP.forget {c : Code} {F : Ex → St → Prop} {st' : St} (h : st.le st') (hb : (st'.t.all (·.below st'.h.length) && st'.h.all (·.below st'.h.length)) = true) (k : WP P C c F st') : WP P C c F st :=
 fun _ V a w hr => k _ V a w (hr.forget h hb)
def St.okB (s : St) : Bool := s.t.all (·.below s.h.length) && s.h.all (·.below s.h.length)
def yJ {α : Type} (I : α → St) (Q : α → Prop) (μ : α → Nat) (x : α) (F : Ex → St → Prop) : Ex → St → Prop
 | .normal, st => ∃ y, (∃ (l : List (Nat × Nat)) (s : St), swL st l = some s ∧ s.le (I y)) ∧ Q y ∧ μ y < μ x
 | .exit j, st => F (.exit j) st
 | .ret, st => F .ret st
theorem b3z {body : Code} {α : Type} (I : α → St) (Q : α → Prop) (μ : α → Nat) (x : α) (hok : ∀ x, (I x).okB = true) (h0 : st.le (I x)) (hq : Q x)
    (round : ∀ x, Q x → WP P C body (bN P C [] (yJ I Q μ x (bN P C ks F))) (I x)) : WP P C (.loop body) (bN P C ks F) st := by
 intro g V a w hr b k cs
 have key : ∀ n x, μ x = n → Q x → ∀ g V a w, Rel C g V (I x) a w →
     ∃ e a' w', Post C (bN P C ks F) e a' w' ∧ Arrives P (lone (b.at a (.code body :: .inLoop body :: k)) cs w) b k cs e a' w' := by
  intro n
  induction n using Nat.strongRecOn with
  | _ n ih =>
   intro x hn hq g V a w hr
   obtain ⟨e, a₁, w₁, hp, harr⟩ := round x hq g V a w hr b (.inLoop body :: k) cs
   cases e with
   | normal =>
    obtain ⟨g'0, V', s0, h0, y, ⟨l, s, hsw, hle⟩, hqy, hlt⟩ := hp
    obtain ⟨g', h1⟩ := h0.swL l hsw
    obtain ⟨e₂, a₂, w₂, hq₂, harr₂⟩ := ih (μ y) (by omega) y rfl hqy _ V' a₁ w₁ (h1.forget hle (hok y))
    exact ⟨e₂, a₂, w₂, hq₂, .of_steps (Steps.trans harr (.one step_inLoop)) harr₂⟩
   | exit id =>
    have hp' : Post C (bN P C ks F) (.exit id) a₁ w₁ := by obtain ⟨g', V', s, h1, h2⟩ := hp; exact ⟨g', V', s, h1, h2⟩
    exact ⟨_, a₁, w₁, hp', .pass (x := .inLoop body) rfl (fun _ _ => .inl (by simp)) harr⟩
   | goto l => exact hp.elim
   | ret =>
    have hp' : Post C (bN P C ks F) .ret a₁ w₁ := by obtain ⟨g', V', s, h1, h2⟩ := hp; exact ⟨g', V', s, h1, h2⟩
    exact ⟨_, a₁, w₁, hp', .pass (x := .inLoop body) rfl (fun _ _ => .inl (by simp)) harr⟩
   | panic ch => exact hp.elim
   | outgrown => exact hp.elim
 obtain ⟨e, a', w', hq', harr⟩ := key _ x rfl hq _ V a w (hr.forget h0 (hok x))
 exact ⟨e, a', w', hq', .of_steps (.one step_loop) harr⟩
end
def RowR (V : View) (w : World) (ty sz : Nat) (rows : List (List D)) (y : Value) (S : List Nat) : Prop :=
 (∀ r ∈ rows, r.length = sz) ∧ ∃ ys Ss, LayL V rows.flatten ys Ss ∧
  (((∃ ao, y = .slice ao 0 0) ∧ rows = [] ∧ S = []) ∨
   ∃ b cap c, y = .slice (some ⟨b, 0, none⟩) rows.length cap ∧ rows.length ≤ cap ∧ cap ≤ maxLen ∧ w.heap[b]? = some (.cells c ty (0, 0)) ∧ c.size = cap * sz ∧ ys <+: c.toList ∧ V b = none ∧ S = b :: Ss.flatten)
def b8g (V : View) (w : World) (ty sz : Nat) (rows : List (List D)) (y : Value) (S : List Nat) : Prop :=
 (∀ r ∈ rows, r.length = sz) ∧ ∃ ys Ss, LayL V rows.flatten ys Ss ∧
  (((∃ ao, y = .slice ao 0 0) ∧ rows = [] ∧ S = []) ∨
   ∃ b cap c, y = .slice (some ⟨b, 0, none⟩) rows.length cap ∧ rows.length ≤ cap ∧ cap ≤ maxLen ∧ w.heap[b]? = some (.cells c ty (0, 0)) ∧ c.size = cap * sz ∧ ys <+: c.toList ∧ V b = none ∧ S = [b])
def rAt (V : View) (w : World) : At → Value → List Nat → Prop
 | .d x, y, S => S = [] ∧ ∃ T, Lay V x y T
 | .w ty sz rows, y, S => RowR V w ty sz rows y S
 | .m ty sz rows, y, S => b8g V w ty sz rows y S
 | _, _, _ => False
def rL (V : View) (w : World) (cs : List At) (l : List Value) (S : List Nat) : Prop :=
 ∃ Ss : List (List Nat), l.length = cs.length ∧ Ss.length = cs.length ∧ S = Ss.flatten ∧ ∀ (k : Nat) (a : At) (y : Value) (s : List Nat), cs[k]? = some a → l[k]? = some y → Ss[k]? = some s → rAt V w a y s
def SV.all : SV → List At
 | .o a => [a]
 | .g cs => cs
 | .t l => l.flatMap (·.2)
def shapeOf : SV → List Value → Value → Prop
 | .o _, l, y => l = [y]
 | .g _, l, y => y = .agg l.toArray
 | .t cs, l, y => ∃ ls : List (List Value), ls.length = cs.length ∧ l = ls.flatten ∧ (∀ (k : Nat) (b : Bool) (c : List At) (m : List Value), cs[k]? = some (b, c) → ls[k]? = some m → m.length = c.length) ∧
     ∃ ys : List Value, y = .tuple ys.toArray ∧ ys.length = cs.length ∧ ∀ (k : Nat) (b : Bool) (c : List At) (m : List Value) (v : Value), cs[k]? = some (b, c) → ls[k]? = some m → ys[k]? = some v → if b then v = .agg m.toArray else m = [v]
def rSV (V : View) (w : World) (s : SV) (y : Value) (S : List Nat) : Prop := ∃ l, shapeOf s l y ∧ rL V w s.all l S
def lY (V : View) (args : List SV) (vs : List Value) : Prop := vs.length = args.length ∧ ∀ (k : Nat) (s : SV) (y : Value), args[k]? = some s → vs[k]? = some y → cSV [] V s y
structure Done (V : View) (w : World) (res : SV) (y : Value) (w' : World) : Prop where
 out : ∃ V' S, V.le V' ∧ Mod V' w' ∧ (∀ b cs, V' b = some cs → V b = none → w.heap.size ≤ b ∧ Unf w' b) ∧ rSV V' w' res y S ∧ S.Nodup ∧ ∀ b ∈ S, w.heap.size ≤ b ∧ b < w'.heap.size
 below : Below w.heap.size w w'
structure FnC (P : Program) (f : Nat) (args : List SV) (res : SV) : Prop where
 enters : ∀ as w, (callFunc f as).run P w = .ok (.enter f as) w
 calls : ∀ V w vs, tabOK w [] → Mod V w → lY V args vs → Calls P f vs.toArray w fun e w' => ∃ y, e = .returned y ∧ Done V w res y w'
end Go.Sx
end
section
set_option linter.all false
namespace Go.Sx
open Go Go.RowKit
structure Ty where
 tag : Nat
 size : Nat
 bytes : Nat
 zero : List At
 flds : List (Nat × Nat)
 elem : Nat
 kind : IntKind
def Ty.bad : Ty := { tag := 0, size := 0, bytes := 0, zero := [], flds := [], elem := 0, kind := .i64 }
def Ty.agg (d : Ty) : Bool := d.tag == 1
def a7y : Value → At → Bool
 | .int k n, .d (.v (.int k' n')) => k == k' && n == n'
 | .bool b, .d (.v (.bool b')) => b == b'
 | .string s, .d (.v (.string s')) => s.data.toList == s'.data.toList
 | .slice none 0 0, .z => true
 | .slice none 0 0, .d (.v (.slice none 0 0)) => true
 | _, _ => false
def qN : List Value → List At → Bool
 | [], [] => true
 | v :: vs, a :: as => a7y v a && qN vs as
 | _, _ => false
def iF : List Field → List (Nat × Nat) → Bool
 | [], [] => true
 | f :: fs, p :: ps => f.offset == p.1 && f.type == p.2 && iF fs ps
 | _, _ => false
def uC (d : Ty) : Option TypeDesc → Bool
 | some (.struct fs) => d.tag == 1 && iF fs.toList d.flds
 | some (.slice e) => d.tag == 2 && e == d.elem && d.size == 1
 | some (.int k) => d.tag == 3 && k == d.kind && d.size == 1
 | some .bool => d.tag == 4 && d.size == 1
 | some .string => d.tag == 5 && d.size == 1
 | _ => false
def b5h (d : Ty) : Option Value → Bool
 | some z => qN z.cells.toList d.zero
 | none => false
def b1D (P : Program) (t : Nat) (d : Ty) : Bool :=
 match P.info? t with
 | none => false
 | some i => i.size == d.size && i.bytes == d.bytes && d.zero.length == d.size && d.size != 0 && b5h d i.zero && uC d (P.underlying t)
def TyOK (P : Program) (T : Nat → Ty) : Prop := ∀ t, (T t).tag ≠ 0 → b1D P t (T t) = true
theorem TyOK.of_list {P : Program} {l : List Ty} (h : (List.range l.length).all (fun t => (l.getD t .bad).tag == 0 || b1D P t (l.getD t .bad)) = true) : TyOK P (fun t => l.getD t .bad) := by
 intro t ht
 rcases Nat.lt_or_ge t l.length with hl | hl
 ·have := List.all_eq_true.1 h t (List.mem_range.2 hl)
  rw [Bool.or_eq_true] at this
  rcases this with h1 | h1
  ·exact (ht (by simpa using h1)).elim
  ·exact h1
 ·simp only [List.getD_eq_getElem?_getD, List.getElem?_eq_none hl] at ht
  exact (ht rfl).elim
theorem b1E {v : Value} {a : At} (h : a7y v a = true) (g : List Gh) (V : View) : cAt g V a v := by
 unfold a7y at h
 split at h
 ·rename_i k n k' n'
  rw [Bool.and_eq_true, beq_iff_eq, beq_iff_eq] at h
  obtain ⟨rfl, rfl⟩ := h
  exact ⟨[], .v _ rfl⟩
 ·rw [beq_iff_eq] at h; subst h; exact ⟨[], .v _ rfl⟩
 ·rename_i s s'
  rw [beq_iff_eq] at h
  have : s = s' := by
   cases s; cases s'
   simp only at h
   congr 1
   exact Array.toList_inj.1 h
  subst this; exact ⟨[], .v _ rfl⟩
 ·rfl
 ·exact ⟨[], .v _ rfl⟩
 ·cases h
theorem pO {vs : List Value} {as : List At} (h : qN vs as = true) (g : List Gh) (V : View) : cL g V as vs := by
 induction vs generalizing as with
 | nil => cases as with
  | nil => exact cL.nil g V
  | cons => simp [qN] at h
 | cons v vs ih => cases as with
  | nil => simp [qN] at h
  | cons a as =>
   simp only [qN, Bool.and_eq_true] at h
   exact cL.cons (b1E h.1 g V) (ih h.2)
theorem a0F {fs : List Field} {ps : List (Nat × Nat)} (h : iF fs ps = true) : ∀ (i : Nat) (p : Nat × Nat), ps[i]? = some p → ∃ f, fs[i]? = some f ∧ f.offset = p.1 ∧ f.type = p.2 := by
 induction fs generalizing ps with
 | nil => cases ps with
  | nil => intro i p hp; simp at hp
  | cons => simp [iF] at h
 | cons f fs ih => cases ps with
  | nil => simp [iF] at h
  | cons q ps =>
   simp only [iF, Bool.and_eq_true, beq_iff_eq] at h
   intro i p hp
   cases i with
   | zero => simp at hp; subst hp; exact ⟨f, rfl, h.1.1, h.1.2⟩
   | succ i => simpa using ih h.2 i p (by simpa using hp)
structure TyGood (P : Program) (t : Nat) (d : Ty) (i : TypeInfo) (z : Value) (u : TypeDesc) : Prop where
 info : P.info? t = some i
 size : i.size = d.size
 bytes : i.bytes = d.bytes
 pos : d.size ≠ 0
 zero : i.zero = some z
 zc : qN z.cells.toList d.zero = true
 zlen : d.zero.length = d.size
 und : P.underlying t = some u
 uok : uC d (some u) = true
theorem TyOK.good {P : Program} {T : Nat → Ty} (h : TyOK P T) {t : Nat} (ht : (T t).tag ≠ 0) : ∃ i z u, TyGood P t (T t) i z u := by
 have := h t ht
 unfold b1D at this
 split at this
 ·cases this
 ·rename_i i hi
  simp only [Bool.and_eq_true, beq_iff_eq, bne_iff_ne] at this
  obtain ⟨⟨⟨⟨⟨h1, h2⟩, h3⟩, h4⟩, h5⟩, h6⟩ := this
  cases hz : i.zero with
  | none => rw [hz] at h5; cases h5
  | some z =>
   rw [hz] at h5
   cases hu : P.underlying t with
   | none => rw [hu] at h6; cases h6
   | some u => rw [hu] at h6; exact ⟨i, z, u, hi, h1, h2, h4, hz, h5, h3, hu, h6⟩
section
variable {P : Program} {t : Nat} {d : Ty} {i : TypeInfo} {z : Value} {u : TypeDesc}
theorem TyGood.run_size (h : TyGood P t d i z u) (w : World) : (sizeOf t).run P w = .ok d.size w := by simp [sizeOf, typeInfo, h.info, h.size]
theorem TyGood.run_zero (h : TyGood P t d i z u) (w : World) : (zeroValue t).run P w = .ok z w := by simp [zeroValue, typeInfo, h.info, h.zero]
theorem TyGood.run_und (h : TyGood P t d i z u) (w : World) : (underlying t).run P w = .ok u w := run_underlying h.und w
theorem TyGood.run_agg (h : TyGood P t d i z u) (w : World) : (isAgg t).run P w = .ok d.agg w := by
 have hu := h.uok
 simp only [isAgg, Sem.run_bind, h.run_und w, Result.andThen_ok]
 unfold uC at hu
 split at hu <;> simp_all [Ty.agg]
theorem TyGood.struct (h : TyGood P t d i z u) (ht : d.tag = 1) : ∃ fs, u = .struct fs ∧ iF fs.toList d.flds = true := by
 have hu := h.uok
 unfold uC at hu
 split at hu <;> simp_all
theorem TyGood.slice (h : TyGood P t d i z u) (ht : d.tag = 2) : u = .slice d.elem := by
 have hu := h.uok
 unfold uC at hu
 split at hu <;> simp_all
theorem TyGood.int (h : TyGood P t d i z u) (ht : d.tag = 3) : u = .int d.kind := by
 have hu := h.uok
 unfold uC at hu
 split at hu <;> simp_all
theorem TyGood.bool (h : TyGood P t d i z u) (ht : d.tag = 4) : u = .bool := by
 have hu := h.uok
 unfold uC at hu
 split at hu <;> simp_all
theorem TyGood.string (h : TyGood P t d i z u) (ht : d.tag = 5) : u = .string := by
 have hu := h.uok
 unfold uC at hu
 split at hu <;> simp_all
theorem TyGood.size1 (h : TyGood P t d i z u) (ht : d.tag ≠ 1) : d.size = 1 := by
 have hu := h.uok
 unfold uC at hu
 split at hu <;> simp_all
end
def nth : List SV → Nat → SV
 | [], _ => .o .u
 | x :: _, 0 => x
 | _ :: xs, n + 1 => nth xs n
theorem oW (l : List SV) (n : Nat) : nth l n = l.getD n (.o .u) := by
 induction l generalizing n with
 | nil => rfl
 | cons x xs ih => cases n with
  | zero => rfl
  | succ n => simpa [nth] using ih n
def a5S : List SV → Nat → SV → List SV
 | [], _, _ => []
 | _ :: xs, 0, y => y :: xs
 | x :: xs, n + 1, y => x :: a5S xs n y
theorem lL (l : List SV) (n : Nat) (y : SV) : a5S l n y = l.set n y := by
 induction l generalizing n with
 | nil => rfl
 | cons x xs ih => cases n with
  | zero => rfl
  | succ n => simp [a5S, ih]
def bK : List HB → Nat → HB
 | [], _ => .gone
 | x :: _, 0 => x
 | _ :: xs, n + 1 => bK xs n
theorem a1m (l : List HB) (n : Nat) : bK l n = l.getD n .gone := by
 induction l generalizing n with
 | nil => rfl
 | cons x xs ih => cases n with
  | zero => rfl
  | succ n => simpa [bK] using ih n
def setH : List HB → Nat → HB → List HB
 | [], _, _ => []
 | _ :: xs, 0, y => y :: xs
 | x :: xs, n + 1, y => x :: setH xs n y
theorem bO (l : List HB) (n : Nat) (y : HB) : setH l n y = l.set n y := by
 induction l generalizing n with
 | nil => rfl
 | cons x xs ih => cases n with
  | zero => rfl
  | succ n => simp [setH, ih]
def sub {α : Type} : List α → Nat → Nat → Option (List α)
 | _, 0, 0 => some []
 | x :: xs, 0, n + 1 => (sub xs 0 n).map (x :: ·)
 | [], 0, _ + 1 => none
 | _ :: xs, o + 1, n => sub xs o n
 | [], _ + 1, _ => none
theorem nK {α : Type} : ∀ {l : List α} {o n : Nat} {r : List α}, sub l o n = some r → r = (l.drop o).take n ∧ o + n ≤ l.length
 | l, 0, 0, r, h => by cases l <;> simp_all [sub]
 | [], 0, _ + 1, _, h => by simp [sub] at h
 | x :: xs, 0, n + 1, r, h => by
  simp only [sub, Option.map_eq_some_iff] at h
  obtain ⟨r', h1, rfl⟩ := h
  obtain ⟨e, hl⟩ := nK h1
  subst e
  simp at hl ⊢
  exact hl
 | _ :: xs, o + 1, n, r, h => by
  obtain ⟨e, hl⟩ := nK (l := xs) (by simpa [sub] using h)
  exact ⟨by simpa using e, by simp; omega⟩
 | [], _ + 1, _, _, h => by simp [sub] at h
def dM {α : Type} : List α → Nat → List α → Option (List α)
 | l, 0, [] => some l
 | _ :: xs, 0, y :: ys => (dM xs 0 ys).map (y :: ·)
 | [], 0, _ :: _ => none
 | x :: xs, o + 1, ys => (dM xs o ys).map (x :: ·)
 | [], _ + 1, _ => none
theorem wS {α β : Type} (f : α → β) : ∀ {l : List α} {o : Nat} {ys r : List α}, dM l o ys = some r → dM (l.map f) o (ys.map f) = some (r.map f)
 | l, 0, [], r, h => by
  have : r = l := by cases l <;> simp_all [dM]
  subst this
  cases r <;> rfl
 | [], 0, _ :: _, _, h => by simp [dM] at h
 | _ :: xs, 0, y :: ys, r, h => by
  simp only [dM, Option.map_eq_some_iff] at h
  obtain ⟨r', h1, rfl⟩ := h
  simp only [List.map_cons, dM]
  have := wS f h1
  rw [this]; rfl
 | x :: xs, o + 1, ys, r, h => by
  simp only [dM, Option.map_eq_some_iff] at h
  obtain ⟨r', h1, rfl⟩ := h
  simp only [List.map_cons, dM]
  rw [wS f h1]; rfl
 | [], _ + 1, _, _, h => by simp [dM] at h
theorem iU {α : Type} : ∀ {l : List α} {o : Nat} {ys r : List α}, dM l o ys = some r → r.length = l.length ∧ o + ys.length ≤ l.length ∧ ∀ k, r[k]? = if o ≤ k ∧ k < o + ys.length then ys[k - o]? else l[k]?
 | l, 0, [], r, h => by
  have : r = l := by cases l <;> simp_all [dM]
  subst this
  exact ⟨rfl, by simp, fun k => by rw [if_neg (by simp)]⟩
 | [], 0, _ :: _, _, h => by simp [dM] at h
 | x :: xs, 0, y :: ys, r, h => by
  simp only [dM, Option.map_eq_some_iff] at h
  obtain ⟨r', h1, rfl⟩ := h
  obtain ⟨e, hl, hk⟩ := iU h1
  refine ⟨by simp [e], by simp at hl ⊢; exact hl, fun k => ?_⟩
  cases k with
  | zero => simp
  | succ k =>
   have := hk k
   simp only [List.getElem?_cons_succ, this, Nat.zero_le, true_and, Nat.sub_zero, Nat.zero_add, List.length_cons, Nat.add_lt_add_iff_right]
 | x :: xs, o + 1, ys, r, h => by
  simp only [dM, Option.map_eq_some_iff] at h
  obtain ⟨r', h1, rfl⟩ := h
  obtain ⟨e, hl, hk⟩ := iU h1
  refine ⟨by simp [e], by simp; omega, fun k => ?_⟩
  cases k with
  | zero => simp
  | succ k =>
   have := hk k
   simp only [List.getElem?_cons_succ, this]
   congr 1
   ·simp only [eq_iff_iff]; omega
   ·congr 1; omega
 | [], _ + 1, _, _, h => by simp [dM] at h
def St.put (st : St) : Option Nat → SV → St
 | some d, s => ⟨a5S st.t d s, st.h⟩
 | none, _ => st
def St.push (st : St) (b : HB) : St := ⟨st.t, st.h ++ [b]⟩
def a1n : Value → SV
 | .int k n => .o (.d (.v (.int k n)))
 | .bool b => .o (.d (.v (.bool b)))
 | .string s => .o (.d (.v (.string s)))
 | .slice none 0 0 => .o .z
 | _ => .o .u
def ev (st : St) : Operand → SV
 | .tmp t => nth st.t t
 | .const v => a1n v
 | .func f => .o (.f f [])
 | .global _ => .o .u
def SV.cells : SV → List At
 | .o a => [a]
 | .g cs => cs
 | .t _ => [.u, .u]
theorem a7z (g : List Gh) (V : View) (v : Value) : cSV g V (a1n v) v := by
 unfold a1n
 split
 ·exact ⟨[], .v _ rfl⟩
 ·exact ⟨[], .v _ rfl⟩
 ·exact ⟨[], .v _ rfl⟩
 ·exact rfl
 ·trivial
theorem cZ {g : List Gh} {V : View} {st : St} {a : Act} (h : Sl g V st.t a) (x : Operand) : cSV g V (ev st x) (a.eval x) := by
 cases x with
 | tmp t =>
  simp only [ev, oW, Act.eval]
  rcases Nat.lt_or_ge t st.t.length with hl | hl
  ·have h1 : st.t[t]? = some st.t[t] := List.getElem?_eq_getElem hl
   have h2 : t < a.tmps.size := by rw [h.size]; exact hl
   rw [List.getD_eq_getElem?_getD, h1]
   have h3 : a.tmps[t]? = some a.tmps[t] := Array.getElem?_eq_getElem h2
   have : a.tmps.getD t undef = a.tmps[t] := by simp [Array.getD, h2]
   rw [this]
   exact h.slot t _ _ h1 h3
  ·rw [List.getD_eq_getElem?_getD, List.getElem?_eq_none hl]
   trivial
 | const v => exact a7z g V v
 | func f => exact ⟨[], rfl, rfl, fun k c v h => by simp at h⟩
 | global n => trivial
theorem b5i {g : List Gh} {V : View} {st : St} {a : Act} (h : Sl g V st.t a) (xs : List Operand) : ∀ (k : Nat) (s : SV) (y : Value), (xs.map (ev st))[k]? = some s → (xs.map a.eval)[k]? = some y → cSV g V s y := by
 intro k s y h1 h2
 rw [List.getElem?_map] at h1 h2
 cases hx : xs[k]? with
 | none => rw [hx] at h1; cases h1
 | some x => rw [hx] at h1 h2; cases h1; cases h2; exact cZ h x
theorem Rel.put {C : Ctx} {g : List Gh} {V : View} {st : St} {a : Act} {w : World} (h : Rel C g V st a w) (d : Option Nat) {s : SV} {y : Value} (hy : cSV g V s y) : Rel C g V (st.put d s) (a.put d y) w := by
 cases d with
 | none => exact h
 | some d =>
  refine ⟨?_, h.hp, h.mod, h.fr, h.vw⟩
  simp only [St.put, lL]
  exact h.sl.put d hy
end Go.Sx
end
section
set_option linter.all false
namespace Go.Sx
open Go Go.RowKit
structure Env where
 P : Program
 T : Nat → Ty
 C : Ctx
 eqk : Nat → List Nat
def inR : IntKind → Int → Prop
 | .i64, n => -9223372036854775808 ≤ n ∧ n ≤ 9223372036854775807
 | .u8, n => 0 ≤ n ∧ n ≤ 255
 | .u64, n => 0 ≤ n ∧ n ≤ 18446744073709551615
 | _, _ => False
theorem nL {k : IntKind} {n : Int} (h : inR k n) : k.wrap n = n := by
 cases k <;> simp only [inR] at h <;> first
  | exact h.elim
  | (simp only [IntKind.wrap, IntKind.bits, IntKind.signed]
     simp
     omega)
  | (simp only [IntKind.wrap, IntKind.bits, IntKind.signed]
     simp
     split <;> omega)
def gB (s t : ByteArray) : Bool := Op.bytesLess s.toList t.toList
abbrev iv (n : Int) : D := .v (.int .i64 n)
abbrev bv (b : Bool) : D := .v (.bool b)
abbrev sv (s : ByteArray) : D := .v (.string s)
abbrev oi (n : Int) : SV := .o (.d (iv n))
abbrev ob (b : Bool) : SV := .o (.d (bv b))
abbrev os (s : ByteArray) : SV := .o (.d (sv s))
def nV (op : BinOp) (k : IntKind) (a b : Int) : Int :=
 match op with
 | .and => k.wrap ((BitVec.ofInt k.bits a &&& BitVec.ofInt k.bits b).toNat : Int)
 | .or => k.wrap ((BitVec.ofInt k.bits a ||| BitVec.ofInt k.bits b).toNat : Int)
 | _ => k.wrap ((BitVec.ofInt k.bits a ^^^ BitVec.ofInt k.bits b).toNat : Int)
def a2H (k : IntKind) (a b : Int) : Int := a.fdiv (2 ^ (min b.toNat k.bits))
def b0j (op : BinOp) (k : IntKind) (a b : Int) (q : Prop → SV → Prop) : Prop :=
 match op with
 | .add => q (inR k (a + b)) (.o (.d (.v (.int k (a + b)))))
 | .sub => q (inR k (a - b)) (.o (.d (.v (.int k (a - b)))))
 | .mul => q (inR k (a * b)) (.o (.d (.v (.int k (a * b)))))
 | .quo => q (b ≠ 0 ∧ inR k (a.tdiv b)) (.o (.d (.v (.int k (a.tdiv b)))))
 | .rem => q (b ≠ 0) (.o (.d (.v (.int k (a.tmod b)))))
 | .eql => q True (ob (decide (a = b)))
 | .neq => q True (ob (!decide (a = b)))
 | .lss => q True (ob (decide (a < b)))
 | .leq => q True (ob (decide (a ≤ b)))
 | .gtr => q True (ob (decide (b < a)))
 | .geq => q True (ob (decide (b ≤ a)))
 | .and => q True (.o (.d (.v (.int k (nV .and k a b)))))
 | .or => q True (.o (.d (.v (.int k (nV .or k a b)))))
 | .xor => q True (.o (.d (.v (.int k (nV .xor k a b)))))
 | _ => False
def a3k (op : BinOp) (a b : ByteArray) (q : Prop → SV → Prop) : Prop :=
 match op with
 | .add => q (a.size + b.size ≤ maxLen) (os (a ++ b))
 | .eql => q True (ob (decide (a = b)))
 | .neq => q True (ob (!decide (a = b)))
 | .lss => q True (ob (gB a b))
 | .leq => q True (ob (gB a b || decide (a = b)))
 | .gtr => q True (ob (!(gB a b || decide (a = b))))
 | .geq => q True (ob (!gB a b))
 | _ => False
def b1F (op : BinOp) (a b : Bool) (q : Prop → SV → Prop) : Prop :=
 match op with
 | .eql => q True (ob (a == b))
 | .neq => q True (ob (!(a == b)))
 | _ => False
def iD : Value → Nat
 | .int .i64 _ => 1
 | .bool _ => 2
 | .string _ => 3
 | _ => 0
def sD : At → Nat
 | .d (.v x) => iD x
 | _ => 0
def eqV : Value → Value → Bool
 | .int _ a, .int _ b => decide (a = b)
 | .bool a, .bool b => a == b
 | .string a, .string b => decide (a = b)
 | _, _ => false
def lT : List Value → List Value → Bool
 | [], [] => true
 | x :: xs, y :: ys => eqV x y && lT xs ys
 | _, _ => false
def eqA : At → At → Bool
 | .d (.v x), .d (.v y) => eqV x y
 | _, _ => false
def a7A : List At → List At → Bool
 | [], [] => true
 | [x], [y] => eqA x y
 | x :: xs, y :: ys => eqA x y && a7A xs ys
 | _, _ => false
structure EqT (P : Program) (t : Nat) (ks : List Nat) : Prop where
 pos : ks.all (· != 0) = true
 eql : ∀ (w : World) (xs ys : List Value), xs.map iD = ks → ys.map iD = ks → (binOp .eql t (.agg xs.toArray) (.agg ys.toArray)).run P w = .ok (.bool (lT xs ys)) w
 neq : ∀ (w : World) (xs ys : List Value), xs.map iD = ks → ys.map iD = ks → (binOp .neq t (.agg xs.toArray) (.agg ys.toArray)).run P w = .ok (.bool (!lT xs ys)) w
 guard : ∀ (op : BinOp) (x y : Operand) (xs ys : Array Value) (w : World), (eqGuard op t x y (.agg xs) (.agg ys)).run P w = .ok () w
def gP (s : ByteArray) (i : Nat) : Int := ((s.data.toList.getD i 0).toNat : Int)
def eO (rows : List (List D)) (i : Nat) : List D := rows.getD i []
structure Tie.{u} {α : Sort u} (k : α) : Type where
 mk ::
def CallS (E : Env) (f : Nat) (args : List SV) (st : St) (k : St → SV → Prop) : Prop :=
 (∀ as w, (callFunc f as).run E.P w = .ok (.enter f as) w) ∧
 ∀ g V a w (vs : List Value), Rel E.C g V st a w → vs.length = args.length → (∀ (i : Nat) (s : SV) (y : Value), args[i]? = some s → vs[i]? = some y → cSV g V s y) →
  Calls E.P f vs.toArray w fun e w' => ∃ y g' V' st' s, e = .returned y ∧ Rel E.C g' V' st' a w' ∧ cSV g' V' s y ∧ k st' s
structure CallT (E : Env) (f : Nat) (args : List SV) (st : St) (k : St → SV → Prop) (t : Tie k) : Prop where
 out : CallS E f args st k
def lM : SV → Bool
 | .o a => !a.isU
 | .g _ => true
 | .t _ => false
def nthP : List (Nat × Nat) → Nat → Option (Nat × Nat)
 | [], _ => none
 | x :: _, 0 => some x
 | _ :: xs, n + 1 => nthP xs n
theorem a4F (l : List (Nat × Nat)) (n : Nat) : nthP l n = l[n]? := by
 induction l generalizing n with
 | nil => rfl
 | cons x xs ih => cases n with
  | zero => rfl
  | succ n => simpa [nthP] using ih n
def noU (cs : List At) : Bool := cs.all fun a => !a.isU
def wT (E : Env) (t : Nat) (x : SV) (st : St) (k : St → SV → Prop) : Prop :=
 match x with
 | .o (.p id off) => match bK st.h id with
  | .box _ cs => match sub cs off (E.T t).size with
   | some r => (E.T t).tag ≠ 0 ∧ k st (a0U (E.T t).agg r)
   | none => False
  | .pin _ _ ds => match sub (ds.map At.d) off (E.T t).size with
   | some r => (E.T t).tag ≠ 0 ∧ k st (a0U (E.T t).agg r)
   | none => False
  | _ => False
 | .o (.q cs) => match sub cs 0 (E.T t).size with
  | some r => (E.T t).tag ≠ 0 ∧ k st (a0U (E.T t).agg (r.map .d))
  | none => False
 | .o (.r id sz i fo) => match bK st.h id with
  | .row _ sz' rows _ => match sub (eO rows i) fo (E.T t).size with
   | some r => (E.T t).tag ≠ 0 ∧ sz' = sz ∧ i < rows.length ∧ k st (a0U (E.T t).agg (r.map .d))
   | none => False
  | _ => False
 | .o (.e id sz i fo) => match bK st.h id with
  | .own _ sz' rows => match sub (eO rows i) fo 1 with
   | some [.sl _] => (E.T t).tag = 2 ∧ sz' = sz ∧ i < rows.length ∧ k st (.o (.n id sz i fo))
   | _ => False
  | _ => False
 | _ => False
def jW (E : Env) (t id sz i fo : Nat) (v : SV) (st : St) (k : St → SV → Prop) : Prop :=
 match v with
 | .o (.d (.v x)) => match bK st.h id with
  | .own tag sz' rows => match sub (eO rows i) fo 1, dM (eO rows i) fo [.v x] with
   | some [.v _], some r => (E.T t).tag ≠ 0 ∧ (E.T t).size = 1 ∧ sz' = sz ∧ i < rows.length ∧ k ⟨st.t, setH st.h id (.own tag sz' (rows.set i r))⟩ (.t [])
   | _, _ => False
  | _ => False
 | _ => False
def qO (s : SV) (yes no : Prop) (_ : Tie yes) (_ : Tie no) : Prop :=
 match s with
 | .o (.d (.v (.bool b))) => (b = true → yes) ∧ (b = false → no)
 | _ => False
def oJ (E : Env) (t : Nat) (x v : SV) (st : St) (k : St → SV → Prop) : Prop :=
 match x with
 | .o (.p id off) => match bK st.h id with
  | .box ty cs => match dM cs off v.cells with
   | some r => (E.T t).tag ≠ 0 ∧ lM v = true ∧ noU v.cells = true ∧ v.cells.length = (E.T t).size ∧ k ⟨st.t, setH st.h id (.box ty r)⟩ (.t [])
   | none => False
  | .pin b ty ds => match v with
   | .o (.d x) => match dM ds off [x] with
    | some r => (E.T t).tag ≠ 0 ∧ (E.T t).size = 1 ∧ k ⟨st.t, setH st.h id (.pin b ty r)⟩ (.t [])
    | none => False
   | _ => False
  | _ => False
 | _ => False
def vB (x : SV) (st : St) (k : St → SV → Prop) : Prop :=
 match x with
 | .o (.p id off) => k st (.o (.p id off))
 | _ => False
def iV (E : Env) (t : Nat) (x : SV) (f : Nat) (st : St) (k : St → SV → Prop) : Prop :=
 match nthP (E.T t).flds f with
 | some (o, ft) => (E.T t).tag = 1 ∧ (E.T ft).tag ≠ 0 ∧ (match x with
  | .o (.p id off) => k st (.o (.p id (off + o)))
  | .o (.q cs) => k st (.o (.q (cs.drop o)))
  | .o (.r id sz i fo) => k st (.o (.r id sz i (fo + o)))
  | .o (.e id sz i fo) => k st (.o (.e id sz i (fo + o)))
  | _ => False)
 | none => False
def qP (E : Env) (t : Nat) (x : SV) (f : Nat) (st : St) (k : St → SV → Prop) : Prop :=
 match nthP (E.T t).flds f with
 | some (o, ft) => match x with
  | .g cs => match sub cs o (E.T ft).size with
   | some r => (E.T t).tag = 1 ∧ (E.T ft).tag ≠ 0 ∧ k st (a0U (E.T ft).agg r)
   | none => False
  | _ => False
 | none => False
def jY (E : Env) (t : Nat) (x i : SV) (st : St) (k : St → SV → Prop) : Prop :=
 (E.T t).tag = 2 ∧ (E.T (E.T t).elem).tag ≠ 0 ∧
 match x, i with
 | .o (.d (.sl rows)), .o (.d (.v (.int _ n))) => 0 ≤ n ∧ n.toNat < rows.length ∧ (eO rows n.toNat).length = (E.T (E.T t).elem).size ∧ k st (.o (.q (eO rows n.toNat)))
 | .o (.s id), .o (.d (.v (.int _ n))) => match bK st.h id with
  | .row _ sz rows _ => 0 ≤ n ∧ n.toNat < rows.length ∧ sz = (E.T (E.T t).elem).size ∧ k st (.o (.r id sz n.toNat 0))
  | .frz rows _ => 0 ≤ n ∧ n.toNat < rows.length ∧ (eO rows n.toNat).length = (E.T (E.T t).elem).size ∧ k st (.o (.q (eO rows n.toNat)))
  | .own _ sz rows => 0 ≤ n ∧ n.toNat < rows.length ∧ sz = (E.T (E.T t).elem).size ∧ k st (.o (.e id sz n.toNat 0))
  | _ => False
 | _, _ => False
def qQ (E : Env) (t : Nat) (x i : SV) (st : St) (k : St → SV → Prop) : Prop :=
 match x, i with
 | .o (.d (.v (.string s))), .o (.d (.v (.int _ n))) => (E.T t).tag = 5 ∧ 0 ≤ n ∧ n.toNat < s.size ∧ k st (.o (.d (.v (.int .u8 (gP s n.toNat)))))
 | _, _ => False
def oZ (st : St) : SV → Option (List (List D))
 | .o (.d (.sl rows)) => some rows
 | .o .z => some []
 | .o (.s id) => match bK st.h id with
  | .row _ _ rows _ => some rows
  | .frz rows _ => some rows
  | _ => none
 | _ => none
def qR (E : Env) (op : BinOp) (t : Nat) (x y : SV) (st : St) (k : St → SV → Prop) : Prop :=
 match x, y with
 | .o (.d (.v (.int kx a))), .o (.d (.v (.int ky b))) => (match op with
  | .shr => 0 ≤ b ∧ k st (.o (.d (.v (.int kx (a2H kx a b)))))
  | _ => kx = ky ∧ b0j op kx a b fun p s => p ∧ k st s)
 | .o (.d (.v (.string a))), .o (.d (.v (.string b))) => a3k op a b fun p s => p ∧ k st s
 | .o (.d (.v (.bool a))), .o (.d (.v (.bool b))) => (E.T t).tag = 4 ∧ b1F op a b fun p s => p ∧ k st s
 | .g xs, .g ys => E.eqk t ≠ [] ∧ xs.map sD = E.eqk t ∧ ys.map sD = E.eqk t ∧ (match op with
  | .eql => k st (ob (a7A xs ys))
  | .neq => k st (ob (!a7A xs ys))
  | _ => False)
 | _, _ => False
def b1G (E : Env) (op : BinOp) (t : Nat) (x : SV) (st : St) (k : St → SV → Prop) : Prop :=
 (E.T t).tag = 2 ∧ match oZ st x with
 | some rows => (match op with
  | .eql => ∀ b : Bool, (b = true → rows = []) → k st (ob b)
  | .neq => ∀ b : Bool, (b = false → rows = []) → k st (ob b)
  | _ => False)
 | none => False
def a5T (E : Env) (op : BinOp) (t : Nat) (x y : SV) (st : St) (k : St → SV → Prop) : Prop :=
 match y with
 | .o .z => b1G E op t x st k
 | _ => qR E op t x y st k
def a7B (op : UnOp) (x : SV) (st : St) (k : St → SV → Prop) : Prop :=
 match op, x with
 | .not, .o (.d (.v (.bool b))) => k st (ob (!b))
 | .neg, .o (.d (.v (.int kd n))) => inR kd (0 - n) ∧ k st (.o (.d (.v (.int kd (0 - n)))))
 | _, _ => False
def wU (E : Env) (src dst : Nat) (x : SV) (st : St) (k : St → SV → Prop) : Prop :=
 match x with
 | .o (.d (.v (.int _ n))) => (E.T src).tag = 3 ∧ (E.T dst).tag = 3 ∧ inR (E.T dst).kind n ∧ k st (.o (.d (.v (.int (E.T dst).kind n))))
 | _ => False
def wV : List (List D) → Option (List Int)
 | [] => some []
 | r :: rs => match r with
  | [.v (.int .u8 n)] => (wV rs).map (n :: ·)
  | _ => none
def a3l (ns : List Int) : ByteArray := ⟨(ns.map fun n => UInt8.ofNat n.toNat).toArray⟩
def a4G (E : Env) (src dst : Nat) (x : SV) (st : St) (k : St → SV → Prop) : Prop :=
 (E.T src).tag = 2 ∧ (E.T (E.T src).elem).tag = 3 ∧ (E.T (E.T src).elem).kind = .u8 ∧ (E.T dst).tag = 5 ∧
 match oZ st x with
 | some rows => match wV rows with
  | some ns => k st (os (a3l ns))
  | none => False
 | none => False
def bnd (st : St) (dflt : Nat) : Option Operand → Option Int
 | none => some dflt
 | some x => match ev st x with
  | .o (.d (.v (.int _ n))) => some n
  | _ => none
def b6C (st : St) : SV → Bool
 | .o (.d (.sl _)) => true
 | .o .z => true
 | .o (.s id) => match bK st.h id with
  | .row .. => true
  | .frz .. => true
  | _ => false
 | _ => false
def oK (E : Env) (t : Nat) (x : SV) (lo hi mx : Option Operand) (st : St) (k : St → SV → Prop) : Prop :=
 match mx with
 | some m => (E.T t).tag = 2 ∧ (E.T (E.T t).elem).tag ≠ 0 ∧ b6C st x = true ∧ lo = none ∧ bnd st 1 hi = some 0 ∧ bnd st 1 (some m) = some 0 ∧ hi ≠ none ∧ k ⟨st.t, st.h ++ [.row (E.T t).elem (E.T (E.T t).elem).size [] true]⟩ (.o (.s st.h.length))
 | none => match x with
  | .o (.d (.v (.string s))) => match bnd st 0 lo, bnd st s.size hi with
   | some l, some h => (E.T t).tag = 5 ∧ 0 ≤ l ∧ l ≤ h ∧ h ≤ s.size ∧ k st (os (s.extract l.toNat h.toNat))
   | _, _ => False
  | .o (.d (.sl rows)) => match bnd st 0 lo, bnd st rows.length hi with
   | some l, some h => (E.T t).tag = 2 ∧ (E.T (E.T t).elem).tag ≠ 0 ∧ (∀ r ∈ rows, r.length = (E.T (E.T t).elem).size) ∧ 0 ≤ l ∧ l ≤ h ∧ h ≤ rows.length ∧ k st (.o (.d (.sl ((rows.take h.toNat).drop l.toNat))))
   | _, _ => False
  | _ => False
def kW (x : SV) (i : Nat) (st : St) (k : St → SV → Prop) : Prop :=
 match x with
 | .t l => match l[i]? with
  | some (b, cs) => k st (if b then .g cs else a0U false cs)
  | none => False
 | _ => False
def a1P (E : Env) (t : Nat) (x : SV) (st : St) (k : St → SV → Prop) : Prop :=
 match x with
 | .o (.d (.v (.string s))) => (E.T t).tag = 5 ∧ k st (oi s.size)
 | .o (.d (.sl rows)) => (E.T t).tag = 2 ∧ k st (oi rows.length)
 | .o .z => (E.T t).tag = 2 ∧ k st (oi 0)
 | .o (.s id) => (E.T t).tag = 2 ∧ (match bK st.h id with
  | .row _ _ rows _ => k st (oi rows.length)
  | .frz rows _ => k st (oi rows.length)
  | .own _ _ rows => k st (oi rows.length)
  | _ => False)
 | _ => False
def qU (E : Env) (st : St) (flds : List (Nat × Nat)) : List At → List (Nat × Operand) → Option (List At)
 | cs, [] => some cs
 | cs, (i, x) :: r => match nthP flds i with
  | some (o, ft) => if lM (ev st x) && (ev st x).cells.length == (E.T ft).size then (dM cs o (ev st x).cells).bind fun cs' => qU E st flds cs' r else none
  | none => none
def yK (E : Env) (t : Nat) (parts : List (Nat × Operand)) (st : St) (k : St → SV → Prop) : Prop :=
 match qU E st (E.T t).flds (E.T t).zero parts with
 | some cs => (E.T t).tag = 1 ∧ (E.T t).flds.all (fun p => (E.T p.2).tag != 0) = true ∧ k st (.g cs)
 | none => False
def dQ : List At → List Nat
 | [] => []
 | .s id :: cs => id :: dQ cs
 | _ :: cs => dQ cs
def bI : List HB → List Nat → List HB
 | h, [] => h
 | h, id :: ids => match bK h id with
  | .row _ _ rows lin => bI (setH h id (.frz rows lin)) ids
  | _ => bI h ids
def dR : List HB → List Nat → List HB
 | h, [] => h
 | h, id :: ids => dR (setH h id .gone) ids
def uE (h : List HB) : At → Option (D × Bool)
 | .d (.v x) => some (.v x, true)
 | .d (.sl rows) => some (.sl rows, false)
 | .z => some (.sl [], true)
 | .s id => match bK h id with
  | .frz rows lin => some (.sl rows, lin)
  | _ => none
 | _ => none
def nW (h : List HB) : List At → Option (List D × Bool)
 | [] => some ([], true)
 | a :: as => (uE h a).bind fun x => (nW h as).map fun y => (x.1 :: y.1, x.2 && y.2)
def a2I (x : Nat) : List Nat → Bool
 | [] => false
 | y :: ys => x == y || a2I x ys
def pE : List Nat → Bool
 | [] => true
 | x :: xs => !a2I x xs && pE xs
def uni (sz : Nat) (rows : List (List D)) : Prop := ∀ r ∈ rows, r.length = sz
def isV : D → Bool
 | .v _ => true
 | .sl _ => false
def iL (rows : List (List D)) : Bool := rows.all (·.all isV)
def iQ (st : St) : Nat → List (Nat × Operand) → Option (List (List At))
 | _, [] => some []
 | n, (i, x) :: r => if i = n ∧ lM (ev st x) = true then (iQ st (n + 1) r).map ((ev st x).cells :: ·) else none
def a5U (h : List HB) : List (List At) → Option (List (List D) × Bool)
 | [] => some ([], true)
 | a :: as => (nW h a).bind fun x => (a5U h as).map fun y => (x.1 :: y.1, x.2 && y.2)
def kM (E : Env) (t len : Nat) (parts : List (Nat × Operand)) (st : St) (k : St → SV → Prop) : Prop :=
 (E.T t).tag = 2 ∧ (E.T (E.T t).elem).tag ≠ 0 ∧ len = parts.length ∧ len * (E.T (E.T t).elem).size ≤ 16777216 ∧
 match iQ st 0 parts with
 | some cs => pE (dQ cs.flatten) = true ∧ (match a5U (bI st.h (dQ cs.flatten)) cs with
  | some (rows, lin) => uni (E.T (E.T t).elem).size rows ∧ k ⟨st.t, dR (bI st.h (dQ cs.flatten)) (dQ cs.flatten) ++ [.row (E.T t).elem (E.T (E.T t).elem).size rows lin]⟩ (.o (.s st.h.length))
  | none => False)
 | none => False
def sF (id : Nat) : At → At
 | .s j => if j = id then .u else .s j
 | .p j off => if j = id then .u else .p j off
 | .r j sz i fo => if j = id then .u else .r j sz i fo
 | .e j sz i fo => if j = id then .u else .e j sz i fo
 | .n j sz i fo => if j = id then .u else .n j sz i fo
 | a => a
def yL (id : Nat) : SV → SV
 | .o a => .o (sF id a)
 | .g cs => .g (cs.map (sF id))
 | .t l => .t (l.map fun x => (x.1, x.2.map (sF id)))
def pQ (id : Nat) : HB → HB
 | .box ty cs => .box ty (cs.map (sF id))
 | .isv j v => if j = id then .gone else .isv j v
 | b => b
def a7C (st : St) : SV → Option (List (List D) × Bool × List Nat)
 | .o (.s id) => match bK st.h id with
  | .row _ _ rows lin => some (rows, lin, [id])
  | .frz rows lin => some (rows, lin, [id])
  | _ => none
 | .o (.d (.sl rows)) => some (rows, iL rows, [])
 | .o .z => some ([], true, [])
 | _ => none
def nM (E : Env) (t : Nat) (s x : SV) (st : St) (k : St → SV → Prop) : Prop :=
 (E.T t).tag = 2 ∧ (E.T (E.T t).elem).tag ≠ 0 ∧
 match a7C st x with
 | some (rows2, lin2, ids) => uni (E.T (E.T t).elem).size rows2 ∧ (match s with
  | .o (.s id) => match bK st.h id with
   | .row ty sz rows lin => ty = (E.T t).elem ∧ sz = (E.T (E.T t).elem).size ∧ a2I id ids = false ∧ rows.length + rows2.length ≤ maxLen ∧ (rows.length + rows2.length) * (E.T (E.T t).elem).bytes ≤ 140737488355328 ∧
    k ⟨st.t.map (yL id), setH ((dR (bI st.h ids) ids).map (pQ id)) id (.row ty sz (rows ++ rows2) (lin && lin2))⟩ (.o (.s id))
   | _ => False
  | .o .z => rows2.length ≤ maxLen ∧ rows2.length * (E.T (E.T t).elem).bytes ≤ 140737488355328 ∧
      k ⟨st.t, dR (bI st.h ids) ids ++ [.row (E.T t).elem (E.T (E.T t).elem).size rows2 lin2]⟩ (.o (.s st.h.length))
  | _ => False)
 | none => False
structure OpqT (P : Prop) (t : Tie P) : Prop where
 out : P
def a0G : List At → Option (List Value)
 | [] => some []
 | .d (.v x) :: cs => (a0G cs).map (x :: ·)
 | _ :: _ => none
def a3m : List (List At) → Option (List (List Value))
 | [] => some []
 | c :: cs => (a0G c).bind fun r => (a3m cs).map (r :: ·)
def a8J (E : Env) (t len : Nat) (parts : List (Nat × Operand)) (st : St) (k : St → SV → Prop) : Prop :=
 (E.T t).tag = 2 ∧ (E.T (E.T t).elem).tag ≠ 0 ∧ len = parts.length ∧ len * (E.T (E.T t).elem).size ≤ 16777216 ∧
 match iQ st 0 parts with
 | some cs => (match a3m cs with
  | some rows => (∀ r ∈ rows, r.length = (E.T (E.T t).elem).size) ∧ rows ≠ [] ∧ OpqT (∀ z, k ⟨st.t, st.h ++ [.pool (E.T t).elem (E.T (E.T t).elem).size [(z, rows)]]⟩ (.o (.d (.v z)))) ⟨⟩
  | none => False)
 | none => False
structure AppT (E : Env) (t : Nat) (z z2 : Value) (st : St) (k : St → SV → Prop) (u : Tie k) : Prop where
 out : ∃ (id : Nat) (items : List (Value × List (List Value))) (i : Nat) (xs : List (List Value)) (id2 : Nat) (items2 : List (Value × List (List Value))) (xs2 : List (List Value)),
  bK st.h id = .pool (E.T t).elem (E.T (E.T t).elem).size items ∧ items[i]? = some (z, xs) ∧ bK st.h id2 = .pool (E.T t).elem (E.T (E.T t).elem).size items2 ∧ (z2, xs2) ∈ items2 ∧ xs2 ≠ [] ∧
  xs.length + xs2.length ≤ maxLen ∧ (xs.length + xs2.length) * (E.T (E.T t).elem).bytes ≤ 140737488355328 ∧
  ∀ z', k ⟨st.t, setH st.h id (.pool (E.T t).elem (E.T (E.T t).elem).size (items.set i (z', xs ++ xs2)))⟩ (.o (.d (.v z')))
def a4H (E : Env) (t : Nat) (z : Value) (x : SV) (st : St) (k : St → SV → Prop) : Prop :=
 (E.T t).tag = 2 ∧ (E.T (E.T t).elem).tag ≠ 0 ∧ match x with
 | .o (.d (.v z2)) => AppT E t z z2 st k ⟨⟩
 | _ => False
def a0e (E : Env) (t : Nat) (s x : SV) (st : St) (k : St → SV → Prop) : Prop :=
 match s with
 | .o (.d (.v z)) => a4H E t z x st k
 | _ => nM E t s x st k
def nO (E : Env) (t len : Nat) (parts : List (Nat × Operand)) (st : St) (k : St → SV → Prop) : Prop :=
 match (E.T t).flds with
 | [] => kM E t len parts st k
 | _ :: _ => a8J E t len parts st k
def a7D (E : Env) (t : Nat) (l c : SV) (st : St) (k : St → SV → Prop) : Prop :=
 (E.T t).tag = 2 ∧ (E.T (E.T t).elem).tag ≠ 0 ∧
 match l, c with
 | .o (.d (.v (.int .i64 n))), .o (.d (.v (.int .i64 m))) => n = m ∧ 0 ≤ n ∧ n.toNat ≤ maxLen ∧ n.toNat * (E.T (E.T t).elem).bytes ≤ 140737488355328 ∧
  (match nW [] (E.T (E.T t).elem).zero with
  | some (z, l) => l = true ∧ k ⟨st.t, st.h ++ [.row (E.T t).elem (E.T (E.T t).elem).size (List.replicate n.toNat z) true]⟩ (.o (.s st.h.length))
  | none => False)
 | _, _ => False
def kX (E : Env) (t id sz i fo : Nat) (v : SV) (st : St) (k : St → SV → Prop) : Prop :=
 (E.T t).tag ≠ 0 ∧ lM v = true ∧ v.cells.length = (E.T t).size ∧ pE (dQ v.cells) = true ∧ a2I id (dQ v.cells) = false ∧
 match bK st.h id, nW (bI st.h (dQ v.cells)) v.cells with
 | .row ty sz' rows lin, some (ds, l2) => match dM (eO rows i) fo ds with
  | some r => sz' = sz ∧ i < rows.length ∧ k ⟨st.t, setH (dR (bI st.h (dQ v.cells)) (dQ v.cells)) id (.row ty sz' (rows.set i r) (lin && l2))⟩ (.t [])
  | none => False
 | _, _ => False
def qV (h : List HB) : List At → Option (List D)
 | [] => some []
 | .d x :: cs => (qV h cs).map (x :: ·)
 | .z :: cs => (qV h cs).map (.sl [] :: ·)
 | .s id :: cs => match bK h id with
  | .frz rows _ => (qV h cs).map (.sl rows :: ·)
  | _ => none
 | _ :: _ => none
def a5V (id : Nat) (ds : List D) : At → At
 | .p j off => if j = id then .q (ds.drop off) else .p j off
 | a => a
def b3A (id : Nat) (ds : List D) : SV → SV
 | .o a => .o (a5V id ds a)
 | .g cs => .g (cs.map (a5V id ds))
 | .t l => .t (l.map fun x => (x.1, x.2.map (a5V id ds)))
def a7E (id : Nat) (ds : List D) : HB → HB
 | .box ty cs => .box ty (cs.map (a5V id ds))
 | b => b
def wW (E : Env) : St → List Operand → Option (St × List (List D))
 | st, [] => some (st, [])
 | st, c :: cs => match ev st c with
  | .o (.q ds) => (wW E st cs).map fun r => (r.1, ds :: r.2)
  | .o (.p id 0) => match bK st.h id with
   | .box _ b => match qV (bI st.h (dQ b)) b with
    | some ds => (wW E ⟨st.t.map (b3A id ds), (setH (bI st.h (dQ b)) id .gone).map (a7E id ds)⟩ cs).map fun r => (r.1, ds :: r.2)
    | none => none
   | _ => none
  | _ => none
def qW (E : Env) (f : Nat) (caps : List Operand) (st : St) (k : St → SV → Prop) : Prop :=
 match wW E st caps with
 | some (st', ds) => k st' (.o (.f f ds))
 | none => False
def pR (E : Env) (t id : Nat) (lo hi : Option Operand) (st : St) (k : St → SV → Prop) : Prop :=
 match oZ st (.o (.s id)) with
 | some rows => match bnd st 0 lo, bnd st rows.length hi with
  | some l, some h => (E.T t).tag = 2 ∧ (E.T (E.T t).elem).tag ≠ 0 ∧ uni (E.T (E.T t).elem).size rows ∧ 0 ≤ l ∧ l ≤ h ∧ h ≤ rows.length ∧ k ⟨st.t, bI st.h [id]⟩ (.o (.d (.sl ((rows.take h.toNat).drop l.toNat))))
  | _, _ => False
 | none => False
def mxI (a b : Int) : Int := if b > a then b else a
def a1Q (x y : SV) (k : SV → Prop) : Prop :=
 match x, y with
 | .o (.d (.v (.int .i64 a))), .o (.d (.v (.int .i64 b))) => k (oi (mxI a b))
 | _, _ => False
def gY (E : Env) (c : Call) (st : St) (k : St → SV → Prop) : Prop :=
 match c.callee with
 | .value f => match ev st f with
  | .o (.f fn caps) => CallT E fn (c.args.toList.map (ev st) ++ caps.map (fun cs => .o (.q cs))) st k ⟨⟩
  | _ => False
 | .builtin .len => match c.args.toList, c.argTypes.toList with
  | [x], [t] => a1P E t (ev st x) st k
  | _, _ => False
 | .builtin .append => match c.args.toList, c.argTypes.toList with
  | [s, x], [t, t'] => t = t' ∧ a0e E t (ev st s) (ev st x) st k
  | _, _ => False
 | .builtin .max => match c.args.toList with
  | [x, y] => a1Q (ev st x) (ev st y) (k st)
  | _ => False
 | _ => False
def cO (E : Env) (op : Op) (st : St) (k : St → SV → Prop) : Prop :=
 match op with
 | .move x => k st (ev st x)
 | .assign x => k st (ev st x)
 | .pick c x y => qO (ev st c) (k st (ev st x)) (k st (ev st y)) ⟨⟩ ⟨⟩
 | .alloc t => (E.T t).tag ≠ 0 ∧ k (st.push (.box t (E.T t).zero)) (.o (.p st.h.length 0))
 | .box t x => lM (ev st x) = true ∧ k (st.push (.box t (ev st x).cells)) (.o (.p st.h.length 0))
 | .load t x => wT E t (ev st x) st k
 | .store t x v => match ev st x with
  | .o (.r id sz i fo) => kX E t id sz i fo (ev st v) st k
  | .o (.e id sz i fo) => jW E t id sz i fo (ev st v) st k
  | _ => oJ E t (ev st x) (ev st v) st k
 | .fieldAddr t x f => iV E t (ev st x) f st k
 | .field t x f => qP E t (ev st x) f st k
 | .indexAddr t x i => jY E t (ev st x) (ev st i) st k
 | .index t x i => qQ E t (ev st x) (ev st i) st k
 | .binOp op t x y _ => a5T E op t (ev st x) (ev st y) st k
 | .unOp op _ x => a7B op (ev st x) st k
 | .convert s d x => match ev st x with
  | .o (.d (.v (.int kd n))) => wU E s d (.o (.d (.v (.int kd n)))) st k
  | y => a4G E s d y st k
 | .slice t x lo hi mx => match mx, ev st x with
  | none, .o (.s id) => pR E t id lo hi st k
  | mx, y => oK E t y lo hi mx st k
 | .extract x i => kW (ev st x) i st k
 | .nilCheck x => vB (ev st x) st k
 | .build t parts => yK E t parts.toList st k
 | .buildSlice t len parts => nO E t len parts.toList st k
 | .makeSlice t l c => a7D E t (ev st l) (ev st c) st k
 | .makeFunc fn first caps => match fn with
  | .func f => first.toList = [] ∧ qW E f caps.toList st k
  | _ => False
 | .call c => gY E c st k
 | _ => False
end Go.Sx
end
section
set_option linter.all false
namespace Go.Sx
open Go Go.RowKit
theorem aL {P : Program} {o : Oper} {a : Act} {w w' : World} {K : Act → World → Prop} {Q : Exit → Act → World → Prop} {y : Value}
    (h : (execOp a.eval o).run P w = .ok (.value y) w') (k : K (a.put o.dst y) w') : o.wp P a w K Q := by
 unfold Oper.wp
 rw [h]
 exact k
theorem qX {P : Program} {o : Oper} {a : Act} {w w' : World} {K : Act → World → Prop} {Q : Exit → Act → World → Prop}
    (h : (execOp a.eval o).run P w = .ok .skip w') (k : K (a.put o.dst undef) w') : o.wp P a w K Q := by
 unfold Oper.wp
 rw [h]
 exact k
section
variable {C : Ctx} {g : List Gh} {V : View} {st : St} {a : Act} {w : World}
theorem Rel.later {V' : View} {w' : World} (h : Rel C g V st a w) (hv : V.le V') (hm : Mod V' w') (hb : Below w.heap.size w w') (hn : ∀ b cs, V' b = some cs → V b = none → w.heap.size ≤ b ∧ Unf w' b) : Rel C g V' st a w' := by
 refine ⟨h.sl.mono (GLe.refl g) hv, h.hp.later hv hb.size (fun i b x h1 h2 n hn' => hb.block n (h.hp.lo i b x h1 h2 n hn').2) (fun i b x h1 h2 n hn' => ?_), hm, ?fr, ?vw⟩
 case vw =>
  refine (h.vw.move (w' := w') fun b cs hb' => hb.block b (h.mod.lt hb')).grow hv fun b cs h1 h2 => ?_
  have := hn b cs h1 h2
  have := h.fr.size
  exact ⟨.inl (by omega), (hn b cs h1 h2).2⟩
 ·cases hc : V' n with
  | none => rfl
  | some cs =>
   have h3 := (hn n cs hc (h.hp.rt i b x h1 h2 n hn')).1
   have h4 := (h.hp.lo i b x h1 h2 n (aZ hn')).2
   omega
 ·exact ⟨hb.os.trans h.fr.os, hb.tape.trans h.fr.tape, hb.output.trans h.fr.output, Nat.le_trans h.fr.size hb.size, fun k hk hx => (hb.block k (Nat.lt_of_lt_of_le hk h.fr.size)).trans (h.fr.block k hk hx)⟩
theorem a0H (w : World) (o : Obj) : Below w.heap.size w (w.alloc o) := (Below.refl _ _).alloc (Nat.le_refl _) o
theorem Mod.alloc {V : View} {w : World} (h : Mod V w) (o : Obj) : Mod V (w.alloc o) := fun b cs hb => by
 obtain ⟨c, ty, fz, h1, h2⟩ := h b cs hb
 exact ⟨c, ty, fz, by rw [Below.heap_alloc _ _ _ (Array.getElem?_eq_some_iff.1 h1).1]; exact h1, h2⟩
theorem Mod.fresh {V : View} {w : World} (h : Mod V w) {n : Nat} (hn : w.heap.size ≤ n) : V n = none := by
 cases hc : V n with
 | none => rfl
 | some cs => have := h.lt hc; omega
theorem Rel.newBox (h : Rel C g V st a w) (ty : Nat) {cs : List At} {l : List Value} (hc : cL g V cs l) :
    ∃ g', Rel C g' V (st.push (.box ty cs)) a (w.alloc (.cells l.toArray ty)) ∧ cSV g' V (.o (.p st.h.length 0)) (.pointer (some ⟨w.heap.size, 0, none⟩)) := by
 let x : Gh := ⟨some w.heap.size, undef, [], []⟩
 have hl := h.later (View.le.refl V) (h.mod.alloc (.cells l.toArray ty)) (a0H w _) (fun b cs h1 h2 => by rw [h1] at h2; cases h2)
 have hlen : g.length = st.h.length := h.hp.glen
 refine ⟨g ++ [x], ⟨hl.sl.mono (GLe.push _ _) (View.le.refl V), hl.hp.push ?_ ?_ ?_ ?_ ?_, hl.mod, hl.fr, hl.vw⟩, ?_⟩
 ·exact ⟨w.heap.size, l, rfl, heap_alloc_new w _, hc.mono (GLe.push _ _) (View.le.refl V)⟩
 ·simp [ownB, x]
 ·intro n hn
  simp [ownB, x] at hn
  subst hn
  exact ⟨.inl h.fr.size, by simp⟩
 ·intro i b' x' h1 h2 n hn hm
  simp [ownB, x] at hm
  subst hm
  exact Nat.lt_irrefl _ (h.hp.lo i b' x' h1 h2 _ hn).2
 ·intro n hn
  simp [aY, x] at hn
  subst hn
  exact h.mod.fresh (Nat.le_refl _)
 ·exact ⟨x, w.heap.size, by rw [List.getElem?_append_right (by omega)]; simp [hlen], rfl, rfl⟩
theorem Rel.storeBox (h : Rel C g V st a w) {id ty : Nat} {cs r : List At} (hb : st.h[id]? = some (.box ty cs)) {x : Gh} {b : Nat} (hx : g[id]? = some x) (hxb : x.blk = some b)
    {l : List Value} (hc : cL g V r l) : Rel C g V ⟨st.t, st.h.set id (.box ty r)⟩ a (w.setRow b l.toArray) := by
 have hbok := h.hp.hb id _ x hb hx
 obtain ⟨b', l0, e1, e2, e3⟩ := hbok
 rw [hxb] at e1
 cases e1
 have hroot : ∀ n, n ∈ aY x (.box ty cs) ↔ n = b := fun n => by simp [aY, hxb, eq_comm]
 have hold : ¬ (b < C.w0.heap.size ∧ b ∉ C.X) := by
  intro hh
  have := (h.hp.lo id _ x hb hx b (aZ ((hroot b).2 rfl))).1
  rcases this with h1 | h1
  ·omega
  ·exact hh.2 h1
 have hsz : (w.setRow b l.toArray).heap.size = w.heap.size := by simp [World.setRow]
 refine ⟨h.sl, h.hp.set id hb hx (fun n hn => hn) (show (ownB x (.box ty cs)).Nodup from h.hp.nd id _ x hb hx) (fun n hn => hn) ⟨b, l, hxb, setRow_heap w b l0.toArray l.toArray ty (0, 0) e2, hc⟩ (fun n hn => setRow_other w b n _ (fun e => hn ((hroot n).2 e))) hsz, ?_, ?_, h.vw.move fun k cs' hk => setRow_other w b k _ fun e => by
  have := h.hp.rt id _ x hb hx b ((hroot b).2 rfl)
  rw [← e, hk] at this
  cases this⟩
 ·intro k cs' hk
  obtain ⟨c, ty', fz, h1, h2⟩ := h.mod k cs' hk
  have hne : k ≠ b := fun e => by
   have := h.hp.rt id _ x hb hx b ((hroot b).2 rfl)
   rw [← e, hk] at this
   cases this
  exact ⟨c, ty', fz, by rw [setRow_other w b k _ hne]; exact h1, h2⟩
 ·exact ⟨h.fr.os, h.fr.tape, h.fr.output, by rw [hsz]; exact h.fr.size, fun k hk hX => by
   rw [setRow_other w b k _ (fun e => hold (e ▸ ⟨hk, hX⟩))]; exact h.fr.block k hk hX⟩
theorem cLd {g g' : List Gh} {V : View} {ds : List D} {l : List Value} (h : cL g V (ds.map At.d) l) : cL g' V (ds.map At.d) l := ⟨h.1, fun k a y h1 h2 => by
 rw [List.getElem?_map] at h1
 cases hk : ds[k]? with
 | none => rw [hk] at h1; cases h1
 | some d => rw [hk] at h1; cases h1; exact h.2 k (.d d) y (by rw [List.getElem?_map, hk]; rfl) h2⟩
theorem Rel.storePin (h : Rel C g V st a w) {id ty pb : Nat} {ds r : List D} (hb : st.h[id]? = some (.pin pb ty ds)) {x : Gh} {b : Nat} (hx : g[id]? = some x) (hxb : x.blk = some b)
    {l : List Value} (hc : cL g V (r.map At.d) l) : Rel C g V ⟨st.t, st.h.set id (.pin b ty r)⟩ a (w.setRow b l.toArray) := by
 have hbok := h.hp.hb id _ x hb hx
 obtain ⟨e1, l0, e2, e3⟩ := hbok
 rw [hxb] at e1
 have e0 : b = pb := Option.some.inj e1
 subst e0
 have hroot : ∀ n, n ∈ aY x (.pin b ty ds) ↔ n = b := fun n => by simp [aY, hxb, eq_comm]
 have hold : ¬ (b < C.w0.heap.size ∧ b ∉ C.X) := by
  intro hh
  have := (h.hp.lo id _ x hb hx b (aZ ((hroot b).2 rfl))).1
  rcases this with h1 | h1
  ·omega
  ·exact hh.2 h1
 have hsz : (w.setRow b l.toArray).heap.size = w.heap.size := by simp [World.setRow]
 refine ⟨h.sl, h.hp.set id hb hx (fun n hn => hn) (show (ownB x (.pin b ty ds)).Nodup from h.hp.nd id _ x hb hx) (fun n hn => hn) ⟨hxb, l, setRow_heap w b l0.toArray l.toArray ty (0, 0) e2, cLd hc⟩ (fun n hn => setRow_other w b n _ (fun e => hn ((hroot n).2 e))) hsz, ?_, ?_, h.vw.move fun k cs' hk => setRow_other w b k _ fun e => by
  have := h.hp.rt id _ x hb hx b ((hroot b).2 rfl)
  rw [← e, hk] at this
  cases this⟩
 ·intro k cs' hk
  obtain ⟨c, ty', fz, h1, h2⟩ := h.mod k cs' hk
  have hne : k ≠ b := fun e => by
   have := h.hp.rt id _ x hb hx b ((hroot b).2 rfl)
   rw [← e, hk] at this
   cases this
  exact ⟨c, ty', fz, by rw [setRow_other w b k _ hne]; exact h1, h2⟩
 ·exact ⟨h.fr.os, h.fr.tape, h.fr.output, by rw [hsz]; exact h.fr.size, fun k hk hX => by
   rw [setRow_other w b k _ (fun e => hold (e ▸ ⟨hk, hX⟩))]; exact h.fr.block k hk hX⟩
theorem Rel.ghost (h : Rel C g V st a w) {id : Nat} {b : HB} (hb : st.h[id]? = some b) : ∃ x, g[id]? = some x ∧ HBok g V w x b := by
 have hl : id < g.length := by rw [h.hp.glen]; exact (List.getElem?_eq_some_iff.1 hb).1
 exact ⟨_, List.getElem?_eq_getElem hl, h.hp.hb id b _ hb (List.getElem?_eq_getElem hl)⟩
end
theorem aF {l : List HB} {id : Nat} {b : HB} (h : bK l id = b) (hb : b ≠ .gone) : l[id]? = some b := by
 rw [a1m, List.getD_eq_getElem?_getD] at h
 cases hl : l[id]? with
 | none => rw [hl] at h; exact (hb h.symm).elim
 | some y => rw [hl] at h; exact congrArg some h
theorem yM {g : List Gh} {V : View} {agg : Bool} {r : List At} {ys : List Value} (h : cL g V r ys) (h1 : agg = false → r.length = 1) :
    cSV g V (a0U agg r) (if agg then .agg ys.toArray else ys.headD undef) := by
 cases agg with
 | true => exact ⟨ys, rfl, h⟩
 | false =>
  match r, h1 rfl with
  | [a], _ =>
   obtain ⟨y, l', rfl, hy, hl⟩ := h.cons_inv
   exact hy
section
variable {P : Program} {t : Nat} {d : Ty} {i : TypeInfo} {z : Value} {u : TypeDesc}
theorem TyGood.agg_size (h : TyGood P t d i z u) (ha : d.agg = false) : d.size = 1 := h.size1 fun e => by simp [Ty.agg, e] at ha
theorem kY (h : TyGood P t d i z u) (w : World) (ad : Addr) (ys : List Value) (hl : ys.length = d.size) (hc : ∀ (j : Nat) (y : Value), ys[j]? = some y → w.cell? (ad.add j) = some y) :
    (Instr.loadAt t (.pointer (some ad))).run P w = .ok (if d.agg then .agg ys.toArray else ys.headD undef) w := by
 simp only [Instr.loadAt, Instr.sureAddr, loadVar, Sem.run_bind, Sem.run_pure, Result.andThen_ok, h.run_agg w]
 cases ha : d.agg with
 | true =>
  simp only [if_true, Sem.run_bind, h.run_size w, Result.andThen_ok, ← hl, run_loadCells_list w ad ys hc, Sem.run_pure]
 | false =>
  have h1 := h.agg_size ha
  match ys, hl.trans h1 with
  | [y], _ =>
   have := hc 0 y rfl
   simp only [Addr.add, if_true] at this
   simp [this]
theorem oM (h : TyGood P t d i z u) (w : World) (b o : Nat) (ty : Nat) (cur : List Value) (v : Value) (hg : w.heap[b]? = some (.cells cur.toArray ty (0, 0)))
    (hs : v.cells.size = d.size) (hfit : o + v.cells.size ≤ cur.length) (h1 : ∀ y ∈ v.cells.toList, y.oneCell' = true) :
    (Instr.storeAt t (.pointer (some ⟨b, o, none⟩)) v).run P w = .ok () (w.setRow b (cur.take o ++ v.cells.toList ++ cur.drop (o + v.cells.size)).toArray) := by
 have hst := run_storeCells_at P b o ty v.cells.toList 0 cur.toArray w hg (by simpa using hfit) h1
 simp only [Nat.add_zero] at hst
 simp only [Instr.storeAt, Instr.sureAddr, storeVar, Sem.run_bind, Sem.run_pure, Result.andThen_ok, h.run_size w, hs]
 simpa [hs] using hst
end
theorem a1R {g : List Gh} {V : View} {cs ys r : List At} {l m : List Value} {o : Nat} (h : dM cs o ys = some r) (hl : cL g V cs l) (hm : cL g V ys m) :
    cL g V r (l.take o ++ m ++ l.drop (o + m.length)) := by
 obtain ⟨e, hle, hk⟩ := iU h
 have e1 := hl.1
 have e2 := hm.1
 refine ⟨?_, fun k a y h1 h2 => ?_⟩
 ·simp only [List.length_append, List.length_take, List.length_drop]
  omega
 ·rw [hk] at h1
  rw [List.getElem?_append, List.getElem?_append] at h2
  simp only [List.length_append, List.length_take] at h2
  split at h1
  ·rename_i hc
   rw [if_pos (by omega), if_neg (by omega), Nat.min_eq_left (by omega)] at h2
   exact hm.2 _ a y h1 h2
  ·rename_i hc
   rcases Nat.lt_or_ge k o with hlt | hge
   ·rw [if_pos (by omega), if_pos (by omega), List.getElem?_take, if_pos hlt] at h2
    exact hl.2 _ a y h1 h2
   ·rw [if_neg (by omega), List.getElem?_drop] at h2
    have : o + m.length + (k - (min o l.length + m.length)) = k := by omega
    rw [this] at h2
    exact hl.2 _ a y h1 h2
theorem mO {g : List Gh} {V : View} {s : SV} {y : Value} (h : cSV g V s y) (hb : lM s = true) : cL g V s.cells y.cells.toList := by
 cases s with
 | o a =>
  have : y.oneCell' = true := cAt.oneCell h (by simpa [lM] using hb)
  have hc : y.cells = #[y] := by cases y <;> first | rfl | simp [Value.oneCell'] at this
  rw [hc]
  exact cL.cons h (cL.nil g V)
 | g cs => obtain ⟨l, rfl, h⟩ := h; exact h
 | t l => simp [lM] at hb
theorem a8K {g : List Gh} {V : View} {cs : List At} {l : List Value} (h : cL g V cs l) (hu : noU cs = true) : ∀ y ∈ l, y.oneCell' = true := by
 intro y hy
 obtain ⟨k, hk, e⟩ := List.mem_iff_getElem.1 hy
 have hk' : k < cs.length := by rw [← h.1]; exact hk
 have hu' := List.all_eq_true.1 hu _ (List.getElem_mem hk')
 exact (h.2 k _ y (List.getElem?_eq_getElem hk') (by rw [List.getElem?_eq_getElem hk, e])).oneCell (by simpa using hu')
theorem a8L {g : List Gh} {V : View} {cs r : List At} {l : List Value} {o n : Nat} (h : sub cs o n = some r) (hl : cL g V cs l) : cL g V r ((l.drop o).take n) ∧ r.length = n ∧ ((l.drop o).take n).length = n := by
 obtain ⟨e, hle⟩ := nK h
 subst e
 have h1 := (hl.drop o).take n
 have h2 : ((cs.drop o).take n).length = n := by simp; omega
 exact ⟨h1, h2, h1.1.trans h2⟩
theorem dV {α : Type} {rows : List (List α)} {sz : Nat} (h : ∀ r ∈ rows, r.length = sz) : rows.flatten.length = rows.length * sz := by
 induction rows with
 | nil => simp
 | cons r rs ih =>
  simp only [List.flatten_cons, List.length_append, List.length_cons, Nat.add_mul, Nat.one_mul]
  rw [ih fun x hx => h x (List.mem_cons_of_mem _ hx), h r (List.mem_cons_self ..)]
  omega
theorem gD {α : Type} {rows : List (List α)} {sz : Nat} (h : ∀ r ∈ rows, r.length = sz) {n : Nat} (hn : n < rows.length) {j : Nat} {d : α} (hd : (rows[n])[j]? = some d) : rows.flatten[n * sz + j]? = some d := by
 induction rows generalizing n with
 | nil => simp at hn
 | cons r rs ih =>
  have hr := h r (List.mem_cons_self ..)
  simp only [List.flatten_cons]
  cases n with
  | zero =>
   simp only [List.getElem_cons_zero] at hd
   rw [Nat.zero_mul, Nat.zero_add, List.getElem?_append_left (List.getElem?_eq_some_iff.1 hd).1]
   exact hd
  | succ n =>
   simp only [List.getElem_cons_succ] at hd
   rw [Nat.add_mul, Nat.one_mul, List.getElem?_append_right (by omega)]
   have : n * sz + sz + j - r.length = n * sz + j := by omega
   rw [this]
   exact ih (fun x hx => h x (List.mem_cons_of_mem _ hx)) (by simpa using hn) hd
end Go.Sx
end
section
set_option linter.all false
namespace Go.Sx
open Go Go.RowKit
section
variable {E : Env} {o : Oper} {st : St} {k : St → SV → Prop} {g : List Gh} {V : View} {a : Act} {w : World} {K : Act → World → Prop} {Q : Exit → Act → World → Prop}
def gF (E : Env) (o : Oper) (a : Act) (k : St → SV → Prop) (K : Act → World → Prop) : Prop :=
 ∀ g V st' w' s y, Rel E.C g V st' a w' → cSV g V s y → k st' s → K (a.put o.dst y) w'
theorem aW (x : Sem Value) (y : Value) (w w' : World) (P : Program) (h : x.run P w = .ok y w') : ((do pure (.value (← x))) : Sem Next).run P w = .ok (.value y) w' := by
 simp [h]
theorem a4I {α : Type} {l : List α} {o : Nat} {x : α} (h : sub l o 1 = some [x]) : l[o]? = some x := by
 obtain ⟨e, hle⟩ := nK h
 have := congrArg (fun z => z[0]?) e
 simp only [List.getElem?_take, List.getElem?_drop, Nat.add_zero, List.getElem?_cons_zero] at this
 simpa using this.symm
theorem a1S (rows : List (List D)) {n : Nat} (hn : n < rows.length) : eO rows n = rows[n] := by simp [eO, List.getD_eq_getElem?_getD, List.getElem?_eq_getElem hn]
theorem b0k {w : World} {sz : Nat} {rows : List (List D)} {y : Value} {S : List Nat} {hd : List Value} (h : OwnR w sz rows y S hd) {ad : Addr} {ln cp : Nat} (hy : y = .slice (some ad) ln cp) {i fo : Nat} {rs : List (List D)} (hi : i < rows.length) (hf : (eO rows i)[fo]? = some (.sl rs)) :
    ∃ z, w.cell? (ad.add (i * sz + fo)) = some z ∧ hd[i * sz + fo]? = some z ∧ z.oneCell' = true := by
 obtain ⟨h0, U, ys, Ss, h1, h2, h3, h4, h5⟩ := h
 rw [a1S rows hi] at hf
 have hflat := gD h0 hi hf
 have hlt : i * sz + fo < ys.length := by rw [h3.1]; exact (List.getElem?_eq_some_iff.1 hflat).1
 have hlt2 : i * sz + fo < Ss.length := by rw [h3.2.1]; exact (List.getElem?_eq_some_iff.1 hflat).1
 have hz := List.getElem?_eq_getElem hlt
 rcases h5 with ⟨e, _, _⟩ | ⟨a, cap, e, _, _, hc, _⟩
 ·rw [hy] at e; cases e
 ·rw [hy] at e; cases e
  exact ⟨_, h1.cell (hc _ _ hz), (h4 _ _ hflat).trans hz, (h3.2.2 _ _ _ _ hflat hz (List.getElem?_eq_getElem hlt2)).oneCell⟩
theorem b3B (hT : TyOK E.P E.T) {t : Nat} {x : Operand} (ho : o.op = .load t x) (h : wT E t (ev st x) st k) (hr : Rel E.C g V st a w) (hK : gF E o a k K) : o.wp E.P a w K Q := by
 have hx := cZ hr.sl x
 unfold wT at h
 split at h
 ·rename_i id off heq
  rw [heq] at hx
  obtain ⟨gh, b, hg, hb, hp⟩ := hx
  split at h
  ·rename_i ty cs hbox
   split at h
   ·rename_i r hsub
    obtain ⟨ht, hk⟩ := h
    obtain ⟨i, z, u, hgood⟩ := hT.good ht
    have hi := aF hbox (by simp)
    obtain ⟨b', l, e1, e2, e3⟩ := hr.hp.hb id _ gh hi hg
    rw [hb] at e1
    cases e1
    obtain ⟨c1, c2, c3⟩ := a8L hsub e3
    have hrun := kY hgood w ⟨b, off, none⟩ ((l.drop off).take (E.T t).size) c3 (fun j y hj => by
     rw [List.getElem?_take] at hj
     split at hj
     ·rw [List.getElem?_drop] at hj
      rw [Addr.add_lit, cell_of_row w b _ _ ty (0, 0) e2]
      simpa using hj
     ·cases hj)
    refine aL (w' := w) (y := _) ?_ (hK g V st w _ _ hr (yM c1 fun ha => by rw [c2]; exact hgood.agg_size ha) hk)
    simp only [execOp, ho, hp]
    exact aW _ _ _ _ _ hrun
   ·exact h.elim
  ·rename_i pb ty ds hbox
   split at h
   ·rename_i r hsub
    obtain ⟨ht, hk⟩ := h
    obtain ⟨i, z, u, hgood⟩ := hT.good ht
    have hi := aF hbox (by simp)
    obtain ⟨e1, l, e2, e3'⟩ := hr.hp.hb id _ gh hi hg
    rw [hb] at e1
    have e0 : b = pb := Option.some.inj e1
    subst e0
    have e3 : cL g V (ds.map At.d) l := e3'.mono (fun i x h => by simp at h) (View.le.refl V)
    obtain ⟨c1, c2, c3⟩ := a8L hsub e3
    have hrun := kY hgood w ⟨b, off, none⟩ ((l.drop off).take (E.T t).size) c3 (fun j y hj => by
     rw [List.getElem?_take] at hj
     split at hj
     ·rw [List.getElem?_drop] at hj
      rw [Addr.add_lit, cell_of_row w b _ _ ty (0, 0) e2]
      simpa using hj
     ·cases hj)
    refine aL (w' := w) (y := _) ?_ (hK g V st w _ _ hr (yM c1 fun ha => by rw [c2]; exact hgood.agg_size ha) hk)
    simp only [execOp, ho, hp]
    exact aW _ _ _ _ _ hrun
   ·exact h.elim
  ·exact h.elim
 ·rename_i cs heq
  rw [heq] at hx
  obtain ⟨p, hp, hq⟩ := hx
  split at h
  ·rename_i r hsub
   obtain ⟨ht, hk⟩ := h
   obtain ⟨i, z, u, hgood⟩ := hT.good ht
   obtain ⟨e, hle⟩ := nK hsub
   subst e
   have hex : ∀ (n : Nat), n ≤ cs.length → ∃ ys : List Value, ys.length = n ∧ (∀ (j : Nat) (y : Value), ys[j]? = some y → w.cell? (p.add j) = some y) ∧ cL g V ((cs.take n).map At.d) ys := by
    intro n
    induction n with
    | zero => intro _; exact ⟨[], rfl, fun j y h => by simp at h, by simpa using cL.nil g V⟩
    | succ n ih =>
     intro hn
     obtain ⟨ys, h1, h2, h3⟩ := ih (by omega)
     have hd : cs[n]? = some cs[n] := List.getElem?_eq_getElem (by omega)
     obtain ⟨zv, S, h4, h5⟩ := hq n _ hd
     refine ⟨ys ++ [zv], by simp [h1], fun j y hj => ?_, ?_⟩
     ·rw [List.getElem?_append] at hj
      split at hj
      ·exact h2 j y hj
      ·rename_i hnl
       have : j = n := by
        rcases Nat.lt_or_ge j (n + 1) with hlt | hge
        ·omega
        ·rw [List.getElem?_eq_none (by simp; omega)] at hj; cases hj
       subst this
       simp [h1] at hj
       subst hj
       exact hr.mod.cell h4
     ·rw [List.take_succ_eq_append_getElem (by omega), List.map_append]
      exact h3.append (cL.cons ⟨S, h5⟩ (cL.nil g V))
   obtain ⟨ys, h1, h2, h3⟩ := hex (E.T t).size (by simpa using hle)
   have hrun := kY hgood w p ys h1 h2
   refine aL (w' := w) (y := _) ?_ (hK g V st w _ _ hr (yM (r := (((cs.drop 0).take (E.T t).size).map At.d)) (by simpa using h3) fun ha => by
    have := hgood.agg_size ha
    simp at hle ⊢
    omega) hk)
   simp only [execOp, ho, hp]
   exact aW _ _ _ _ _ hrun
  ·exact h.elim
 ·rename_i id sz n fo heq
  rw [heq] at hx
  obtain ⟨gh, b, hg, hb, hp⟩ := hx
  split at h
  ·rename_i ty sz' rows lin hrow
   split at h
   ·rename_i r hsub
    obtain ⟨ht, rfl, hn, hk⟩ := h
    obtain ⟨i, z, u, hgood⟩ := hT.good ht
    have hi := aF hrow (by simp)
    obtain ⟨h0, ys, Ss, h1, h2, h3⟩ := hr.hp.hb id _ gh hi hg
    rcases h3 with ⟨e1, _⟩ | ⟨b', cap, c, e1, e2, e3, e4, e5, e6, e7⟩
    ·rw [hb] at e1; cases e1
    ·rw [hb] at e1
     cases e1
     obtain ⟨e, hle⟩ := nK hsub
     subst e
     have hrw : eO rows n = rows[n] := by simp [eO, List.getD_eq_getElem?_getD, List.getElem?_eq_getElem hn]
     have hlen : (eO rows n).length = sz' := by rw [hrw]; exact h0 _ (List.getElem_mem hn)
     have hflat : ∀ j d, (eO rows n)[j]? = some d → rows.flatten[n * sz' + j]? = some d := by
      intro j d hj
      exact gD h0 hn (hrw ▸ hj)
     have hyl : n * sz' + sz' ≤ ys.length := by
      rw [h1.1, dV h0]
      have : (n + 1) * sz' ≤ rows.length * sz' := Nat.mul_le_mul_right _ hn
      rw [Nat.add_mul] at this
      omega
     have hcell : ∀ (j : Nat) (y : Value), ys[n * sz' + fo + j]? = some y → w.cell? (Addr.add ⟨b, n * sz' + fo, none⟩ j) = some y := fun j y hj => by
      rw [Addr.add_lit, cell_of_row w b _ _ ty (0, 0) e5]
      have := fQ e7 hj
      simpa using this
     have hcl : cL g V ((((eO rows n).drop fo).take (E.T t).size).map At.d) ((ys.drop (n * sz' + fo)).take (E.T t).size) := by
      refine ⟨by simp; omega, fun j at' y hj1 hj2 => ?_⟩
      rw [List.getElem?_map] at hj1
      rw [List.getElem?_take] at hj1 hj2
      split at hj1
      ·rw [if_pos ‹_›] at hj2
       rw [List.getElem?_drop] at hj1 hj2
       cases hd : (eO rows n)[fo + j]? with
       | none => rw [hd] at hj1; cases hj1
       | some dd =>
        rw [hd] at hj1
        cases hj1
        have hf := hflat _ _ hd
        rw [← Nat.add_assoc] at hf
        have hkl : n * sz' + fo + j < Ss.length := by
         rw [h1.2.1]; exact (List.getElem?_eq_some_iff.1 hf).1
        exact ⟨_, h1.2.2 _ dd y _ hf hj2 (List.getElem?_eq_getElem hkl)⟩
      ·cases hj1
     have hrun := kY hgood w ⟨b, n * sz' + fo, none⟩ ((ys.drop (n * sz' + fo)).take (E.T t).size) (by simp; omega) (fun j y hj => by
      rw [List.getElem?_take] at hj
      split at hj
      ·rw [List.getElem?_drop] at hj; exact hcell j y hj
      ·cases hj)
     refine aL (w' := w) (y := _) ?_ (hK g V st w _ _ hr (yM hcl fun ha => by
      have := hgood.agg_size ha
      simp
      omega) hk)
     simp only [execOp, ho, hp]
     exact aW _ _ _ _ _ hrun
   ·exact h.elim
  ·exact h.elim
 ·rename_i id sz n fo heq
  rw [heq] at hx
  obtain ⟨gh, ad, ln, cp, hg, hval, hp⟩ := hx
  split at h
  ·rename_i tag sz' rows hown
   split at h
   ·rename_i rs hsub
    obtain ⟨ht, rfl, hn, hk⟩ := h
    obtain ⟨i, z, u, hgood⟩ := hT.good (t := t) (by rw [ht]; decide)
    have hi := aF hown (by simp)
    obtain ⟨_, hO⟩ := hr.hp.hb id _ gh hi hg
    obtain ⟨z, hz1, hz2, hz3⟩ := b0k hO hval hn (a4I hsub)
    have hag : (E.T t).agg = false := by simp [Ty.agg, ht]
    have hrun := kY hgood w (ad.add (n * sz' + fo)) [z] (by simp [hgood.agg_size hag]) (fun j y hj => by
     cases j with
     | zero => simp at hj; subst hj; simpa [Addr.add] using hz1
     | succ j => simp at hj)
    refine aL (w' := w) (y := z) ?_ (hK g V st w (.o (.n id sz' n fo)) _ hr ⟨gh, hg, hz2, hz3⟩ hk)
    simp only [execOp, ho, hp]
    exact aW _ _ _ _ _ (by rw [hrun, hag]; rfl)
   ·exact h.elim
  ·exact h.elim
 ·exact h.elim
end
end Go.Sx
end
section
set_option linter.all false
namespace Go.Sx
open Go Go.RowKit
section
variable {E : Env} {o : Oper} {st : St} {k : St → SV → Prop} {g : List Gh} {V : View} {a : Act} {w : World} {K : Act → World → Prop} {Q : Exit → Act → World → Prop}
theorem gG (g : List Gh) (V : View) : cSV g V (.t []) undef := ⟨[], rfl, rfl, fun k b cs v h => by simp at h⟩
theorem b1H (hT : TyOK E.P E.T) {t : Nat} {x v : Operand} (ho : o.op = .store t x v) (h : oJ E t (ev st x) (ev st v) st k) (hr : Rel E.C g V st a w) (hK : gF E o a k K) : o.wp E.P a w K Q := by
 have hx := cZ hr.sl x
 have hv := cZ hr.sl v
 unfold oJ at h
 split at h
 ·rename_i id off heq
  rw [heq] at hx
  obtain ⟨gh, b, hg, hb, hp⟩ := hx
  split at h
  ·rename_i ty cs hbox
   split at h
   ·rename_i r hsp
    obtain ⟨ht, hbx, hu, hlen, hk⟩ := h
    obtain ⟨i, z, u, hgood⟩ := hT.good ht
    have hi := aF hbox (by simp)
    obtain ⟨b', l, e1, e2, e3⟩ := hr.hp.hb id _ gh hi hg
    rw [hb] at e1
    cases e1
    have hvc := mO hv hbx
    have hsz : (a.eval v).cells.size = (E.T t).size := by have := hvc.1; simp at this; omega
    have hfit := (iU hsp).2.1
    have hrun := oM hgood w b off ty l (a.eval v) e2 hsz (by rw [e3.1]; omega) (a8K hvc hu)
    have hc := a1R hsp e3 hvc
    simp only [Array.length_toList] at hc
    refine qX (w' := _) ?_ (hK g V ⟨st.t, setH st.h id (.box ty r)⟩ _ (.t []) undef (by rw [bO]; exact hr.storeBox hi hg hb hc) (gG g V) hk)
    simp only [execOp, ho, hp, Sem.run_bind, hrun, Result.andThen_ok, Sem.run_pure]
   ·exact h.elim
  ·rename_i pb ty ds hbox
   split at h
   ·rename_i dx hvx
    split at h
    ·rename_i r hsp0
     obtain ⟨ht, hs1, hk⟩ := h
     obtain ⟨i, z, u, hgood⟩ := hT.good ht
     have hi := aF hbox (by simp)
     obtain ⟨e1, l, e2, e3'⟩ := hr.hp.hb id _ gh hi hg
     rw [hb] at e1
     have e0 : b = pb := Option.some.inj e1
     subst e0
     have e3 : cL g V (ds.map At.d) l := e3'.mono (fun i x h => by simp at h) (View.le.refl V)
     have hsp := wS At.d hsp0
     rw [hvx] at hv
     have hvc := mO hv (by rfl)
     have hsz : (a.eval v).cells.size = (E.T t).size := by have := hvc.1; simp [SV.cells] at this; omega
     have hfit := (iU hsp).2.1
     have hrun := oM hgood w b off ty l (a.eval v) e2 hsz (by rw [e3.1]; simp at hfit ⊢; omega) (a8K hvc (by rfl))
     have hc := a1R hsp e3 hvc
     simp only [Array.length_toList] at hc
     refine qX (w' := _) ?_ (hK g V ⟨st.t, setH st.h id (.pin b ty r)⟩ _ (.t []) undef (by rw [bO]; exact hr.storePin hi hg hb hc) (gG g V) hk)
     simp only [execOp, ho, hp, Sem.run_bind, hrun, Result.andThen_ok, Sem.run_pure]
    ·exact h.elim
   ·exact h.elim
  ·exact h.elim
 ·exact h.elim
theorem a4J (hT : TyOK E.P E.T) {t : Nat} {x : Operand} {f : Nat} (ho : o.op = .fieldAddr t x f) (h : iV E t (ev st x) f st k) (hr : Rel E.C g V st a w) (hK : gF E o a k K) : o.wp E.P a w K Q := by
 have hx := cZ hr.sl x
 unfold iV at h
 split at h
 ·rename_i off ft hp
  obtain ⟨h1, h2, h3⟩ := h
  obtain ⟨i, z, u, hgood⟩ := hT.good (t := t) (by rw [h1]; decide)
  obtain ⟨i', z', u', hgf⟩ := hT.good h2
  obtain ⟨fs, rfl, hfs⟩ := hgood.struct h1
  rw [a4F] at hp
  obtain ⟨fd, hfd, ho1, ho2⟩ := a0F hfs f _ hp
  simp only at ho1 ho2
  have hrun : ∀ ad : Addr, (Instr.fieldAt t (.pointer (some ad)) f).run E.P w = .ok (.pointer (some (ad.add off))) w := by
   intro ad
   have hfd' : fs[f]? = some fd := by simpa using hfd
   simp [Instr.fieldAt, hgood.run_und w, hfd', Instr.sureAddr, fieldPlace, ho1, ho2, hgf.run_size w, hgf.pos]
  split at h3
  ·rename_i id o' heq
   rw [heq] at hx
   obtain ⟨gh, b, hg, hb, hpt⟩ := hx
   refine aL (w' := w) (y := .pointer (some ⟨b, o' + off, none⟩)) ?_ (hK g V st w (.o (.p id (o' + off))) _ hr ⟨gh, b, hg, hb, rfl⟩ h3)
   simp only [execOp, ho, hpt]
   exact aW _ _ _ _ _ (by rw [hrun, Addr.add_lit])
  ·rename_i cs heq
   rw [heq] at hx
   obtain ⟨p, hpt, hq⟩ := hx
   refine aL (w' := w) (y := .pointer (some (p.add off))) ?_ (hK g V st w (.o (.q (cs.drop off))) _ hr ⟨p.add off, rfl, hq.drop off⟩ h3)
   simp only [execOp, ho, hpt]
   exact aW _ _ _ _ _ (hrun p)
  ·rename_i id sz n fo heq
   rw [heq] at hx
   obtain ⟨gh, b, hg, hb, hpt⟩ := hx
   refine aL (w' := w) (y := .pointer (some ⟨b, n * sz + (fo + off), none⟩)) ?_ (hK g V st w (.o (.r id sz n (fo + off))) _ hr ⟨gh, b, hg, hb, rfl⟩ h3)
   simp only [execOp, ho, hpt]
   exact aW _ _ _ _ _ (by rw [hrun, Addr.add_lit, Nat.add_assoc])
  ·rename_i id sz n fo heq
   rw [heq] at hx
   obtain ⟨gh, ad, ln, cp, hg, hval, hpt⟩ := hx
   refine aL (w' := w) (y := .pointer (some (ad.add (n * sz + (fo + off))))) ?_ (hK g V st w (.o (.e id sz n (fo + off))) _ hr ⟨gh, ad, ln, cp, hg, hval, rfl⟩ h3)
   simp only [execOp, ho, hpt]
   exact aW _ _ _ _ _ (by rw [hrun, yH, Nat.add_assoc])
  ·exact h3.elim
 ·exact h.elim
theorem a5W (l : List Value) (o n : Nat) (h : o + n ≤ l.length) : l.toArray.extract o (o + n) = ((l.drop o).take n).toArray := by
 apply Array.ext'
 simp
theorem b1I (hT : TyOK E.P E.T) {t : Nat} {x : Operand} {f : Nat} (ho : o.op = .field t x f) (h : qP E t (ev st x) f st k) (hr : Rel E.C g V st a w) (hK : gF E o a k K) : o.wp E.P a w K Q := by
 have hx := cZ hr.sl x
 unfold qP at h
 split at h
 ·rename_i off ft hp
  split at h
  ·rename_i cs heq
   rw [heq] at hx
   obtain ⟨l, hl, hc⟩ := hx
   split at h
   ·rename_i r hsub
    obtain ⟨h1, h2, hk⟩ := h
    obtain ⟨i, z, u, hgood⟩ := hT.good (t := t) (by rw [h1]; decide)
    obtain ⟨i', z', u', hgf⟩ := hT.good h2
    obtain ⟨fs, rfl, hfs⟩ := hgood.struct h1
    rw [a4F] at hp
    obtain ⟨fd, hfd, ho1, ho2⟩ := a0F hfs f _ hp
    simp only at ho1 ho2
    have hfd' : fs[f]? = some fd := by simpa using hfd
    obtain ⟨c1, c2, c3⟩ := a8L hsub hc
    have hle := (nK hsub).2
    refine aL (w' := w) (y := if (E.T ft).agg then .agg ((l.drop off).take (E.T ft).size).toArray else ((l.drop off).take (E.T ft).size).headD undef) ?_
     (hK g V st w _ _ hr (yM c1 fun ha => by rw [c2]; exact hgf.agg_size ha) hk)
    simp only [execOp, ho, hl]
    refine aW _ _ _ _ _ ?_
    simp only [Instr.field, Sem.run_bind, hgood.run_und w, Result.andThen_ok, hfd', asAgg, Sem.run_pure, part, ho1, ho2, hgf.run_agg w]
    cases ha : (E.T ft).agg with
    | true =>
     simp only [if_true, Sem.run_bind, hgf.run_size w, Result.andThen_ok, Sem.run_pure]
     rw [a5W _ _ _ (by rw [hc.1]; exact hle)]
    | false =>
     have h1' := hgf.agg_size ha
     rw [h1'] at hle
     have hlt : off < l.length := by rw [hc.1]; omega
     have hget : l.toArray[off]? = some l[off] := by simp [hlt]
     have htk : (l.drop off).take 1 = [l[off]] := by rw [List.drop_eq_getElem_cons hlt]; rfl
     rw [h1', htk]
     simp only [Bool.false_eq_true, if_false, hget, Sem.run_pure, List.headD_cons]
   ·exact h.elim
  ·exact h.elim
 ·exact h.elim
theorem lay_sl_inv {V : View} {rows : List (List D)} {y : Value} {S : List Nat} (h : Lay V (.sl rows) y S) :
    (y = .slice none 0 0 ∧ rows = []) ∨ ∃ (ad : Addr) (cap sz : Nat) (ys : List Value) (Ss : List (List Nat)), y = .slice (some ad) rows.length cap ∧ (∀ r ∈ rows, r.length = sz) ∧ rows.length ≤ cap ∧ cap ≤ maxLen ∧
     LayL V rows.flatten ys Ss ∧ (∀ (k : Nat) (y : Value), ys[k]? = some y → V.cell (ad.add k) = some y) ∧ S = (if rows.isEmpty then [] else [ad.block]) ++ Ss.flatten := by
 cases h with
 | nil => exact .inl ⟨rfl, rfl⟩
 | sl _ ad cap sz ys Ss hsz hcap hmax hy hS hc hl => exact .inr ⟨ad, cap, sz, ys, Ss, rfl, hsz, hcap, hmax, ⟨hy, hS, hl⟩, hc, rfl⟩
theorem a8M {V : View} {rows : List (List D)} {ad : Addr} {sz : Nat} {ys : List Value} {Ss : List (List Nat)} (hsz : ∀ r ∈ rows, r.length = sz) (hl : LayL V rows.flatten ys Ss)
    (hc : ∀ (k : Nat) (y : Value), ys[k]? = some y → V.cell (ad.add k) = some y) {n : Nat} (hn : n < rows.length) : QC V (ad.add (n * sz)) (eO rows n) := by
 have hrw : eO rows n = rows[n] := by simp [eO, List.getD_eq_getElem?_getD, List.getElem?_eq_getElem hn]
 intro j d hj
 rw [hrw] at hj
 have hf := gD hsz hn hj
 have hlt := (List.getElem?_eq_some_iff.1 hf).1
 have h1 : ys[n * sz + j]? = some (ys[n * sz + j]'(by rw [hl.1]; exact hlt)) := List.getElem?_eq_getElem _
 have h2 : Ss[n * sz + j]? = some (Ss[n * sz + j]'(by rw [hl.2.1]; exact hlt)) := List.getElem?_eq_getElem _
 exact ⟨_, _, by rw [yH]; exact hc _ _ h1, hl.2.2 _ d _ _ hf h1 h2⟩
theorem oN {P : Program} {t : Nat} {d de : Ty} {i i' : TypeInfo} {z z' : Value} {u u' : TypeDesc} (hg : TyGood P t d i z u) (ht : d.tag = 2) (he : TyGood P d.elem de i' z' u') (w : World) (ad : Addr) (len cap : Nat) (kd : IntKind) (n : Int)
    (h0 : 0 ≤ n) (h1 : n.toNat < len) : (Instr.indexAt t (.slice (some ad) len cap) (.int kd n)).run P w = .ok (.pointer (some (ad.add (n.toNat * de.size)))) w := by
 have hu := hg.slice ht
 have : 0 ≤ n ∧ n < (len : Int) := ⟨h0, by omega⟩
 simp [Instr.indexAt, asIntOf, hg.run_und w, hu, this, he.run_size w]
theorem a4K (hT : TyOK E.P E.T) {t : Nat} {x ix : Operand} (ho : o.op = .indexAddr t x ix) (h : jY E t (ev st x) (ev st ix) st k) (hr : Rel E.C g V st a w) (hK : gF E o a k K) : o.wp E.P a w K Q := by
 have hx := cZ hr.sl x
 have hix := cZ hr.sl ix
 obtain ⟨h1, h2, h⟩ := h
 obtain ⟨i, z, u, hgood⟩ := hT.good (t := t) (by rw [h1]; decide)
 obtain ⟨i', z', u', hge⟩ := hT.good h2
 split at h
 ·rename_i rows kd n e1 e2
  rw [e1] at hx
  rw [e2] at hix
  obtain ⟨n0, nl, hrow, hk⟩ := h
  obtain ⟨S, hx⟩ := hx
  obtain ⟨S', hix⟩ := hix
  generalize hev : a.eval ix = yi at hix
  cases hix
  rcases lay_sl_inv hx with ⟨_, rfl⟩ | ⟨ad, cap, sz, ys, Ss, hy, hsz, _, _, hl, hc, _⟩
  ·simp at nl
  ·have hrw : eO rows n.toNat = rows[n.toNat] := by simp [eO, List.getD_eq_getElem?_getD, List.getElem?_eq_getElem nl]
   have hsze : sz = (E.T (E.T t).elem).size := by rw [← hrow, hrw]; exact (hsz _ (List.getElem_mem nl)).symm
   refine aL (w' := w) (y := .pointer (some (ad.add (n.toNat * sz)))) ?_ (hK g V st w (.o (.q (eO rows n.toNat))) _ hr ⟨_, rfl, a8M hsz hl hc nl⟩ hk)
   simp only [execOp, ho, hy, hev]
   exact aW _ _ _ _ _ (by rw [oN hgood h1 hge w ad _ _ _ n n0 nl, hsze])
 ·rename_i id kd n e1 e2
  rw [e1] at hx
  rw [e2] at hix
  obtain ⟨gh, hg, hy, _⟩ := hx
  obtain ⟨S', hix⟩ := hix
  generalize hev : a.eval ix = yi at hix
  cases hix
  split at h
  ·rename_i ty sz rows lin hrow
   obtain ⟨n0, nl, hsze, hk⟩ := h
   obtain ⟨h0, ys, Ss, q1, q2, q3⟩ := hr.hp.hb id _ gh (aF hrow (by simp)) hg
   rcases q3 with ⟨_, _, rfl⟩ | ⟨b, cap, c, p1, p2, p3, p4, p5, p6, p7⟩
   ·simp at nl
   ·refine aL (w' := w) (y := .pointer (some ⟨b, n.toNat * sz + 0, none⟩)) ?_ (hK g V st w (.o (.r id sz n.toNat 0)) _ hr ⟨gh, b, hg, p1, rfl⟩ hk)
    simp only [execOp, ho, hy, hev, p2]
    exact aW _ _ _ _ _ (by rw [oN hgood h1 hge w _ _ _ _ n n0 nl, Addr.add_lit, hsze]; simp)
  ·rename_i rows lin hrow
   obtain ⟨n0, nl, hrw', hk⟩ := h
   obtain ⟨_, S, q1, _⟩ := hr.hp.hb id _ gh (aF hrow (by simp)) hg
   rcases lay_sl_inv q1 with ⟨_, rfl⟩ | ⟨ad, cap, sz, ys, Ss, hy', hsz, _, _, hl, hc, _⟩
   ·simp at nl
   ·have hrw : eO rows n.toNat = rows[n.toNat] := by simp [eO, List.getD_eq_getElem?_getD, List.getElem?_eq_getElem nl]
    have hsze : sz = (E.T (E.T t).elem).size := by rw [← hrw', hrw]; exact (hsz _ (List.getElem_mem nl)).symm
    refine aL (w' := w) (y := .pointer (some (ad.add (n.toNat * sz)))) ?_ (hK g V st w (.o (.q (eO rows n.toNat))) _ hr ⟨_, rfl, a8M hsz hl hc nl⟩ hk)
    simp only [execOp, ho, hy, hev, hy']
    exact aW _ _ _ _ _ (by rw [oN hgood h1 hge w ad _ _ _ n n0 nl, hsze])
  ·rename_i tag sz rows hown
   obtain ⟨n0, nl, hsze, hk⟩ := h
   obtain ⟨_, hO⟩ := hr.hp.hb id _ gh (aF hown (by simp)) hg
   obtain ⟨h0, U, ys, Ss, q1, q2, q3, q4, q5⟩ := hO
   rcases q5 with ⟨_, rfl, _⟩ | ⟨ad, cap, e, _⟩
   ·simp at nl
   ·refine aL (w' := w) (y := .pointer (some (ad.add (n.toNat * sz + 0)))) ?_ (hK g V st w (.o (.e id sz n.toNat 0)) _ hr ⟨gh, ad, _, _, hg, e, rfl⟩ hk)
    simp only [execOp, ho, hy, hev, e]
    exact aW _ _ _ _ _ (by rw [oN hgood h1 hge w ad _ _ _ n n0 nl, hsze]; simp)
  ·exact h.elim
 ·exact h.elim
theorem aR {g : List Gh} {V : View} {x y : Value} (h : cSV g V (.o (.d (.v x))) y) : y = x ∧ scalar x = true := by
 obtain ⟨S, h⟩ := h
 cases h with
 | v _ hs => exact ⟨rfl, hs⟩
theorem bQ (g : List Gh) (V : View) (x : Value) (h : scalar x = true) : cSV g V (.o (.d (.v x))) x := ⟨[], .v x h⟩
theorem b1J (hT : TyOK E.P E.T) {t : Nat} {x ix : Operand} (ho : o.op = .index t x ix) (h : qQ E t (ev st x) (ev st ix) st k) (hr : Rel E.C g V st a w) (hK : gF E o a k K) : o.wp E.P a w K Q := by
 have hx := cZ hr.sl x
 have hix := cZ hr.sl ix
 unfold qQ at h
 split at h
 ·rename_i s kd n e1 e2
  rw [e1] at hx
  rw [e2] at hix
  obtain ⟨h1, n0, nl, hk⟩ := h
  obtain ⟨i, z, u, hgood⟩ := hT.good (t := t) (by rw [h1]; decide)
  have hu := hgood.string h1
  obtain ⟨hx, _⟩ := aR hx
  obtain ⟨hix, _⟩ := aR hix
  refine aL (w' := w) (y := .int .u8 (gP s n.toNat)) ?_ (hK g V st w _ _ hr (bQ g V _ rfl) hk)
  simp only [execOp, ho, hx, hix]
  refine aW _ _ _ _ _ ?_
  have hb : s[n.toNat]? = some (s[n.toNat]'nl) := getElem?_pos s n.toNat nl
  have hbyte : gP s n.toNat = ((s[n.toNat]'nl).toNat : Int) := by
   have hl : n.toNat < s.data.toList.length := by simpa using nl
   unfold gP
   rw [List.getD_eq_getElem?_getD, List.getElem?_eq_getElem hl]
   rfl
  simp [Instr.index, asIntOf, hgood.run_und w, hu, n0, hb, hbyte]
 ·exact h.elim
theorem b5j {c : Call} {x y : Operand} (ho : o.op = .call c) (hc : c.callee = .builtin .max) (hx' : c.args.toList = [x, y]) (h : a1Q (ev st x) (ev st y) (k st)) (hr : Rel E.C g V st a w) (hK : gF E o a k K) : o.wp E.P a w K Q := by
 have hx := cZ hr.sl x
 have hy := cZ hr.sl y
 have hargs : c.args = #[x, y] := by rw [← Array.toArray_toList (xs := c.args), hx']
 unfold a1Q at h
 split at h
 ·rename_i m n e1 e2
  rw [e1] at hx
  rw [e2] at hy
  obtain ⟨hx, _⟩ := aR hx
  obtain ⟨hy, _⟩ := aR hy
  refine aL (w' := w) (y := .int .i64 (mxI m n)) ?_ (hK g V st w _ _ hr (bQ g V _ rfl) h)
  simp [execOp, ho, resolve, hc, hargs, invoke, builtin, Builtin.max_, Builtin.max2, hx, hy, mxI]
 ·exact h.elim
theorem b5k (hT : TyOK E.P E.T) {c : Call} {x : Operand} {t : Nat} (ho : o.op = .call c) (hc : c.callee = .builtin .len) (hx' : c.args.toList = [x]) (ht' : c.argTypes.toList = [t]) (h : a1P E t (ev st x) st k) (hr : Rel E.C g V st a w) (hK : gF E o a k K) : o.wp E.P a w K Q := by
 have hx := cZ hr.sl x
 have hargs : c.args = #[x] := by rw [← Array.toArray_toList (xs := c.args), hx']
 have htys : c.argTypes = #[t] := by rw [← Array.toArray_toList (xs := c.argTypes), ht']
 have hrun : ∀ y, (Builtin.len_ #[t] o.type #[a.eval x]).run E.P w = .ok y w → (execOp a.eval o).run E.P w = .ok (.value y) w := by
  intro y hy
  simp [execOp, ho, resolve, hc, hargs, htys, invoke, builtin, hy]
 have hsl : (E.T t).tag = 2 → ∀ (b : Option Addr) (n c : Nat), (Builtin.len_ #[t] o.type #[.slice b n c]).run E.P w = .ok (.int .i64 n) w := by
  intro h1 b n c
  obtain ⟨i, z, u, hgood⟩ := hT.good (t := t) (by rw [h1]; decide)
  simp [Builtin.len_, hgood.run_und w, hgood.slice h1, goInt]
 unfold a1P at h
 split at h
 ·rename_i s e1
  rw [e1] at hx
  obtain ⟨h1, hk⟩ := h
  obtain ⟨i, z, u, hgood⟩ := hT.good (t := t) (by rw [h1]; decide)
  obtain ⟨hx, _⟩ := aR hx
  refine aL (w' := w) (y := .int .i64 s.size) (hrun _ ?_) (hK g V st w _ _ hr (bQ g V _ rfl) hk)
  simp [hx, Builtin.len_, hgood.run_und w, hgood.string h1, goInt]
 ·rename_i rows e1
  rw [e1] at hx
  obtain ⟨h1, hk⟩ := h
  obtain ⟨S, hx⟩ := hx
  refine aL (w' := w) (y := .int .i64 rows.length) (hrun _ ?_) (hK g V st w _ _ hr (bQ g V _ rfl) hk)
  rcases lay_sl_inv hx with ⟨hy, rfl⟩ | ⟨ad, cap, sz, ys, Ss, hy, _⟩
  ·rw [hy]; exact hsl h1 _ _ _
  ·rw [hy]; exact hsl h1 _ _ _
 ·rename_i e1
  rw [e1] at hx
  obtain ⟨h1, hk⟩ := h
  refine aL (w' := w) (y := .int .i64 0) (hrun _ ?_) (hK g V st w _ _ hr (bQ g V _ rfl) hk)
  have hx : a.eval x = .slice none 0 0 := hx
  rw [hx]; exact hsl h1 _ _ _
 ·rename_i id e1
  rw [e1] at hx
  obtain ⟨h1, h⟩ := h
  obtain ⟨gh, hg, hy, _⟩ := hx
  split at h
  ·rename_i ty sz rows lin hrow
   obtain ⟨h0, ys, Ss, q1, q2, q3⟩ := hr.hp.hb id _ gh (aF hrow (by simp)) hg
   refine aL (w' := w) (y := .int .i64 rows.length) (hrun _ ?_) (hK g V st w _ _ hr (bQ g V _ rfl) h)
   rcases q3 with ⟨_, ⟨ao, e⟩, rfl⟩ | ⟨b, cap, c', p1, p2, _⟩
   ·rw [hy, e]; exact hsl h1 _ _ _
   ·rw [hy, p2]; exact hsl h1 _ _ _
  ·rename_i rows lin hrow
   obtain ⟨_, S, q1, _⟩ := hr.hp.hb id _ gh (aF hrow (by simp)) hg
   refine aL (w' := w) (y := .int .i64 rows.length) (hrun _ ?_) (hK g V st w _ _ hr (bQ g V _ rfl) h)
   rcases lay_sl_inv q1 with ⟨e, rfl⟩ | ⟨ad, cap, sz, ys, Ss, e, _⟩
   ·rw [hy, e]; exact hsl h1 _ _ _
   ·rw [hy, e]; exact hsl h1 _ _ _
  ·rename_i tag sz rows hown
   obtain ⟨_, h0, U, ys, Ss, q1, q2, q3, q4, q5⟩ := hr.hp.hb id _ gh (aF hown (by simp)) hg
   refine aL (w' := w) (y := .int .i64 rows.length) (hrun _ ?_) (hK g V st w _ _ hr (bQ g V _ rfl) h)
   rcases q5 with ⟨e, rfl, _⟩ | ⟨ad, cap, e, _⟩
   ·rw [hy, e]; exact hsl h1 _ _ _
   ·rw [hy, e]; exact hsl h1 _ _ _
  ·exact h.elim
 ·exact h.elim
end
end Go.Sx
end
section
set_option linter.all false
namespace Go.Sx
open Go Go.RowKit
section
variable {E : Env} {o : Oper} {st : St} {k : St → SV → Prop} {g : List Gh} {V : View} {a : Act} {w : World} {K : Act → World → Prop} {Q : Exit → Act → World → Prop}
theorem jO {op : BinOp} {t ty : Nat} {x y : Operand} {v : Value} (ho : o.op = .binOp op t x y ty) (P : Program) (hg : (eqGuard op t x y (a.eval x) (a.eval y)).run P w = .ok () w)
    (hv : (binOp op t (a.eval x) (a.eval y)).run P w = .ok v w) : (execOp a.eval o).run P w = .ok (.value v) w := by
 simp [execOp, ho, hg, hv]
theorem a0f (op : BinOp) (t : Nat) (x y : Operand) (k k' : IntKind) (m n : Int) (P : Program) (w : World) : (eqGuard op t x y (.int k m) (.int k' n)).run P w = .ok () w := by
 cases op <;> simp [eqGuard]
theorem a4L (op : BinOp) (t : Nat) (x y : Operand) (m n : ByteArray) (P : Program) (w : World) : (eqGuard op t x y (.string m) (.string n)).run P w = .ok () w := by
 cases op <;> simp [eqGuard]
theorem a1T (op : BinOp) (t : Nat) (x y : Operand) (m n : Bool) (P : Program) (w : World) : (eqGuard op t x y (.bool m) (.bool n)).run P w = .ok () w := by
 cases op <;> simp [eqGuard]
theorem eQ (x y : Int) : (x == y) = decide (x = y) := by
 by_cases h : x = y <;> simp [h]
theorem bR (x y : ByteArray) : (x.toList == y.toList) = decide (x = y) := by
 rw [← beq_toListBytes]
 by_cases h : x = y
 ·subst h
  simp only [decide_true]
  rw [beq_toListBytes]
  simp
 ·simp only [h, decide_false]
  cases hb : (x == y) with
  | false => rfl
  | true =>
   rw [beq_toListBytes] at hb
   exfalso; apply h
   rw [ByteArray.toList_eq, ByteArray.toList_eq, beq_iff_eq] at hb
   cases x; cases y
   simp only at hb
   congr 1
   exact Array.toList_inj.1 hb
theorem b3C {op : BinOp} {t : Nat} {kd : IntKind} {m n : Int} {q : Prop → SV → Prop} (h : b0j op kd m n q) (P : Program) (w : World) :
    ∃ p v, q p (.o (.d (.v v))) ∧ scalar v = true ∧ (p → (binOp op t (.int kd m) (.int kd n)).run P w = .ok v w) := by
 cases op <;> simp only [b0j] at h
 case add => exact ⟨_, _, h, rfl, fun hp => by simp [binOp, Op.intArith, nL hp]⟩
 case sub => exact ⟨_, _, h, rfl, fun hp => by simp [binOp, Op.intArith, nL hp]⟩
 case mul => exact ⟨_, _, h, rfl, fun hp => by simp [binOp, Op.intArith, nL hp]⟩
 case quo => exact ⟨_, _, h, rfl, fun hp => by simp [binOp, Op.intDiv, hp.1, nL hp.2]⟩
 case rem => exact ⟨_, _, h, rfl, fun hp => by simp [binOp, Op.intDiv, hp]⟩
 case eql => exact ⟨_, _, h, rfl, fun _ => by simp [binOp, Op.intCmp, eQ]⟩
 case neq => exact ⟨_, _, h, rfl, fun _ => by simp [binOp, Op.intCmp, bne, eQ]⟩
 case lss => exact ⟨_, _, h, rfl, fun _ => by simp [binOp, Op.intCmp]⟩
 case leq => exact ⟨_, _, h, rfl, fun _ => by simp [binOp, Op.intCmp]⟩
 case gtr => exact ⟨_, _, h, rfl, fun _ => by simp [binOp, Op.intCmp]⟩
 case geq => exact ⟨_, _, h, rfl, fun _ => by simp [binOp, Op.intCmp]⟩
 case and => exact ⟨_, _, h, rfl, fun _ => by simp [binOp, Op.intBits, nV]⟩
 case or => exact ⟨_, _, h, rfl, fun _ => by simp [binOp, Op.intBits, nV]⟩
 case xor => exact ⟨_, _, h, rfl, fun _ => by simp [binOp, Op.intBits, nV]⟩
theorem b1K {op : BinOp} {t : Nat} {m n : ByteArray} {q : Prop → SV → Prop} (h : a3k op m n q) (P : Program) (w : World) :
    ∃ p v, q p (.o (.d (.v v))) ∧ scalar v = true ∧ (p → (binOp op t (.string m) (.string n)).run P w = .ok v w) := by
 cases op <;> simp only [a3k] at h
 case add => exact ⟨_, _, h, rfl, fun hp => by
  have : ¬ (((m.size + n.size : Nat) : Int) > IntKind.i64.max) := by
   simp only [maxLen] at hp
   have : IntKind.i64.max = 9223372036854775807 := by decide
   omega
  simp only [binOp, Op.stringOp, if_neg this, Sem.run_pure]⟩
 case eql => exact ⟨_, _, h, rfl, fun _ => by simp only [binOp, Op.stringOp, bR, Sem.run_pure]⟩
 case neq => exact ⟨_, _, h, rfl, fun _ => by simp only [binOp, Op.stringOp, bR, Sem.run_pure]⟩
 case lss => exact ⟨_, _, h, rfl, fun _ => by simp only [binOp, Op.stringOp, gB, Sem.run_pure]⟩
 case leq => exact ⟨_, _, h, rfl, fun _ => by simp only [binOp, Op.stringOp, gB, bR, Sem.run_pure]⟩
 case gtr => exact ⟨_, _, h, rfl, fun _ => by simp only [binOp, Op.stringOp, gB, bR, Sem.run_pure]⟩
 case geq => exact ⟨_, _, h, rfl, fun _ => by simp only [binOp, Op.stringOp, gB, Sem.run_pure]⟩
theorem b5l {g : List Gh} {V : View} {x y : At} {v v' : Value} (hx : cAt g V x v) (hy : cAt g V y v') (kx : sD x ≠ 0) (ky : sD y ≠ 0) : eqA x y = eqV v v' ∧ sD x = iD v ∧ sD y = iD v' := by
 have inv : ∀ {x : At} {v : Value}, cAt g V x v → sD x ≠ 0 → x = .d (.v v) := by
  intro x v h hk
  cases x with
  | d d => cases d with
   | v z => obtain ⟨h, _⟩ := aR (g := g) h; subst h; rfl
   | sl r => simp [sD] at hk
  | _ => simp [sD] at hk
 rw [inv hx kx, inv hy ky]
 exact ⟨rfl, rfl, rfl⟩
theorem b3D {g : List Gh} {V : View} {ks : List Nat} (hks : ks.all (· != 0) = true) : ∀ {xs ys : List At} {l m : List Value}, cL g V xs l → cL g V ys m → xs.map sD = ks → ys.map sD = ks →
    a7A xs ys = lT l m ∧ l.map iD = ks ∧ m.map iD = ks := by
 induction ks with
 | nil =>
  intro xs ys l m hx hy k1 k2
  have e1 : xs = [] := by simpa using k1
  have e2 : ys = [] := by simpa using k2
  subst e1; subst e2
  rw [hx.nil_inv, hy.nil_inv]
  exact ⟨rfl, rfl, rfl⟩
 | cons k ks ih =>
  intro xs ys l m hx hy k1 k2
  simp only [List.all_cons, Bool.and_eq_true, bne_iff_ne] at hks
  match xs, ys, k1, k2 with
  | x :: xs, y :: ys, k1, k2 =>
   simp only [List.map_cons, List.cons.injEq] at k1 k2
   obtain ⟨v, l, rfl, hv, hl⟩ := hx.cons_inv
   obtain ⟨v', m, rfl, hv', hm⟩ := hy.cons_inv
   obtain ⟨i1, i2, i3⟩ := ih hks.2 hl hm k1.2 k2.2
   obtain ⟨j1, j2, j3⟩ := b5l hv hv' (by rw [k1.1]; exact hks.1) (by rw [k2.1]; exact hks.1)
   refine ⟨?_, by simp [i2, ← j2, k1.1], by simp [i3, ← j3, k2.1]⟩
   cases xs with
   | nil =>
    have hys : ys = [] := by have h1 := k1.2; have h2 := k2.2; rw [← h1] at h2; simpa using h2
    subst hys
    rw [hl.nil_inv, hm.nil_inv]
    simp [a7A, lT, j1]
   | cons x2 xs2 =>
    cases ys with
    | nil => have h1 := k1.2; have h2 := k2.2; rw [← h1] at h2; simp at h2
    | cons y2 ys2 =>
     show (eqA x y && a7A (x2 :: xs2) (y2 :: ys2)) = (eqV v v' && lT l m)
     rw [i1, j1]
theorem b3E (hT : TyOK E.P E.T) (hE : ∀ t, E.eqk t ≠ [] → EqT E.P t (E.eqk t)) {op : BinOp} {t ty : Nat} {x y : Operand} (ho : o.op = .binOp op t x y ty) (h : qR E op t (ev st x) (ev st y) st k) (hr : Rel E.C g V st a w) (hK : gF E o a k K) : o.wp E.P a w K Q := by
 have hx := cZ hr.sl x
 have hy := cZ hr.sl y
 unfold qR at h
 split at h
 ·rename_i kx m ky n e1 e2
  rw [e1] at hx
  rw [e2] at hy
  obtain ⟨hx, _⟩ := aR hx
  obtain ⟨hy, _⟩ := aR hy
  split at h
  ·obtain ⟨h0, hk⟩ := h
   have hn : ¬ n < 0 := by omega
   exact aL (jO ho _ (by rw [hx, hy]; exact a0f ..) (by rw [hx, hy]; simp [binOp, Op.shift, a2H, hn])) (hK g V st w _ _ hr (bQ g V _ rfl) hk)
  ·obtain ⟨rfl, h⟩ := h
   obtain ⟨p, v, ⟨hp, hk⟩, hs, hrun⟩ := b3C (t := t) h E.P w
   exact aL (jO ho _ (by rw [hx, hy]; exact a0f ..) (by rw [hx, hy]; exact hrun hp)) (hK g V st w _ _ hr (bQ g V v hs) hk)
 ·rename_i m n e1 e2
  rw [e1] at hx
  rw [e2] at hy
  obtain ⟨hx, _⟩ := aR hx
  obtain ⟨hy, _⟩ := aR hy
  obtain ⟨p, v, ⟨hp, hk⟩, hs, hrun⟩ := b1K (t := t) h E.P w
  exact aL (jO ho _ (by rw [hx, hy]; exact a4L ..) (by rw [hx, hy]; exact hrun hp)) (hK g V st w _ _ hr (bQ g V v hs) hk)
 ·rename_i m n e1 e2
  rw [e1] at hx
  rw [e2] at hy
  obtain ⟨h1, h⟩ := h
  obtain ⟨hx, _⟩ := aR hx
  obtain ⟨hy, _⟩ := aR hy
  obtain ⟨i, z, u, hgood⟩ := hT.good (t := t) (by rw [h1]; decide)
  have hu : E.P.underlying t = some .bool := by rw [hgood.und, hgood.bool h1]
  cases op <;> simp only [b1F] at h
  case eql =>
   obtain ⟨_, hk⟩ := h
   exact aL (jO ho _ (by rw [hx, hy]; exact a1T ..) (by rw [hx, hy]; exact run_eql_bool w t m n hu)) (hK g V st w _ _ hr (bQ g V _ rfl) hk)
  case neq =>
   obtain ⟨_, hk⟩ := h
   exact aL (jO ho _ (by rw [hx, hy]; exact a1T ..) (by rw [hx, hy]; exact run_neq_bool w t m n hu)) (hK g V st w _ _ hr (bQ g V _ rfl) hk)
 ·rename_i xs ys e1 e2
  rw [e1] at hx
  rw [e2] at hy
  obtain ⟨h0, h1, h2, h⟩ := h
  have he := hE t h0
  obtain ⟨l, hl, hcl⟩ := hx
  obtain ⟨m, hm, hcm⟩ := hy
  obtain ⟨q1, q2, q3⟩ := b3D he.pos hcl hcm h1 h2
  cases op <;> simp only at h
  case eql =>
   exact aL (jO ho _ (by rw [hl, hm]; exact he.guard ..) (by rw [hl, hm]; exact he.eql w l m q2 q3)) (hK g V st w _ _ hr (bQ g V _ rfl) (by rw [← q1]; exact h))
  case neq =>
   exact aL (jO ho _ (by rw [hl, hm]; exact he.guard ..) (by rw [hl, hm]; exact he.neq w l m q2 q3)) (hK g V st w _ _ hr (bQ g V _ rfl) (by rw [← q1]; exact h))
 ·exact h.elim
theorem a7F (hr : Rel E.C g V st a w) {x : SV} {v : Value} {rows : List (List D)} (hx : cSV g V x v) (h : oZ st x = some rows) : ∃ ao n c, v = .slice ao n c ∧ (ao.isNone = true → rows = []) := by
 unfold oZ at h
 split at h
 ·cases h
  obtain ⟨S, hx⟩ := hx
  rcases lay_sl_inv hx with ⟨rfl, rfl⟩ | ⟨ad, cap, _, _, _, rfl, _⟩
  ·exact ⟨none, 0, 0, rfl, fun _ => rfl⟩
  ·exact ⟨some ad, _, cap, rfl, fun h => by cases h⟩
 ·cases h
  obtain rfl : v = .slice none 0 0 := hx
  exact ⟨none, 0, 0, rfl, fun _ => rfl⟩
 ·rename_i id
  obtain ⟨gh, hg, rfl, hone⟩ := hx
  have hlt : id < st.h.length := by rw [← hr.hp.glen]; exact (List.getElem?_eq_some_iff.1 hg).1
  have hb : st.h[id]? = some (bK st.h id) := by rw [a1m, List.getD_eq_getElem?_getD, List.getElem?_eq_getElem hlt]; rfl
  have hok := hr.hp.hb id _ gh hb hg
  split at h
  ·rename_i e
   cases h
   rw [e] at hok
   obtain ⟨_, ys, Ss, _, _, h3⟩ := hok
   rcases h3 with ⟨_, ⟨ao, hv⟩, rfl⟩ | ⟨b, cap, c, _, hv, _⟩
   ·exact ⟨ao, 0, 0, hv, fun _ => rfl⟩
   ·exact ⟨some ⟨b, 0, none⟩, _, cap, hv, fun h => by cases h⟩
  ·rename_i e
   cases h
   rw [e] at hok
   obtain ⟨_, S, hl, _⟩ := hok
   rcases lay_sl_inv hl with ⟨hv, rfl⟩ | ⟨ad, cap, _, _, _, hv, _⟩
   ·exact ⟨none, 0, 0, hv, fun _ => rfl⟩
   ·exact ⟨some ad, _, cap, hv, fun h => by cases h⟩
  ·cases h
 ·cases h
theorem a3n (P : Program) (w : World) {t e : TypeId} (ao : Option Addr) (n c : Nat) (h : P.underlying t = some (.slice e)) (op : BinOp) (ho : op = .eql ∨ op = .neq) :
    (binOp op t (.slice ao n c) (.slice none 0 0)).run P w = .ok (.bool (if op = .eql then ao.isNone else !ao.isNone)) w := by
 have h1 : ∀ d : Nat, (Op.equalIn (d + 1) t (.slice ao n c) (.slice none 0 0)).run P w = .ok ao.isNone w := fun d => by
  cases ao <;> simp [Op.equalIn, run_underlying h]
 rcases ho with rfl | rfl
 ·simp only [binOp]
  simp [Op.equal, Op.maxDepth, h1 9999]
 ·simp only [binOp]
  simp [Op.equal, Op.maxDepth, h1 9999]
theorem a3o (op : BinOp) (t : Nat) (x y : Operand) (ao ao' : Option Addr) (n c n' c' : Nat) (P : Program) (w : World) : (eqGuard op t x y (.slice ao n c) (.slice ao' n' c')).run P w = .ok () w := by
 cases op <;> simp [eqGuard]
theorem b5m (hT : TyOK E.P E.T) (hE : ∀ t, E.eqk t ≠ [] → EqT E.P t (E.eqk t)) {op : BinOp} {t ty : Nat} {x y : Operand} (ho : o.op = .binOp op t x y ty) (h : a5T E op t (ev st x) (ev st y) st k) (hr : Rel E.C g V st a w) (hK : gF E o a k K) : o.wp E.P a w K Q := by
 unfold a5T at h
 split at h
 ·rename_i ey
  have hx := cZ hr.sl x
  have hy := cZ hr.sl y
  rw [ey] at hy
  have hy0 : a.eval y = .slice none 0 0 := hy
  unfold b1G at h
  obtain ⟨htg, h⟩ := h
  obtain ⟨i, z, u, hgood⟩ := hT.good (t := t) (by rw [htg]; decide)
  have hu : E.P.underlying t = some (.slice (E.T t).elem) := by rw [hgood.und, hgood.slice htg]
  split at h
  ·rename_i rows hrw
   obtain ⟨ao, n, c, hv, hn⟩ := a7F hr hx hrw
   split at h
   ·exact aL (jO ho _ (by rw [hv, hy0]; exact a3o ..) (by rw [hv, hy0]; exact a3n _ _ ao n c hu .eql (.inl rfl))) (hK g V st w _ _ hr (bQ g V _ rfl) (h _ (fun hb => hn (by simpa using hb))))
   ·exact aL (jO ho _ (by rw [hv, hy0]; exact a3o ..) (by rw [hv, hy0]; exact a3n _ _ ao n c hu .neq (.inr rfl))) (hK g V st w _ _ hr (bQ g V _ rfl) (h _ (fun hb => hn (by simpa using hb))))
   ·exact h.elim
  ·exact h.elim
 ·exact b3E hT hE ho h hr hK
theorem b6D {op : UnOp} {t : Nat} {x : Operand} (ho : o.op = .unOp op t x) (h : a7B op (ev st x) st k) (hr : Rel E.C g V st a w) (hK : gF E o a k K) : o.wp E.P a w K Q := by
 have hx := cZ hr.sl x
 unfold a7B at h
 split at h
 ·rename_i b e1
  rw [e1] at hx
  obtain ⟨hx, _⟩ := aR hx
  refine aL (w' := w) (y := .bool !b) ?_ (hK g V st w _ _ hr (bQ g V _ rfl) h)
  simp only [execOp, ho, hx]
  exact aW _ _ _ _ _ rfl
 ·rename_i kd n e1
  rw [e1] at hx
  obtain ⟨hp, hk⟩ := h
  obtain ⟨hx, _⟩ := aR hx
  refine aL (w' := w) (y := .int kd (0 - n)) ?_ (hK g V st w _ _ hr (bQ g V _ rfl) hk)
  simp only [execOp, ho, hx]
  exact aW _ _ _ _ _ (by simp only [Op.unary, Op.intArith, nL hp, Sem.run_pure])
 ·exact h.elim
theorem b3F (hT : TyOK E.P E.T) {src dst : Nat} {x : Operand} (ho : o.op = .convert src dst x) (h : wU E src dst (ev st x) st k) (hr : Rel E.C g V st a w) (hK : gF E o a k K) : o.wp E.P a w K Q := by
 have hx := cZ hr.sl x
 unfold wU at h
 split at h
 ·rename_i kd n e1
  rw [e1] at hx
  obtain ⟨h1, h2, hp, hk⟩ := h
  obtain ⟨i, z, u, hs⟩ := hT.good (t := src) (by rw [h1]; decide)
  obtain ⟨i', z', u', hd⟩ := hT.good (t := dst) (by rw [h2]; decide)
  obtain ⟨hx, _⟩ := aR hx
  refine aL (w' := w) (y := .int (E.T dst).kind n) ?_ (hK g V st w _ _ hr (bQ g V _ rfl) hk)
  simp only [execOp, ho, hx]
  refine aW _ _ _ _ _ ?_
  simp [convert, hs.run_und w, hd.run_und w, hd.int h2, Conv.intToInt, nL hp]
 ·exact h.elim
theorem a7G {x : Operand} {ix : Nat} (ho : o.op = .extract x ix) (h : kW (ev st x) ix st k) (hr : Rel E.C g V st a w) (hK : gF E o a k K) : o.wp E.P a w K Q := by
 have hx := cZ hr.sl x
 unfold kW at h
 split at h
 ·rename_i l e1
  rw [e1] at hx
  obtain ⟨ys, hy, hlen, hc⟩ := hx
  split at h
  ·rename_i b cs hl
   have hlt : ix < ys.length := by rw [hlen]; exact (List.getElem?_eq_some_iff.1 hl).1
   have hg : ys[ix]? = some ys[ix] := List.getElem?_eq_getElem hlt
   have hcc := hc ix b cs ys[ix] hl hg
   refine aL (w' := w) (y := ys[ix]) ?_ (hK g V st w (if b then .g cs else a0U false cs) _ hr ?_ h)
   ·simp only [execOp, ho, hy]
    refine aW _ _ _ _ _ ?_
    simp [Instr.extract, hlt]
   ·cases b with
    | true => simp only [if_true] at hcc ⊢; exact hcc
    | false =>
     simp only [Bool.false_eq_true, if_false] at hcc ⊢
     obtain ⟨c0, hc0⟩ : ∃ c0, cs = [c0] := by
      match cs, hcc.1 with
      | [c0], _ => exact ⟨c0, rfl⟩
     subst hc0
     exact hcc.2 0 c0 _ rfl rfl
  ·exact h.elim
 ·exact h.elim
theorem b3G {c : Call} {f : Operand} (ho : o.op = .call c) (hc : c.callee = .value f) (h : gY E c st k) (hr : Rel E.C g V st a w) (hK : gF E o a k K) : o.wp E.P a w K Q := by
 have hf := cZ hr.sl f
 unfold gY at h
 rw [hc] at h
 simp only at h
 split at h
 ·rename_i fn caps e1
  rw [e1] at hf
  obtain ⟨l, hv, hlen, hcap⟩ := hf
  obtain ⟨henter, hcalls⟩ := h
  have := hcalls g V a w (c.args.toList.map a.eval ++ l) hr (by simp [hlen]) (fun i s y h1 h2 => by
   rw [List.getElem?_append] at h1 h2
   simp only [List.length_map] at h1 h2
   split at h1
   ·rw [if_pos ‹_›] at h2; exact b5i hr.sl _ i s y h1 h2
   ·rw [if_neg ‹_›] at h2
    rw [List.getElem?_map] at h1
    cases hcs : caps[i - c.args.toList.length]? with
    | none => rw [hcs] at h1; cases h1
    | some cs => rw [hcs] at h1; cases h1; exact hcap _ cs y hcs h2)
  unfold Oper.wp
  have hrun : (execOp a.eval o).run E.P w = .ok (.enter fn (c.args.toList.map a.eval ++ l).toArray) w := by
   have he : c.args.map a.eval ++ l.toArray = (c.args.toList.map a.eval ++ l).toArray := by
    apply Array.ext'
    simp
   simp only [execOp, ho, resolve, hc, Sem.run_bind, Deferred.ofValue, hv, Sem.run_pure, Result.andThen_ok, invoke]
   rw [Array.empty_append, he]
   exact henter _ w
  rw [hrun, Oper.upon_enter]
  refine this.mono ?_
  rintro e w' ⟨y, g', V', st', s, rfl, hr', hs, hk⟩
  exact hK g' V' st' w' s y hr' hs hk
 ·exact h.elim
end
end Go.Sx
end
end
