/-
  A library of ours for walks over pure data (no program in sight): data 'D', views of memory, the relation 'Lay' (a value reads as data), the symbolic state 'St' of a function (slots, local boxes, rows of its own) and its relation 'Rel' to a run's state.
-/
import Derived.WalkKit
set_option linter.all false
namespace Go.Sx
open Go Go.RowKit

/-- Known contents: a block's number to its first cells. -/
abbrev View := Nat → Option (List Value)
def View.cell (V : View) (a : Addr) : Option Value := if a.spot.isSome then none else (V a.block).bind (·[a.off]?)
def View.le (V V' : View) : Prop := ∀ b cs, V b = some cs → ∃ cs', V' b = some cs' ∧ cs <+: cs'
theorem View.le.refl (V : View) : V.le V := fun _ cs h => ⟨cs, h, List.prefix_refl _⟩
theorem View.le.trans {A B C : View} (h : A.le B) (k : B.le C) : A.le C := fun b cs hb => by
  obtain ⟨cs', h1, p1⟩ := h b cs hb
  obtain ⟨cs'', h2, p2⟩ := k b cs' h1
  exact ⟨cs'', h2, p1.trans p2⟩
theorem prefix_get {α : Type} {l l' : List α} (h : l <+: l') {i : Nat} {x : α} (hx : l[i]? = some x) : l'[i]? = some x := by
  obtain ⟨t, rfl⟩ := h
  rw [List.getElem?_append_left (List.getElem?_eq_some_iff.1 hx).1]
  exact hx
theorem View.le.cell {V V' : View} (h : V.le V') {a : Addr} {y : Value} (hc : V.cell a = some y) : V'.cell a = some y := by
  unfold View.cell at hc ⊢
  split at hc
  · cases hc
  · rename_i hs
    rw [if_neg hs]
    cases hb : V a.block with
    | none => simp [hb] at hc
    | some cs =>
      obtain ⟨cs', h1, p1⟩ := h _ _ hb
      rw [hb] at hc
      rw [h1]
      exact prefix_get p1 hc

/-- Pure data: a scalar, or a slice: its rows, a row the cells of one element. -/
inductive D where
  | v (x : Value)
  | sl (rows : List (List D))

def scalar : Value → Bool
  | .int .. | .bool _ | .string _ => true
  | _ => false

/-- In the view V the value reads as the data; the last argument: the blocks that the reading meets, in order. -/
inductive Lay (V : View) : D → Value → List Nat → Prop
  | v (x : Value) (h : scalar x = true) : Lay V (.v x) x []
  | nil : Lay V (.sl []) (.slice none 0 0) []
  | sl (rows : List (List D)) (a : Addr) (cap sz : Nat) (ys : List Value) (Ss : List (List Nat))
      (hsz : ∀ r ∈ rows, r.length = sz) (hcap : rows.length ≤ cap) (hmax : cap ≤ maxLen)
      (hy : ys.length = rows.flatten.length) (hS : Ss.length = rows.flatten.length)
      (hc : ∀ (k : Nat) (y : Value), ys[k]? = some y → V.cell (a.add k) = some y)
      (hl : ∀ (k : Nat) (d : D) (y : Value) (S : List Nat), rows.flatten[k]? = some d → ys[k]? = some y → Ss[k]? = some S → Lay V d y S) :
      Lay V (.sl rows) (.slice (some a) rows.length cap) ((if rows.isEmpty then [] else [a.block]) ++ Ss.flatten)

theorem Lay.mono {V V' : View} {d : D} {y : Value} {S : List Nat} (h : Lay V d y S) (hv : V.le V') : Lay V' d y S := by
  induction h with
  | v x h => exact .v x h
  | nil => exact .nil
  | sl rows a cap sz ys Ss hsz hcap hmax hy hS hc hl ih => exact .sl rows a cap sz ys Ss hsz hcap hmax hy hS (fun k y h => hv.cell (hc k y h)) (fun k d y S h1 h2 h3 => ih k d y S h1 h2 h3)

theorem add_block (a : Addr) (n : Nat) : (a.add n).block = a.block := by unfold Addr.add; split <;> rfl
theorem add_add (a : Addr) (i j : Nat) : (a.add i).add j = a.add (i + j) := by
  unfold Addr.add
  by_cases hi : i = 0 <;> by_cases hj : j = 0 <;> simp [hi, hj, Nat.add_assoc]

/-- Only the blocks of the trace matter. -/
theorem Lay.restrict {V V' : View} {d : D} {y : Value} {S : List Nat} (h : Lay V d y S) (hv : ∀ b ∈ S, ∀ cs, V b = some cs → ∃ cs', V' b = some cs' ∧ cs <+: cs') : Lay V' d y S := by
  induction h with
  | v x h => exact .v x h
  | nil => exact .nil
  | sl rows a cap sz ys Ss hsz hcap hmax hy hS hc hl ih =>
    refine .sl rows a cap sz ys Ss hsz hcap hmax hy hS (fun k y h => ?_) (fun k d y S h1 h2 h3 => ih k d y S h1 h2 h3 fun b hb => hv b (List.mem_append.2 (.inr (List.mem_flatten.2 ⟨S, List.mem_of_getElem? h3, hb⟩))))
    have hne : rows.isEmpty = false := by
      cases rows with
      | nil => simp at hy; subst hy; simp at h
      | cons => rfl
    rw [hne] at hv
    have hc' := hc k y h
    unfold View.cell at hc' ⊢
    split at hc'
    · cases hc'
    · rename_i hs
      rw [if_neg hs]
      rw [add_block] at hc' ⊢
      cases hb : V a.block with
      | none => simp [hb] at hc'
      | some cs =>
        obtain ⟨cs', h1, p1⟩ := hv a.block (by simp) _ hb
        rw [hb] at hc'
        rw [h1]
        exact prefix_get p1 hc'

theorem Lay.oneCell {V : View} {d : D} {y : Value} {S : List Nat} (h : Lay V d y S) : y.oneCell' = true := by
  cases h with
  | v _ h => cases y <;> simp_all [scalar, Value.oneCell']
  | nil => rfl
  | sl => rfl

/-- A pointer to cells that the view knows. -/
def QC (V : View) (p : Addr) (cs : List D) : Prop := ∀ (j : Nat) (d : D), cs[j]? = some d → ∃ z S, V.cell (p.add j) = some z ∧ Lay V d z S
theorem QC.mono {V V' : View} {p : Addr} {cs : List D} (h : QC V p cs) (hv : V.le V') : QC V' p cs := fun j d hj => by
  obtain ⟨z, S, h1, h2⟩ := h j d hj
  exact ⟨z, S, hv.cell h1, h2.mono hv⟩
theorem QC.drop {V : View} {p : Addr} {cs : List D} (h : QC V p cs) (n : Nat) : QC V (p.add n) (cs.drop n) := fun j d hj => by
  rw [List.getElem?_drop] at hj
  obtain ⟨z, S, h1, h2⟩ := h _ _ hj
  exact ⟨z, S, by rw [add_add]; exact h1, h2⟩

/-- What one cell or slot holds. -/
inductive At where
  | u                                        -- unknown
  | d (x : D)                                -- pure data
  | z                                        -- a nil slice
  | p (id off : Nat)                         -- a pointer into box 'id'
  | r (id sz i fo : Nat)                     -- a pointer into row 'id': element i, cell fo of it
  | s (id : Nat)                             -- the slice of row 'id'
  | q (cs : List D)                          -- a pointer to cells that do not change any more
  | f (fn : Nat) (caps : List (List D))      -- a function value; it captured pointers to such cells
  | w (ty sz : Nat) (rows : List (List D))   -- of a result: a slice in new memory, nobody else's
  | e (id sz i fo : Nat)                     -- a pointer into the owned tree 'id': element i, cell fo
  | n (id sz i fo : Nat)                     -- the slice that lies in that cell

/-- What a slot holds. -/
inductive SV where
  | o (a : At)
  | g (cs : List At)
  | t (l : List (Bool × List At))

/-- A block of the function's own. -/
inductive HB where
  | box (ty : Nat) (cs : List At)
  | row (ty sz : Nat) (rows : List (List D)) (lin : Bool)     -- a slice that it may still write
  | frz (rows : List (List D)) (lin : Bool)                    -- one that nobody writes any more
  | gone
  | own (tag : Option (Value × List Nat × List Value)) (sz : Nat) (rows : List (List D))   -- a slice with all that it leads to, nobody else's, in no view

structure St where
  t : List SV
  h : List HB

/-- What the symbolic state does not say of a block of its own. -/
structure Gh where
  blk : Option Nat
  val : Value
  tr : List Nat
  hd : List Value

def cAt (g : List Gh) (V : View) : At → Value → Prop
  | .u, _ => True
  | .d x, y => ∃ S, Lay V x y S
  | .z, y => y = .slice none 0 0
  | .p id off, y => ∃ gh b, g[id]? = some gh ∧ gh.blk = some b ∧ y = .pointer (some ⟨b, off, none⟩)
  | .r id sz i fo, y => ∃ gh b, g[id]? = some gh ∧ gh.blk = some b ∧ y = .pointer (some ⟨b, i * sz + fo, none⟩)
  | .s id, y => ∃ gh, g[id]? = some gh ∧ y = gh.val ∧ y.oneCell' = true
  | .q cs, y => ∃ p, y = .pointer (some p) ∧ QC V p cs
  | .f fn caps, y => ∃ l : List Value, y = .func (.func fn) #[] l.toArray ∧ l.length = caps.length ∧ ∀ (k : Nat) (c : List D) (v : Value), caps[k]? = some c → l[k]? = some v → ∃ p, v = .pointer (some p) ∧ QC V p c
  | .w .., _ => False
  | .e id sz i fo, y => ∃ gh a n c, g[id]? = some gh ∧ gh.val = .slice (some a) n c ∧ y = .pointer (some (a.add (i * sz + fo)))
  | .n id sz i fo, y => ∃ gh, g[id]? = some gh ∧ gh.hd[i * sz + fo]? = some y ∧ y.oneCell' = true

def At.isU : At → Bool | .u => true | _ => false

theorem cAt.oneCell {g : List Gh} {V : View} {a : At} {y : Value} (h : cAt g V a y) (ha : a.isU = false) : y.oneCell' = true := by
  cases a with
  | u => simp [At.isU] at ha
  | d x => obtain ⟨S, h⟩ := h; exact h.oneCell
  | z => cases h; rfl
  | p id off => obtain ⟨_, _, _, _, rfl⟩ := h; rfl
  | r id sz i fo => obtain ⟨_, _, _, _, rfl⟩ := h; rfl
  | s id => obtain ⟨_, _, rfl, h⟩ := h; exact h
  | q cs => obtain ⟨_, rfl, _⟩ := h; rfl
  | f fn caps => obtain ⟨_, rfl, _⟩ := h; rfl
  | w ty sz rows => exact h.elim
  | e id sz i fo => obtain ⟨_, _, _, _, _, _, rfl⟩ := h; rfl
  | n id sz i fo => obtain ⟨_, _, _, h⟩ := h; exact h

/-- Ghosts: more of them, the old ones as they were. -/
def GLe (g g' : List Gh) : Prop := ∀ (i : Nat) (x : Gh), g[i]? = some x → ∃ x' : Gh, g'[i]? = some x' ∧ x'.blk = x.blk ∧ x'.val = x.val ∧ x'.hd = x.hd
theorem cAt.mono {g g' : List Gh} {V V' : View} {a : At} {y : Value} (h : cAt g V a y) (hg : GLe g g') (hv : V.le V') : cAt g' V' a y := by
  cases a with
  | u => trivial
  | d x => obtain ⟨S, h⟩ := h; exact ⟨S, h.mono hv⟩
  | z => exact h
  | p id off => obtain ⟨gh, b, h1, h2, h3⟩ := h; obtain ⟨x', e1, e2, e3, _⟩ := hg _ _ h1; exact ⟨x', b, e1, e2.trans h2, h3⟩
  | r id sz i fo => obtain ⟨gh, b, h1, h2, h3⟩ := h; obtain ⟨x', e1, e2, e3, _⟩ := hg _ _ h1; exact ⟨x', b, e1, e2.trans h2, h3⟩
  | s id => obtain ⟨gh, h1, h2, h3⟩ := h; obtain ⟨x', e1, e2, e3, _⟩ := hg _ _ h1; exact ⟨x', e1, h2.trans e3.symm, h3⟩
  | q cs => obtain ⟨p, h1, h2⟩ := h; exact ⟨p, h1, h2.mono hv⟩
  | f fn caps => obtain ⟨l, h1, h2, h3⟩ := h; exact ⟨l, h1, h2, fun k c v hk hl => by obtain ⟨p, e, q⟩ := h3 k c v hk hl; exact ⟨p, e, q.mono hv⟩⟩
  | w ty sz rows => exact h
  | e id sz i fo => obtain ⟨gh, a, n, c, h1, h2, h3⟩ := h; obtain ⟨x', e1, e2, e3, _⟩ := hg _ _ h1; exact ⟨x', a, n, c, e1, e3.trans h2, h3⟩
  | n id sz i fo => obtain ⟨gh, h1, h2, h3⟩ := h; obtain ⟨x', e1, _, _, e4⟩ := hg _ _ h1; exact ⟨x', e1, by rw [e4]; exact h2, h3⟩

/-- Cells, one by one. -/
def cL (g : List Gh) (V : View) (cs : List At) (l : List Value) : Prop := l.length = cs.length ∧ ∀ (k : Nat) (a : At) (y : Value), cs[k]? = some a → l[k]? = some y → cAt g V a y
theorem cL.mono {g g' : List Gh} {V V' : View} {cs : List At} {l : List Value} (h : cL g V cs l) (hg : GLe g g') (hv : V.le V') : cL g' V' cs l :=
  ⟨h.1, fun k a y h1 h2 => (h.2 k a y h1 h2).mono hg hv⟩
theorem cL.nil (g : List Gh) (V : View) : cL g V [] [] := ⟨rfl, fun k a y h => by simp at h⟩
theorem cL.cons {g : List Gh} {V : View} {a : At} {y : Value} {cs : List At} {l : List Value} (h : cAt g V a y) (hs : cL g V cs l) : cL g V (a :: cs) (y :: l) :=
  ⟨by simp [hs.1], fun k => by
    cases k with
    | zero => intro a' y' h1 h2; simp at h1 h2; subst h1; subst h2; exact h
    | succ k => intro a' y' h1 h2; simp at h1 h2; exact hs.2 k a' y' h1 h2⟩
theorem cL.cons_inv {g : List Gh} {V : View} {a : At} {cs : List At} {l : List Value} (h : cL g V (a :: cs) l) : ∃ y l', l = y :: l' ∧ cAt g V a y ∧ cL g V cs l' := by
  cases l with
  | nil => have := h.1; simp at this
  | cons y l' => exact ⟨y, l', rfl, h.2 0 a y rfl rfl, by have := h.1; simpa using this, fun k a' y' h1 h2 => h.2 (k + 1) a' y' (by simpa using h1) (by simpa using h2)⟩
theorem cL.nil_inv {g : List Gh} {V : View} {l : List Value} (h : cL g V [] l) : l = [] := List.eq_nil_of_length_eq_zero h.1
theorem cL.drop {g : List Gh} {V : View} {cs : List At} {l : List Value} (h : cL g V cs l) (n : Nat) : cL g V (cs.drop n) (l.drop n) :=
  ⟨by simp [h.1], fun k a y h1 h2 => by rw [List.getElem?_drop] at h1 h2; exact h.2 _ a y h1 h2⟩
theorem cL.take {g : List Gh} {V : View} {cs : List At} {l : List Value} (h : cL g V cs l) (n : Nat) : cL g V (cs.take n) (l.take n) :=
  ⟨by simp [h.1], fun k a y h1 h2 => by
    rw [List.getElem?_take] at h1 h2
    split at h1
    · rw [if_pos ‹_›] at h2; exact h.2 _ a y h1 h2
    · cases h1⟩
theorem cL.append {g : List Gh} {V : View} {cs cs' : List At} {l l' : List Value} (h : cL g V cs l) (h' : cL g V cs' l') : cL g V (cs ++ cs') (l ++ l') :=
  ⟨by simp [h.1, h'.1], fun k a y h1 h2 => by
    rw [List.getElem?_append] at h1 h2
    rw [h.1] at h2
    split at h1
    · rw [if_pos ‹_›] at h2; exact h.2 _ a y h1 h2
    · rw [if_neg ‹_›] at h2; exact h'.2 _ a y h1 h2⟩

def pack (agg : Bool) (cs : List At) : SV := if agg then .g cs else match cs with | [a] => .o a | _ => .o .u

def cSV (g : List Gh) (V : View) : SV → Value → Prop
  | .o a, y => cAt g V a y
  | .g cs, y => ∃ l : List Value, y = .agg l.toArray ∧ cL g V cs l
  | .t l, y => ∃ ys : List Value, y = .tuple ys.toArray ∧ ys.length = l.length ∧ ∀ (k : Nat) (b : Bool) (cs : List At) (v : Value), l[k]? = some (b, cs) → ys[k]? = some v →
      if b then ∃ m : List Value, v = .agg m.toArray ∧ cL g V cs m else cL g V cs [v]

theorem cSV.mono {g g' : List Gh} {V V' : View} {s : SV} {y : Value} (h : cSV g V s y) (hg : GLe g g') (hv : V.le V') : cSV g' V' s y := by
  cases s with
  | o a => exact cAt.mono h hg hv
  | g cs => obtain ⟨l, h1, h2⟩ := h; exact ⟨l, h1, h2.mono hg hv⟩
  | t l =>
    obtain ⟨ys, h1, h2, h3⟩ := h
    refine ⟨ys, h1, h2, fun k b cs v hk hl => ?_⟩
    have := h3 k b cs v hk hl
    cases b
    · simp only [Bool.false_eq_true, if_false] at this ⊢; exact this.mono hg hv
    · simp only [if_true] at this ⊢; obtain ⟨m, e, hm⟩ := this; exact ⟨m, e, hm.mono hg hv⟩

end Go.Sx
