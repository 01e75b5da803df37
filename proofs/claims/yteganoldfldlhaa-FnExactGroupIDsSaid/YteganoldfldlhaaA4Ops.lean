/-
  The operations over the symbolic state: what each makes of it ('vcOp'), and that this is true of the model ('vcOp_ok').
-/
import Derived.Test.YteganoldfldlhaaA3Wp
set_option linter.all false
namespace Go.Sx
open Go Go.RowKit

/-- What the walk must know of a type. tag: 1 struct, 2 slice, 3 integer, 4 bool, 5 string; 0: not known. -/
structure Ty where
  tag : Nat
  size : Nat
  bytes : Nat
  zero : List At
  flds : List (Nat × Nat)
  elem : Nat
  kind : IntKind

def Ty.bad : Ty := { tag := 0, size := 0, bytes := 0, zero := [], flds := [], elem := 0, kind := .i64 }
def Ty.agg (d : Ty) : Bool := d.tag == 1

def zeroIs : Value → At → Bool
  | .int k n, .d (.v (.int k' n')) => k == k' && n == n'
  | .bool b, .d (.v (.bool b')) => b == b'
  | .string s, .d (.v (.string s')) => s.data.toList == s'.data.toList
  | .slice none 0 0, .z => true
  | _, _ => false
def zeroAre : List Value → List At → Bool
  | [], [] => true
  | v :: vs, a :: as => zeroIs v a && zeroAre vs as
  | _, _ => false
def fldsAre : List Field → List (Nat × Nat) → Bool
  | [], [] => true
  | f :: fs, p :: ps => f.offset == p.1 && f.type == p.2 && fldsAre fs ps
  | _, _ => false
def undIs (d : Ty) : Option TypeDesc → Bool
  | some (.struct fs) => d.tag == 1 && fldsAre fs.toList d.flds
  | some (.slice e) => d.tag == 2 && e == d.elem && d.size == 1
  | some (.int k) => d.tag == 3 && k == d.kind && d.size == 1
  | some .bool => d.tag == 4 && d.size == 1
  | some .string => d.tag == 5 && d.size == 1
  | _ => false
def zeroOf (d : Ty) : Option Value → Bool
  | some z => zeroAre z.cells.toList d.zero
  | none => false

/-- The table's row is what the program says. -/
def chkTy (P : Program) (t : Nat) (d : Ty) : Bool :=
  match P.info? t with
  | none => false
  | some i => i.size == d.size && i.bytes == d.bytes && d.zero.length == d.size && d.size != 0 && zeroOf d i.zero && undIs d (P.underlying t)

def TyOK (P : Program) (T : Nat → Ty) : Prop := ∀ t, (T t).tag ≠ 0 → chkTy P t (T t) = true
theorem TyOK.of_list {P : Program} {l : List Ty} (h : (List.range l.length).all (fun t => (l.getD t .bad).tag == 0 || chkTy P t (l.getD t .bad)) = true) : TyOK P (fun t => l.getD t .bad) := by
  intro t ht
  rcases Nat.lt_or_ge t l.length with hl | hl
  · have := List.all_eq_true.1 h t (List.mem_range.2 hl)
    rw [Bool.or_eq_true] at this
    rcases this with h1 | h1
    · exact (ht (by simpa using h1)).elim
    · exact h1
  · simp only [List.getD_eq_getElem?_getD, List.getElem?_eq_none hl] at ht
    exact (ht rfl).elim

theorem zeroIs_c {v : Value} {a : At} (h : zeroIs v a = true) (g : List Gh) (V : View) : cAt g V a v := by
  unfold zeroIs at h
  split at h
  · rename_i k n k' n'
    rw [Bool.and_eq_true, beq_iff_eq, beq_iff_eq] at h
    obtain ⟨rfl, rfl⟩ := h
    exact ⟨[], .v _ rfl⟩
  · rw [beq_iff_eq] at h; subst h; exact ⟨[], .v _ rfl⟩
  · rename_i s s'
    rw [beq_iff_eq] at h
    have : s = s' := by
      cases s; cases s'
      simp only at h
      congr 1
      exact Array.toList_inj.1 h
    subst this; exact ⟨[], .v _ rfl⟩
  · rfl
  · cases h
theorem zeroAre_c {vs : List Value} {as : List At} (h : zeroAre vs as = true) (g : List Gh) (V : View) : cL g V as vs := by
  induction vs generalizing as with
  | nil => cases as with
    | nil => exact cL.nil g V
    | cons => simp [zeroAre] at h
  | cons v vs ih => cases as with
    | nil => simp [zeroAre] at h
    | cons a as =>
      simp only [zeroAre, Bool.and_eq_true] at h
      exact cL.cons (zeroIs_c h.1 g V) (ih h.2)
theorem fldsAre_get {fs : List Field} {ps : List (Nat × Nat)} (h : fldsAre fs ps = true) : ∀ (i : Nat) (p : Nat × Nat), ps[i]? = some p → ∃ f, fs[i]? = some f ∧ f.offset = p.1 ∧ f.type = p.2 := by
  induction fs generalizing ps with
  | nil => cases ps with
    | nil => intro i p hp; simp at hp
    | cons => simp [fldsAre] at h
  | cons f fs ih => cases ps with
    | nil => simp [fldsAre] at h
    | cons q ps =>
      simp only [fldsAre, Bool.and_eq_true, beq_iff_eq] at h
      intro i p hp
      cases i with
      | zero => simp at hp; subst hp; exact ⟨f, rfl, h.1.1, h.1.2⟩
      | succ i => simpa using ih h.2 i p (by simpa using hp)

structure TyGood (P : Program) (t : Nat) (d : Ty) (i : TypeInfo) (z : Value) (u : TypeDesc) : Prop where
  info : P.info? t = some i
  size : i.size = d.size
  bytes : i.bytes = d.bytes
  pos : d.size ≠ 0
  zero : i.zero = some z
  zc : zeroAre z.cells.toList d.zero = true
  zlen : d.zero.length = d.size
  und : P.underlying t = some u
  uok : undIs d (some u) = true
theorem TyOK.good {P : Program} {T : Nat → Ty} (h : TyOK P T) {t : Nat} (ht : (T t).tag ≠ 0) : ∃ i z u, TyGood P t (T t) i z u := by
  have := h t ht
  unfold chkTy at this
  split at this
  · cases this
  · rename_i i hi
    simp only [Bool.and_eq_true, beq_iff_eq, bne_iff_ne] at this
    obtain ⟨⟨⟨⟨⟨h1, h2⟩, h3⟩, h4⟩, h5⟩, h6⟩ := this
    cases hz : i.zero with
    | none => rw [hz] at h5; cases h5
    | some z =>
      rw [hz] at h5
      cases hu : P.underlying t with
      | none => rw [hu] at h6; cases h6
      | some u => rw [hu] at h6; exact ⟨i, z, u, hi, h1, h2, h4, hz, h5, h3, hu, h6⟩

section
variable {P : Program} {t : Nat} {d : Ty} {i : TypeInfo} {z : Value} {u : TypeDesc}
theorem TyGood.run_size (h : TyGood P t d i z u) (w : World) : (sizeOf t).run P w = .ok d.size w := by simp [sizeOf, typeInfo, h.info, h.size]
theorem TyGood.run_info (h : TyGood P t d i z u) (w : World) : (typeInfo t).run P w = .ok i w := by simp [typeInfo, h.info]
theorem TyGood.run_zero (h : TyGood P t d i z u) (w : World) : (zeroValue t).run P w = .ok z w := by simp [zeroValue, typeInfo, h.info, h.zero]
theorem TyGood.run_und (h : TyGood P t d i z u) (w : World) : (underlying t).run P w = .ok u w := run_underlying h.und w
theorem TyGood.run_agg (h : TyGood P t d i z u) (w : World) : (isAgg t).run P w = .ok d.agg w := by
  have hu := h.uok
  simp only [isAgg, Sem.run_bind, h.run_und w, Result.andThen_ok]
  unfold undIs at hu
  split at hu <;> simp_all [Ty.agg]
theorem TyGood.struct (h : TyGood P t d i z u) (ht : d.tag = 1) : ∃ fs, u = .struct fs ∧ fldsAre fs.toList d.flds = true := by
  have hu := h.uok
  unfold undIs at hu
  split at hu <;> simp_all
theorem TyGood.slice (h : TyGood P t d i z u) (ht : d.tag = 2) : u = .slice d.elem := by
  have hu := h.uok
  unfold undIs at hu
  split at hu <;> simp_all
theorem TyGood.int (h : TyGood P t d i z u) (ht : d.tag = 3) : u = .int d.kind := by
  have hu := h.uok
  unfold undIs at hu
  split at hu <;> simp_all
theorem TyGood.bool (h : TyGood P t d i z u) (ht : d.tag = 4) : u = .bool := by
  have hu := h.uok
  unfold undIs at hu
  split at hu <;> simp_all
theorem TyGood.string (h : TyGood P t d i z u) (ht : d.tag = 5) : u = .string := by
  have hu := h.uok
  unfold undIs at hu
  split at hu <;> simp_all
theorem TyGood.size1 (h : TyGood P t d i z u) (ht : d.tag ≠ 1) : d.size = 1 := by
  have hu := h.uok
  unfold undIs at hu
  split at hu <;> simp_all
end

/-! ### The state, read and written -/

def nth : List SV → Nat → SV
  | [], _ => .o .u
  | x :: _, 0 => x
  | _ :: xs, n + 1 => nth xs n
theorem nth_eq (l : List SV) (n : Nat) : nth l n = l.getD n (.o .u) := by
  induction l generalizing n with
  | nil => rfl
  | cons x xs ih => cases n with
    | zero => rfl
    | succ n => simpa [nth] using ih n
def setN : List SV → Nat → SV → List SV
  | [], _, _ => []
  | _ :: xs, 0, y => y :: xs
  | x :: xs, n + 1, y => x :: setN xs n y
theorem setN_eq (l : List SV) (n : Nat) (y : SV) : setN l n y = l.set n y := by
  induction l generalizing n with
  | nil => rfl
  | cons x xs ih => cases n with
    | zero => rfl
    | succ n => simp [setN, ih]
def nthH : List HB → Nat → HB
  | [], _ => .gone
  | x :: _, 0 => x
  | _ :: xs, n + 1 => nthH xs n
theorem nthH_eq (l : List HB) (n : Nat) : nthH l n = l.getD n .gone := by
  induction l generalizing n with
  | nil => rfl
  | cons x xs ih => cases n with
    | zero => rfl
    | succ n => simpa [nthH] using ih n
def setH : List HB → Nat → HB → List HB
  | [], _, _ => []
  | _ :: xs, 0, y => y :: xs
  | x :: xs, n + 1, y => x :: setH xs n y
theorem setH_eq (l : List HB) (n : Nat) (y : HB) : setH l n y = l.set n y := by
  induction l generalizing n with
  | nil => rfl
  | cons x xs ih => cases n with
    | zero => rfl
    | succ n => simp [setH, ih]
/-- n elements from o on; none if there are not that many. -/
def sub {α : Type} : List α → Nat → Nat → Option (List α)
  | _, 0, 0 => some []
  | x :: xs, 0, n + 1 => (sub xs 0 n).map (x :: ·)
  | [], 0, _ + 1 => none
  | _ :: xs, o + 1, n => sub xs o n
  | [], _ + 1, _ => none
theorem sub_some {α : Type} : ∀ {l : List α} {o n : Nat} {r : List α}, sub l o n = some r → r = (l.drop o).take n ∧ o + n ≤ l.length
  | l, 0, 0, r, h => by cases l <;> simp_all [sub]
  | [], 0, _ + 1, _, h => by simp [sub] at h
  | x :: xs, 0, n + 1, r, h => by
    simp only [sub, Option.map_eq_some_iff] at h
    obtain ⟨r', h1, rfl⟩ := h
    obtain ⟨e, hl⟩ := sub_some h1
    subst e
    simp at hl ⊢
    exact hl
  | _ :: xs, o + 1, n, r, h => by
    obtain ⟨e, hl⟩ := sub_some (l := xs) (by simpa [sub] using h)
    exact ⟨by simpa using e, by simp; omega⟩
  | [], _ + 1, _, _, h => by simp [sub] at h
/-- cells from o on are replaced; none if they do not fit. -/
def splice {α : Type} : List α → Nat → List α → Option (List α)
  | l, 0, [] => some l
  | _ :: xs, 0, y :: ys => (splice xs 0 ys).map (y :: ·)
  | [], 0, _ :: _ => none
  | x :: xs, o + 1, ys => (splice xs o ys).map (x :: ·)
  | [], _ + 1, _ => none
theorem splice_some {α : Type} : ∀ {l : List α} {o : Nat} {ys r : List α}, splice l o ys = some r → r.length = l.length ∧ o + ys.length ≤ l.length ∧ ∀ k, r[k]? = if o ≤ k ∧ k < o + ys.length then ys[k - o]? else l[k]?
  | l, 0, [], r, h => by
    have : r = l := by cases l <;> simp_all [splice]
    subst this
    exact ⟨rfl, by simp, fun k => by rw [if_neg (by simp)]⟩
  | [], 0, _ :: _, _, h => by simp [splice] at h
  | x :: xs, 0, y :: ys, r, h => by
    simp only [splice, Option.map_eq_some_iff] at h
    obtain ⟨r', h1, rfl⟩ := h
    obtain ⟨e, hl, hk⟩ := splice_some h1
    refine ⟨by simp [e], by simp at hl ⊢; exact hl, fun k => ?_⟩
    cases k with
    | zero => simp
    | succ k =>
      have := hk k
      simp only [List.getElem?_cons_succ, this, Nat.zero_le, true_and, Nat.sub_zero, Nat.zero_add, List.length_cons, Nat.add_lt_add_iff_right]
  | x :: xs, o + 1, ys, r, h => by
    simp only [splice, Option.map_eq_some_iff] at h
    obtain ⟨r', h1, rfl⟩ := h
    obtain ⟨e, hl, hk⟩ := splice_some h1
    refine ⟨by simp [e], by simp; omega, fun k => ?_⟩
    cases k with
    | zero => simp
    | succ k =>
      have := hk k
      simp only [List.getElem?_cons_succ, this]
      congr 1
      · simp only [eq_iff_iff]; omega
      · congr 1; omega
  | [], _ + 1, _, _, h => by simp [splice] at h

def St.put (st : St) : Option Nat → SV → St
  | some d, s => ⟨setN st.t d s, st.h⟩
  | none, _ => st
def St.push (st : St) (b : HB) : St := ⟨st.t, st.h ++ [b]⟩

def constSV : Value → SV
  | .int k n => .o (.d (.v (.int k n)))
  | .bool b => .o (.d (.v (.bool b)))
  | .string s => .o (.d (.v (.string s)))
  | .slice none 0 0 => .o .z
  | _ => .o .u
def ev (st : St) : Operand → SV
  | .tmp t => nth st.t t
  | .const v => constSV v
  | .func f => .o (.f f [])
  | .global _ => .o .u
def SV.cells : SV → List At
  | .o a => [a]
  | .g cs => cs
  | .t _ => [.u, .u]

theorem constSV_ok (g : List Gh) (V : View) (v : Value) : cSV g V (constSV v) v := by
  unfold constSV
  split
  · exact ⟨[], .v _ rfl⟩
  · exact ⟨[], .v _ rfl⟩
  · exact ⟨[], .v _ rfl⟩
  · exact rfl
  · trivial
theorem ev_ok {g : List Gh} {V : View} {st : St} {a : Act} (h : Sl g V st.t a) (x : Operand) : cSV g V (ev st x) (a.eval x) := by
  cases x with
  | tmp t =>
    simp only [ev, nth_eq, Act.eval]
    rcases Nat.lt_or_ge t st.t.length with hl | hl
    · have h1 : st.t[t]? = some st.t[t] := List.getElem?_eq_getElem hl
      have h2 : t < a.tmps.size := by rw [h.size]; exact hl
      rw [List.getD_eq_getElem?_getD, h1]
      have h3 : a.tmps[t]? = some a.tmps[t] := Array.getElem?_eq_getElem h2
      have : a.tmps.getD t undef = a.tmps[t] := by simp [Array.getD, h2]
      rw [this]
      exact h.slot t _ _ h1 h3
    · rw [List.getD_eq_getElem?_getD, List.getElem?_eq_none hl]
      trivial
  | const v => exact constSV_ok g V v
  | func f => exact ⟨[], rfl, rfl, fun k c v h => by simp at h⟩
  | global n => trivial
theorem evs_ok {g : List Gh} {V : View} {st : St} {a : Act} (h : Sl g V st.t a) (xs : List Operand) : ∀ (k : Nat) (s : SV) (y : Value), (xs.map (ev st))[k]? = some s → (xs.map a.eval)[k]? = some y → cSV g V s y := by
  intro k s y h1 h2
  rw [List.getElem?_map] at h1 h2
  cases hx : xs[k]? with
  | none => rw [hx] at h1; cases h1
  | some x => rw [hx] at h1 h2; cases h1; cases h2; exact ev_ok h x

theorem Rel.put {C : Ctx} {g : List Gh} {V : View} {st : St} {a : Act} {w : World} (h : Rel C g V st a w) (d : Option Nat) {s : SV} {y : Value} (hy : cSV g V s y) : Rel C g V (st.put d s) (a.put d y) w := by
  cases d with
  | none => exact h
  | some d =>
    refine ⟨?_, h.hp, h.mod, h.fr, h.vw⟩
    simp only [St.put, setN_eq]
    exact h.sl.put d hy

end Go.Sx
