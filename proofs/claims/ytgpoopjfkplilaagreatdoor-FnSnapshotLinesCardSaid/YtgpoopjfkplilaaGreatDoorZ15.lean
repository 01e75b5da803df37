/- Joined texts. -/
import Derived.Test.YtgpoopjfkplilaaGreatDoorZ07
import Derived.Test.YtgpoopjfkplilaaGreatDoorZ04
import Derived.Laws.IdiomCopy
import Derived.Deep.AppendSrc
import Derived.Shelf.RegionOpenPlain
import Derived.WalkKit
import Derived.Lib.Walk
import Derived.Lib.SliceRun
import Derived.Lib.JoinLaws
import Derived.Lib.AppendZeros
import Derived.Lib.AppendZerosOnto
import Derived.Lib.Overlaps
import Derived.Laws.Externs
import Derived.Laws.NewBlocks
import Derived.Shelf.Spec.SlicesInsertGrow
import Derived.Test.YtgpoopjfkplilaaGreatDoorZ09
import Derived.Test.YtgpoopjfkplilaaGreatDoorZ12
import Derived.Test.YtgpoopjfkplilaaGreatDoorZ11
import Derived.Test.YtgpoopjfkplilaaGreatDoorZ08
import Derived.Deep.LoopGhost
import Derived.Deep.Draws
import Derived.Shelf.SlicesE.Kit
import Derived.Shelf.SlicesE.DeleteFunc
import Derived.Test.YtgpoopjfkplilaaGreatDoorZ14
set_option linter.all false
section
set_option maxRecDepth 100000
namespace Go.Sx
open Go Go.RowKit
theorem LayL.take {V : View} {ds : List D} {ys : List Value} {Ss : List (List Nat)} (h : LayL V ds ys Ss) (n : Nat) : LayL V (ds.take n) (ys.take n) (Ss.take n) :=
 ⟨by simp [h.1], by simp [h.2.1], fun k d y S h1 h2 h3 => by
  rw [List.getElem?_take] at h1 h2 h3
  split at h1
  ·rw [if_pos ‹_›] at h2 h3; exact h.2.2 k d y S h1 h2 h3
  ·cases h1⟩
theorem LayL.drop {V : View} {ds : List D} {ys : List Value} {Ss : List (List Nat)} (h : LayL V ds ys Ss) (n : Nat) : LayL V (ds.drop n) (ys.drop n) (Ss.drop n) :=
 ⟨by simp [h.1], by simp [h.2.1], fun k d y S h1 h2 h3 => by
  rw [List.getElem?_drop] at h1 h2 h3
  exact h.2.2 _ d y S h1 h2 h3⟩
theorem a6T {α : Type} {sz : Nat} : ∀ {rows : List (List α)}, (∀ r ∈ rows, r.length = sz) → rows.flatten.length = rows.length * sz
 | [], _ => by simp
 | r :: rows, h => by
  rw [List.flatten_cons, List.length_append, a6T (fun r hr => h r (by simp [hr])), h r (by simp), List.length_cons, Nat.add_mul]; omega
theorem a3P {α : Type} {sz : Nat} : ∀ {rows : List (List α)} (i : Nat), (∀ r ∈ rows, r.length = sz) → (rows.take i).flatten = rows.flatten.take (i * sz)
 | [], i, _ => by simp
 | r :: rows, 0, h => by simp
 | r :: rows, i + 1, h => by
  have e := h r (by simp)
  rw [List.take_succ_cons, List.flatten_cons, List.flatten_cons, a3P i (fun r hr => h r (by simp [hr])), List.take_append, List.take_of_length_le (l := r) (by rw [e, Nat.add_mul]; omega)]
  congr 2
  rw [e, Nat.add_mul]; omega
theorem vN {α : Type} {sz : Nat} : ∀ {rows : List (List α)} (i : Nat), (∀ r ∈ rows, r.length = sz) → (rows.drop i).flatten = rows.flatten.drop (i * sz)
 | [], i, _ => by simp
 | r :: rows, 0, h => by simp
 | r :: rows, i + 1, h => by
  have e := h r (by simp)
  rw [List.drop_succ_cons, List.flatten_cons, vN i (fun r hr => h r (by simp [hr])), List.drop_append, List.drop_of_length_le (l := r) (by rw [e, Nat.add_mul]; omega), List.nil_append]
  congr 1
  rw [e, Nat.add_mul]; omega
theorem RowAt.shape {w wr : World} {b ty N : Nat} {F : List Value} (h : RowAt w wr b ty N F) : wr.shape? b = some (ty, N) := by
 obtain ⟨c, h1, h2, h3⟩ := h.cells
 simp [World.shape?, h1, h2]
theorem RowAt.pre {w wr : World} {b ty N : Nat} {F G : List Value} (h : RowAt w wr b ty N F) (hp : G <+: F) : RowAt w wr b ty N G := by
 obtain ⟨c, h1, h2, h3⟩ := h.cells
 exact ⟨⟨c, h1, h2, hp.trans h3⟩, h.grown⟩
end Go.Sx
end
section
namespace Go.Proofs.YtgpoopjfkplilaaGreatDoor
open Go Go.Sx Go.RowKit Go.Proofs Go.Lib
end Go.Proofs.YtgpoopjfkplilaaGreatDoor
end
section
set_option maxRecDepth 100000
namespace Go.Proofs.YtgpoopjfkplilaaGreatDoor
open Go Go.Sx Go.RowKit Go.Proofs
end Go.Proofs.YtgpoopjfkplilaaGreatDoor
end
section
set_option maxRecDepth 100000
set_option maxHeartbeats 4000000
namespace Go.Proofs.YtgpoopjfkplilaaGreatDoor
def b4E (x v : TValue) : Bool := decide (x.fKind = v.fKind) && (decide (x.fInt = v.fInt) && decide (x.fStr = v.fStr))
def b7t (l : List Int) (i : Int) : Bool := l.any fun x => decide (x = i)
def a8h (s : ByteArray) : List TResult → List Int
 | [] => []
 | x :: r => if x.fName = s then x.fIDs else a8h s r
def b7u (v : TValue) (n : Int) : Bool := decide (v.fKind = 1) && decide (v.fInt < n)
def mt (q : List TNode) (f : TFile) (r : List TResult) : Nat → Nat → Bool
 | 0, _ => false
 | k + 1, i => match q[i]? with
  | none => false
  | some n =>
   if n.fOp = 1 then true
   else if n.fOp = 2 then !decide ((vK n.fName f.fAttrs).fKind = 0)
   else if n.fOp = 3 then b4E (vK n.fName f.fAttrs) n.fValue
   else if n.fOp = 4 then b7u (vK n.fName f.fAttrs) n.fValue.fInt
   else if n.fOp = 5 then !mt q f r k n.fLeft.toNat
   else if n.fOp = 6 then mt q f r k n.fLeft.toNat && mt q f r k n.fRight.toNat
   else if n.fOp = 7 then mt q f r k n.fLeft.toNat || mt q f r k n.fRight.toNat
   else if n.fOp = 8 then b7t (a8h n.fName r) f.fID
   else !decide (f.fLink = 0) && b7t (a8h n.fName r) f.fLink
end Go.Proofs.YtgpoopjfkplilaaGreatDoor
end
section
set_option maxRecDepth 100000
set_option maxHeartbeats 4000000
namespace Go.Proofs.YtgpoopjfkplilaaGreatDoor
open Go Go.Sx Go.RowKit Go.Proofs
def b5M (s : ByteArray) (y : TAttr) : Bool := !gB y.fName s
def b5N (a : List TAttr) (x : TAttr) : Bool := a.any fun y => decide (y.fName = x.fName) && !b4E y.fValue x.fValue
def b5O (a : List TAttr) (x : TAttr) : Bool := a.any fun y => decide (y.fName = x.fName)
def a8g (a : List TAttr) : List TAttr → List TAttr → Option (List TAttr)
 | l, [] => some l
 | l, x :: b => if b5N a x then none else if b5O a x then a8g a l b else a8g a (jZ (eU (b5M x.fName) l) x l) b
def b8H (a b : TEdit) : TEdit := if a.fOK && b.fOK then (match a8g a.fSet a.fSet b.fSet with | none => ⟨false, []⟩ | some l => ⟨true, l⟩) else ⟨false, []⟩
theorem a3N {α β : Type} (f : α → β) (l : List α) (n : Nat) : (l.map f).take n = (l.take n).map f := List.map_take.symm
theorem a3O {α β : Type} (f : α → β) (l : List α) (n : Nat) : (l.map f).drop n = (l.drop n).map f := List.map_drop.symm
theorem b2F (p : TAttr → Bool) (l : List TAttr) (k : Nat) (h : k < l.length) (hk : eU p l = k + eU p (l.drop k)) : eU p l = if p l[k] then k else k + 1 + eU p (l.drop (k + 1)) := by
 rw [hk, a2b p l k h]
 split <;> omega
end Go.Proofs.YtgpoopjfkplilaaGreatDoor
end
section
set_option maxRecDepth 100000
namespace Go.Sx
open Go Go.RowKit
structure DelK (k : Nat) (xs : List (List Value × Bool)) (i j : Nat) (F : List Value) : Prop where
 un : ∀ x ∈ xs, x.1.length = k
 len : F.length = xs.length * k
 ij : i < j
 jn : j ≤ xs.length
 lo : F.take (i * k) = (((xs.take j).filter fun x => !x.2).map (·.1)).flatten
 hi : F.drop (j * k) = ((xs.drop j).map (·.1)).flatten
 il : i = ((xs.take j).filter fun x => !x.2).length
theorem b0M {k : Nat} {xs : List (List Value × Bool)} (h : ∀ x ∈ xs, x.1.length = k) : ((xs.map (·.1)).flatten).length = xs.length * k := by
 rw [a6T (sz := k) fun r hr => by obtain ⟨x, hx, rfl⟩ := List.mem_map.1 hr; exact h x hx, List.length_map]
theorem DelK.at {k : Nat} {xs : List (List Value × Bool)} {i j : Nat} {F : List Value} (h : DelK k xs i j F) (hj : j < xs.length) {t : Nat} {v : Value} (ht : xs[j].1[t]? = some v) : F[j * k + t]? = some v := by
 have h0 : (F.drop (j * k))[t]? = ((xs.drop j).map (·.1)).flatten[t]? := by rw [h.hi]
 rw [List.getElem?_drop] at h0
 rw [h0, List.drop_eq_getElem_cons hj, List.map_cons, List.flatten_cons, List.getElem?_append_left (List.getElem?_eq_some_iff.1 ht).1]
 exact ht
theorem filt_all (xs : List (List Value × Bool)) (k : Nat) (h : ∀ j (hj : j < xs.length), j < k → xs[j].2 = false) : (xs.take k).filter (fun x => !x.2) = xs.take k := by
 refine List.filter_eq_self.2 fun x hx => ?_
 obtain ⟨j, hj, rfl⟩ := List.mem_iff_getElem.1 hx
 simp only [List.length_take] at hj
 rw [List.getElem_take, h j (by omega) (by omega)]; rfl
theorem DelK.start {k n : Nat} {xs : List (List Value × Bool)} (hu : ∀ x ∈ xs, x.1.length = k) (hn : n < xs.length) (h : ∀ j (hj : j < xs.length), j < n → xs[j].2 = false) (hp : xs[n].2 = true) : DelK k xs n (n + 1) (xs.map (·.1)).flatten := by
 have e1 : (xs.take (n + 1)).filter (fun x => !x.2) = xs.take n := by
  rw [List.take_succ_eq_append_getElem hn, List.filter_append, filt_all xs n h]
  simp [hp]
 have hu' : ∀ r ∈ xs.map (·.1), r.length = k := fun r hr => by obtain ⟨x, hx, rfl⟩ := List.mem_map.1 hr; exact hu x hx
 refine ⟨hu, b0M hu, by omega, by omega, ?_, ?_, ?_⟩
 ·rw [e1, List.map_take, a3P n hu']
 ·rw [List.map_drop, vN (n + 1) hu']
 ·rw [e1]; simp; omega
theorem DelK.keep {k : Nat} {xs : List (List Value × Bool)} {i j : Nat} {F : List Value} (h : DelK k xs i j F) (hj : j < xs.length) (hp : xs[j].2 = false) : DelK k xs (i + 1) (j + 1) (F.take (i * k) ++ xs[j].1 ++ F.drop (i * k + xs[j].1.length)) := by
 have e1 : (xs.take (j + 1)).filter (fun x => !x.2) = (xs.take j).filter (fun x => !x.2) ++ [xs[j]] := by
  rw [List.take_succ_eq_append_getElem hj, List.filter_append]
  simp [hp]
 have hl := h.len
 have hij := h.ij
 have hu := h.un xs[j] (List.getElem_mem hj)
 have hle : (i + 1) * k ≤ j * k := Nat.mul_le_mul_right k hij
 have hle2 : (j + 1) * k ≤ xs.length * k := Nat.mul_le_mul_right k hj
 rw [Nat.add_mul] at hle hle2
 simp only [Nat.one_mul] at hle hle2
 have hFl : i * k + k ≤ F.length := by omega
 refine ⟨h.un, ?_, by omega, by omega, ?_, ?_, ?_⟩
 ·simp only [List.length_append, List.length_take, List.length_drop, hu]; omega
 ·rw [List.take_append_of_le_length (by simp [hu, Nat.add_mul]; omega), List.take_of_length_le (by simp [hu, Nat.add_mul]; omega), e1, List.map_append, List.flatten_append, h.lo]; simp
 ·rw [List.drop_append, List.drop_of_length_le (by simp [hu, Nat.add_mul]; omega), List.nil_append, List.drop_drop]
  have e2 : F.drop ((j + 1) * k) = ((xs.drop (j + 1)).map (·.1)).flatten := by
   have hu' : ∀ r ∈ (xs.drop j).map (·.1), r.length = k := fun r hr => by obtain ⟨x, hx, rfl⟩ := List.mem_map.1 hr; exact h.un x (List.mem_of_mem_drop hx)
   have := vN 1 hu'
   rw [Nat.add_mul, ← List.drop_drop, h.hi, ← this, ← List.map_drop, List.drop_drop]
  rw [← e2]
  congr 1
  simp only [List.length_append, List.length_take, hu, Nat.add_mul]
  omega
 ·rw [e1, List.length_append, ← h.il]; rfl
theorem DelK.skip {k : Nat} {xs : List (List Value × Bool)} {i j : Nat} {F : List Value} (h : DelK k xs i j F) (hj : j < xs.length) (hp : xs[j].2 = true) : DelK k xs i (j + 1) F := by
 have e1 : (xs.take (j + 1)).filter (fun x => !x.2) = (xs.take j).filter (fun x => !x.2) := by
  rw [List.take_succ_eq_append_getElem hj, List.filter_append]
  simp [hp]
 have hij := h.ij
 refine ⟨h.un, h.len, by omega, by omega, by rw [e1]; exact h.lo, ?_, by rw [e1]; exact h.il⟩
 have hu' : ∀ r ∈ (xs.drop j).map (·.1), r.length = k := fun r hr => by obtain ⟨x, hx, rfl⟩ := List.mem_map.1 hr; exact h.un x (List.mem_of_mem_drop hx)
 have := vN 1 hu'
 rw [Nat.add_mul, ← List.drop_drop, h.hi, ← this, ← List.map_drop, List.drop_drop]
theorem DelK.fin {k : Nat} {xs : List (List Value × Bool)} {i : Nat} {F : List Value} (h : DelK k xs i xs.length F) : F.take (i * k) = ((xs.filter fun x => !x.2).map (·.1)).flatten ∧ i = (xs.filter fun x => !x.2).length := by
 have h1 := h.lo
 have h2 := h.il
 rw [List.take_length] at h1 h2
 exact ⟨h1, h2⟩
theorem RowAt.other {w wr W : World} {b ty N : Nat} {F : List Value} (h : RowAt w wr b ty N F) (hb : Below wr.heap.size wr W) : RowAt w W b ty N F := h.behind hb
def b5P {τ : Type} (k : Nat) (p : τ → Bool) : List Value → List τ → List (List Value × Bool)
 | _, [] => []
 | ys, x :: l => (ys.take k, p x) :: b5P k p (ys.drop k) l
def b4j {α τ : Type} (k : Nat) (p : τ → Bool) : List α → List τ → List α
 | _, [] => []
 | ys, x :: l => (if p x then [] else ys.take k) ++ b4j k p (ys.drop k) l
theorem LayL.sel {τ : Type} {V : View} {k : Nat} (enc : τ → List D) (p : τ → Bool) (he : ∀ x, (enc x).length = k) : ∀ (l : List τ) (ys : List Value) (Ss : List (List Nat)), LayL V (l.map enc).flatten ys Ss → LayL V ((l.filter fun x => !p x).map enc).flatten (b4j k p ys l) (b4j k p Ss l)
 | [], ys, Ss, h => LayL.nil V
 | x :: l, ys, Ss, h => by
  have h1 := h.take k
  have h2 := h.drop k
  simp only [List.map_cons, List.flatten_cons] at h1 h2
  rw [List.take_left' (he x)] at h1
  rw [List.drop_left' (he x)] at h2
  have ih := LayL.sel enc p he l _ _ h2
  simp only [b4j, List.filter_cons]
  cases p x
  ·simp only [Bool.not_false, if_true, Bool.false_eq_true, if_false, List.map_cons, List.flatten_cons]
   exact h1.append ih
  ·simp only [Bool.not_true, Bool.false_eq_true, if_false, if_true, List.nil_append]
   exact ih
end Go.Sx
end
section
namespace Go.Proofs.YtgpoopjfkplilaaGreatDoor
open Go Go.Sx Go.RowKit Go.Proofs Go.Lib
end Go.Proofs.YtgpoopjfkplilaaGreatDoor
end
section
set_option maxRecDepth 100000
set_option maxHeartbeats 4000000
namespace Go.Proofs.YtgpoopjfkplilaaGreatDoor
open Go Go.Sx Go.RowKit Go.Proofs
def isName (s : ByteArray) (y : TAttr) : Bool := decide (y.fName = s)
def kQ (s : ByteArray) (y : TAttr) : Bool := !(gB y.fName s || decide (y.fName = s))
def mH (s : ByteArray) (l : List TAttr) : List TAttr := l.filter fun y => !isName s y
def sU (s : ByteArray) (v : TValue) (l : List TAttr) : List TAttr := if v.fKind = 0 then mH s l else jZ (eU (kQ s) (mH s l)) ⟨s, v⟩ (mH s l)
def rQ (f : TFile) (s : ByteArray) (v : TValue) : TFile := { f with fAttrs := sU s v f.fAttrs }
theorem a2v (s : ByteArray) (l : List TAttr) : (mH s l).length ≤ l.length := List.length_filter_le _ _
theorem b2E (s : ByteArray) (v : TValue) (l : List TAttr) : (sU s v l).length ≤ l.length + 1 := by
 have := a2v s l
 unfold sU
 split
 ·omega
 ·rw [a3v _ _ _ (yR _ _)]; omega
theorem b0L (s : ByteArray) (l : List TAttr) (k : Nat) (h : k < l.length) : mH s (l.take (k + 1)) = mH s (l.take k) ++ (if isName s l[k] then [] else [l[k]]) := by
 simp only [mH, List.take_succ_eq_append_getElem h, List.filter_append, List.filter_cons, List.filter_nil]
 cases isName s l[k] <;> rfl
theorem bZ (f : TFile) (s : ByteArray) (v : TValue) (h : f.fAttrs.length ≤ 4200000) : FnC Tryz.prog 180 [a0I f, os s, lC v] (a8P (rQ f s v)) := by
 have hd := a2v s f.fAttrs
 refine ent Tryz.func180 rfl Tryz.call180 rfl (fun C => ?_); simp only [go_sem, st0, Tryz.ntmps180]
 refine aD ?_
 refine dB (α := Nat) (fun k => [(7, .o (.s 3)), (8, oi k), (11, .o .u)]) (fun k => [(3, .row 124 4 ((mH s (f.fAttrs.take k)).map fF) true)]) (fun k => k ≤ f.fAttrs.length) (fun k => f.fAttrs.length - k) 0 (fun _ => ?_) ?_ ?_ (fun k hk => ?_)
 ·simp only [go_sem]
 ·simp only [go_sem]; simp [mH]
 ·simp
 ·simp only [go_sem]
  refine aD ?_
  refine cnd rfl (fun h1 => ?_) (fun h1 => ?_)
  ·simp only [decide_eq_true_eq, Int.ofNat_lt] at h1
   have ht := b0L s f.fAttrs k h1
   have hlen : (mH s (f.fAttrs.take k)).length ≤ 4200000 := by have := a2v s (f.fAttrs.take k); simp at this; omega
   have q0 := @h1; refine iW ?_
   refine cnd (b := !(isName s f.fAttrs[k])) rfl (fun h2 => ?_) (fun h2 => ?_)
   ·have h2' : isName s f.fAttrs[k] = false := by simpa using h2
    rw [h2'] at ht
    have hl1 : (mH s (f.fAttrs.take k)).length + 1 ≤ 140737488355328 := by omega
    have hl2 : ((mH s (f.fAttrs.take k)).length + 1) * 48 ≤ 140737488355328 := by omega
    have q0 := @h1; refine iW ?_
    refine aQ (k + 1) ?_ ?_ ?_
    ·simp only [go_sem, ht, List.map_append]; simp [fF]
    ·omega
    ·omega
   ·have h2' : isName s f.fAttrs[k] = true := by simpa using h2
    rw [h2'] at ht
    have q0 := @h1; refine iW ?_
    refine aQ (k + 1) ?_ ?_ ?_
    ·simp only [go_sem, ht, List.map_append]; simp
    ·omega
    ·omega
  ·simp only [decide_eq_false_iff_not] at h1
   have e : k = f.fAttrs.length := by omega
   subst e
   by_cases hv : v.fKind = 0
   ·have e : sU s v f.fAttrs = mH s f.fAttrs := if_pos hv
    have q0 := @hv; have q1 := @decide_true; refine jM ?_
    exact aA ⟨⟨_, rfl, by simp only [go_sem, rQ, e, List.take_length]⟩, trivial⟩
   have e : sU s v f.fAttrs = jZ (eU (kQ s) (mH s f.fAttrs)) ⟨s, v⟩ (mH s f.fAttrs) := if_neg hv
   have htl : f.fAttrs.take f.fAttrs.length = f.fAttrs := List.take_length
   have q0 := @hv; have q1 := @decide_false; have q2 := @htl; refine kI ?_
   generalize hdl : mH s f.fAttrs = l at *
   refine WP.sees (Sees.frz 3 rfl) ?_
   simp only [go_sem]
   refine dB (α := Nat) (fun n => [(9, oi n)]) (fun _ => []) (fun n => n ≤ l.length ∧ eU (kQ s) l = n + eU (kQ s) (l.drop n)) (fun n => l.length - n) 0 (fun _ => ?_) ?_ ?_ (fun n hn => ?_)
   ·simp only [go_sem]
   ·simp only [go_sem]; simp
   ·simp
   ·obtain ⟨hn, hf⟩ := hn
    simp only [go_sem]
    by_cases h5 : n < l.length
    ·have hfx := b2F (kQ s) l n h5 hf
     have h5' : ((n : Int) < (l.length : Int)) = True := by simp [h5]
     have q0 := @h5; have q1 := @h5'; have q2 := @decide_true; refine kI ?_
     refine cnd (b := !(kQ s l[n])) (by simp only [kQ, Bool.not_not]; try rfl) (fun h6 => ?_) (fun h6 => ?_)
     ·have h6 : kQ s l[n] = false := by simpa using h6
      rw [if_neg (by simp [h6])] at hfx
      refine aD ?_
      refine aQ (n + 1) ?_ ?_ ?_
      ·simp only [go_sem]; simp
      ·exact ⟨by omega, hfx⟩
      ·omega
     ·have h6 : kQ s l[n] = true := by simpa using h6
      rw [if_pos h6] at hfx
      have qH := aI @h5 (aI @a3N (aI @a3O (aI @yO (aI @yP @a2J)))); repeat' (with_reducible first | refine nY ?_ | (refine mX ?_; try simp only [go_sem, qH]) | refine kD ?_ | (apply rE [0,4,8,9] [] [1,2,3,5,6,7] [1,2,3,5,6,7] ((.c 0 [] [1,2,3,5,6,7] (.c 4 [] [5,6,7] (.c 8 [] [] (.c 9 [10] [10] .n .n) .n) (.c 8 [] [1,2,3] (.c 4 [] [] (.c 9 [10] [10] .n .n) .n) .n)) (.c 8 [] [1,2,3] (.c 0 [] [1,2,3] (.c 4 [] [] (.c 9 [10] [10] .n .n) .n) .n) .n))) (by simp only [go_sem]; rfl) (by simp only [go_sem]; rfl) (by simp only [go_sem]; rfl) (by decide +kernel); (focus simp only [go_sem]; done)) | exact bA | refine aM (uX ?_) ?_ | refine aN (aX ?_) ?_ | refine aP (aX ?_) ?_ | exact bD | (refine a4Y [(4, 5)] (by simp only [go_sem]; rfl) ?_; exact rfl) | exact oH | exact uB | refine rD ?_ | refine aO ?_ | fail)
      exact aA ⟨⟨_, rfl, by simp only [go_sem, rQ, e, hfx, jZ, fF, List.map_append, List.map_cons, List.append_assoc, List.cons_append, List.nil_append, List.take_length]⟩, trivial⟩
    ·have e' : n = l.length := by omega
     have hfx : eU (kQ s) l = n := by rw [hf, e', List.drop_length]; rfl
     have h5' : ((n : Int) < (l.length : Int)) = False := by simp [h5]
     have qH := aI @h5 (aI @h5' (aI @decide_false (aI @a3N (aI @a3O (aI @yO (aI @yP @a2J)))))); repeat' (with_reducible first | refine nY ?_ | (refine mX ?_; try simp only [go_sem, qH]) | refine kD ?_ | (apply rE [0,4,8,9] [] [1,2,3,5,6,7] [1,2,3,5,6,7] ((.c 0 [] [1,2,3,5,6,7] (.c 4 [] [5,6,7] (.c 8 [] [] (.c 9 [10] [10] .n .n) .n) (.c 8 [] [1,2,3] (.c 4 [] [] (.c 9 [10] [10] .n .n) .n) .n)) (.c 8 [] [1,2,3] (.c 0 [] [1,2,3] (.c 4 [] [] (.c 9 [10] [10] .n .n) .n) .n) .n))) (by simp only [go_sem]; rfl) (by simp only [go_sem]; rfl) (by simp only [go_sem]; rfl) (by decide +kernel); (focus simp only [go_sem]; done)) | exact bA | refine aM (uX ?_) ?_ | refine aN (aX ?_) ?_ | refine aP (aX ?_) ?_ | exact bD | (refine a4Y [(4, 5)] (by simp only [go_sem]; rfl) ?_; exact rfl) | exact oH | exact uB | refine rD ?_ | refine aO ?_ | fail)
     exact aA ⟨⟨_, rfl, by simp only [go_sem, rQ, e, hfx, jZ, fF, List.map_append, List.map_cons, List.append_assoc, List.cons_append, List.nil_append, e', List.take_length, List.drop_length]⟩, trivial⟩
theorem uO {α : Type} (w : α → Nat) : ∀ l m : List α, dU w (l ++ m) = dU w l + dU w m
 | [], m => by simp [dU]
 | x :: l, m => by simp only [List.cons_append, dU, uO w l m]; omega
theorem a8i (i : Nat) (x : TAttr) (l : List TAttr) : eB (jZ i x l) = eB l + (1 + iX x) := by
 have h1 : dU iX l = dU iX (l.take i) + dU iX (l.drop i) := by rw [← uO, List.take_append_drop]
 have h2 : l.length = (l.take i).length + (l.drop i).length := by rw [← List.length_append, List.take_append_drop]
 simp only [eB, jZ, uO, dU, List.length_append, List.length_cons]
 omega
def b5K (l : List TAttr) (e : List TAttr) : List TAttr := e.foldl (fun l a => sU a.fName a.fValue l) l
def b8G (f : TFile) (e : TEdit) : TFile := { f with fAttrs := b5K f.fAttrs e.fSet }
theorem b2D (s : ByteArray) : ∀ l : List TAttr, eB (mH s l) ≤ eB l
 | [] => by simp [mH]
 | x :: l => by
  have := b2D s l
  simp only [mH, eB] at this ⊢
  simp only [List.filter_cons]
  split <;> simp only [List.length_cons, dU] <;> omega
theorem b5L (s : ByteArray) (v : TValue) (l : List TAttr) : eB (sU s v l) ≤ eB l + (1 + iX ⟨s, v⟩) := by
 have := b2D s l
 unfold sU
 split
 ·omega
 ·rw [a8i]; omega
end Go.Proofs.YtgpoopjfkplilaaGreatDoor
end
section
namespace Go.Proofs.YtgpoopjfkplilaaGreatDoor
open Go Go.Sx Go.RowKit Go.Proofs
theorem gK {x : TStore} : bL x = true ↔ (∀ k, k < x.fFiles.length → fT x k = true) ∧ okSchema x.fSchema = true ∧ x.fFiles.length ≤ 12 ∧ 1 ≤ x.fNextID ∧ x.fNextID ≤ 61 := by
 unfold bL inB
 simp only [Bool.and_eq_true, List.all_eq_true, List.mem_range, decide_eq_true_eq]
 constructor
 ·rintro ⟨h1, h2, h3, h4, h5⟩; exact ⟨h1, h2, by omega, h4, h5⟩
 ·rintro ⟨h1, h2, h3, h4, h5⟩; exact ⟨h1, h2, by omega, h4, h5⟩
theorem gL {x : TStore} {k : Nat} (h : k < x.fFiles.length) : fT x k = true ↔ dE x.fSchema x.fFiles[k] = true ∧ x.fFiles[k].fID < x.fNextID ∧ a5a x.fFiles k = true := by
 unfold fT
 rw [List.getElem?_eq_getElem h]
 simp only [Bool.and_eq_true, Bool.not_eq_true', decide_eq_false_iff_not, Int.not_le]
theorem a3Q {s : List TField} {f : TFile} (h : dE s f = true) : 1 ≤ f.fID ∧ f.fID ≤ 60 := by
 unfold dE inB at h
 simp only [Bool.and_eq_true, decide_eq_true_eq] at h
 exact h.2.1
def mkF (s : TStore) (f : TFile) : TFile := { f with fID := s.fNextID }
def lU (s : TStore) (f : TFile) : Bool := bL s && (decide (s.fFiles.length < 12) && dE s.fSchema (mkF s f))
def creS (s : TStore) (f : TFile) : TStore := if lU s f then ⟨s.fSchema, s.fFiles ++ [mkF s f], s.fNextID + 1⟩ else s
def b0N (s : TStore) (f : TFile) : Int := if lU s f then s.fNextID else 0
theorem a3R {s : TStore} {f : TFile} : lU s f = true ↔ bL s = true ∧ s.fFiles.length < 12 ∧ dE s.fSchema (mkF s f) = true := by
 unfold lU; simp only [Bool.and_eq_true, decide_eq_true_eq]
theorem b5Q {s : TStore} {f : TFile} (h : lU s f = true) : bL (creS s f) = true := by
 obtain ⟨hs, hl, hf⟩ := a3R.1 h
 obtain ⟨h1, h2, h3, h4, h5⟩ := gK.1 hs
 have hid := a3Q hf
 have hid2 : 1 ≤ s.fNextID ∧ s.fNextID ≤ 60 := hid
 unfold creS
 rw [if_pos h]
 refine gK.2 ⟨fun k hk => ?_, h2, by simp; omega, by simp only; omega, by simp only; omega⟩
 rw [gL hk]
 simp only [List.length_append, List.length_cons, List.length_nil] at hk
 by_cases e : k < s.fFiles.length
 ·obtain ⟨q1, q2, q3⟩ := (gL e).1 (h1 k e)
  refine ⟨by simp only [List.getElem_append_left e]; exact q1, by simp only [List.getElem_append_left e]; omega, ?_⟩
  by_cases h0 : 0 < k
  ·rw [nR _ _ h0 (by simp; omega)]
   rw [nR _ _ h0 e] at q3
   simpa only [List.getElem_append_left e, List.getElem_append_left (show k - 1 < s.fFiles.length by omega)] using q3
  ·exact a2l _ _ h0
 ·have ek : k = s.fFiles.length := by omega
  subst ek
  refine ⟨by simpa using hf, by simp [mkF]; omega, ?_⟩
  by_cases h0 : 0 < s.fFiles.length
  ·rw [nR _ _ h0 (by simp)]
   have e1 : s.fFiles.length - 1 < s.fFiles.length := by omega
   have q := ((gL e1).1 (h1 _ e1)).2.1
   simp only [List.getElem_append_left e1, List.getElem_append_right (Nat.le_refl _), Nat.sub_self, List.getElem_cons_zero, mkF, Bool.not_eq_true', decide_eq_false_iff_not]
   omega
  ·exact a2l _ _ h0
end Go.Proofs.YtgpoopjfkplilaaGreatDoor
end
section
set_option maxRecDepth 100000
set_option maxHeartbeats 4000000
namespace Go.Proofs.YtgpoopjfkplilaaGreatDoor
open Go Go.Sx Go.RowKit Go.Proofs
def usual : List TField := [⟨⟨#[97]⟩, 1⟩, ⟨⟨#[98]⟩, 1⟩, ⟨⟨#[110]⟩, 2⟩, ⟨⟨#[116]⟩, 2⟩]
def pc (s : ByteArray) : Option TValue → List TAttr
 | none => []
 | some v => [⟨s, v⟩]
def pcs (a b n t : Option TValue) : List TAttr := pc ⟨#[97]⟩ a ++ (pc ⟨#[98]⟩ b ++ (pc ⟨#[110]⟩ n ++ pc ⟨#[116]⟩ t))
theorem a6J : gB ⟨#[97]⟩ ⟨#[98]⟩ = true := by decide +kernel
theorem a6K : gB ⟨#[97]⟩ ⟨#[110]⟩ = true := by decide +kernel
theorem a6L : gB ⟨#[97]⟩ ⟨#[116]⟩ = true := by decide +kernel
theorem a6M : gB ⟨#[98]⟩ ⟨#[110]⟩ = true := by decide +kernel
theorem a6N : gB ⟨#[98]⟩ ⟨#[116]⟩ = true := by decide +kernel
theorem a6O : gB ⟨#[110]⟩ ⟨#[116]⟩ = true := by decide +kernel
theorem b7i (x : Int) : sU ⟨#[97]⟩ ⟨1, x, ⟨#[]⟩⟩ (pcs none none none none) = pcs (some ⟨1, x, ⟨#[]⟩⟩) none none none := by
 simp [sU, mH, isName, eU, kQ, jZ, pcs, pc]
theorem b7j (x : Int) (a : Option TValue) : sU ⟨#[98]⟩ ⟨1, x, ⟨#[]⟩⟩ (pcs a none none none) = pcs a (some ⟨1, x, ⟨#[]⟩⟩) none none := by
 cases a <;> simp [sU, mH, isName, eU, kQ, jZ, pcs, pc, a6J]
theorem b7k (s : ByteArray) (a b : Option TValue) : sU ⟨#[110]⟩ ⟨2, 0, s⟩ (pcs a b none none) = pcs a b (some ⟨2, 0, s⟩) none := by
 cases a <;> cases b <;> simp [sU, mH, isName, eU, kQ, jZ, pcs, pc, a6K, a6M]
theorem b7l (s : ByteArray) (a b n : Option TValue) : sU ⟨#[116]⟩ ⟨2, 0, s⟩ (pcs a b n none) = pcs a b n (some ⟨2, 0, s⟩) := by
 cases a <;> cases b <;> cases n <;> simp [sU, mH, isName, eU, kQ, jZ, pcs, pc, a6L, a6N, a6O]
def a2Q (o : Option TValue) : Prop := ∀ v, o = some v → ∃ x, v = ⟨1, x, ⟨#[]⟩⟩ ∧ 0 ≤ x ∧ x ≤ 999
def words : List ByteArray := [⟨#[105, 110, 107]⟩, ⟨#[115, 101, 97]⟩, ⟨#[114, 101, 100]⟩, ⟨#[98, 108, 117, 101]⟩]
def a2R (o : Option TValue) : Prop := ∀ v, o = some v → ∃ s, v = ⟨2, 0, s⟩ ∧ s ∈ words
theorem a1q : a2Q none := fun v h => by cases h
theorem a1r : a2R none := fun v h => by cases h
theorem a6P {x : Int} (h : 0 ≤ x ∧ x ≤ 999) : a2Q (some ⟨1, x, ⟨#[]⟩⟩) := fun v e => by cases e; exact ⟨x, rfl, h⟩
theorem a6Q {s : ByteArray} (h : s ∈ words) : a2R (some ⟨2, 0, s⟩) := fun v e => by cases e; exact ⟨s, rfl, h⟩
structure fileD (id : Int) (f : TFile) : Prop where
 id : f.fID = id
 ow : 0 ≤ f.fOwner ∧ f.fOwner ≤ 2
 lk : 0 ≤ f.fLink ∧ f.fLink ≤ 60
 at_ : ∃ a b n t, f.fAttrs = pcs a b n t ∧ a2Q a ∧ a2Q b ∧ a2R n ∧ a2R t
theorem a9p {s : ByteArray} (h : s ∈ words) : dA ⟨2, 0, s⟩ = true ∧ s.size ≤ 4 ∧ s ≠ ⟨#[122, 122]⟩ := by
 have := (by decide +kernel : ∀ s ∈ words, dA ⟨2, 0, s⟩ = true ∧ s.size ≤ 4 ∧ s ≠ ⟨#[122, 122]⟩)
 exact this s h
theorem b5D {x : Int} (h : 0 ≤ x ∧ x ≤ 999) : dA ⟨1, x, ⟨#[]⟩⟩ = true := by
 unfold dA
 simp [inB, h.1, h.2]
theorem b4c (x : Int) (h : 0 ≤ x ∧ x ≤ 999) : iK usual ⟨#[97]⟩ ⟨1, x, ⟨#[]⟩⟩ = true ∧ iK usual ⟨#[98]⟩ ⟨1, x, ⟨#[]⟩⟩ = true := by
 unfold iK
 rw [b5D h]
 exact ⟨rfl, rfl⟩
theorem b4d (s : ByteArray) (h : s ∈ words) : iK usual ⟨#[110]⟩ ⟨2, 0, s⟩ = true ∧ iK usual ⟨#[116]⟩ ⟨2, 0, s⟩ = true := by
 unfold iK
 rw [(a9p h).1]
 exact ⟨rfl, rfl⟩
theorem b5E {a b n t : Option TValue} (ha : a2Q a) (hb : a2Q b) (hn : a2R n) (ht : a2R t) : (List.range (pcs a b n t).length).all (fB usual (pcs a b n t)) = true := by
 have key : ∀ {x : Option TValue}, a2Q x → x = none ∨ ∃ k, x = some ⟨1, k, ⟨#[]⟩⟩ ∧ 0 ≤ k ∧ k ≤ 999 := fun {x} h => by
  cases x with
  | none => exact .inl rfl
  | some v => obtain ⟨k, rfl, h2⟩ := h v rfl; exact .inr ⟨k, rfl, h2⟩
 have key2 : ∀ {x : Option TValue}, a2R x → x = none ∨ ∃ k, x = some ⟨2, 0, k⟩ ∧ k ∈ words := fun {x} h => by
  cases x with
  | none => exact .inl rfl
  | some v => obtain ⟨k, rfl, h2⟩ := h v rfl; exact .inr ⟨k, rfl, h2⟩
 rw [List.all_eq_true]
 rcases key ha with rfl | ⟨x, rfl, hx⟩ <;> rcases key hb with rfl | ⟨y, rfl, hy⟩ <;> rcases key2 hn with rfl | ⟨p, rfl, hp⟩ <;> rcases key2 ht with rfl | ⟨q, rfl, hq⟩ <;>
  (intro k hk
   rw [List.mem_range] at hk
   simp only [pcs, pc, List.nil_append, List.singleton_append, List.append_nil, List.length_cons, List.length_nil] at hk ⊢
   match k, hk with
   | 0, h0 => first | (exfalso; omega) | (simp [fB, kP, b4c, b4d, a6J, a6K, a6L, a6M, a6N, a6O, *]; done)
   | 1, h0 => first | (exfalso; omega) | (simp [fB, kP, b4c, b4d, a6J, a6K, a6L, a6M, a6N, a6O, *]; done)
   | 2, h0 => first | (exfalso; omega) | (simp [fB, kP, b4c, b4d, a6J, a6K, a6L, a6M, a6N, a6O, *]; done)
   | 3, h0 => first | (exfalso; omega) | (simp [fB, kP, b4c, b4d, a6J, a6K, a6L, a6M, a6N, a6O, *]; done))
theorem zG {id : Int} {f : TFile} (h : fileD id f) : fG f ≤ 40 ∧ vE f.fAttrs ∧ ∀ a ∈ f.fAttrs, a.fValue.fStr ≠ ⟨#[122, 122]⟩ := by
 obtain ⟨a, b, n, t, e, h1, h2, h3, h4⟩ := h.at_
 have key : ∀ (nm : ByteArray) (x : Option TValue), nm.size = 1 → (a2Q x ∨ a2R x) → (pc nm x).length + dU iX (pc nm x) ≤ 6 ∧ (∀ y ∈ pc nm x, a7O y ∧ y.fValue.fStr ≠ ⟨#[122, 122]⟩) := fun nm x hn hx => by
  cases x with
  | none => exact ⟨by simp [pc, dU], fun y hy => by simp [pc] at hy⟩
  | some v =>
   rcases hx with hx | hx
   ·obtain ⟨k, rfl, h1, h2⟩ := hx v rfl
    refine ⟨by simp [pc, dU, iX, lD, hn]; decide, fun y hy => ?_⟩
    simp [pc] at hy
    subst hy
    exact ⟨⟨by simp only [hn]; omega, in1, by simp only [inR]; omega, Nat.zero_le _⟩, fun q => by have := congrArg ByteArray.size q; simp at this; exact absurd this (by decide)⟩
   ·obtain ⟨s, rfl, hs⟩ := hx v rfl
    obtain ⟨-, h2, h3⟩ := a9p hs
    refine ⟨by simp [pc, dU, iX, lD, hn]; omega, fun y hy => ?_⟩
    simp [pc] at hy
    subst hy
    exact ⟨⟨by simp only [hn]; omega, in2, in0, by simp only; omega⟩, h3⟩
 have ka := key ⟨#[97]⟩ a rfl (.inl h1)
 have kb := key ⟨#[98]⟩ b rfl (.inl h2)
 have kn := key ⟨#[110]⟩ n rfl (.inr h3)
 have kt := key ⟨#[116]⟩ t rfl (.inr h4)
 have hw : ∀ (l m : List TAttr), dU iX (l ++ m) = dU iX l + dU iX m := fun l m => by
  induction l with
  | nil => simp [dU]
  | cons x l ih => simp only [List.cons_append, dU, ih]; omega
 rw [e]
 refine ⟨?_, ⟨?_, fun y hy => ?_⟩, fun y hy => ?_⟩
 ·unfold fG eB
  rw [e]
  unfold pcs
  simp only [hw, List.length_append]
  omega
 ·unfold pcs
  simp only [List.length_append]
  omega
 ·unfold pcs at hy
  simp only [List.mem_append] at hy
  rcases hy with hy | hy | hy | hy
  ·exact (ka.2 y hy).1
  ·exact (kb.2 y hy).1
  ·exact (kn.2 y hy).1
  ·exact (kt.2 y hy).1
 ·unfold pcs at hy
  simp only [List.mem_append] at hy
  rcases hy with hy | hy | hy | hy
  ·exact (ka.2 y hy).2
  ·exact (kb.2 y hy).2
  ·exact (kn.2 y hy).2
  ·exact (kt.2 y hy).2
structure fileK (fid : Int) (k : Nat) (f : TFile) : Prop where
 id : f.fID = fid
 ow : 0 ≤ f.fOwner ∧ f.fOwner ≤ 2
 lk : 0 ≤ f.fLink ∧ f.fLink ≤ 60
 at_ : ∃ a b n t, f.fAttrs = pcs a b n t ∧ a2Q a ∧ a2Q b ∧ a2R n ∧ a2R t ∧ (k ≤ 0 → a = none) ∧ (k ≤ 1 → b = none) ∧ (k ≤ 2 → n = none) ∧ (k ≤ 3 → t = none)
theorem oU {fid : Int} {k : Nat} {f : TFile} (h : fileK fid k f) : f.fAttrs.length ≤ 4 := by
 obtain ⟨a, b, n, t, e, _⟩ := h.at_
 rw [e]
 cases a <;> cases b <;> cases n <;> cases t <;> simp [pcs, pc]
theorem zH {fid : Int} {k : Nat} {f : TFile} (h : fileK fid k f) : fileK fid (k + 1) f := by
 obtain ⟨a, b, n, t, e, h1, h2, h3, h4, h5, h6, h7, h8⟩ := h.at_
 exact ⟨h.id, h.ow, h.lk, a, b, n, t, e, h1, h2, h3, h4, fun q => h5 (by omega), fun q => h6 (by omega), fun q => h7 (by omega), fun q => h8 (by omega)⟩
theorem b4e {fid : Int} {f : TFile} (h : fileK fid 0 f) {x : Int} (hx : 0 ≤ x ∧ x ≤ 999) : fileK fid 1 (rQ f ⟨#[97]⟩ ⟨1, x, ⟨#[]⟩⟩) := by
 obtain ⟨a, b, n, t, e, h1, h2, h3, h4, h5, h6, h7, h8⟩ := h.at_
 obtain rfl := h5 (by omega); obtain rfl := h6 (by omega); obtain rfl := h7 (by omega); obtain rfl := h8 (by omega)
 exact ⟨h.id, h.ow, h.lk, _, _, _, _, by simp only [rQ, e]; exact b7i x, a6P hx, h2, h3, h4, fun q => by omega, fun _ => rfl, fun _ => rfl, fun _ => rfl⟩
theorem b4f {fid : Int} {f : TFile} (h : fileK fid 1 f) {x : Int} (hx : 0 ≤ x ∧ x ≤ 999) : fileK fid 2 (rQ f ⟨#[98]⟩ ⟨1, x, ⟨#[]⟩⟩) := by
 obtain ⟨a, b, n, t, e, h1, h2, h3, h4, h5, h6, h7, h8⟩ := h.at_
 obtain rfl := h6 (by omega); obtain rfl := h7 (by omega); obtain rfl := h8 (by omega)
 exact ⟨h.id, h.ow, h.lk, _, _, _, _, by simp only [rQ, e]; exact b7j x a, h1, a6P hx, h3, h4, fun q => by omega, fun q => by omega, fun _ => rfl, fun _ => rfl⟩
theorem b4g {fid : Int} {f : TFile} (h : fileK fid 2 f) {x : ByteArray} (hx : x ∈ words) : fileK fid 3 (rQ f ⟨#[110]⟩ ⟨2, 0, x⟩) := by
 obtain ⟨a, b, n, t, e, h1, h2, h3, h4, h5, h6, h7, h8⟩ := h.at_
 obtain rfl := h7 (by omega); obtain rfl := h8 (by omega)
 exact ⟨h.id, h.ow, h.lk, _, _, _, _, by simp only [rQ, e]; exact b7k x a b, h1, h2, a6Q hx, h4, fun q => by omega, fun q => by omega, fun q => by omega, fun _ => rfl⟩
theorem b4h {fid : Int} {f : TFile} (h : fileK fid 3 f) {x : ByteArray} (hx : x ∈ words) : fileK fid 4 (rQ f ⟨#[116]⟩ ⟨2, 0, x⟩) := by
 obtain ⟨a, b, n, t, e, h1, h2, h3, h4, h5, h6, h7, h8⟩ := h.at_
 obtain rfl := h8 (by omega)
 exact ⟨h.id, h.ow, h.lk, _, _, _, _, by simp only [rQ, e]; exact b7l x a b n, h1, h2, h3, a6Q hx, fun q => by omega, fun q => by omega, fun q => by omega, fun q => by omega⟩
theorem b4i {fid : Int} {f : TFile} (h : fileK fid 4 f) : fileD fid f := by
 obtain ⟨a, b, n, t, e, h1, h2, h3, h4, _⟩ := h.at_
 exact ⟨h.id, h.ow, h.lk, a, b, n, t, e, h1, h2, h3, h4⟩
@[go_sem] def wd1 : List ByteArray := [⟨#[105, 110, 107]⟩, ⟨#[115, 101, 97]⟩]
@[go_sem] def wd2 : List ByteArray := [⟨#[114, 101, 100]⟩, ⟨#[98, 108, 117, 101]⟩]
theorem b7m : ∀ s ∈ wd1, s ∈ words := by
 intro s hs; simp [wd1] at hs; rcases hs with rfl | rfl <;> simp [words]
theorem b7n : ∀ s ∈ wd2, s ∈ words := by
 intro s hs; simp [wd2] at hs; rcases hs with rfl | rfl <;> simp [words]
theorem lH {l : List Int} (hl : iM l) (fid : Int) : Drw l 132 [oi fid] (fun f : TFile => fileD fid f) (fun f => a8P f) := by
 intro i h hi hh; refine oD Tryz.func132 rfl Tryz.call132 rfl (fun C b => ?_); simp only [go_sem, Tryz.ntmps132]
 refine aD ?_
 first | (refine aU (aH hl 3 (by decide) (by decide) i h hi hh) ⟨rfl, rfl⟩ ?_ rfl ?_; (focus first | rfl | (simp only [go_sem]; done))) | (refine hZ (aH hl 3 (by decide) (by decide) i h hi hh) ⟨rfl, rfl⟩ ?_ rfl ?_; (focus first | rfl | (simp only [go_sem]; done)))
 clear hi hh; rintro ⟨ow, i, h⟩ ⟨how, hi, hh⟩; simp only at how hi hh; simp only [go_sem]
 refine aD ?_
 first | (refine aU (fK hl 2 (by decide) (by decide) i h hi hh) ⟨rfl, rfl⟩ ?_ rfl ?_; (focus first | rfl | (simp only [go_sem]; done))) | (refine hZ (fK hl 2 (by decide) (by decide) i h hi hh) ⟨rfl, rfl⟩ ?_ rfl ?_; (focus first | rfl | (simp only [go_sem]; done)))
 clear hi hh; rintro ⟨sh, i, h⟩ ⟨q0, hi, hh⟩; simp only at q0 hi hh; simp only [go_sem]
 refine aD ?_
 first | (refine aU (fK hl 2 (by decide) (by decide) i h hi hh) ⟨rfl, rfl⟩ ?_ rfl ?_; (focus first | rfl | (simp only [go_sem]; done))) | (refine hZ (fK hl 2 (by decide) (by decide) i h hi hh) ⟨rfl, rfl⟩ ?_ rfl ?_; (focus first | rfl | (simp only [go_sem]; done)))
 clear hi hh; rintro ⟨c1, i, h⟩ ⟨q1, hi, hh⟩; simp only at q1 hi hh; simp only [go_sem]
 repeat' (with_reducible first | refine nX ?_ | (refine mX ?_; try simp only [go_sem]) | refine kD ?_ | refine aO ?_ | fail)
 refine uY 2 4 124 4 rfl rfl ?_
 simp only [go_sem]
 refine zI (α := TFile × Nat × Int) (fun _ => []) (fun x => [(0, .pin b 120 [.sl (l.map uN), iv x.2.1, iv x.2.2]), (2, .box 86 [.d (iv x.1.fID), .d (iv x.1.fOwner), .d (bv x.1.fShared), .d (iv x.1.fLink), .s 3]), (3, .row 124 4 (x.1.fAttrs.map fF) true)]) (fun x => fileK fid 0 x.1 ∧ (x.2.1 ≤ l.length ∧ inR .i64 x.2.2)) ?_ ?_
 ·cases c1
  ·refine aD ?_
   exact mV (⟨fid, ow, sh, 0, []⟩, i, h) ⟨⟨rfl, by simp only; omega, by simp, none, none, none, none, rfl, a1q, a1q, a1r, a1r, fun _ => rfl, fun _ => rfl, fun _ => rfl, fun _ => rfl⟩, ⟨hi, hh⟩⟩ (by simp only [go_sem]; simp) (by simp only [go_sem])
  ·refine aD ?_
   first | (refine aU (aH hl 7 (by decide) (by decide) i h hi hh) ⟨rfl, rfl⟩ ?_ rfl ?_; (focus first | rfl | (simp only [go_sem]; done))) | (refine hZ (aH hl 7 (by decide) (by decide) i h hi hh) ⟨rfl, rfl⟩ ?_ rfl ?_; (focus first | rfl | (simp only [go_sem]; done)))
   clear hi hh; rintro ⟨lk, i, h⟩ ⟨hlk, hi, hh⟩; simp only at hlk hi hh; simp only [go_sem]
   refine aD ?_
   exact mV (⟨fid, ow, sh, lk, []⟩, i, h) ⟨⟨rfl, by simp only; omega, by simp only; omega, none, none, none, none, rfl, a1q, a1q, a1r, a1r, fun _ => rfl, fun _ => rfl, fun _ => rfl, fun _ => rfl⟩, ⟨hi, hh⟩⟩ (by simp only [go_sem]; simp) (by simp only [go_sem])
 ·rintro ⟨f, i, h⟩ ⟨hf, hi, hh⟩
  simp only at hf hi hh
  simp only [go_sem]
  refine aD ?_
  first | (refine aU (fK hl 4 (by decide) (by decide) i h hi hh) ⟨rfl, rfl⟩ ?_ rfl ?_; (focus first | rfl | (simp only [go_sem]; done))) | (refine hZ (fK hl 4 (by decide) (by decide) i h hi hh) ⟨rfl, rfl⟩ ?_ rfl ?_; (focus first | rfl | (simp only [go_sem]; done)))
  clear hi hh; rintro ⟨c1, i, h⟩ ⟨q1, hi, hh⟩; simp only at q1 hi hh; simp only [go_sem]
  repeat' (with_reducible first | refine nX ?_ | (refine mX ?_; try simp only [go_sem]) | refine kD ?_ | refine aO ?_ | fail)
  refine zI (α := TFile × Nat × Int) (fun _ => []) (fun x => [(0, .pin b 120 [.sl (l.map uN), iv x.2.1, iv x.2.2]), (2, .box 86 [.d (iv x.1.fID), .d (iv x.1.fOwner), .d (bv x.1.fShared), .d (iv x.1.fLink), .s 3]), (3, .row 124 4 (x.1.fAttrs.map fF) true)]) (fun x => fileK fid 1 x.1 ∧ (x.2.1 ≤ l.length ∧ inR .i64 x.2.2)) ?_ ?_
  ·cases c1
   ·have hw := oU hf
    have hf0 : f.fAttrs.length ≤ 4200000 := by omega
    have qH := trivial; repeat' (with_reducible first | refine nY ?_ | (refine mX ?_; try simp only [go_sem]) | refine kD ?_ | (apply rF [2,3,4,5] [] [0,1] [0,1] ((.c 2 [] [0] (.c 3 [] [0] (.c 4 [] [] (.c 5 [] [] .n .n) .n) .n) .n)) (by simp only [go_sem]; rfl) (by simp only [go_sem]; rfl) (by simp only [go_sem]; rfl) (by decide +kernel); (focus simp only [go_sem]; done)) | exact bA | refine aM (uX ?_) ?_ | refine aN (aX ?_) ?_ | refine aP (aX ?_) ?_ | exact bD | exact oH | (refine uA ?_; simp only [go_sem]; (repeat' first | omega | refine And.intro ?_ ?_); done) | refine rD ?_ | refine aO ?_ | fail)
    first | (refine aU (aH hl 4 (by decide) (by decide) i h hi hh) ⟨rfl, rfl⟩ ?_ rfl ?_; (focus first | rfl | (simp only [go_sem]; done))) | (refine hZ (aH hl 4 (by decide) (by decide) i h hi hh) ⟨rfl, rfl⟩ ?_ rfl ?_; (focus first | rfl | (simp only [go_sem]; done)))
    clear hi hh; rintro ⟨x, i, h⟩ ⟨hx, hi, hh⟩; simp only at hx hi hh; simp only [go_sem]
    have qH := trivial; repeat' (with_reducible first | refine nY ?_ | (refine mX ?_; try simp only [go_sem]) | refine kD ?_ | exact bA | refine aM (uX ?_) ?_ | refine aN (aX ?_) ?_ | refine aP (aX ?_) ?_ | (refine uA ?_; simp only [go_sem]; (repeat' first | omega | refine And.intro ?_ ?_); done) | refine rD ?_ | refine cP (nS x) ?_ | refine hR (bZ f ⟨#[97]⟩ ⟨1, x, ⟨#[]⟩⟩ hf0) ?_ | refine vR (bZ f ⟨#[97]⟩ ⟨1, x, ⟨#[]⟩⟩ hf0) ?_ | refine vD (bZ f ⟨#[97]⟩ ⟨1, x, ⟨#[]⟩⟩ hf0) ?_ | refine aO ?_ | fail)
    exact a1s [(3, 4)] (rQ f ⟨#[97]⟩ ⟨1, x, ⟨#[]⟩⟩, i, h) ⟨b4e hf (by omega), ⟨hi, hh⟩⟩ (by simp only [go_sem]; rfl) (by simp only [go_sem]; simp) (by simp only [go_sem])
   ·have hw := oU hf
    refine aD ?_
    exact mV (f, i, h) ⟨zH hf, ⟨hi, hh⟩⟩ (by simp only [go_sem]; simp) (by simp only [go_sem])
  ·rintro ⟨f, i, h⟩ ⟨hf, hi, hh⟩
   simp only at hf hi hh
   simp only [go_sem]
   refine aD ?_
   first | (refine aU (fK hl 2 (by decide) (by decide) i h hi hh) ⟨rfl, rfl⟩ ?_ rfl ?_; (focus first | rfl | (simp only [go_sem]; done))) | (refine hZ (fK hl 2 (by decide) (by decide) i h hi hh) ⟨rfl, rfl⟩ ?_ rfl ?_; (focus first | rfl | (simp only [go_sem]; done)))
   clear hi hh; rintro ⟨c1, i, h⟩ ⟨q1, hi, hh⟩; simp only at q1 hi hh; simp only [go_sem]
   repeat' (with_reducible first | refine nX ?_ | (refine mX ?_; try simp only [go_sem]) | refine kD ?_ | refine aO ?_ | fail)
   refine zI (α := TFile × Nat × Int) (fun _ => []) (fun x => [(0, .pin b 120 [.sl (l.map uN), iv x.2.1, iv x.2.2]), (2, .box 86 [.d (iv x.1.fID), .d (iv x.1.fOwner), .d (bv x.1.fShared), .d (iv x.1.fLink), .s 3]), (3, .row 124 4 (x.1.fAttrs.map fF) true)]) (fun x => fileK fid 2 x.1 ∧ (x.2.1 ≤ l.length ∧ inR .i64 x.2.2)) ?_ ?_
   ·cases c1
    ·have hw := oU hf
     refine aD ?_
     exact mV (f, i, h) ⟨zH hf, ⟨hi, hh⟩⟩ (by simp only [go_sem]; simp) (by simp only [go_sem])
    ·have hw := oU hf
     have hf0 : f.fAttrs.length ≤ 4200000 := by omega
     have qH := trivial; repeat' (with_reducible first | refine nY ?_ | (refine mX ?_; try simp only [go_sem]) | refine kD ?_ | (apply rF [2,3,4,5] [] [0,1] [0,1] ((.c 2 [] [0] (.c 3 [] [0] (.c 4 [] [] (.c 5 [] [] .n .n) .n) .n) .n)) (by simp only [go_sem]; rfl) (by simp only [go_sem]; rfl) (by simp only [go_sem]; rfl) (by decide +kernel); (focus simp only [go_sem]; done)) | exact bA | refine aM (uX ?_) ?_ | refine aN (aX ?_) ?_ | refine aP (aX ?_) ?_ | exact bD | exact oH | (refine uA ?_; simp only [go_sem]; (repeat' first | omega | refine And.intro ?_ ?_); done) | refine rD ?_ | refine aO ?_ | fail)
     first | (refine aU (aH hl 4 (by decide) (by decide) i h hi hh) ⟨rfl, rfl⟩ ?_ rfl ?_; (focus first | rfl | (simp only [go_sem]; done))) | (refine hZ (aH hl 4 (by decide) (by decide) i h hi hh) ⟨rfl, rfl⟩ ?_ rfl ?_; (focus first | rfl | (simp only [go_sem]; done)))
     clear hi hh; rintro ⟨x, i, h⟩ ⟨hx, hi, hh⟩; simp only at hx hi hh; simp only [go_sem]
     have qH := trivial; repeat' (with_reducible first | refine nY ?_ | (refine mX ?_; try simp only [go_sem]) | refine kD ?_ | exact bA | refine aM (uX ?_) ?_ | refine aN (aX ?_) ?_ | refine aP (aX ?_) ?_ | (refine uA ?_; simp only [go_sem]; (repeat' first | omega | refine And.intro ?_ ?_); done) | refine rD ?_ | refine cP (nS x) ?_ | refine hR (bZ f ⟨#[98]⟩ ⟨1, x, ⟨#[]⟩⟩ hf0) ?_ | refine vR (bZ f ⟨#[98]⟩ ⟨1, x, ⟨#[]⟩⟩ hf0) ?_ | refine vD (bZ f ⟨#[98]⟩ ⟨1, x, ⟨#[]⟩⟩ hf0) ?_ | refine aO ?_ | fail)
     exact a1s [(3, 4)] (rQ f ⟨#[98]⟩ ⟨1, x, ⟨#[]⟩⟩, i, h) ⟨b4f hf (by omega), ⟨hi, hh⟩⟩ (by simp only [go_sem]; rfl) (by simp only [go_sem]; simp) (by simp only [go_sem])
   ·rintro ⟨f, i, h⟩ ⟨hf, hi, hh⟩
    simp only at hf hi hh
    simp only [go_sem]
    refine aD ?_
    first | (refine aU (fK hl 3 (by decide) (by decide) i h hi hh) ⟨rfl, rfl⟩ ?_ rfl ?_; (focus first | rfl | (simp only [go_sem]; done))) | (refine hZ (fK hl 3 (by decide) (by decide) i h hi hh) ⟨rfl, rfl⟩ ?_ rfl ?_; (focus first | rfl | (simp only [go_sem]; done)))
    clear hi hh; rintro ⟨c1, i, h⟩ ⟨q1, hi, hh⟩; simp only at q1 hi hh; simp only [go_sem]
    repeat' (with_reducible first | refine nX ?_ | (refine mX ?_; try simp only [go_sem]) | refine kD ?_ | refine aO ?_ | fail)
    refine zI (α := TFile × Nat × Int) (fun _ => []) (fun x => [(0, .pin b 120 [.sl (l.map uN), iv x.2.1, iv x.2.2]), (2, .box 86 [.d (iv x.1.fID), .d (iv x.1.fOwner), .d (bv x.1.fShared), .d (iv x.1.fLink), .s 3]), (3, .row 124 4 (x.1.fAttrs.map fF) true)]) (fun x => fileK fid 3 x.1 ∧ (x.2.1 ≤ l.length ∧ inR .i64 x.2.2)) ?_ ?_
    ·cases c1
     ·have hw := oU hf
      have hf0 : f.fAttrs.length ≤ 4200000 := by omega
      have qH := trivial; repeat' (with_reducible first | refine nY ?_ | (refine mX ?_; try simp only [go_sem]) | refine kD ?_ | (apply rF [2,3,4,5,6] [] [0,1] [0,1] ((.c 2 [] [0,1] (.c 3 [] [0] (.c 4 [] [0] (.c 5 [] [] (.c 6 [] [] .n .n) .n) .n) .n) .n)) (by simp only [go_sem]; rfl) (by simp only [go_sem]; rfl) (by simp only [go_sem]; rfl) (by decide +kernel); (focus simp only [go_sem]; done)) | exact bA | refine aM (uX ?_) ?_ | refine aN (aX ?_) ?_ | refine aP (aX ?_) ?_ | exact bD | exact oH | (refine uA ?_; simp only [go_sem]; (repeat' first | omega | refine And.intro ?_ ?_); done) | refine rD ?_ | refine aO ?_ | fail)
      first | (refine aU (cK hl wd1 (by decide) (by decide) i h hi hh) ⟨rfl, rfl⟩ ?_ rfl ?_; (focus first | rfl | (simp only [go_sem]; done))) | (refine hZ (cK hl wd1 (by decide) (by decide) i h hi hh) ⟨rfl, rfl⟩ ?_ rfl ?_; (focus first | rfl | (simp only [go_sem]; done)))
      clear hi hh; rintro ⟨x, i, h⟩ ⟨hx, hi, hh⟩; simp only at hx hi hh; simp only [go_sem]
      have qH := trivial; repeat' (with_reducible first | refine nY ?_ | (refine mX ?_; try simp only [go_sem]) | refine kD ?_ | exact bA | refine aM (uX ?_) ?_ | refine aN (aX ?_) ?_ | refine aP (aX ?_) ?_ | (refine uA ?_; simp only [go_sem]; (repeat' first | omega | refine And.intro ?_ ?_); done) | refine rD ?_ | refine cP (qE x) ?_ | refine hR (bZ f ⟨#[110]⟩ ⟨2, 0, x⟩ hf0) ?_ | refine vR (bZ f ⟨#[110]⟩ ⟨2, 0, x⟩ hf0) ?_ | refine vD (bZ f ⟨#[110]⟩ ⟨2, 0, x⟩ hf0) ?_ | refine aO ?_ | fail)
      exact a1s [(3, 5)] (rQ f ⟨#[110]⟩ ⟨2, 0, x⟩, i, h) ⟨b4g hf (b7m x hx), ⟨hi, hh⟩⟩ (by simp only [go_sem]; rfl) (by simp only [go_sem]; simp) (by simp only [go_sem])
     ·have hw := oU hf
      refine aD ?_
      exact mV (f, i, h) ⟨zH hf, ⟨hi, hh⟩⟩ (by simp only [go_sem]; simp) (by simp only [go_sem])
    ·rintro ⟨f, i, h⟩ ⟨hf, hi, hh⟩
     simp only at hf hi hh
     simp only [go_sem]
     refine aD ?_
     first | (refine aU (fK hl 2 (by decide) (by decide) i h hi hh) ⟨rfl, rfl⟩ ?_ rfl ?_; (focus first | rfl | (simp only [go_sem]; done))) | (refine hZ (fK hl 2 (by decide) (by decide) i h hi hh) ⟨rfl, rfl⟩ ?_ rfl ?_; (focus first | rfl | (simp only [go_sem]; done)))
     clear hi hh; rintro ⟨c1, i, h⟩ ⟨q1, hi, hh⟩; simp only at q1 hi hh; simp only [go_sem]
     repeat' (with_reducible first | refine nX ?_ | (refine mX ?_; try simp only [go_sem]) | refine kD ?_ | refine aO ?_ | fail)
     refine zI (α := TFile × Nat × Int) (fun _ => []) (fun x => [(0, .pin b 120 [.sl (l.map uN), iv x.2.1, iv x.2.2]), (2, .box 86 [.d (iv x.1.fID), .d (iv x.1.fOwner), .d (bv x.1.fShared), .d (iv x.1.fLink), .s 3]), (3, .row 124 4 (x.1.fAttrs.map fF) true)]) (fun x => fileK fid 4 x.1 ∧ (x.2.1 ≤ l.length ∧ inR .i64 x.2.2)) ?_ ?_
     ·cases c1
      ·have hw := oU hf
       refine aD ?_
       exact mV (f, i, h) ⟨zH hf, ⟨hi, hh⟩⟩ (by simp only [go_sem]; simp) (by simp only [go_sem])
      ·have hw := oU hf
       have hf0 : f.fAttrs.length ≤ 4200000 := by omega
       have qH := trivial; repeat' (with_reducible first | refine nY ?_ | (refine mX ?_; try simp only [go_sem]) | refine kD ?_ | (apply rF [2,3,4,5,6] [] [0,1] [0,1] ((.c 2 [] [0,1] (.c 3 [] [0] (.c 4 [] [0] (.c 5 [] [] (.c 6 [] [] .n .n) .n) .n) .n) .n)) (by simp only [go_sem]; rfl) (by simp only [go_sem]; rfl) (by simp only [go_sem]; rfl) (by decide +kernel); (focus simp only [go_sem]; done)) | exact bA | refine aM (uX ?_) ?_ | refine aN (aX ?_) ?_ | refine aP (aX ?_) ?_ | exact bD | exact oH | (refine uA ?_; simp only [go_sem]; (repeat' first | omega | refine And.intro ?_ ?_); done) | refine rD ?_ | refine aO ?_ | fail)
       first | (refine aU (cK hl wd2 (by decide) (by decide) i h hi hh) ⟨rfl, rfl⟩ ?_ rfl ?_; (focus first | rfl | (simp only [go_sem]; done))) | (refine hZ (cK hl wd2 (by decide) (by decide) i h hi hh) ⟨rfl, rfl⟩ ?_ rfl ?_; (focus first | rfl | (simp only [go_sem]; done)))
       clear hi hh; rintro ⟨x, i, h⟩ ⟨hx, hi, hh⟩; simp only at hx hi hh; simp only [go_sem]
       have qH := trivial; repeat' (with_reducible first | refine nY ?_ | (refine mX ?_; try simp only [go_sem]) | refine kD ?_ | exact bA | refine aM (uX ?_) ?_ | refine aN (aX ?_) ?_ | refine aP (aX ?_) ?_ | (refine uA ?_; simp only [go_sem]; (repeat' first | omega | refine And.intro ?_ ?_); done) | refine rD ?_ | refine cP (qE x) ?_ | refine hR (bZ f ⟨#[116]⟩ ⟨2, 0, x⟩ hf0) ?_ | refine vR (bZ f ⟨#[116]⟩ ⟨2, 0, x⟩ hf0) ?_ | refine vD (bZ f ⟨#[116]⟩ ⟨2, 0, x⟩ hf0) ?_ | refine aO ?_ | fail)
       exact a1s [(3, 5)] (rQ f ⟨#[116]⟩ ⟨2, 0, x⟩, i, h) ⟨b4h hf (b7n x hx), ⟨hi, hh⟩⟩ (by simp only [go_sem]; rfl) (by simp only [go_sem]; simp) (by simp only [go_sem])
     ·rintro ⟨f, i, h⟩ ⟨hf, hi, hh⟩
      simp only at hf hi hh
      simp only [go_sem]
      refine aD ?_
      exact aJ (f, i, h) ⟨⟨_, rfl, by simp only [go_sem]⟩, trivial⟩ ⟨b4i hf, ⟨hi, hh⟩⟩ (by simp only [go_sem])
end Go.Proofs.YtgpoopjfkplilaaGreatDoor
end
section
set_option maxRecDepth 100000
namespace Go.Proofs.YtgpoopjfkplilaaGreatDoor
open Go Go.Sx Go.RowKit Go.Proofs
end Go.Proofs.YtgpoopjfkplilaaGreatDoor
end
section
set_option maxRecDepth 100000
set_option maxHeartbeats 4000000
namespace Go.Proofs.YtgpoopjfkplilaaGreatDoor
open Go Go.Sx Go.RowKit Go.Proofs
theorem uP (f : TFile) (h : f.fAttrs.length ≤ 4300000) : FnC Tryz.prog 182 [a0I f] (a8P f) := by
 refine ent Tryz.func182 rfl Tryz.call182 rfl (fun C => ?_); simp only [go_sem, st0, Tryz.ntmps182]
 refine aD ?_
 exact aA ⟨⟨_, rfl, by simp only [go_sem]⟩, trivial⟩
theorem uQ (s : TStore) (h : eD s ≤ 4300000) : FnC Tryz.prog 181 [qZ s] (a7P s) := by
 have h1 : s.fSchema.length ≤ 4300000 := by unfold eD bB at h; omega
 have h2 : s.fFiles.length + dU fG s.fFiles ≤ 4300000 := by unfold eD iR at h; omega
 refine ent Tryz.func181 rfl Tryz.call181 rfl (fun C => ?_); simp only [go_sem, st0, Tryz.ntmps181]
 have qH := trivial; repeat' (with_reducible first | refine nY ?_ | (refine mX ?_; try simp only [go_sem]) | refine kD ?_ | (apply rE [0,3,7,8] [] [1,2,4,5] [1,2,4,5] ((.c 0 [] [1,2,4,5] (.c 3 [6] [4,5,6] (.c 7 [] [4,5,6] (.c 8 [] [] .n .n) .n) (.c 7 [] [1,2,4,5] (.c 3 [6] [4,5,6] (.c 8 [] [] .n .n) .n) .n)) (.c 7 [] [1,2,4,5] (.c 0 [] [1,2,4,5] (.c 3 [6] [4,5,6] (.c 8 [] [] .n .n) .n) .n) .n))) (by simp only [go_sem]; rfl) (by simp only [go_sem]; rfl) (by simp only [go_sem]; rfl) (by decide +kernel); (focus simp only [go_sem]; done)) | exact bA | refine aM (uX ?_) ?_ | refine aN (aX ?_) ?_ | refine aP (aX ?_) ?_ | exact bD | (refine a4Y [(2, 3)] (by simp only [go_sem]; rfl) ?_; exact rfl) | exact oH | (refine uA ?_; simp only [go_sem]; (repeat' first | omega | refine And.intro ?_ ?_); done) | refine rD ?_ | refine aO ?_ | fail)
 refine uY 3 1 86 5 rfl rfl ?_
 simp only [go_sem]
 refine dB (α := Nat) (fun k => [(4, oi k)]) (fun k => [(4, .row 86 5 ((s.fFiles.take k).map dX) true)]) (fun k => k ≤ s.fFiles.length) (fun k => s.fFiles.length - k) 0 (fun _ => ?_) ?_ ?_ (fun k hk => ?_)
 ·simp only [go_sem]
 ·simp only [go_sem]; simp
 ·simp
 ·simp only [go_sem]
  refine aD ?_
  refine cnd rfl (fun h1 => ?_) (fun h1 => ?_)
  ·simp only [decide_eq_true_eq, Int.ofNat_lt] at h1
   have hw := eT fG s.fFiles h1
   have hx : s.fFiles[k].fAttrs.length ≤ 4300000 := by
    have e : s.fFiles[k].fAttrs.length ≤ fG s.fFiles[k] := by unfold fG eB; omega
    omega
   have ht := List.take_succ_eq_append_getElem h1
   have hn : (s.fFiles.take k).length = k := by rw [List.length_take]; omega
   have qH := aI @h1 @hn; repeat' (with_reducible first | refine nY ?_ | (refine mX ?_; try simp only [go_sem, qH]) | refine kD ?_ | (apply rE [7,8,9,11] [] [0,1,2,3,4,5,6] [0,1,2,3,4,5,6] ((.c 7 [] [0,1] (.c 8 [] [0,1] (.c 9 [10] [10] (.c 11 [] [] .n .n) .n) .n) .n)) (by simp only [go_sem]; rfl) (by simp only [go_sem]; rfl) (by simp only [go_sem]; rfl) (by decide +kernel); (focus simp only [go_sem]; done)) | exact bA | refine aM (uX ?_) ?_ | refine aN (aX ?_) ?_ | refine aP (aX ?_) ?_ | exact bD | exact oH | exact uB | refine rD ?_ | refine cP (uP s.fFiles[k] hx) ?_ | refine aO ?_ | fail)
   refine aQ (k + 1) ?_ ?_ ?_
   ·simp only [go_sem, ht, List.map_append]; simp [dX]
   ·omega
   ·omega
  ·simp only [decide_eq_false_iff_not] at h1
   have e : k = s.fFiles.length := by omega
   subst e
   refine aD ?_
   exact aA ⟨⟨_, rfl, by simp only [go_sem, List.take_length]⟩, trivial⟩
theorem a2S (s : TStore) (f : TFile) (hs : eD s ≤ 4300000) (hf : fG f ≤ 4300000) : FnC Tryz.prog 131 [qZ s, a0I f] (.t [(true, (a7P (creS s f)).cells), (false, [.d (iv (b0N s f))]), (false, [.d (bv (lU s f))])]) := by
 have h1 : bB s.fSchema ≤ 4300000 := by unfold eD at hs; omega
 have h2 : s.fFiles.length ≤ 4300000 := by unfold eD iR at hs; omega
 have h3 : f.fAttrs.length ≤ 4300000 := by unfold fG eB at hf; omega
 have hm : (mkF s f) = ⟨s.fNextID, f.fOwner, f.fShared, f.fLink, f.fAttrs⟩ := rfl
 refine ent Tryz.func131 rfl Tryz.call131 rfl (fun C => ?_); simp only [go_sem, st0, Tryz.ntmps131]
 cases hv : bL s
 ·have e : lU s f = false := by simp [lU, hv]
  have qH := @hv; repeat' (with_reducible first | refine nY ?_ | (refine mX ?_; try simp only [go_sem, qH]) | refine kD ?_ | refine rD ?_ | refine cP (uQ s hs) ?_ | refine cP (uP f h3) ?_ | refine vR (eF s hs) ?_ | refine vD (eF s hs) ?_ | refine aO ?_ | fail)
  exact aA ⟨⟨_, rfl, by simp only [go_sem, creS, b0N, e]; try simp⟩, by simp [bW]⟩
 by_cases hl : s.fFiles.length < 12
 case neg =>
  have e : lU s f = false := by simp [lU, hl]
  have hz : (12 : Int) ≤ (s.fFiles.length : Int) := by omega
  have qH := aI @hv (aI @hz @decide_true); repeat' (with_reducible first | refine nY ?_ | (refine mX ?_; try simp only [go_sem, qH]) | refine kD ?_ | refine rD ?_ | refine cP (uQ s hs) ?_ | refine cP (uP f h3) ?_ | refine vR (eF s hs) ?_ | refine vD (eF s hs) ?_ | refine aO ?_ | fail)
  exact aA ⟨⟨_, rfl, by simp only [go_sem, creS, b0N, e]; try simp⟩, by simp [bW]⟩
 have hz : ¬ (12 : Int) ≤ (s.fFiles.length : Int) := by omega
 cases ho : dE s.fSchema (mkF s f)
 ·have e : lU s f = false := by simp [lU, ho]
  have hk := iE s.fSchema (mkF s f) h1 hf
  rw [ho, hm] at hk
  have qH := aI @hv (aI @hz @decide_false); repeat' (with_reducible first | refine nY ?_ | (refine mX ?_; try simp only [go_sem, qH]) | refine kD ?_ | refine rD ?_ | refine cP (uQ s hs) ?_ | refine cP (uP f h3) ?_ | refine vR (eF s hs) ?_ | refine vD (eF s hs) ?_ | refine vR hk ?_ | refine vD hk ?_ | refine aO ?_ | fail)
  exact aA ⟨⟨_, rfl, by simp only [go_sem, creS, b0N, e]; try simp⟩, by simp [bW]⟩
 ·have e : lU s f = true := by simp [lU, hv, hl, ho]
  have hid := a3Q ho
  have hid2 : 1 ≤ s.fNextID ∧ s.fNextID ≤ 60 := hid
  have hk := iE s.fSchema (mkF s f) h1 hf
  rw [ho, hm] at hk
  have qH := aI @hv (aI @hz @decide_false); repeat' (with_reducible first | refine nY ?_ | (refine mX ?_; try simp only [go_sem, qH]) | refine kD ?_ | (apply rE [3] [] [0,1,2] [0,1,2] ((.c 3 [4,5] [1,2,4,5] .n .n)) (by simp only [go_sem]; rfl) (by simp only [go_sem]; rfl) (by simp only [go_sem]; rfl) (by decide +kernel); (focus simp only [go_sem]; done)) | exact bA | refine aM (uX ?_) ?_ | refine aN (aX ?_) ?_ | refine aP (aX ?_) ?_ | exact bD | exact oH | exact uB | refine rD ?_ | refine cP (uQ s hs) ?_ | refine cP (uP f h3) ?_ | refine vR (eF s hs) ?_ | refine vG (eF s hs) ?_ | refine vR hk ?_ | refine vG hk ?_ | refine aO ?_ | fail)
  exact aA ⟨⟨_, rfl, by simp only [go_sem, creS, b0N, e, if_true, List.map_append, mkF]; try simp [dX]⟩, by simp [bW]⟩
end Go.Proofs.YtgpoopjfkplilaaGreatDoor
end
section
namespace Go.Proofs.YtgpoopjfkplilaaGreatDoor
open Go Go.Sx Go.RowKit Go.Proofs
def ixF (id : Int) (l : List TFile) : Int := oC (fun f => decide (f.fID = id)) l 0
theorem ixF_cases (id : Int) (l : List TFile) : (ixF id l = -1) ∨ ∃ p : Nat, ixF id l = p ∧ ∃ h : p < l.length, l[p].fID = id := by
 rcases idxP_spec (fun f : TFile => decide (f.fID = id)) l 0 with h | ⟨k, e1, e2, e5, e6⟩
 ·exact .inl h.1
 ·exact .inr ⟨k, by unfold ixF; rw [e1]; simp, e2, by simpa using e5⟩
def zF : TFile := ⟨0, 0, false, 0, []⟩
def b9b (id : Int) (l : List TFile) : TFile := if 0 ≤ ixF id l then l.getD (ixF id l).toNat zF else zF
def sH {α : Type} (p : Nat) (l : List α) : List α := l.take p ++ l.drop (p + 1)
theorem a9t {α : Type} {p : Nat} {l : List α} (h : p < l.length) : (sH p l).length = l.length - 1 := by simp [sH]; omega
theorem a8j {α : Type} {p k : Nat} {l : List α} (h : p < l.length) (hk : k < (sH p l).length) (e : k < p) : (sH p l)[k] = l[k] := by
 simp only [sH]
 rw [List.getElem_append_left (by simp; omega), List.getElem_take]
theorem b2G {α : Type} {p k : Nat} {l : List α} (h : p < l.length) (hk : k < (sH p l).length) (e : ¬ k < p) : (sH p l)[k] = l[k + 1]'(by rw [a9t h] at hk; omega) := by
 simp only [sH]
 rw [List.getElem_append_right (by simp; omega), List.getElem_drop]
 congr 1
 simp; omega
theorem xD {s : TStore} (h : bL s = true) (j : Nat) (h0 : 0 < j) (hj : j < s.fFiles.length) : s.fFiles[j - 1].fID < s.fFiles[j].fID := by
 have q := ((gL hj).1 ((gK.1 h).1 j hj)).2.2
 rw [nR _ _ h0 hj] at q
 simp only [Bool.not_eq_true', decide_eq_false_iff_not] at q
 omega
theorem a9u (l : List TFile) (k : Nat) (hk : k < l.length) (h : ∀ h0 : 0 < k, (l[k - 1]'(by omega)).fID < l[k].fID) : a5a l k = true := by
 by_cases h0 : 0 < k
 ·rw [nR _ _ h0 hk]
  have := h h0
  simp only [Bool.not_eq_true', decide_eq_false_iff_not]
  omega
 ·exact a2l _ _ h0
def a0R (s : TStore) (id : Int) : Bool := bL s && decide (0 ≤ ixF id s.fFiles)
def delS (s : TStore) (id : Int) : TStore := if a0R s id then ⟨s.fSchema, sH (ixF id s.fFiles).toNat s.fFiles, s.fNextID⟩ else s
theorem b5R {s : TStore} {id : Int} (h : a0R s id = true) : bL (delS s id) = true := by
 have h' := h
 unfold a0R at h'
 rw [Bool.and_eq_true, decide_eq_true_eq] at h'
 obtain ⟨hs, hi⟩ := h'
 obtain ⟨h1, h2, h3, h4, h5⟩ := gK.1 hs
 rcases ixF_cases id s.fFiles with e | ⟨p, e, hp, _⟩
 ·omega
 unfold delS
 rw [if_pos h, e, Int.toNat_natCast]
 have hl := a9t hp
 refine gK.2 ⟨fun k hk => ?_, h2, by simp only [hl]; omega, h4, h5⟩
 rw [gL hk]
 simp only at hk ⊢
 by_cases ek : k < p
 ·have e1 := a8j hp hk ek
  obtain ⟨q1, q2, q3⟩ := (gL (by omega)).1 (h1 k (by omega))
  refine ⟨by rw [e1]; exact q1, by rw [e1]; exact q2, a9u _ _ hk fun h0 => ?_⟩
  rw [e1, a8j hp (by omega) (by omega)]
  exact xD hs k h0 (by omega)
 ·have e1 := b2G hp hk ek
  have hk1 : k + 1 < s.fFiles.length := by rw [hl] at hk; omega
  obtain ⟨q1, q2, q3⟩ := (gL hk1).1 (h1 (k + 1) hk1)
  refine ⟨by rw [e1]; exact q1, by rw [e1]; exact q2, a9u _ _ hk fun h0 => ?_⟩
  have u1 := xD hs (k + 1) (by omega) hk1
  simp only [Nat.add_sub_cancel] at u1
  by_cases ep : k - 1 < p
  ·rw [e1, a8j hp (by omega) ep]
   have u2 := xD hs k h0 (by omega)
   omega
  ·rw [e1, b2G hp (by omega) ep]
   have ee : k - 1 + 1 = k := by omega
   simp only [ee]
   exact u1
def b7v (s : TStore) (f : TFile) : Bool := bL s && (decide (0 ≤ ixF f.fID s.fFiles) && dE s.fSchema f)
def b9e (s : TStore) (f : TFile) : TStore := if b7v s f then ⟨s.fSchema, s.fFiles.set (ixF f.fID s.fFiles).toNat f, s.fNextID⟩ else s
end Go.Proofs.YtgpoopjfkplilaaGreatDoor
end
section
set_option maxRecDepth 100000
set_option maxHeartbeats 4000000
namespace Go.Proofs.YtgpoopjfkplilaaGreatDoor
open Go Go.Sx Go.RowKit Go.Proofs
theorem a6U (s : TStore) (id : Int) (hl : s.fFiles.length ≤ 4300000) : FnC Tryz.prog 223 [qZ s, oi id] (oi (ixF id s.fFiles)) := by
 refine ent Tryz.func223 rfl Tryz.call223 rfl (fun C => ?_); simp only [go_sem, st0, Tryz.ntmps223]
 refine aD ?_
 refine dB (α := Nat) (fun k => [(5, oi k)]) (fun _ => []) (fun k => k ≤ s.fFiles.length ∧ ixF id s.fFiles = oC (fun f => decide (f.fID = id)) (s.fFiles.drop k) k) (fun k => s.fFiles.length - k) 0 (fun _ => ?_) ?_ ?_ (fun k hk => ?_)
 ·simp only [go_sem]
 ·simp only [go_sem]; simp
 ·simp [ixF]
 ·obtain ⟨hk, hq⟩ := hk
  simp only [go_sem]
  refine aD ?_
  refine cnd rfl (fun h => ?_) (fun h => ?_)
  ·simp only [decide_eq_true_eq, Int.ofNat_lt] at h
   have hd := List.drop_eq_getElem_cons h
   rw [hd, oC] at hq
   by_cases h2 : s.fFiles[k].fID = id
   ·rw [if_pos (by simp [h2])] at hq
    have q0 := @h; have q1 := @h2; have q2 := @decide_true; refine kI ?_
    exact aA ⟨⟨_, rfl, by simp only [go_sem, hq]⟩, trivial⟩
   ·rw [if_neg (by simp [h2])] at hq
    have q0 := @h; have q1 := @h2; have q2 := @decide_false; refine kI ?_
    refine aQ (k + 1) ?_ ?_ ?_
    ·simp only [go_sem]; simp
    ·rw [hq]; exact ⟨h, by simp⟩
    ·omega
  ·simp only [decide_eq_false_iff_not] at h
   have e : k = s.fFiles.length := by omega
   subst e
   simp only [List.drop_length, oC] at hq
   refine aD ?_
   exact aA ⟨⟨_, rfl, by simp only [go_sem, hq]⟩, trivial⟩
theorem a9v (l : List TFile) : ∀ r ∈ l.map dX, r.length = 5 := by intro r hr; obtain ⟨x, _, rfl⟩ := List.mem_map.1 hr; rfl
@[go_sem] def a2w (x : TStore) : SV := .g [.d (.sl (x.fSchema.map bY)), .m 86 5 (x.fFiles.map dX), .d (iv x.fNextID)]
theorem a2x (s : TStore) (id : Int) (hs : eD s ≤ 4300000) (hd : a0R s id = true) : FnC Tryz.prog 177 [qZ s, oi id] (.t [(true, (a2w (delS s id)).cells), (false, [.d (bv true)])]) := by
 have h2 : s.fFiles.length ≤ 4300000 := by unfold eD iR at hs; omega
 have hk := a6U s id h2
 have hcp : FnC Tryz.prog 181 [qZ s] (qZ s) := (uQ s hs).pu (by simp only [go_sem, and_self])
 have hv : bL s = true := by unfold a0R at hd; rw [Bool.and_eq_true] at hd; exact hd.1
 rcases ixF_cases id s.fFiles with ei | ⟨p, ei, hp, _⟩
 ·unfold a0R at hd
  rw [ei] at hd
  simp at hd
 ·refine ent Tryz.func177 rfl Tryz.call177 rfl (fun C => ?_); simp only [go_sem, st0, Tryz.ntmps177]
  have hy : ¬ (p : Int) < 0 := by omega
  rw [ei] at hk
  have hpn : ((p : Int) + 1).toNat = p + 1 := by omega
  have hT : List.take s.fFiles.length (List.map dX s.fFiles) = List.map dX s.fFiles := List.take_of_length_le (by simp)
  have hTk : List.take p (List.map dX s.fFiles) = (s.fFiles.take p).map dX := List.map_take.symm
  have hDp : List.drop (p + 1) (List.map dX s.fFiles) = (s.fFiles.drop (p + 1)).map dX := List.map_drop.symm
  have qH := aI @hv (aI @hy (aI @hp (aI @hpn (aI @hT (aI @hTk (aI @hDp (aI @yO (aI @yP (aI @a2J (aI @decide_false (aI @Int.toNat_natCast @gI))))))))))); repeat' (with_reducible first | refine nY ?_ | (refine mX ?_; try simp only [go_sem, qH]) | refine kD ?_ | (apply rE [0,5,11,13] [] [1,2,3,4,6,7,8,9,10] [1,2,3,4,6,7,8,9,10] ((.c 0 [] [1,2,3,4,6,7,8,9,10] (.c 5 [] [6,7,8,9,10] (.c 11 [12] [12] (.c 13 [] [] .n .n) .n) .n) .n)) (by simp only [go_sem]; rfl) (by simp only [go_sem]; rfl) (by simp only [go_sem]; rfl) (by decide +kernel); (focus simp only [go_sem]; done)) | exact bA | refine aM (uX ?_) ?_ | refine aN (aX ?_) ?_ | refine aP (aX ?_) ?_ | exact bD | exact oH | (refine uA ?_; simp only [go_sem, qH]; (repeat' first | omega | exact a9v _ | refine And.intro ?_ ?_); done) | refine rD ?_ | refine And.intro (a9v _) ?_ | refine cP hcp ?_ | refine cP hk ?_ | refine cP (eF s hs) ?_ | refine aO ?_ | fail)
  exact aA ⟨⟨_, rfl, by simp only [go_sem, delS, hd, ei, Int.toNat_natCast, if_true, sH, List.map_append]; try simp⟩, by simp [bW]⟩
end Go.Proofs.YtgpoopjfkplilaaGreatDoor
end
