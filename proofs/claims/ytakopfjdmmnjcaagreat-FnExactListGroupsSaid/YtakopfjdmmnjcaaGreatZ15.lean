/- Joined texts. -/
import Derived.Test.YtakopfjdmmnjcaaGreatZ14
import Derived.Test.YtakopfjdmmnjcaaGreatZ11
import Derived.Test.YtakopfjdmmnjcaaGreatZ10
import Derived.Test.YtakopfjdmmnjcaaGreatZ03
import Derived.Laws.IdiomCopy
import Derived.Deep.AppendSrc
import Derived.Shelf.RegionOpenPlain
import Derived.WalkKit
import Derived.Lib.Walk
import Derived.Lib.SliceRun
import Derived.Lib.JoinLaws
import Derived.Lib.AppendZeros
import Derived.Lib.AppendZerosOnto
import Derived.Lib.Overlaps
import Derived.Laws.Externs
import Derived.Laws.NewBlocks
import Derived.Shelf.Spec.SlicesInsertGrow
import Derived.Test.YtakopfjdmmnjcaaGreatZ07
import Derived.Deep.LoopGhost
import Derived.Deep.Draws
import Derived.Shelf.SlicesE.Kit
import Derived.Shelf.SlicesE.DeleteFunc
import Derived.Test.YtakopfjdmmnjcaaGreatZ13
set_option linter.all false
section
set_option maxRecDepth 100000
set_option maxHeartbeats 4000000
namespace Go.Proofs.YtakopfjdmmnjcaaGreat
open Go Go.Sx Go.RowKit Go.Proofs Go.Sx.Clos
def isD (n : TNode) : Bool := decide (8 ≤ n.fOp) && decide (n.fOp ≤ 9)
def qD (q : List TNode) : List ByteArray := (q.filter isD).map TNode.fName
def eD (l : List TDir) : List (ByteArray × List ByteArray) := l.map fun d => (d.fName, putL (qD d.fQuery))
theorem b4B (l : List TDir) : (eD l).length = l.length := by simp [eD]
def wS (s : ByteArray) : Nat := 1 + s.size
def pot (l : List TDir) (o : List ByteArray) : Nat := wsm wS o + kF wS (eD l) o
def nmD (l : List TDir) (y : ByteArray) : Prop := ∃ e ∈ eD l, e.1 = y
theorem b4C (l : List TDir) (d : TDir) (h : d ∈ l) : nmD l d.fName := ⟨_, List.mem_map.2 ⟨d, h, rfl⟩, rfl⟩
theorem a4M (a b : List ByteArray) : wsm wS (a ++ b) = wsm wS a + wsm wS b := by
 induction a with
 | nil => simp [wsm]
 | cons x a ih => simp only [List.cons_append, wsm, ih]; omega
theorem a6y (o : List ByteArray) (s : ByteArray) : wsm wS (jI o s) ≤ wsm wS o + wS s := by
 unfold jI
 split
 ·omega
 ·unfold nU
  have h := congrArg (wsm wS) (List.take_append_drop (fJ (geS s) o) o)
  rw [a4M] at h
  rw [a4M]
  simp only [wsm]
  omega
theorem b2f (o : List ByteArray) (s : ByteArray) (h : o.Pairwise ltS) (hs : s ∈ o) : jI o s = o :=
 nZ wU uP (oC s h) h fun x => by
  rw [pW]
  constructor
  ·rintro (rfl | h)
   ·exact hs
   ·exact h
  ·exact .inr
def okS (l : List TDir) (B : Nat) (o : List ByteArray) : Prop := o.Pairwise ltS ∧ pot l o ≤ B
theorem b3r {l : List TDir} {B : Nat} (o : List ByteArray) (s : ByteArray) (h : okS l B o) (hs : nmD l s) : okS l B (jI o s) := by
 refine ⟨oC s h.1, Nat.le_trans ?_ h.2⟩
 by_cases hm : s ∈ o
 ·rw [b2f o s h.1 hm]; exact Nat.le_refl _
 ·have h1 := a6y o s
  have h2 := zW wS (eD l) (S := o) (T := jI o s) (fun x hx => (pW o s x).2 (.inr hx)) hs ((pW o s s).2 (.inl rfl)) hm
  unfold pot; omega
theorem b0n (l : List ByteArray) : ∀ a : List ByteArray, wsm wS (l.foldl jI a) ≤ wsm wS a + wsm wS l := by
 induction l with
 | nil => intro a; simp [wsm]
 | cons y l ih =>
  intro a
  have h1 := ih (jI a y)
  have h2 := a6y a y
  simp only [List.foldl_cons, wsm]; omega
theorem b2g (l : List TDir) (names : List ByteArray) : okS l (pot l names) (putL names) := by
 refine ⟨a6B names, ?_⟩
 have h1 := b0n names []
 have h2 := a0B wS (eD l) (S := names) (T := putL names) (fun x hx => (nH names x).2 hx)
 simp only [wsm] at h1
 unfold pot putL at *
 omega
def a9f (l : List TDir) (names : List ByteArray) (n : Nat) : List ByteArray := iJ jI (eD l) n (putL names)
def tdS (l : List TDir) (names : List ByteArray) : List ByteArray := a9f l names (l.length + 1)
theorem a8d (l : List TDir) (names : List ByteArray) (n : Nat) : okS l (pot l names) (a9f l names n) :=
 a2q (Nm := nmD l) (fun o s h hs => b3r o s h hs) (eD l) (fun e he => ⟨e, he, rfl⟩) (b2g l names) n
def b3s (l : List TDir) (s : ByteArray) : List ByteArray := (l.filter fun d => nD (qD d.fQuery) s).map TDir.fName
theorem a6z (l : List TDir) (s y : ByteArray) : y ∈ b3s l s ↔ ∃ d ∈ l, s ∈ qD d.fQuery ∧ d.fName = y := by
 unfold b3s
 rw [List.mem_map]
 constructor
 ·rintro ⟨d, hd, rfl⟩
  rw [List.mem_filter] at hd
  exact ⟨d, hd.1, (a2h _ _).1 hd.2, rfl⟩
 ·rintro ⟨d, hd, hs, rfl⟩
  exact ⟨d, List.mem_filter.2 ⟨hd, (a2h _ _).2 hs⟩, rfl⟩
structure Good (l : List TDir) (names o : List ByteArray) : Prop where
 ext : ∀ x ∈ names, x ∈ o
 least : ∀ T, Closed (eD l) T → (∀ x ∈ names, x ∈ T) → ∀ x ∈ o, x ∈ T
 le : pot l o ≤ pot l names
theorem Good.start (l : List TDir) (names : List ByteArray) : Good l names names := ⟨fun _ h => h, fun _ _ h => h, Nat.le_refl _⟩
theorem Good.add {l : List TDir} {names o : List ByteArray} (g : Good l names o) {x y : ByteArray} (hx : x ∈ o) (hy : y ∈ b3s l x) (hn : ¬ y ∈ o) : Good l names (o ++ [y]) := by
 obtain ⟨d, hd, hq, rfl⟩ := (a6z l x y).1 hy
 refine ⟨fun z hz => List.mem_append_left _ (g.ext z hz), fun T hT h z hz => ?_, ?_⟩
 ·rcases List.mem_append.1 hz with h1 | h1
  ·exact g.least T hT h z h1
  ·simp only [List.mem_singleton] at h1
   subst h1
   exact hT _ (List.mem_map.2 ⟨d, hd, rfl⟩) ⟨x, (nH _ _).2 hq, g.least T hT h x hx⟩
 ·have h1 := zW wS (eD l) (S := o) (T := o ++ [d.fName]) (fun z hz => List.mem_append_left _ hz) (b4C l d hd) (by simp) hn
  have h2 := g.le
  have h3 := a4M o [d.fName]
  simp only [wsm] at h3
  unfold pot at *
  omega
theorem Good.done {l : List TDir} {names o : List ByteArray} (g : Good l names o) (hc : ∀ x ∈ o, ∀ y ∈ b3s l x, y ∈ o) : eY o = tdS l names := by
 refine nZ wU uP (a4P o) (a8d l names (l.length + 1)).1 fun x => ?_
 rw [pV]
 have h := a6A (put := jI) pW (eD l) (S := putL names) (O := o) (fun x hx => g.ext x ((nH _ _).1 hx)) (fun e he hx => by
  obtain ⟨d, hd, rfl⟩ := List.mem_map.1 he
  obtain ⟨x, hx, ho⟩ := hx
  exact hc x ho _ ((a6z l x _).2 ⟨d, hd, (nH _ _).1 hx, rfl⟩)) (fun T hT hs => g.least T hT fun x hx => hs x ((nH _ _).2 hx)) x
 rw [b4B] at h
 exact h
def b6n (a b : TFile) (l : List TDir) : List ByteArray := tdS l (b6r a b l)
end Go.Proofs.YtakopfjdmmnjcaaGreat
end
section
set_option maxRecDepth 100000
set_option maxHeartbeats 4000000
namespace Go.Proofs.YtakopfjdmmnjcaaGreat
open Go Go.Sx Go.RowKit Go.Proofs
noncomputable def b5y (c : TCatalog) (f : TFile) : Bool := b6m c && b3D c.fStore f
def b5z (c : TCatalog) (f : TFile) : List ByteArray := b6n (iT f.fID c.fStore.fFiles) f c.fDirs
noncomputable def b6N (c : TCatalog) (f : TFile) : TCatalog := goC (b5y c f) c (b5l c.fStore f) c.fDirs (b5z c f)
noncomputable def b6O (c : TCatalog) (f : TFile) : List TDiff := goD (b5y c f) c (b5l c.fStore f) c.fDirs (b5z c f)
end Go.Proofs.YtakopfjdmmnjcaaGreat
end
section
set_option maxRecDepth 100000
namespace Go.Sx
open Go Go.RowKit
theorem LayL.take {V : View} {ds : List D} {ys : List Value} {Ss : List (List Nat)} (h : LayL V ds ys Ss) (n : Nat) : LayL V (ds.take n) (ys.take n) (Ss.take n) :=
 ⟨by simp [h.1], by simp [h.2.1], fun k d y S h1 h2 h3 => by
  rw [List.getElem?_take] at h1 h2 h3
  split at h1
  ·rw [if_pos ‹_›] at h2 h3; exact h.2.2 k d y S h1 h2 h3
  ·cases h1⟩
theorem LayL.drop {V : View} {ds : List D} {ys : List Value} {Ss : List (List Nat)} (h : LayL V ds ys Ss) (n : Nat) : LayL V (ds.drop n) (ys.drop n) (Ss.drop n) :=
 ⟨by simp [h.1], by simp [h.2.1], fun k d y S h1 h2 h3 => by
  rw [List.getElem?_drop] at h1 h2 h3
  exact h.2.2 _ d y S h1 h2 h3⟩
theorem a6C {α : Type} {sz : Nat} : ∀ {rows : List (List α)}, (∀ r ∈ rows, r.length = sz) → rows.flatten.length = rows.length * sz
 | [], _ => by simp
 | r :: rows, h => by
  rw [List.flatten_cons, List.length_append, a6C (fun r hr => h r (by simp [hr])), h r (by simp), List.length_cons, Nat.add_mul]; omega
theorem a3K {α : Type} {sz : Nat} : ∀ {rows : List (List α)} (i : Nat), (∀ r ∈ rows, r.length = sz) → (rows.take i).flatten = rows.flatten.take (i * sz)
 | [], i, _ => by simp
 | r :: rows, 0, h => by simp
 | r :: rows, i + 1, h => by
  have e := h r (by simp)
  rw [List.take_succ_cons, List.flatten_cons, List.flatten_cons, a3K i (fun r hr => h r (by simp [hr])), List.take_append, List.take_of_length_le (l := r) (by rw [e, Nat.add_mul]; omega)]
  congr 2
  rw [e, Nat.add_mul]; omega
theorem uQ {α : Type} {sz : Nat} : ∀ {rows : List (List α)} (i : Nat), (∀ r ∈ rows, r.length = sz) → (rows.drop i).flatten = rows.flatten.drop (i * sz)
 | [], i, _ => by simp
 | r :: rows, 0, h => by simp
 | r :: rows, i + 1, h => by
  have e := h r (by simp)
  rw [List.drop_succ_cons, List.flatten_cons, uQ i (fun r hr => h r (by simp [hr])), List.drop_append, List.drop_of_length_le (l := r) (by rw [e, Nat.add_mul]; omega), List.nil_append]
  congr 1
  rw [e, Nat.add_mul]; omega
theorem RowAt.shape {w wr : World} {b ty N : Nat} {F : List Value} (h : RowAt w wr b ty N F) : wr.shape? b = some (ty, N) := by
 obtain ⟨c, h1, h2, h3⟩ := h.cells
 simp [World.shape?, h1, h2]
theorem RowAt.pre {w wr : World} {b ty N : Nat} {F G : List Value} (h : RowAt w wr b ty N F) (hp : G <+: F) : RowAt w wr b ty N G := by
 obtain ⟨c, h1, h2, h3⟩ := h.cells
 exact ⟨⟨c, h1, h2, hp.trans h3⟩, h.grown⟩
end Go.Sx
end
section
namespace Go.Proofs.YtakopfjdmmnjcaaGreat
open Go Go.Sx Go.RowKit Go.Proofs Go.Lib
end Go.Proofs.YtakopfjdmmnjcaaGreat
end
section
set_option maxRecDepth 100000
namespace Go.Proofs.YtakopfjdmmnjcaaGreat
open Go Go.Sx Go.RowKit Go.Proofs
end Go.Proofs.YtakopfjdmmnjcaaGreat
end
section
set_option maxRecDepth 100000
set_option maxHeartbeats 4000000
namespace Go.Proofs.YtakopfjdmmnjcaaGreat
open Go Go.Sx Go.RowKit Go.Proofs
def b4I (s : ByteArray) (y : TAttr) : Bool := !dR y.fName s
def b4J (a : List TAttr) (x : TAttr) : Bool := a.any fun y => decide (y.fName = x.fName) && !vH y.fValue x.fValue
def b4K (a : List TAttr) (x : TAttr) : Bool := a.any fun y => decide (y.fName = x.fName)
def a8f (a : List TAttr) : List TAttr → List TAttr → Option (List TAttr)
 | l, [] => some l
 | l, x :: b => if b4J a x then none else if b4K a x then a8f a l b else a8f a (nU (fJ (b4I x.fName) l) x l) b
def b6t (a b : TEdit) : TEdit := if a.fOK && b.fOK then (match a8f a.fSet a.fSet b.fSet with | none => ⟨false, []⟩ | some l => ⟨true, l⟩) else ⟨false, []⟩
theorem mH {α β : Type} (f : α → β) (l : List α) (n : Nat) : (l.map f).take n = (l.take n).map f := List.map_take.symm
theorem mI {α β : Type} (f : α → β) (l : List α) (n : Nat) : (l.map f).drop n = (l.drop n).map f := List.map_drop.symm
end Go.Proofs.YtakopfjdmmnjcaaGreat
end
section
set_option maxRecDepth 100000
namespace Go.Sx
open Go Go.RowKit
structure DelK (k : Nat) (xs : List (List Value × Bool)) (i j : Nat) (F : List Value) : Prop where
 un : ∀ x ∈ xs, x.1.length = k
 len : F.length = xs.length * k
 ij : i < j
 jn : j ≤ xs.length
 lo : F.take (i * k) = (((xs.take j).filter fun x => !x.2).map (·.1)).flatten
 hi : F.drop (j * k) = ((xs.drop j).map (·.1)).flatten
 il : i = ((xs.take j).filter fun x => !x.2).length
theorem b0s {k : Nat} {xs : List (List Value × Bool)} (h : ∀ x ∈ xs, x.1.length = k) : ((xs.map (·.1)).flatten).length = xs.length * k := by
 rw [a6C (sz := k) fun r hr => by obtain ⟨x, hx, rfl⟩ := List.mem_map.1 hr; exact h x hx, List.length_map]
theorem DelK.at {k : Nat} {xs : List (List Value × Bool)} {i j : Nat} {F : List Value} (h : DelK k xs i j F) (hj : j < xs.length) {t : Nat} {v : Value} (ht : xs[j].1[t]? = some v) : F[j * k + t]? = some v := by
 have h0 : (F.drop (j * k))[t]? = ((xs.drop j).map (·.1)).flatten[t]? := by rw [h.hi]
 rw [List.getElem?_drop] at h0
 rw [h0, List.drop_eq_getElem_cons hj, List.map_cons, List.flatten_cons, List.getElem?_append_left (List.getElem?_eq_some_iff.1 ht).1]
 exact ht
theorem b2i (xs : List (List Value × Bool)) (k : Nat) (h : ∀ j (hj : j < xs.length), j < k → xs[j].2 = false) : (xs.take k).filter (fun x => !x.2) = xs.take k := by
 refine List.filter_eq_self.2 fun x hx => ?_
 obtain ⟨j, hj, rfl⟩ := List.mem_iff_getElem.1 hx
 simp only [List.length_take] at hj
 rw [List.getElem_take, h j (by omega) (by omega)]; rfl
theorem DelK.start {k n : Nat} {xs : List (List Value × Bool)} (hu : ∀ x ∈ xs, x.1.length = k) (hn : n < xs.length) (h : ∀ j (hj : j < xs.length), j < n → xs[j].2 = false) (hp : xs[n].2 = true) : DelK k xs n (n + 1) (xs.map (·.1)).flatten := by
 have e1 : (xs.take (n + 1)).filter (fun x => !x.2) = xs.take n := by
  rw [List.take_succ_eq_append_getElem hn, List.filter_append, b2i xs n h]
  simp [hp]
 have hu' : ∀ r ∈ xs.map (·.1), r.length = k := fun r hr => by obtain ⟨x, hx, rfl⟩ := List.mem_map.1 hr; exact hu x hx
 refine ⟨hu, b0s hu, by omega, by omega, ?_, ?_, ?_⟩
 ·rw [e1, List.map_take, a3K n hu']
 ·rw [List.map_drop, uQ (n + 1) hu']
 ·rw [e1]; simp; omega
theorem DelK.keep {k : Nat} {xs : List (List Value × Bool)} {i j : Nat} {F : List Value} (h : DelK k xs i j F) (hj : j < xs.length) (hp : xs[j].2 = false) : DelK k xs (i + 1) (j + 1) (F.take (i * k) ++ xs[j].1 ++ F.drop (i * k + xs[j].1.length)) := by
 have e1 : (xs.take (j + 1)).filter (fun x => !x.2) = (xs.take j).filter (fun x => !x.2) ++ [xs[j]] := by
  rw [List.take_succ_eq_append_getElem hj, List.filter_append]
  simp [hp]
 have hl := h.len
 have hij := h.ij
 have hu := h.un xs[j] (List.getElem_mem hj)
 have hle : (i + 1) * k ≤ j * k := Nat.mul_le_mul_right k hij
 have hle2 : (j + 1) * k ≤ xs.length * k := Nat.mul_le_mul_right k hj
 rw [Nat.add_mul] at hle hle2
 simp only [Nat.one_mul] at hle hle2
 have hFl : i * k + k ≤ F.length := by omega
 refine ⟨h.un, ?_, by omega, by omega, ?_, ?_, ?_⟩
 ·simp only [List.length_append, List.length_take, List.length_drop, hu]; omega
 ·rw [List.take_append_of_le_length (by simp [hu, Nat.add_mul]; omega), List.take_of_length_le (by simp [hu, Nat.add_mul]; omega), e1, List.map_append, List.flatten_append, h.lo]; simp
 ·rw [List.drop_append, List.drop_of_length_le (by simp [hu, Nat.add_mul]; omega), List.nil_append, List.drop_drop]
  have e2 : F.drop ((j + 1) * k) = ((xs.drop (j + 1)).map (·.1)).flatten := by
   have hu' : ∀ r ∈ (xs.drop j).map (·.1), r.length = k := fun r hr => by obtain ⟨x, hx, rfl⟩ := List.mem_map.1 hr; exact h.un x (List.mem_of_mem_drop hx)
   have := uQ 1 hu'
   rw [Nat.add_mul, ← List.drop_drop, h.hi, ← this, ← List.map_drop, List.drop_drop]
  rw [← e2]
  congr 1
  simp only [List.length_append, List.length_take, hu, Nat.add_mul]
  omega
 ·rw [e1, List.length_append, ← h.il]; rfl
theorem DelK.skip {k : Nat} {xs : List (List Value × Bool)} {i j : Nat} {F : List Value} (h : DelK k xs i j F) (hj : j < xs.length) (hp : xs[j].2 = true) : DelK k xs i (j + 1) F := by
 have e1 : (xs.take (j + 1)).filter (fun x => !x.2) = (xs.take j).filter (fun x => !x.2) := by
  rw [List.take_succ_eq_append_getElem hj, List.filter_append]
  simp [hp]
 have hij := h.ij
 refine ⟨h.un, h.len, by omega, by omega, by rw [e1]; exact h.lo, ?_, by rw [e1]; exact h.il⟩
 have hu' : ∀ r ∈ (xs.drop j).map (·.1), r.length = k := fun r hr => by obtain ⟨x, hx, rfl⟩ := List.mem_map.1 hr; exact h.un x (List.mem_of_mem_drop hx)
 have := uQ 1 hu'
 rw [Nat.add_mul, ← List.drop_drop, h.hi, ← this, ← List.map_drop, List.drop_drop]
theorem DelK.fin {k : Nat} {xs : List (List Value × Bool)} {i : Nat} {F : List Value} (h : DelK k xs i xs.length F) : F.take (i * k) = ((xs.filter fun x => !x.2).map (·.1)).flatten ∧ i = (xs.filter fun x => !x.2).length := by
 have h1 := h.lo
 have h2 := h.il
 rw [List.take_length] at h1 h2
 exact ⟨h1, h2⟩
theorem RowAt.other {w wr W : World} {b ty N : Nat} {F : List Value} (h : RowAt w wr b ty N F) (hb : Below wr.heap.size wr W) : RowAt w W b ty N F := h.behind hb
def b4L {τ : Type} (k : Nat) (p : τ → Bool) : List Value → List τ → List (List Value × Bool)
 | _, [] => []
 | ys, x :: l => (ys.take k, p x) :: b4L k p (ys.drop k) l
def b3u {α τ : Type} (k : Nat) (p : τ → Bool) : List α → List τ → List α
 | _, [] => []
 | ys, x :: l => (if p x then [] else ys.take k) ++ b3u k p (ys.drop k) l
theorem LayL.sel {τ : Type} {V : View} {k : Nat} (enc : τ → List D) (p : τ → Bool) (he : ∀ x, (enc x).length = k) : ∀ (l : List τ) (ys : List Value) (Ss : List (List Nat)), LayL V (l.map enc).flatten ys Ss → LayL V ((l.filter fun x => !p x).map enc).flatten (b3u k p ys l) (b3u k p Ss l)
 | [], ys, Ss, h => LayL.nil V
 | x :: l, ys, Ss, h => by
  have h1 := h.take k
  have h2 := h.drop k
  simp only [List.map_cons, List.flatten_cons] at h1 h2
  rw [List.take_left' (he x)] at h1
  rw [List.drop_left' (he x)] at h2
  have ih := LayL.sel enc p he l _ _ h2
  simp only [b3u, List.filter_cons]
  cases p x
  ·simp only [Bool.not_false, if_true, Bool.false_eq_true, if_false, List.map_cons, List.flatten_cons]
   exact h1.append ih
  ·simp only [Bool.not_true, Bool.false_eq_true, if_false, if_true, List.nil_append]
   exact ih
end Go.Sx
end
section
namespace Go.Proofs.YtakopfjdmmnjcaaGreat
open Go Go.Sx Go.RowKit Go.Proofs Go.Lib
end Go.Proofs.YtakopfjdmmnjcaaGreat
end
section
set_option maxRecDepth 100000
set_option maxHeartbeats 4000000
namespace Go.Proofs.YtakopfjdmmnjcaaGreat
open Go Go.Sx Go.RowKit Go.Proofs
def b4F (s : ByteArray) (y : TAttr) : Bool := decide (y.fName = s)
def b4G (s : ByteArray) (y : TAttr) : Bool := !(dR y.fName s || decide (y.fName = s))
def b4H (s : ByteArray) (l : List TAttr) : List TAttr := l.filter fun y => !b4F s y
def b5G (s : ByteArray) (v : TValue) (l : List TAttr) : List TAttr := if v.fKind = 0 then b4H s l else nU (fJ (b4G s) (b4H s l)) ⟨s, v⟩ (b4H s l)
def b6P (f : TFile) (s : ByteArray) (v : TValue) : TFile := { f with fAttrs := b5G s v f.fAttrs }
def b4E (l : List TAttr) (e : List TAttr) : List TAttr := e.foldl (fun l a => b5G a.fName a.fValue l) l
def b6s (f : TFile) (e : TEdit) : TFile := { f with fAttrs := b4E f.fAttrs e.fSet }
def b6M (f : TFile) (u : Int) : Bool := inB u 0 2 && decide (f.fOwner = u)
def zJ (f : TFile) (u : Int) : Bool := inB u 0 2 && (decide (f.fOwner = u) || f.fShared)
theorem a0m (f : TFile) (u : Int) : FnC Tryz.prog 80 [jC f, oi u] (ob (zJ f u)) := by
 refine ent Tryz.func80 rfl Tryz.call80 rfl (fun C => ?_); simp only [go_sem, st0, Tryz.ntmps80]
 cases h : inB u 0 2
 ·have q0 := @h; refine iU (iN u) ?_
  exact aA ⟨⟨_, rfl, by simp only [go_sem, zJ, h, Bool.false_and]⟩, trivial⟩
 by_cases h2 : f.fOwner = u
 ·have q0 := @h; have q1 := @h2; have q2 := @decide_true; refine kG (iN u) ?_
  exact aA ⟨⟨_, rfl, by simp only [go_sem, zJ, h, h2, decide_true, Bool.true_and, Bool.true_or]⟩, trivial⟩
 ·have q0 := @h; have q1 := @h2; have q2 := @decide_false; refine kG (iN u) ?_
  exact aA ⟨⟨_, rfl, by simp only [go_sem, zJ, h, h2, decide_false, Bool.true_and, Bool.false_or]⟩, trivial⟩
theorem a0n (f : TFile) (u : Int) : FnC Tryz.prog 65 [jC f, oi u] (ob (zJ f u)) := by
 refine ent Tryz.func65 rfl Tryz.call65 rfl (fun C => ?_); simp only [go_sem, st0, Tryz.ntmps65]
 cases h : inB u 0 2
 ·have q0 := @h; refine iU (bE u 0 2) ?_
  exact aA ⟨⟨_, rfl, by simp only [go_sem, zJ, h, Bool.false_and]⟩, trivial⟩
 by_cases h2 : f.fOwner = u
 ·have q0 := @h; have q1 := @h2; have q2 := @decide_true; refine kG (bE u 0 2) ?_
  exact aA ⟨⟨_, rfl, by simp only [go_sem, zJ, h, h2, decide_true, Bool.true_and, Bool.true_or]⟩, trivial⟩
 ·have q0 := @h; have q1 := @h2; have q2 := @decide_false; refine kG (bE u 0 2) ?_
  exact aA ⟨⟨_, rfl, by simp only [go_sem, zJ, h, h2, decide_false, Bool.true_and, Bool.false_or]⟩, trivial⟩
def visF (u : Int) (l : List TFile) : List TFile := l.filter fun f => zJ f u
def b1k (f : TFile) : TFile := ⟨f.fID, f.fOwner, f.fShared, 0, f.fAttrs⟩
def qY (L : List TFile) (f : TFile) : TFile := if 0 ≤ ixF f.fLink L then f else b1k f
def lU (L : List TFile) (k : Nat) : List TFile := (L.take k).map (qY L) ++ L.drop k
def vis (s : TStore) (u : Int) : TStore := ⟨s.fSchema, (visF u s.fFiles).map (qY (visF u s.fFiles)), s.fNextID⟩
theorem a3p (u : Int) (l : List TFile) (k : Nat) (h : k < l.length) : visF u (l.take (k + 1)) = visF u (l.take k) ++ (if zJ l[k] u then [l[k]] else []) := by
 simp only [visF, List.take_succ_eq_append_getElem h, List.filter_append, List.filter_cons, List.filter_nil]
theorem tC (u : Int) (l : List TFile) : (visF u l).length ≤ l.length := List.length_filter_le _ _
theorem a8D (id : Int) : ∀ (l m : List TFile) (k : Nat), l.map TFile.fID = m.map TFile.fID → idxP (fun f : TFile => decide (f.fID = id)) l k = idxP (fun f : TFile => decide (f.fID = id)) m k
 | [], [], _, _ => rfl
 | [], _ :: _, _, h => by simp at h
 | _ :: _, [], _, h => by simp at h
 | x :: l, y :: m, k, h => by
  simp only [List.map_cons, List.cons.injEq] at h
  unfold idxP
  rw [h.1, a8D id l m (k + 1) h.2]
theorem a8E {l m : List TFile} (id : Int) (h : l.map TFile.fID = m.map TFile.fID) : ixF id l = ixF id m := a8D id l m 0 h
theorem b2T (L : List TFile) (f : TFile) : (qY L f).fID = f.fID := by unfold qY; split <;> rfl
theorem a1D (L : List TFile) (k : Nat) : (lU L k).map TFile.fID = L.map TFile.fID := by
 unfold lU
 rw [List.map_append, List.map_map]
 have : (TFile.fID ∘ qY L) = TFile.fID := funext fun f => b2T L f
 rw [this, ← List.map_append, List.take_append_drop]
theorem a1E (L : List TFile) (k : Nat) : (lU L k).length = L.length := by
 have := congrArg List.length (a1D L k)
 simpa using this
theorem a8F (L : List TFile) (k : Nat) (h : k < L.length) : (lU L k)[k]'(by rw [a1E]; exact h) = L[k] := by
 unfold lU
 rw [List.getElem_append_right (by simp; omega), List.getElem_drop]
 congr 1
 simp; omega
theorem a3q (L : List TFile) (k : Nat) (h : k < L.length) : lU L (k + 1) = (lU L k).set k (qY L L[k]) := by
 unfold lU
 rw [List.take_succ_eq_append_getElem h, List.map_append, List.set_append_right _ _ (by simp; omega)]
 have e : k - ((L.take k).map (qY L)).length = 0 := by simp; omega
 rw [e, List.drop_eq_getElem_cons h, List.set_cons_zero, List.append_assoc]
 rfl
theorem a5I (L : List TFile) : lU L L.length = L.map (qY L) := by simp [lU]
theorem b4o (L : List TFile) (f : TFile) : wFile (qY L f) = wFile f := by unfold qY; split <;> rfl
theorem a5J {α : Type} (w : α → Nat) (g : α → α) (h : ∀ x, w (g x) = w x) : ∀ l : List α, wsum w (l.map g) = wsum w l
 | [] => rfl
 | x :: l => by simp only [List.map_cons, wsum, h, a5J w g h l]
theorem a0i {α : Type} (w : α → Nat) (p : α → Bool) : ∀ l : List α, wsum w (l.filter p) ≤ wsum w l
 | [] => by simp [wsum]
 | x :: l => by
  have := a0i w p l
  rw [List.filter_cons]
  split <;> simp only [wsum] <;> omega
theorem a5K (s : TStore) (u : Int) : wStore (vis s u) ≤ wStore s := by
 have h1 := tC u s.fFiles
 have h2 := a0i wFile (fun f => zJ f u) s.fFiles
 have h3 := a5J wFile (qY (visF u s.fFiles)) (b4o _) (visF u s.fFiles)
 unfold wStore dO vis
 simp only [List.length_map, h3]
 unfold visF at *
 omega
theorem a7x (s : TStore) (u : Int) (h : wStore s ≤ 4300000) : FnC Tryz.prog 37 [cB s, oi u] (a7K (vis s u)) := by
 have h1 : s.fSchema.length ≤ 4300000 := by unfold wStore aL at h; omega
 have h2 : s.fFiles.length + wsum wFile s.fFiles ≤ 4300000 := by unfold wStore dO at h; omega
 refine ent Tryz.func37 rfl Tryz.call37 rfl (fun C => ?_); simp only [go_sem, st0, Tryz.ntmps37]
 have qH := trivial; repeat' (with_reducible first | refine nY ?_ | (refine mX ?_; try simp only [go_sem]) | refine kD ?_ | (apply rE [2,6,7] [] [0,1,3,4] [0,1,3,4] ((.c 2 [5] [3,4,5] (.c 6 [] [3,4,5] (.c 7 [] [] .n .n) .n) (.c 6 [] [0,1,3,4] (.c 2 [5] [3,4,5] (.c 7 [] [] .n .n) .n) .n))) (by simp only [go_sem]; rfl) (by simp only [go_sem]; rfl) (by simp only [go_sem]; rfl) (by decide +kernel); (focus simp only [go_sem]; done)) | exact iV | refine fU (uX ?_) ?_ | refine fV (aX ?_) ?_ | refine fZ (aX ?_) ?_ | exact jE | (refine a8P [(2, 3)] (by simp only [go_sem]; rfl) ?_; exact rfl) | exact oH | (refine uA ?_; simp only [go_sem]; (repeat' first | omega | refine And.intro ?_ ?_); done) | refine rD ?_ | refine cP (a2C s.fSchema h1) ?_ | refine aO ?_ | fail)
 refine a8l 3 1 69 5 rfl rfl ?_
 simp only [go_sem]
 refine aM (α := Nat) (fun k => [(19, oi k)]) (fun k => [(4, .row 69 5 ((visF u (s.fFiles.take k)).map bQ) true)]) (fun k => k ≤ s.fFiles.length) (fun k => s.fFiles.length - k) 0 (fun _ => ?_) ?_ ?_ (fun k hk => ?_)
 ·simp only [go_sem]
 ·simp only [go_sem]; simp [visF]
 ·simp
 ·simp only [go_sem]
  refine aD ?_
  refine cnd rfl (fun h3 => ?_) (fun h3 => ?_)
  ·simp only [decide_eq_true_eq, Int.ofNat_lt] at h3
   have hw := bB wFile s.fFiles h3
   have hx : s.fFiles[k].fAttrs.length ≤ 4300000 := by
    have e : s.fFiles[k].fAttrs.length ≤ wFile s.fFiles[k] := by unfold wFile dV; omega
    omega
   have ht := a3p u s.fFiles k h3
   have hn : (visF u (s.fFiles.take k)).length ≤ 4300000 := by have := tC u (s.fFiles.take k); simp at this; omega
   cases hc : zJ s.fFiles[k] u
   ·rw [hc] at ht
    have q0 := @h3; have q1 := @hc; refine qX (a0m s.fFiles[k] u) ?_
    refine aF (k + 1) ?_ ?_ ?_
    ·simp only [go_sem, ht]; simp
    ·omega
    ·omega
   ·rw [hc] at ht
    have qH := aI @h3 @hc; repeat' (with_reducible first | refine nY ?_ | (refine mX ?_; try simp only [go_sem, qH]) | refine kD ?_ | (apply rE [3,4,5,7] [] [0,1,2] [0,1,2] ((.c 3 [] [0,1] (.c 4 [] [0,1] (.c 5 [6] [6] (.c 7 [] [] .n .n) .n) .n) .n)) (by simp only [go_sem]; rfl) (by simp only [go_sem]; rfl) (by simp only [go_sem]; rfl) (by decide +kernel); (focus simp only [go_sem]; done)) | exact iV | refine fU (uX ?_) ?_ | refine fV (aX ?_) ?_ | refine fZ (aX ?_) ?_ | exact jE | exact oH | exact uB | refine rD ?_ | refine cP (a0m s.fFiles[k] u) ?_ | refine cP (a3x s.fFiles[k] hx) ?_ | refine aO ?_ | fail)
    refine aF (k + 1) ?_ ?_ ?_
    ·simp only [go_sem, ht, List.map_append]; simp [bQ]
    ·omega
    ·omega
  ·simp only [decide_eq_false_iff_not] at h3
   have e : k = s.fFiles.length := by omega
   subst e
   rw [List.take_length]
   have hL : (visF u s.fFiles).length ≤ 4300000 := by have := tC u s.fFiles; omega
   unfold vis
   generalize visF u s.fFiles = L at *
   refine aD ?_
   refine aM (α := Nat) (fun k => [(37, oi k)]) (fun k => [(4, .row 69 5 ((lU L k).map bQ) true)]) (fun k => k ≤ L.length) (fun k => L.length - k) 0 (fun _ => ?_) ?_ ?_ (fun k hk => ?_)
   ·simp only [go_sem]
   ·simp only [go_sem]; simp [lU]
   ·simp
   ·simp only [go_sem]
    have hln := a1E L k
    have q0 := @hln; refine iB ?_
    refine cnd rfl (fun h4 => ?_) (fun h4 => ?_)
    ·simp only [decide_eq_true_eq, Int.ofNat_lt] at h4
     have h4' : k < (lU L k).length := by omega
     have hat := a8F L k h4
     have hst := a3q L k h4
     have hfa := yZ ⟨s.fSchema, lU L k, s.fNextID⟩ L[k].fLink (by simp only; omega)
     rw [show ixF L[k].fLink (TStore.fFiles ⟨s.fSchema, lU L k, s.fNextID⟩) = ixF L[k].fLink L from a8E _ (a1D L k)] at hfa
     rcases ixF_cases L[k].fLink L with e | ⟨p, e, _⟩
     ·have hy : (-1 : Int) < 0 := by omega
      have hfx : qY L L[k] = b1k L[k] := by unfold qY; rw [if_neg (by omega)]
      rw [e] at hfa
      rw [hfx] at hst
      have qH := aI @h4 (aI @h4' (aI @hat (aI @hy @decide_true))); repeat' (with_reducible first | refine nY ?_ | (refine mX ?_; try simp only [go_sem, qH]) | refine kD ?_ | refine rD ?_ | refine vL hfa ?_ | refine aO ?_ | fail)
      refine aF (k + 1) ?_ ?_ ?_
      ·simp only [go_sem, hst]; simp [bQ, b1k]
      ·omega
      ·omega
     ·have hy : ¬ (p : Int) < 0 := by omega
      have hfx : qY L L[k] = L[k] := by unfold qY; rw [if_pos (by omega)]
      rw [e] at hfa
      rw [hfx] at hst
      have hsame : (lU L k).set k L[k] = lU L k := by rw [← hat]; exact List.set_getElem_self _
      rw [hsame] at hst
      have qH := aI @h4 (aI @h4' (aI @hat (aI @hy @decide_false))); repeat' (with_reducible first | refine nY ?_ | (refine mX ?_; try simp only [go_sem, qH]) | refine kD ?_ | refine rD ?_ | refine vL hfa ?_ | refine aO ?_ | fail)
      refine aF (k + 1) ?_ ?_ ?_
      ·simp only [go_sem, hst]; simp
      ·omega
      ·omega
    ·simp only [decide_eq_false_iff_not] at h4
     have e : k = L.length := by omega
     subst e
     rw [a5I]
     refine aD ?_
     exact aA ⟨⟨_, rfl, by simp only [go_sem]⟩, trivial⟩
theorem a7y (s : TStore) (u : Int) (h : wStore s ≤ 4300000) : FnC Tryz.prog 30 [cB s, oi u] (a7K (vis s u)) := by
 have h1 : s.fSchema.length ≤ 4300000 := by unfold wStore aL at h; omega
 have h2 : s.fFiles.length + wsum wFile s.fFiles ≤ 4300000 := by unfold wStore dO at h; omega
 refine ent Tryz.func30 rfl Tryz.call30 rfl (fun C => ?_); simp only [go_sem, st0, Tryz.ntmps30]
 have qH := trivial; repeat' (with_reducible first | refine nY ?_ | (refine mX ?_; try simp only [go_sem]) | refine kD ?_ | (apply rE [0,3,7,8] [] [1,2,4,5] [1,2,4,5] ((.c 0 [] [1,2,4,5] (.c 3 [6] [4,5,6] (.c 7 [] [4,5,6] (.c 8 [] [] .n .n) .n) (.c 7 [] [1,2,4,5] (.c 3 [6] [4,5,6] (.c 8 [] [] .n .n) .n) .n)) (.c 7 [] [1,2,4,5] (.c 0 [] [1,2,4,5] (.c 3 [6] [4,5,6] (.c 8 [] [] .n .n) .n) .n) .n))) (by simp only [go_sem]; rfl) (by simp only [go_sem]; rfl) (by simp only [go_sem]; rfl) (by decide +kernel); (focus simp only [go_sem]; done)) | exact iV | refine fU (uX ?_) ?_ | refine fV (aX ?_) ?_ | refine fZ (aX ?_) ?_ | exact jE | (refine a8P [(2, 3)] (by simp only [go_sem]; rfl) ?_; exact rfl) | exact oH | (refine uA ?_; simp only [go_sem]; (repeat' first | omega | refine And.intro ?_ ?_); done) | refine rD ?_ | refine aO ?_ | fail)
 refine a8l 3 1 69 5 rfl rfl ?_
 simp only [go_sem]
 refine aM (α := Nat) (fun k => [(6, oi k)]) (fun k => [(4, .row 69 5 ((visF u (s.fFiles.take k)).map bQ) true)]) (fun k => k ≤ s.fFiles.length) (fun k => s.fFiles.length - k) 0 (fun _ => ?_) ?_ ?_ (fun k hk => ?_)
 ·simp only [go_sem]
 ·simp only [go_sem]; simp [visF]
 ·simp
 ·simp only [go_sem]
  refine aD ?_
  refine cnd rfl (fun h3 => ?_) (fun h3 => ?_)
  ·simp only [decide_eq_true_eq, Int.ofNat_lt] at h3
   have hw := bB wFile s.fFiles h3
   have hx : s.fFiles[k].fAttrs.length ≤ 4300000 := by
    have e : s.fFiles[k].fAttrs.length ≤ wFile s.fFiles[k] := by unfold wFile dV; omega
    omega
   have ht := a3p u s.fFiles k h3
   have hn : (visF u (s.fFiles.take k)).length ≤ 4300000 := by have := tC u (s.fFiles.take k); simp at this; omega
   cases hc : zJ s.fFiles[k] u
   ·rw [hc] at ht
    have q0 := @h3; have q1 := @hc; refine qX (a0n s.fFiles[k] u) ?_
    refine aF (k + 1) ?_ ?_ ?_
    ·simp only [go_sem, ht]; simp
    ·omega
    ·omega
   ·rw [hc] at ht
    have qH := aI @h3 @hc; repeat' (with_reducible first | refine nY ?_ | (refine mX ?_; try simp only [go_sem, qH]) | refine kD ?_ | (apply rE [7,8,9,11] [] [0,1,2,3,4,5,6] [0,1,2,3,4,5,6] ((.c 7 [] [0,1] (.c 8 [] [0,1] (.c 9 [10] [10] (.c 11 [] [] .n .n) .n) .n) .n)) (by simp only [go_sem]; rfl) (by simp only [go_sem]; rfl) (by simp only [go_sem]; rfl) (by decide +kernel); (focus simp only [go_sem]; done)) | exact iV | refine fU (uX ?_) ?_ | refine fV (aX ?_) ?_ | refine fZ (aX ?_) ?_ | exact jE | exact oH | exact uB | refine rD ?_ | refine cP (a0n s.fFiles[k] u) ?_ | refine cP (a5V s.fFiles[k] hx) ?_ | refine aO ?_ | fail)
    refine aF (k + 1) ?_ ?_ ?_
    ·simp only [go_sem, ht, List.map_append]; simp [bQ]
    ·omega
    ·omega
  ·simp only [decide_eq_false_iff_not] at h3
   have e : k = s.fFiles.length := by omega
   subst e
   rw [List.take_length]
   have hL : (visF u s.fFiles).length ≤ 4300000 := by have := tC u s.fFiles; omega
   unfold vis
   generalize visF u s.fFiles = L at *
   refine aD ?_
   refine aM (α := Nat) (fun k => [(7, oi k)]) (fun k => [(4, .row 69 5 ((lU L k).map bQ) true)]) (fun k => k ≤ L.length) (fun k => L.length - k) 0 (fun _ => ?_) ?_ ?_ (fun k hk => ?_)
   ·simp only [go_sem]
   ·simp only [go_sem]; simp [lU]
   ·simp
   ·simp only [go_sem]
    have hln := a1E L k
    have q0 := @hln; refine iB ?_
    refine cnd rfl (fun h4 => ?_) (fun h4 => ?_)
    ·simp only [decide_eq_true_eq, Int.ofNat_lt] at h4
     have h4' : k < (lU L k).length := by omega
     have hat := a8F L k h4
     have hst := a3q L k h4
     have hfa := tF ⟨s.fSchema, lU L k, s.fNextID⟩ L[k].fLink (by simp only; omega)
     rw [show ixF L[k].fLink (TStore.fFiles ⟨s.fSchema, lU L k, s.fNextID⟩) = ixF L[k].fLink L from a8E _ (a1D L k)] at hfa
     rcases ixF_cases L[k].fLink L with e | ⟨p, e, _⟩
     ·have hy : (-1 : Int) < 0 := by omega
      have hfx : qY L L[k] = b1k L[k] := by unfold qY; rw [if_neg (by omega)]
      rw [e] at hfa
      rw [hfx] at hst
      have qH := aI @h4 (aI @h4' (aI @hat (aI @hy @decide_true))); repeat' (with_reducible first | refine nY ?_ | (refine mX ?_; try simp only [go_sem, qH]) | refine kD ?_ | refine rD ?_ | refine vO hfa ?_ | refine vQ hfa ?_ | refine aO ?_ | fail)
      refine aF (k + 1) ?_ ?_ ?_
      ·simp only [go_sem, hst]; simp [bQ, b1k]
      ·omega
      ·omega
     ·have hy : ¬ (p : Int) < 0 := by omega
      have hfx : qY L L[k] = L[k] := by unfold qY; rw [if_pos (by omega)]
      rw [e] at hfa
      rw [hfx] at hst
      have hsame : (lU L k).set k L[k] = lU L k := by rw [← hat]; exact List.set_getElem_self _
      rw [hsame] at hst
      have qH := aI @h4 (aI @h4' (aI @hat (aI @hy @decide_false))); repeat' (with_reducible first | refine nY ?_ | (refine mX ?_; try simp only [go_sem, qH]) | refine kD ?_ | refine rD ?_ | refine vO hfa ?_ | refine vQ hfa ?_ | refine aO ?_ | fail)
      refine aF (k + 1) ?_ ?_ ?_
      ·simp only [go_sem, hst]; simp
      ·omega
      ·omega
    ·simp only [decide_eq_false_iff_not] at h4
     have e : k = L.length := by omega
     subst e
     rw [a5I]
     refine aD ?_
     exact aA ⟨⟨_, rfl, by simp only [go_sem]⟩, trivial⟩
def okU (s : TStore) (u : Int) : Bool := cO s && inB u 0 2
noncomputable def evU (s : TStore) (d : List TDir) (u : Int) : List TResult := if okU s u then (evX (vis s u) d [] (dirNs d)).1 else []
noncomputable def a2z (s : TStore) (d : List TDir) (u : Int) : Bool := okU s u && evB (vis s u) d
theorem a0g (s : TStore) (u : Int) (h : wStore s ≤ 4300000) : FnC Tryz.prog 37 [cB s, oi u] (cB (vis s u)) := (a7x s u h).pu (by simp only [go_sem, and_self])
theorem a0h (s : TStore) (u : Int) (h : wStore s ≤ 4300000) : FnC Tryz.prog 30 [cB s, oi u] (cB (vis s u)) := (a7y s u h).pu (by simp only [go_sem, and_self])
theorem a7t (s : TStore) (d : List TDir) (u : Int) (hs : wStore s ≤ 4300000) (hd : dM d ≤ 4300000) : FnC Tryz.prog 83 [cB s, .o (.d (.sl (d.map bH))), oi u] (.t [(false, [.w 169 2 ((evU s d u).map aQ)]), (false, [.d (bv (a2z s d u))])]) := by
 have hw := a5K s u
 refine ent Tryz.func83 rfl Tryz.call83 rfl (fun C => ?_); simp only [go_sem, st0, Tryz.ntmps83]
 cases h1 : cO s
 ·have e : okU s u = false := by simp [okU, h1]
  have q0 := @h1; refine iU (jV s hs) ?_
  exact aA ⟨⟨_, rfl, by simp only [go_sem, evU, a2z, e, Bool.false_and, Bool.false_eq_true, if_false, List.map_nil]; try simp⟩, by simp [dN]⟩
 cases h2 : inB u 0 2
 ·have e : okU s u = false := by simp [okU, h2]
  have q0 := @h1; have q1 := @h2; refine yU (jV s hs) (iN u) ?_
  exact aA ⟨⟨_, rfl, by simp only [go_sem, evU, a2z, e, Bool.false_and, Bool.false_eq_true, if_false, List.map_nil]; try simp⟩, by simp [dN]⟩
 ·have e : okU s u = true := by simp [okU, h1, h2]
  have q0 := @h1; have q1 := @h2; refine b2Q (jV s hs) (iN u) (a0g s u hs) (a6w (vis s u) d (by omega) hd) ?_
  exact aA ⟨⟨_, rfl, by simp only [go_sem, evU, a2z, e, Bool.true_and, if_true]; try simp⟩, by simp [dN]⟩
theorem a7u (s : TStore) (d : List TDir) (u : Int) (hs : wStore s ≤ 4300000) (hd : dM d ≤ 4300000) : FnC Tryz.prog 88 [cB s, .o (.d (.sl (d.map bH))), oi u] (.t [(false, [.w 169 2 ((evU s d u).map aQ)]), (false, [.d (bv (a2z s d u))])]) := by
 have hw := a5K s u
 refine ent Tryz.func88 rfl Tryz.call88 rfl (fun C => ?_); simp only [go_sem, st0, Tryz.ntmps88]
 cases h2 : inB u 0 2
 ·have e : okU s u = false := by simp [okU, h2]
  have q0 := @h2; refine a7r (jW s hs) (bE u 0 2) ?_
  exact aA ⟨⟨_, rfl, by simp only [go_sem, evU, a2z, e, Bool.false_and, Bool.false_eq_true, if_false, List.map_nil]; try simp⟩, by simp [dN]⟩
 cases h1 : cO s
 ·have e : okU s u = false := by simp [okU, h1]
  have q0 := @h1; have q1 := @h2; refine yU (jW s hs) (bE u 0 2) ?_
  exact aA ⟨⟨_, rfl, by simp only [go_sem, evU, a2z, e, Bool.false_and, Bool.false_eq_true, if_false, List.map_nil]; try simp⟩, by simp [dN]⟩
 ·have e : okU s u = true := by simp [okU, h1, h2]
  have q0 := @h1; have q1 := @h2; refine b2Q (jW s hs) (bE u 0 2) (a0h s u hs) (a6x (vis s u) d (by omega) hd) ?_
  exact aA ⟨⟨_, rfl, by simp only [go_sem, evU, a2z, e, Bool.true_and, if_true]; try simp⟩, by simp [dN]⟩
theorem a5G (s : TStore) (d : List TDir) (u : Int) (hs : wStore s ≤ 4300000) (hd : dM d ≤ 4300000) : FnC Tryz.prog 83 [cB s, .o (.d (.sl (d.map bH))), oi u] (.t [(false, [.d (.sl ((evU s d u).map aQ))]), (false, [.d (bv (a2z s d u))])]) := (a7t s d u hs hd).pu (by simp only [go_sem, and_self])
theorem a5H (s : TStore) (d : List TDir) (u : Int) (hs : wStore s ≤ 4300000) (hd : dM d ≤ 4300000) : FnC Tryz.prog 88 [cB s, .o (.d (.sl (d.map bH))), oi u] (.t [(false, [.d (.sl ((evU s d u).map aQ))]), (false, [.d (bv (a2z s d u))])]) := (a7u s d u hs hd).pu (by simp only [go_sem, and_self])
theorem b3C (s : TStore) (d : List TDir) (u : Int) : aW (evU s d u) ≤ 95 := by
 unfold evU
 split
 ·exact b4A _ _
 ·simp [aW, wsum]
noncomputable def a4s (s : TStore) (d : List TDir) (u : Int) (n : ByteArray) : List Int := bF n (evU s d u)
theorem a7v (s : TStore) (d : List TDir) (u : Int) (n : ByteArray) (hs : wStore s ≤ 4300000) (hd : dM d ≤ 4300000) : FnC Tryz.prog 38 [cB s, .o (.d (.sl (d.map bH))), oi u, os n] (.o (.d (.sl ((a4s s d u n).map fA)))) := by
 have hw := b3C s d u
 refine ent Tryz.func38 rfl Tryz.call38 rfl (fun C => ?_); simp only [go_sem, st0, Tryz.ntmps38]
 refine b1g (a5G s d u hs hd) (jZ (evU s d u) n (by omega)) ?_
 exact aA ⟨⟨_, rfl, by simp only [go_sem, a4s]⟩, trivial⟩
theorem a7w (s : TStore) (d : List TDir) (u : Int) (n : ByteArray) (hs : wStore s ≤ 4300000) (hd : dM d ≤ 4300000) : FnC Tryz.prog 40 [cB s, .o (.d (.sl (d.map bH))), oi u, os n] (.o (.d (.sl ((a4s s d u n).map fA)))) := by
 have hw := b3C s d u
 refine ent Tryz.func40 rfl Tryz.call40 rfl (fun C => ?_); simp only [go_sem, st0, Tryz.ntmps40]
 refine b1g (a5H s d u hs hd) (kC (evU s d u) n (by omega)) ?_
 exact aA ⟨⟨_, rfl, by simp only [go_sem, a4s]⟩, trivial⟩
noncomputable def isL (s : TStore) (d : List TDir) (u : Int) (n : ByteArray) (id : Int) : Bool := hasI (a4s s d u n) id
def zD : TDir := ⟨⟨#[]⟩, []⟩
def b6v (d : List TDir) (n : ByteArray) : TDir := if 0 ≤ placeD d n then d.getD (placeD d n).toNat zD else zD
def b6I (d : List TDir) (n : ByteArray) : Bool := decide (0 ≤ placeD d n)
end Go.Proofs.YtakopfjdmmnjcaaGreat
end
