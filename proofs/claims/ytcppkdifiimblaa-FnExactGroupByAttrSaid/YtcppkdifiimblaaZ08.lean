/- Joined texts. -/
import Derived.Test.YtcppkdifiimblaaZ07
import Derived.Test.YtcppkdifiimblaaZ04
import Derived.Sort.Row
import Derived.Sort.Grow
import Derived.Shelf.RegionOpenPlain
import Derived.WalkKit
import Derived.Deep.LoopGhost
import Derived.Deep.Draws
import Derived.Lib.Walk
import Derived.Lib.SliceRun
import Derived.Shelf.SlicesE.Kit
import Derived.Shelf.SlicesE.DeleteFunc
import Derived.Test.YtcppkdifiimblaaZ06
import Derived.Ground.NamesProg
import Derived.Ground.Names2Prog
import Derived.Shelf.Sort.Plain
import Derived.Shelf.Slices.In.SortNone
import Derived.Shelf.Slices.CompactI
import Derived.Shelf.Slices.CompactS
import Derived.Test.YtcppkdifiimblaaProg
import Derived.Shelf.SlGeneric
import Derived.Shelf.SlSortCmp.KitK
import Derived.Shelf.SlicesQ.IndexFunc
import Derived.Ground.SlsfProg
import Derived.Ground.SlgfProg
import Derived.Sort.Walk0
set_option linter.all false
section
set_option maxRecDepth 100000
set_option maxHeartbeats 4000000
namespace Go.Proofs.Ytcppkdifiimblaa
open Go Go.Sx Go.RowKit Go.Proofs
def eV (v : TValue) : Bool := decide (v.fKind = 0) && (decide (v.fInt = 0) && decide (v.fStr = ⟨#[]⟩))
def a7P (n : TNode) (i : Nat) : Bool := inB n.fLeft 0 ((i : Int) - 1) && decide (0 < (i : Int))
def a8P (n : TNode) (i : Nat) : Bool := inB n.fRight 0 ((i : Int) - 1)
def uZ (n : TNode) : Bool := decide (n.fLeft = 0) && decide (n.fRight = 0)
def a1F (n : TNode) : Bool := decide (n.fName = ⟨#[]⟩) && eV n.fValue
def a6V (n : TNode) (i : Nat) : Bool :=
 if n.fOp = 1 then uZ n && a1F n
 else if n.fOp = 2 then oC n.fName 1 && (uZ n && eV n.fValue)
 else if n.fOp = 3 then oC n.fName 1 && (a4H n.fValue && (!decide (n.fValue.fKind = 0) && uZ n))
 else if n.fOp = 4 then oC n.fName 1 && (a4H n.fValue && (decide (n.fValue.fKind = 1) && uZ n))
 else if n.fOp = 5 then a7P n i && (decide (n.fRight = 0) && a1F n)
 else if n.fOp = 6 ∨ n.fOp = 7 then a7P n i && (a8P n i && a1F n)
 else if n.fOp = 8 ∨ n.fOp = 9 then oC n.fName 6 && (uZ n && eV n.fValue)
 else false
def a8Q (q : List TNode) (i : Nat) : Bool := match q[i]? with
 | none => true
 | some n => a6V n i && (decide (q.length ≤ i + 1) || decide (a7Q q i = 1))
def okQ (q : List TNode) : Bool := (List.range q.length).all (a8Q q) && inB (q.length : Int) 1 9
def a4E {α : Type} (g : α → ByteArray) (l : List α) (k : Nat) : Bool := decide (k = 0) || (match l[k - 1]?, l[k]? with
 | some p, some x => dH (g p) (g x)
 | _, _ => true)
def a8N (l : List TFile) (k : Nat) : Bool := decide (k = 0) || (match l[k - 1]?, l[k]? with
 | some p, some x => !decide (x.fID ≤ p.fID)
 | _, _ => true)
def xM (s : ByteArray) : List TField → Int
 | [] => 0
 | f :: l => if f.fName = s then f.fKind else xM s l
def a3l (s : List TField) (k : Nat) : Bool := match s[k]? with
 | none => true
 | some f => oC f.fName 1 && (inB f.fKind 1 2 && a4E TField.fName s k)
def a0E (s : List TField) : Bool := (List.range s.length).all (a3l s) && decide ((s.length : Int) ≤ 5)
def a6U (s : List TField) (n : ByteArray) (v : TValue) : Bool := a4H v && (!decide (v.fKind = 0) && decide (v.fKind = xM n s))
def a4F (s : List TField) (l : List TAttr) (k : Nat) : Bool := match l[k]? with
 | none => true
 | some a => a4E TAttr.fName l k && a6U s a.fName a.fValue
def a1E (s : List TField) (f : TFile) : Bool := (List.range f.fAttrs.length).all (a4F s f.fAttrs) && (inB f.fID 1 60 && (inB f.fOwner 0 2 && (inB f.fLink 0 60 && a0E s)))
def a4G (x : TStore) (k : Nat) : Bool := match x.fFiles[k]? with
 | none => true
 | some f => a1E x.fSchema f && (!decide (x.fNextID ≤ f.fID) && a8N x.fFiles k)
def zB (x : TStore) : Bool := (List.range x.fFiles.length).all (a4G x) && (a0E x.fSchema && (decide ((x.fFiles.length : Int) ≤ 12) && inB x.fNextID 1 61))
def a5U (d : List TDir) (k : Nat) : Bool := match d[k]? with
 | none => true
 | some x => oC x.fName 6 && (a4E TDir.fName d k && okQ x.fQuery)
def a8O (d : List TDir) : Bool := (List.range d.length).all (a5U d) && decide ((d.length : Int) ≤ 5)
end Go.Proofs.Ytcppkdifiimblaa
end
section
namespace Go.Proofs.Ytcppkdifiimblaa
open Go Go.Sx Go.RowKit Go.Proofs
def mkF (s : TStore) (f : TFile) : TFile := { f with fID := s.fNextID }
def a6j (s : TStore) (f : TFile) : Bool := zB s && (decide (s.fFiles.length < 12) && a1E s.fSchema (mkF s f))
def a9z (s : TStore) (f : TFile) : TStore := if a6j s f then ⟨s.fSchema, s.fFiles ++ [mkF s f], s.fNextID + 1⟩ else s
def a9A (s : TStore) (f : TFile) : Int := if a6j s f then s.fNextID else 0
end Go.Proofs.Ytcppkdifiimblaa
end
section
section
set_option linter.all false
namespace Go.Sx
open Go Go.RowKit
def a4W {α : Type} (e : α → Value) (l : List α) : List (List D) := l.map fun x => [.v (e x)]
theorem qR {α : Type} (e : α → Value) (l : List α) : (a4W e l).flatten = l.map fun x => D.v (e x) := by
 induction l with
 | nil => rfl
 | cons x l ih => simp only [a4W, List.map_cons, List.flatten_cons] at ih ⊢; rw [ih]; rfl
end Go.Sx
end
section
set_option linter.all false
namespace Go.Sx
open Go Go.RowKit
structure RowAt (w wr : World) (b ty N : Nat) (F : List Value) : Prop where
 cells : ∃ c : Array Value, wr.heap[b]? = some (.cells c ty (0, 0)) ∧ c.size = N ∧ F <+: c.toList
 grown : w.grownBy wr (some b)
theorem nH {w w1 w2 : World} {r : Option Nat} (h1 : w.grownBy w1 r) (h2 : w1.grownBy w2 r) : w.grownBy w2 r :=
 ⟨h2.os.trans h1.os, h2.tape.trans h1.tape, h2.output.trans h1.output, Nat.le_trans h1.size h2.size, fun k hk hn => (h2.block k (Nat.lt_of_lt_of_le hk h1.size) hn).trans (h1.block k hk hn)⟩
theorem wD {w w' : World} (r : Option Nat) (h : Below w.heap.size w w') : w.grownBy w' r := ⟨h.os, h.tape, h.output, h.size, fun k hk _ => h.block k hk⟩
variable {w wr : World} {b ty N : Nat} {F : List Value}
theorem RowAt.lt (h : RowAt w wr b ty N F) : b < wr.heap.size := by
 obtain ⟨c, h1, _⟩ := h.cells
 exact (Array.getElem?_eq_some_iff.1 h1).1
theorem RowAt.le (h : RowAt w wr b ty N F) : F.length ≤ N := by
 obtain ⟨c, _, h2, h3⟩ := h.cells
 have := h3.length_le
 simpa [h2] using this
theorem RowAt.cell (h : RowAt w wr b ty N F) {t : Nat} {v : Value} (ht : F[t]? = some v) : wr.cell? ⟨b, t, none⟩ = some v := by
 obtain ⟨c, h1, h2, h3⟩ := h.cells
 have := dM h3 ht
 simp only [World.cell?, h1, Option.isSome_none, Bool.false_eq_true, if_false]
 rw [← Array.getElem?_toList]; exact this
theorem RowAt.there (h : RowAt w wr b ty N F) {t : Nat} (ht : t < N) : (wr.cell? ⟨b, t, none⟩).isSome = true := by
 obtain ⟨c, h1, h2, h3⟩ := h.cells
 simp only [World.cell?, h1, Option.isSome_none, Bool.false_eq_true, if_false]
 simp [h2, ht]
theorem RowAt.behind (h : RowAt w wr b ty N F) {w' : World} (hb : Below wr.heap.size wr w') : RowAt w w' b ty N F := by
 obtain ⟨c, h1, h2, h3⟩ := h.cells
 exact ⟨⟨c, by rw [hb.block b h.lt]; exact h1, h2, h3⟩, nH h.grown (wD _ hb)⟩
theorem wE (F : List Value) (s : Nat) (v : Value) (c : List Value) (hF : F <+: c) (hs : s ≤ F.length) (hc : s < c.length) : F.take s ++ v :: F.drop (s + 1) <+: c.set s v := by
 obtain ⟨r, rfl⟩ := hF
 rcases Nat.lt_or_ge s F.length with h | h
 ·refine ⟨r, ?_⟩
  rw [List.set_append_left _ _ h, List.set_eq_take_append_cons_drop, if_pos h]
 ·have e : s = F.length := by omega
  subst e
  rw [List.take_of_length_le (Nat.le_refl _), List.drop_of_length_le (by omega), List.set_append_right _ _ (Nat.le_refl _), Nat.sub_self]
  cases r with
  | nil => simp at hc
  | cons x r => exact ⟨r, by simp⟩
theorem RowAt.set1 (h : RowAt w wr b ty N F) {s : Nat} (hs : s ≤ F.length) (hN : s < N) (v : Value) : RowAt w (wr.setCell ⟨b, s, none⟩ v) b ty N (F.take s ++ v :: F.drop (s + 1)) := by
 obtain ⟨c, h1, h2, h3⟩ := h.cells
 rw [Sort.setCell_eq]
 refine ⟨⟨c.setIfInBounds s v, ?_, by simp [h2], ?_⟩, nH h.grown ⟨rfl, rfl, rfl, by simp [Sort.mapBlock], fun k hk hne => ?_⟩⟩
 ·simp only [Sort.mapBlock, Array.getElem?_modify, if_true, h1, Option.map_some, Sort.onCells]
 ·rw [Array.toList_setIfInBounds]
  exact wE F s v c.toList h3 hs (by simpa [h2] using hN)
 ·simp only [Sort.mapBlock, Array.getElem?_modify]
  rw [if_neg (fun e => hne (by rw [e]))]
theorem RowAt.set : ∀ (vs : List Value) {wr : World} {F : List Value} {s : Nat}, RowAt w wr b ty N F → s ≤ F.length → s + vs.length ≤ N → RowAt w (wr.setCells b s vs) b ty N (F.take s ++ vs ++ F.drop (s + vs.length))
 | [], wr, F, s, h, hs, hN => by simpa [World.setCells] using h
 | v :: vs, wr, F, s, h, hs, hN => by
  simp only [List.length_cons] at hN
  have h1 := h.set1 hs (by omega) v
  have h2 := RowAt.set vs (s := s + 1) h1 (by simp; omega) (by omega)
  rw [World.setCells]
  have e1 : (F.take s ++ v :: F.drop (s + 1)).take (s + 1) = F.take s ++ [v] := by
   rw [List.take_append, List.take_of_length_le (by simp; omega), List.length_take, Nat.min_eq_left hs, Nat.add_sub_cancel_left]; rfl
  have e2 : (F.take s ++ v :: F.drop (s + 1)).drop (s + 1 + vs.length) = F.drop (s + (vs.length + 1)) := by
   rw [List.drop_append, List.drop_of_length_le (by simp; omega), List.length_take, Nat.min_eq_left hs, List.nil_append, show s + 1 + vs.length - s = vs.length + 1 by omega, List.drop_succ_cons, List.drop_drop]
   congr 1; omega
  rw [e1, e2] at h2
  simpa [List.append_assoc] using h2
end Go.Sx
end
section
set_option linter.all false
namespace Go.Proofs.Ytcppkdifiimblaa
open Go Go.Sx Go.RowKit Go.Proofs Go.Lib
structure DelInv {α : Type} (e : α → Value) (p : α → Bool) (xs : List α) (i j : Nat) (F : List Value) : Prop where
 len : F.length = xs.length
 ij : i < j
 jn : j ≤ xs.length
 lo : F.take i = ((xs.take j).filter fun x => !p x).map e
 hi : F.drop j = (xs.drop j).map e
 il : i = ((xs.take j).filter fun x => !p x).length
theorem nA {α : Type} (p : α → Bool) (xs : List α) (k : Nat) (h : ∀ j (hj : j < xs.length), j < k → p xs[j] = false) : (xs.take k).filter (fun x => !p x) = xs.take k := by
 refine List.filter_eq_self.2 fun x hx => ?_
 obtain ⟨j, hj, rfl⟩ := List.mem_iff_getElem.1 hx
 simp only [List.length_take] at hj
 rw [List.getElem_take, h j (by omega) (by omega)]; rfl
theorem DelInv.at {α : Type} {e : α → Value} {p : α → Bool} {xs : List α} {i j : Nat} {F : List Value} (h : DelInv e p xs i j F) (hj : j < xs.length) : F[j]? = some (e xs[j]) := by
 have h0 : (F.drop j)[0]? = ((xs.drop j).map e)[0]? := by rw [h.hi]
 rw [List.getElem?_drop, Nat.add_zero] at h0
 rw [h0, List.getElem?_map, List.getElem?_drop, Nat.add_zero, List.getElem?_eq_getElem hj]; rfl
theorem DelInv.start {α : Type} {e : α → Value} {p : α → Bool} {xs : List α} {k : Nat} (hk : k < xs.length) (h : ∀ j (hj : j < xs.length), j < k → p xs[j] = false) (hp : p xs[k] = true) : DelInv e p xs k (k + 1) (xs.map e) := by
 have e1 : (xs.take (k + 1)).filter (fun x => !p x) = xs.take k := by
  rw [List.take_succ_eq_append_getElem hk, List.filter_append, nA p xs k h]
  simp [hp]
 refine ⟨by simp, by omega, by omega, ?_, by simp, ?_⟩
 ·rw [e1, List.map_take]
 ·rw [e1]; simp; omega
theorem DelInv.keep {α : Type} {e : α → Value} {p : α → Bool} {xs : List α} {i j : Nat} {F : List Value} (h : DelInv e p xs i j F) (hj : j < xs.length) (hp : p xs[j] = false) : DelInv e p xs (i + 1) (j + 1) (F.take i ++ [e xs[j]] ++ F.drop (i + 1)) := by
 have e1 : (xs.take (j + 1)).filter (fun x => !p x) = (xs.take j).filter (fun x => !p x) ++ [xs[j]] := by
  rw [List.take_succ_eq_append_getElem hj, List.filter_append]
  simp [hp]
 have hl := h.len
 have hij := h.ij
 refine ⟨by simp; omega, by omega, by omega, ?_, ?_, ?_⟩
 ·rw [List.take_append_of_le_length (by simp; omega), List.take_of_length_le (by simp; omega), e1, List.map_append, h.lo]; rfl
 ·rw [List.drop_append, List.drop_of_length_le (by simp; omega), List.nil_append, List.drop_drop]
  have : F.drop (j + 1) = (xs.drop (j + 1)).map e := by rw [← List.drop_drop, h.hi, ← List.map_drop, List.drop_drop]
  rw [← this]
  congr 1
  simp; omega
 ·rw [e1, List.length_append, ← h.il]; rfl
theorem DelInv.skip {α : Type} {e : α → Value} {p : α → Bool} {xs : List α} {i j : Nat} {F : List Value} (h : DelInv e p xs i j F) (hj : j < xs.length) (hp : p xs[j] = true) : DelInv e p xs i (j + 1) F := by
 have e1 : (xs.take (j + 1)).filter (fun x => !p x) = (xs.take j).filter (fun x => !p x) := by
  rw [List.take_succ_eq_append_getElem hj, List.filter_append]
  simp [hp]
 have hij := h.ij
 exact ⟨h.len, by omega, by omega, by rw [e1]; exact h.lo, by rw [← List.drop_drop, h.hi, ← List.map_drop, List.drop_drop], by rw [e1]; exact h.il⟩
end Go.Proofs.Ytcppkdifiimblaa
end
section
set_option linter.all false
set_option maxRecDepth 100000
namespace Go.Sx
open Go Go.RowKit
theorem RowAt.mod {V : View} {w W : World} {b ty N : Nat} {F : List Value} (hm : Mod V w) (hV : V b = none) (h : RowAt w W b ty N F) : Mod V W := fun k cs hk => by
 obtain ⟨c, t, fz, e1, e2⟩ := hm k cs hk
 exact ⟨c, t, fz, by rw [h.grown.block k (Array.getElem?_eq_some_iff.1 e1).1 (fun e => by cases e; rw [hV] at hk; cases hk)]; exact e1, e2⟩
def a9o (V : View) (b : Nat) (cs : List Value) : View := fun k => if k = b then some cs else V k
theorem RowAt.row {α : Type} {e : α → Value} (hs : ∀ x, scalar (e x) = true) {V : View} {w w' : World} {ty b cap : Nat} {l : List α} {G : List Value} (h : RowAt w w' b ty cap (l.map e ++ G)) (hcap : cap ≤ maxLen) (hV : V b = none) : RowR V w' ty 1 (a4W e l) (.slice (some ⟨b, 0, none⟩) l.length cap) [b] := by
 have hle := h.le
 rw [List.length_append, List.length_map] at hle
 obtain ⟨c, h1, h2, h3⟩ := h.cells
 refine ⟨fun r hr => ?_, l.map e, List.replicate l.length [], ⟨by rw [qR]; simp, by rw [qR]; simp, fun k dd y s q1 q2 q3 => ?_⟩, .inr ⟨b, cap, c, by simp [a4W], by simp [a4W]; omega, hcap, h1, by simp [h2], (List.prefix_append _ _).trans h3, hV, by simp⟩⟩
 ·obtain ⟨x, _, rfl⟩ := List.mem_map.1 hr; rfl
 ·rw [qR, List.getElem?_map] at q1
  rw [List.getElem?_map] at q2
  cases hk : l[k]? with
  | none => rw [hk] at q1; cases q1
  | some x =>
   rw [hk] at q1 q2
   cases q1; cases q2
   rw [List.getElem?_replicate] at q3
   split at q3
   ·cases q3; exact .v _ (hs x)
   ·cases q3
end Go.Sx
end
section
set_option linter.all false
set_option maxRecDepth 100000
set_option maxHeartbeats 4000000
namespace Go.Proofs.Ytcppkdifiimblaa
open Go Go.Sx Go.RowKit Go.Proofs
def idxP {α : Type} (p : α → Bool) : List α → Nat → Int
 | [], _ => -1
 | x :: xs, k => if p x then k else idxP p xs (k + 1)
theorem idxP_spec {α : Type} (p : α → Bool) : ∀ (xs : List α) (k : Nat), (idxP p xs k = -1 ∧ ∀ x ∈ xs, p x = false) ∨ ∃ k0 : Nat, idxP p xs k = ((k + k0 : Nat) : Int) ∧ ∃ h : k0 < xs.length, p xs[k0] = true ∧ ∀ j (hj : j < xs.length), j < k0 → p xs[j] = false
 | [], k => .inl ⟨rfl, fun x hx => by simp at hx⟩
 | x :: xs, k => by
  unfold idxP
  cases hx : p x with
  | true => exact .inr ⟨0, by simp, by simp, by simpa using hx, fun j hj h => by omega⟩
  | false =>
   rcases idxP_spec p xs (k + 1) with ⟨h1, h2⟩ | ⟨k0, h1, h2, h3, h4⟩
   ·exact .inl ⟨by simpa using h1, fun y hy => by
     rcases List.mem_cons.1 hy with rfl | hy
     ·exact hx
     ·exact h2 y hy⟩
   ·refine .inr ⟨k0 + 1, by simp only [Bool.false_eq_true, if_false]; rw [h1]; congr 1; omega, by simp; omega, by simpa using h3, fun j hj hk => ?_⟩
    cases j with
    | zero => simpa using hx
    | succ j => simpa using h4 j (by simpa using hj) (by omega)
end Go.Proofs.Ytcppkdifiimblaa
end
end
section
namespace Go.Proofs.Ytcppkdifiimblaa
open Go Go.Sx Go.RowKit Go.Proofs
theorem a8d {α : Type} (l : List α) : (l.all fun _ => true) = true := by simp
def a2E {α : Type} (p : α → Bool) : List α → Nat
 | [] => 0
 | x :: l => if p x then 0 else a2E p l + 1
def a6o {α : Type} (i : Nat) (x : α) (l : List α) : List α := l.take i ++ x :: l.drop i
def ixF (id : Int) (l : List TFile) : Int := idxP (fun f => decide (f.fID = id)) l 0
theorem ixF_cases (id : Int) (l : List TFile) : (ixF id l = -1) ∨ ∃ p : Nat, ixF id l = p ∧ ∃ h : p < l.length, l[p].fID = id := by
 rcases idxP_spec (fun f : TFile => decide (f.fID = id)) l 0 with h | ⟨k, e1, e2, e5, e6⟩
 ·exact .inl h.1
 ·exact .inr ⟨k, by unfold ixF; rw [e1]; simp, e2, by simpa using e5⟩
def zF : TFile := ⟨0, 0, false, 0, []⟩
def fI (id : Int) (l : List TFile) : TFile := if 0 ≤ ixF id l then l.getD (ixF id l).toNat zF else zF
theorem pR {id : Int} {l : List TFile} (h : ixF id l = -1) : fI id l = zF := by unfold fI; rw [h]; rfl
theorem mP {id : Int} {l : List TFile} {p : Nat} (h : ixF id l = p) (hp : p < l.length) : fI id l = l[p] := by unfold fI; rw [h, if_pos (by omega)]; simp [hp]
theorem a2D (id : Int) (l : List TFile) : wFile (fI id l) ≤ bZ l := by
 rcases ixF_cases id l with h | ⟨p, h, hp, _⟩
 ·rw [pR h]; simp [zF, wFile, cK, wsum]
 ·rw [mP h hp]; have := dK wFile l hp; unfold bZ; omega
def a7M {α : Type} (p : Nat) (l : List α) : List α := l.take p ++ l.drop (p + 1)
def a7N (s : TStore) (id : Int) : Bool := zB s && decide (0 ≤ ixF id s.fFiles)
def a9x (s : TStore) (id : Int) : TStore := if a7N s id then ⟨s.fSchema, a7M (ixF id s.fFiles).toNat s.fFiles, s.fNextID⟩ else s
def a7O (s : TStore) (f : TFile) : Bool := zB s && (decide (0 ≤ ixF f.fID s.fFiles) && a1E s.fSchema f)
def a9y (s : TStore) (f : TFile) : TStore := if a7O s f then ⟨s.fSchema, s.fFiles.set (ixF f.fID s.fFiles).toNat f, s.fNextID⟩ else s
end Go.Proofs.Ytcppkdifiimblaa
end
section
set_option maxRecDepth 100000
set_option maxHeartbeats 4000000
namespace Go.Proofs.Ytcppkdifiimblaa
open Go Go.Sx Go.RowKit Go.Proofs
theorem zD (l : List TAttr) (hl : l.length ≤ 4300000) : FnC Try.prog 57 [.o (.d (.sl (l.map bL)))] (.o (.w 77 4 (l.map bL))) := by
 refine ent Try.func57 rfl Try.call57 rfl (fun C => ?_); simp only [go_sem, st0, Try.ntmps57]
 refine aL ?_
 intro b hb
 refine aL ?_
 refine cnd rfl (fun h1 => ?_) (fun h1 => ?_)
 ·have e := hb h1
  simp only [List.map_eq_nil_iff] at e
  subst e
  refine aL ?_
  exact aA ⟨⟨_, rfl, by simp only [go_sem]⟩, trivial⟩
 ·refine aL ?_
  exact aA ⟨⟨_, rfl, by simp only [go_sem, a8d]⟩, trivial⟩
theorem qU (f : Nat) (c : List D) (p : TFile → Bool) (l : List TFile) (hf : ∀ s ∈ l, FnC Try.prog f [kV s, .o (.q c)] (ob (p s))) (hl : l.length ≤ 8388608) : FnC Try.prog 55 [.o (.d (.sl (l.map bM))), .o (.f f [c])] (oi (idxP p l 0)) := by
 refine ent Try.func55 rfl Try.call55 rfl (fun C => ?_); simp only [go_sem, st0, Try.ntmps55]
 refine aL ?_
 refine bE (α := Nat) (fun k => [(8, oi k)]) (fun _ => []) (fun k => k ≤ l.length ∧ idxP p l 0 = idxP p (l.drop k) k) (fun k => l.length - k) 0 (fun _ => ?_) ?_ ?_ (fun k hk => ?_)
 ·simp only [go_sem]
 ·simp only [go_sem]; simp
 ·simp
 ·obtain ⟨hk, hq⟩ := hk
  simp only [go_sem]
  refine aL ?_
  refine cnd rfl (fun h => ?_) (fun h => ?_)
  ·simp only [decide_eq_true_eq, Int.ofNat_lt] at h
   have hd := List.drop_eq_getElem_cons h
   rw [hd, idxP] at hq
   have q0 := @h; refine wB (hf l[k] (List.getElem_mem h)) ?_
   refine cnd rfl (fun h2 => ?_) (fun h2 => ?_)
   ·refine aL ?_
    exact aA ⟨⟨_, rfl, by simp only [go_sem, hq, h2]⟩, trivial⟩
   ·refine aL ?_
    refine aQ (k + 1) ?_ ?_ ?_
    ·simp only [go_sem]; simp
    ·rw [hq, h2]; exact ⟨h, by simp⟩
    ·omega
  ·simp only [decide_eq_false_iff_not] at h
   have e : k = l.length := by omega
   subst e
   simp only [List.drop_length, idxP] at hq
   refine aL ?_
   exact aA ⟨⟨_, rfl, by simp only [go_sem, hq]⟩, trivial⟩
end Go.Proofs.Ytcppkdifiimblaa
end
section
set_option maxRecDepth 100000
namespace Go.Proofs.Ytcppkdifiimblaa
open Go Go.Sx Go.RowKit Go.Proofs
end Go.Proofs.Ytcppkdifiimblaa
end
section
set_option maxRecDepth 100000
set_option maxHeartbeats 4000000
namespace Go.Proofs.Ytcppkdifiimblaa
open Go Go.Sx Go.RowKit Go.Proofs
theorem a3u (f : TFile) (h : f.fAttrs.length ≤ 4300000) : FnC Try.prog 44 [kV f] (a0J f) := by
 refine ent Try.func44 rfl Try.call44 rfl (fun C => ?_); simp only [go_sem, st0, Try.ntmps44]
 refine yY (zD f.fAttrs h) ?_
 exact aA ⟨⟨_, rfl, by simp only [go_sem]⟩, trivial⟩
theorem a4X (f : TFile) (h : f.fAttrs.length ≤ 4300000) : FnC Try.prog 40 [kV f] (a0J f) := by
 refine ent Try.func40 rfl Try.call40 rfl (fun C => ?_); simp only [go_sem, st0, Try.ntmps40]
 refine aL ?_
 exact aA ⟨⟨_, rfl, by simp only [go_sem]⟩, trivial⟩
theorem a1D (id : Int) (x : TFile) : FnC Try.prog 56 [kV x, .o (.q [iv id])] (ob (decide (x.fID = id))) := by
 refine ent Try.func56 rfl Try.call56 rfl (fun C => ?_); simp only [go_sem, st0, Try.ntmps56]
 refine aL ?_
 exact aA ⟨⟨_, rfl, by simp only [go_sem]⟩, trivial⟩
theorem xL (s : TStore) (id : Int) (hl : s.fFiles.length ≤ 4300000) : FnC Try.prog 43 [eZ s, oi id] (oi (ixF id s.fFiles)) := by
 refine ent Try.func43 rfl Try.call43 rfl (fun C => ?_); simp only [go_sem, st0, Try.ntmps43]
 refine yY (qU _ _ (fun x => decide (x.fID = id)) s.fFiles (fun y _ => a1D id y) (by omega)) ?_
 exact aA ⟨⟨_, rfl, by simp only [go_sem, ixF]⟩, trivial⟩
theorem rJ (s : TStore) (id : Int) (hl : s.fFiles.length ≤ 4300000) : FnC Try.prog 39 [eZ s, oi id] (oi (ixF id s.fFiles)) := by
 refine ent Try.func39 rfl Try.call39 rfl (fun C => ?_); simp only [go_sem, st0, Try.ntmps39]
 refine aL ?_
 refine bE (α := Nat) (fun k => [(5, oi k)]) (fun _ => []) (fun k => k ≤ s.fFiles.length ∧ ixF id s.fFiles = idxP (fun f => decide (f.fID = id)) (s.fFiles.drop k) k) (fun k => s.fFiles.length - k) 0 (fun _ => ?_) ?_ ?_ (fun k hk => ?_)
 ·simp only [go_sem]
 ·simp only [go_sem]; simp
 ·simp [ixF]
 ·obtain ⟨hk, hq⟩ := hk
  simp only [go_sem]
  refine aL ?_
  refine cnd rfl (fun h => ?_) (fun h => ?_)
  ·simp only [decide_eq_true_eq, Int.ofNat_lt] at h
   have hd := List.drop_eq_getElem_cons h
   rw [hd, idxP] at hq
   by_cases h2 : s.fFiles[k].fID = id
   ·rw [if_pos (by simp [h2])] at hq
    have q0 := @h; have q1 := @h2; have q2 := @decide_true; refine a1C ?_
    exact aA ⟨⟨_, rfl, by simp only [go_sem, hq]⟩, trivial⟩
   ·rw [if_neg (by simp [h2])] at hq
    have q0 := @h; have q1 := @h2; have q2 := @decide_false; refine a1C ?_
    refine aQ (k + 1) ?_ ?_ ?_
    ·simp only [go_sem]; simp
    ·rw [hq]; exact ⟨h, by simp⟩
    ·omega
  ·simp only [decide_eq_false_iff_not] at h
   have e : k = s.fFiles.length := by omega
   subst e
   simp only [List.drop_length, idxP] at hq
   refine aL ?_
   exact aA ⟨⟨_, rfl, by simp only [go_sem, hq]⟩, trivial⟩
theorem a0C (s : TStore) (id : Int) (h : bI s ≤ 4300000) : FnC Try.prog 23 [eZ s, oi id] (.t [(true, (a0J (fI id s.fFiles)).cells), (false, [.d (bv (decide (0 ≤ ixF id s.fFiles)))])]) := by
 have hl : s.fFiles.length ≤ 4300000 := by unfold bI bZ at h; omega
 refine ent Try.func23 rfl Try.call23 rfl (fun C => ?_); simp only [go_sem, st0, Try.ntmps23]
 rcases ixF_cases id s.fFiles with e | ⟨p, e, hp, _⟩
 ·have e1 := pR e
  have hz : ¬ (0 : Int) ≤ -1 := by omega
  have hk := xL s id hl
  rw [e] at hk
  have q0 := @hz; have q1 := @decide_false; refine a0x hk ?_
  exact aA ⟨⟨_, rfl, by simp only [go_sem, e, e1, hz, decide_false, zF, List.map_nil]; try simp⟩, by simp [jS]⟩
 ·have e1 := mP e hp
  have hz : (0 : Int) ≤ (p : Int) := by omega
  have hw := dK wFile s.fFiles hp
  have hx : s.fFiles[p].fAttrs.length ≤ 4300000 := by
   have e : s.fFiles[p].fAttrs.length ≤ wFile s.fFiles[p] := by unfold wFile cK; omega
   unfold bI bZ at h; omega
  have hk := xL s id hl
  rw [e] at hk
  have q0 := @hz; have q1 := @hp; have q2 := @decide_true; have q3 := @Int.toNat_natCast; refine a4s hk (a3u s.fFiles[p] hx) ?_
  exact aA ⟨⟨_, rfl, by simp only [go_sem, e, e1, hz, decide_true]; try simp⟩, by simp [jS]⟩
theorem a0D (s : TStore) (id : Int) (h : bI s ≤ 4300000) : FnC Try.prog 18 [eZ s, oi id] (.t [(true, (a0J (fI id s.fFiles)).cells), (false, [.d (bv (decide (0 ≤ ixF id s.fFiles)))])]) := by
 have hl : s.fFiles.length ≤ 4300000 := by unfold bI bZ at h; omega
 refine ent Try.func18 rfl Try.call18 rfl (fun C => ?_); simp only [go_sem, st0, Try.ntmps18]
 rcases ixF_cases id s.fFiles with e | ⟨p, e, hp, _⟩
 ·have e1 := pR e
  have hz : ¬ (0 : Int) ≤ -1 := by omega
  have hy : (-1 : Int) < 0 := by omega
  have hk := rJ s id hl
  rw [e] at hk
  have q0 := @hy; have q1 := @decide_true; refine a0x hk ?_
  exact aA ⟨⟨_, rfl, by simp only [go_sem, e, e1, hz, decide_false, zF, List.map_nil]; try simp⟩, by simp [jS]⟩
 ·have e1 := mP e hp
  have hz : (0 : Int) ≤ (p : Int) := by omega
  have hy : ¬ (p : Int) < 0 := by omega
  have hw := dK wFile s.fFiles hp
  have hx : s.fFiles[p].fAttrs.length ≤ 4300000 := by
   have e : s.fFiles[p].fAttrs.length ≤ wFile s.fFiles[p] := by unfold wFile cK; omega
   unfold bI bZ at h; omega
  have hk := rJ s id hl
  rw [e] at hk
  have q0 := @hy; have q1 := @hp; have q2 := @decide_false; have q3 := @Int.toNat_natCast; refine a4s hk (a4X s.fFiles[p] hx) ?_
  exact aA ⟨⟨_, rfl, by simp only [go_sem, e, e1, hz, decide_true]; try simp⟩, by simp [jS]⟩
end Go.Proofs.Ytcppkdifiimblaa
end
section
namespace Go.Proofs.Ytcppkdifiimblaa
open Go Go.Sx Go.RowKit Go.Proofs
def getAttr (name : ByteArray) : List TAttr → TValue
 | [] => ⟨0, 0, ⟨#[]⟩⟩
 | a :: r => if a.fName = name then a.fValue else getAttr name r
theorem vP (x : TFile) (name : ByteArray) (h : wFile x ≤ 4300000) : FnC Try.prog 24 [kV x, os name] (iG (getAttr name x.fAttrs)) := by
 unfold wFile cK at h
 generalize hg : getAttr name x.fAttrs = res
 refine ent Try.func24 rfl Try.call24 rfl (fun C => ?_); simp only [go_sem, st0, Try.ntmps24]
 refine aL ?_
 refine bE (α := Nat) (fun k => [(10, oi k)]) (fun _ => []) (fun k => k ≤ x.fAttrs.length ∧ getAttr name (x.fAttrs.drop k) = res) (fun k => x.fAttrs.length - k) 0 (fun _ => ?_) ?_ ?_ (fun k hk => ?_)
 ·simp only [go_sem]
 ·simp only [go_sem]; simp
 ·simp [hg]
 ·obtain ⟨hk, hq⟩ := hk
  simp only [go_sem]
  refine aL ?_
  refine cnd rfl (fun h => ?_) (fun h => ?_)
  ·simp only [decide_eq_true_eq, Int.ofNat_lt] at h
   have hd := List.drop_eq_getElem_cons h
   rw [hd, getAttr] at hq
   by_cases h1 : x.fAttrs[k].fName = name
   ·rw [if_pos h1] at hq
    subst hq
    have q0 := @h; have q1 := @h1; refine jD ?_
    exact aA ⟨⟨_, rfl, by simp only [go_sem]⟩, trivial⟩
   ·rw [if_neg h1] at hq
    have q0 := @h; have q1 := @h1; refine jD ?_
    refine aQ (k + 1) ?_ ?_ ?_
    ·simp only [go_sem]; simp
    ·exact ⟨h, hq⟩
    ·omega
  ·simp only [decide_eq_false_iff_not] at h
   have e : k = x.fAttrs.length := by omega
   rw [e, List.drop_length, getAttr] at hq
   subst hq
   refine aL ?_
   exact aA ⟨⟨_, rfl, by simp only [go_sem]⟩, trivial⟩
theorem vR (x : TFile) (name : ByteArray) (h : wFile x ≤ 4300000) : FnC Try.prog 19 [kV x, os name] (iG (getAttr name x.fAttrs)) := by
 unfold wFile cK at h
 generalize hg : getAttr name x.fAttrs = res
 refine ent Try.func19 rfl Try.call19 rfl (fun C => ?_); simp only [go_sem, st0, Try.ntmps19]
 refine aL ?_
 refine bE (α := Nat) (fun k => [(5, oi k)]) (fun _ => []) (fun k => k ≤ x.fAttrs.length ∧ getAttr name (x.fAttrs.drop k) = res) (fun k => x.fAttrs.length - k) 0 (fun _ => ?_) ?_ ?_ (fun k hk => ?_)
 ·simp only [go_sem]
 ·simp only [go_sem]; simp
 ·simp [hg]
 ·obtain ⟨hk, hq⟩ := hk
  simp only [go_sem]
  refine aL ?_
  refine cnd rfl (fun h => ?_) (fun h => ?_)
  ·simp only [decide_eq_true_eq, Int.ofNat_lt] at h
   have hd := List.drop_eq_getElem_cons h
   rw [hd, getAttr] at hq
   by_cases h1 : x.fAttrs[k].fName = name
   ·rw [if_pos h1] at hq
    subst hq
    have q0 := @h; have q1 := @h1; refine jD ?_
    exact aA ⟨⟨_, rfl, by simp only [go_sem]⟩, trivial⟩
   ·rw [if_neg h1] at hq
    have q0 := @h; have q1 := @h1; refine jD ?_
    refine aQ (k + 1) ?_ ?_ ?_
    ·simp only [go_sem]; simp
    ·exact ⟨h, hq⟩
    ·omega
  ·simp only [decide_eq_false_iff_not] at h
   have e : k = x.fAttrs.length := by omega
   rw [e, List.drop_length, getAttr] at hq
   subst hq
   refine aL ?_
   exact aA ⟨⟨_, rfl, by simp only [go_sem]⟩, trivial⟩
end Go.Proofs.Ytcppkdifiimblaa
end
section
namespace Go.Proofs
open Go.Shelf
def Try.laysInsG_ren : Go.Shelf.Ren := ⟨fun | 20 => 58 | n => n, fun | 24 => 55 | 22 => 28 | 3 => 3 | 25 => 61 | 4 => 4 | 0 => 0 | n => n, fun | n => n⟩
def Try.laysIdxG_ren : Go.Shelf.Ren := ⟨fun | 6 => 25 | n => n, fun | 22 => 28 | 23 => 55 | 25 => 59 | 3 => 3 | 0 => 0 | 4 => 4 | n => n, fun | n => n⟩
end Go.Proofs
end
section
namespace Go.Proofs.Ytcppkdifiimblaa
open Go Go.Sx Go.RowKit Go.Proofs
def a9q (l : List Int) : List Int := l.mergeSort fun x y => decide (x ≤ y)
def a9r (l : List Int) : List Int := Lib.compact l
def bl (s : ByteArray) : List UInt8 := s.data.toList
def lb (l : List UInt8) : ByteArray := ⟨l.toArray⟩
theorem a6p (s : ByteArray) : lb (bl s) = s := by cases s; simp [lb, bl]
def a8e (l : List (List UInt8)) : List (List UInt8) := l.mergeSort fun x y => decide (x ≤ y)
def a8f (l : List ByteArray) : List ByteArray := (a8e (l.map bl)).map lb
def a8g (l : List ByteArray) : List ByteArray := (Lib.compact (l.map bl)).map lb
end Go.Proofs.Ytcppkdifiimblaa
end
section
section
set_option linter.all false
set_option maxRecDepth 100000
set_option maxHeartbeats 4000000
namespace Go.Proofs.Ytcppkdifiimblaa
open Go Go.Sx Go.RowKit Go.Proofs
def a1U (k : Nat) (out : ByteArray) : ByteArray :=
 if h : k = 0 then out else a1U (k / 10) (pE [(48 : Int) + ((k % 10 : Nat) : Int)] ++ out)
decreasing_by omega
def iY (k : Int) : ByteArray := ⟨#[109]⟩ ++ a1U k.toNat ⟨#[]⟩
theorem gF (k : Int) (hk : 1 ≤ k ∧ k ≤ 4611686018427387904) : FnC Try.prog 35 [oi k] (os (iY k)) := by
 obtain ⟨n, rfl⟩ : ∃ n : Nat, k = n := ⟨k.toNat, by omega⟩
 have h0 : ¬ ((n : Int) ≤ 0) := by omega
 have hm : iY (n : Int) = ⟨#[109]⟩ ++ a1U n ⟨#[]⟩ := by simp [iY]
 rw [hm]
 generalize hq : a1U n ⟨#[]⟩ = res
 refine ent Try.func35 rfl Try.call35 rfl (fun C => ?_); simp only [go_sem, st0, Try.ntmps35]
 have q0 := @h0; have q1 := @decide_false; refine jD ?_
 refine bE (α := Nat × ByteArray) (fun p => [(0, oi p.1), (3, os p.2)]) (fun _ => []) (fun p => a1U p.1 p.2 = res ∧ p.2.size + p.1 ≤ n) (fun p => p.1) (n, ⟨#[]⟩) (fun _ => ?_) ?_ ?_ (fun p hp => ?_)
 ·simp only [go_sem]
 ·simp only [go_sem]; simp
 ·exact ⟨hq, by show 0 + n ≤ n; omega⟩
 ·obtain ⟨j, out⟩ := p
  obtain ⟨hp, hs⟩ := hp
  simp only at hp hs
  simp only [go_sem]
  refine aL ?_
  refine cnd rfl (fun h => ?_) (fun h => ?_)
  ·simp only [decide_eq_true_eq] at h
   have hj : j ≠ 0 := by omega
   rw [a1U, dif_neg hj] at hp
   have e1 : (j : Int).tmod 10 = ((j % 10 : Nat) : Int) := by rw [Int.tmod_eq_emod_of_nonneg (by omega)]; omega
   have e2 : (j : Int).tdiv 10 = ((j / 10 : Nat) : Int) := by rw [Int.tdiv_eq_ediv_of_nonneg (by omega)]; omega
   have q0 := @e1; have q1 := @e2; refine jD ?_
   refine aQ (j / 10, pE [(48 : Int) + ((j % 10 : Nat) : Int)] ++ out) ?_ ?_ ?_
   ·simp only [go_sem, e1, e2]; simp [pE]
   ·refine ⟨hp, ?_⟩
    simp only [ByteArray.size_append, pE, List.map_cons, List.map_nil, a6i, List.length_cons, List.length_nil]
    omega
   ·simp only; omega
  ·simp only [decide_eq_false_iff_not] at h
   have hj : j = 0 := by omega
   subst hj
   rw [a1U, dif_pos rfl] at hp
   subst hp
   refine aL ?_
   exact aA ⟨⟨_, rfl, by simp only [go_sem]⟩, trivial⟩
def cnInt (x : Int) : Nat := 1
theorem xR : ∀ x, 1 ≤ cnInt x := fun x => by unfold cnInt; omega
def lW (x : Int) (k : Int) : Int := k
theorem rR (l : List Int) (k : Int) (hk : 1 ≤ k ∧ k + (csum cnInt l : Nat) ≤ 4611686018427387904) : FnM Try.prog 13 false [.w 0 1 (l.map fJ)] [.w 0 1 ((mkL lW cnInt l k).map fJ)] k (k + (csum cnInt l : Nat)) := by
 have hlen := gB cnInt xR l
 refine entm Try.func13 rfl Try.call13 rfl (by simp) (by simp only [go_sem]) (fun C tg => ?_); simp only [go_sem, Try.ntmps13]
 refine aL ?_
 refine bE (α := Nat) (fun j => [(5, oi j), (1, oi (k + (csum cnInt (l.take j) : Nat)))]) (fun j => [(0, .own (tg 0) 1 (mZ fJ lW cnInt l k j))]) (fun j => j ≤ l.length) (fun j => l.length - j) 0 (fun _ => ?_) ?_ ?_ (fun j hj => ?_)
 ·simp only [go_sem]
 ·simp only [go_sem]; simp [jJ, csum]
 ·simp
 ·simp only [go_sem]
  refine aL ?_
  refine cnd rfl (fun h => ?_) (fun h => ?_)
  ·simp only [decide_eq_true_eq, Int.ofNat_lt] at h
   have hs := fA cnInt l h
   have ht := iO cnInt l (j + 1)
   have hc : cnInt l[j] = 1 := rfl
   have hset := lI fJ lW cnInt l k j h
   have hkk : k + (csum cnInt (l.take (j + 1)) : Nat) = k + (csum cnInt (l.take j) : Nat) + (cnInt l[j] : Nat) := by omega
   generalize k + (csum cnInt (l.take j) : Nat) = K at hset hkk ⊢
   have hK : 1 ≤ K ∧ K + (cnInt l[j] : Nat) ≤ 4611686018427387904 := by omega
   have q0 := @h; refine iM ?_
   refine aQ (j + 1) ?_ ?_ ?_
   ·simp only [go_sem, hkk, ← hset]
    simp [lW, fJ, hc]
    try omega
   ·omega
   ·omega
  ·simp only [decide_eq_false_iff_not] at h
   have e : j = l.length := by omega
   subst e
   refine aL ?_
   exact ⟨⟨⟨_, rfl, by simp only [go_sem, eU, List.take_length]⟩, trivial⟩, by simp only [go_sem, eU, List.take_length]⟩
theorem a0Q (l : List Int) (k : Int) (hk : 1 ≤ k ∧ k + (csum cnInt l : Nat) ≤ 4611686018427387904) : FnC Try.prog 36 [.o (.d (.sl ((mkL lW cnInt l k).map fJ))), oi k] (oi (k + (csum cnInt l : Nat))) := by
 have hlen := gB cnInt xR l
 refine ent Try.func36 rfl Try.call36 rfl (fun C => ?_); simp only [go_sem, st0, Try.ntmps36]
 refine aL ?_
 refine bE (α := Nat) (fun j => [(5, oi j), (1, oi (k + (csum cnInt (l.take j) : Nat)))]) (fun _ => []) (fun j => j ≤ l.length) (fun j => l.length - j) 0 (fun _ => ?_) ?_ ?_ (fun j hj => ?_)
 ·simp only [go_sem]
 ·simp only [go_sem]; simp [csum]
 ·simp
 ·simp only [go_sem]
  refine aL ?_
  refine cnd rfl (fun h => ?_) (fun h => ?_)
  ·simp only [decide_eq_true_eq, Int.ofNat_lt] at h
   have hs := fA cnInt l h
   have ht := iO cnInt l (j + 1)
   have hc : cnInt l[j] = 1 := rfl
   have hkk : k + (csum cnInt (l.take (j + 1)) : Nat) = k + (csum cnInt (l.take j) : Nat) + (cnInt l[j] : Nat) := by omega
   have hg := oO lW cnInt l k j (by rw [dE]; exact h)
   generalize k + (csum cnInt (l.take j) : Nat) = K at hg hkk ⊢
   have hK : 1 ≤ K ∧ K + (cnInt l[j] : Nat) ≤ 4611686018427387904 := by omega
   repeat' (with_reducible first | refine nY ?_ | (refine mX ?_; try simp only [go_sem, h, hg, lW]) | refine kO ?_ (by decide) | refine regd (by kernel_rfl) ?_ | (refine And.intro ?_ ?_; focus omega))
   refine aQ (j + 1) ?_ ?_ ?_
   ·simp only [go_sem, hkk]
    simp [hc]
    try omega
   ·omega
   ·omega
  ·simp only [decide_eq_false_iff_not] at h
   have e : j = l.length := by omega
   subst e
   refine aL ?_
   exact aA ⟨⟨_, rfl, by simp only [go_sem, List.take_length]⟩, trivial⟩
def a9s (x : ByteArray) : Nat := 1
def a9t (x : ByteArray) (k : Int) : ByteArray := (iY k)
def a9b (x : Bool) : Nat := 1
def a9c (x : Bool) (k : Int) : Bool := (decide (Int.tmod k 3 = 0))
end Go.Proofs.Ytcppkdifiimblaa
end
section
set_option linter.all false
set_option maxRecDepth 100000
set_option maxHeartbeats 4000000
namespace Go.Proofs.Ytcppkdifiimblaa
open Go Go.Sx Go.RowKit Go.Proofs
def cnField (x : TField) : Nat := 2
theorem a0R : ∀ x, 1 ≤ cnField x := fun x => by unfold cnField; omega
def qA (x : TField) (k : Int) : TField := ⟨(iY k), (k + 1)⟩
theorem wG (l : List TField) (k : Int) (hk : 1 ≤ k ∧ k + (csum cnField l : Nat) ≤ 4611686018427387904) : FnM Try.prog 33 false [.w 0 2 (l.map bD)] [.w 0 2 ((mkL qA cnField l k).map bD)] k (k + (csum cnField l : Nat)) := by
 have hlen := gB cnField a0R l
 refine entm Try.func33 rfl Try.call33 rfl (by simp) (by simp only [go_sem]) (fun C tg => ?_); simp only [go_sem, Try.ntmps33]
 refine aL ?_
 refine bE (α := Nat) (fun j => [(5, oi j), (1, oi (k + (csum cnField (l.take j) : Nat)))]) (fun j => [(0, .own (tg 0) 2 (mZ bD qA cnField l k j))]) (fun j => j ≤ l.length) (fun j => l.length - j) 0 (fun _ => ?_) ?_ ?_ (fun j hj => ?_)
 ·simp only [go_sem]
 ·simp only [go_sem]; simp [jJ, csum]
 ·simp
 ·simp only [go_sem]
  refine aL ?_
  refine cnd rfl (fun h => ?_) (fun h => ?_)
  ·simp only [decide_eq_true_eq, Int.ofNat_lt] at h
   have hs := fA cnField l h
   have ht := iO cnField l (j + 1)
   have hc : cnField l[j] = 2 := rfl
   have hset := lI bD qA cnField l k j h
   have hkk : k + (csum cnField (l.take (j + 1)) : Nat) = k + (csum cnField (l.take j) : Nat) + (cnField l[j] : Nat) := by omega
   generalize k + (csum cnField (l.take j) : Nat) = K at hset hkk ⊢
   have hK : 1 ≤ K ∧ K + (cnField l[j] : Nat) ≤ 4611686018427387904 := by omega
   have q0 := @h; refine wB (gF K (by omega)) ?_
   refine aQ (j + 1) ?_ ?_ ?_
   ·simp only [go_sem, hkk, ← hset]
    simp [qA, bD, hc]
    try omega
   ·omega
   ·omega
  ·simp only [decide_eq_false_iff_not] at h
   have e : j = l.length := by omega
   subst e
   refine aL ?_
   exact ⟨⟨⟨_, rfl, by simp only [go_sem, eU, List.take_length]⟩, trivial⟩, by simp only [go_sem, eU, List.take_length]⟩
def cnAttr (x : TAttr) : Nat := 4
theorem a1V : ∀ x, 1 ≤ cnAttr x := fun x => by unfold cnAttr; omega
def qV (x : TAttr) (k : Int) : TAttr := ⟨(iY k), ⟨(k + 1), ((k + 1) + 1), (iY (((k + 1) + 1) + 1))⟩⟩
theorem zH (l : List TAttr) (k : Int) (hk : 1 ≤ k ∧ k + (csum cnAttr l : Nat) ≤ 4611686018427387904) : FnM Try.prog 52 false [.w 0 4 (l.map bL)] [.w 0 4 ((mkL qV cnAttr l k).map bL)] k (k + (csum cnAttr l : Nat)) := by
 have hlen := gB cnAttr a1V l
 refine entm Try.func52 rfl Try.call52 rfl (by simp) (by simp only [go_sem]) (fun C tg => ?_); simp only [go_sem, Try.ntmps52]
 refine aL ?_
 refine bE (α := Nat) (fun j => [(5, oi j), (1, oi (k + (csum cnAttr (l.take j) : Nat)))]) (fun j => [(0, .own (tg 0) 4 (mZ bL qV cnAttr l k j))]) (fun j => j ≤ l.length) (fun j => l.length - j) 0 (fun _ => ?_) ?_ ?_ (fun j hj => ?_)
 ·simp only [go_sem]
 ·simp only [go_sem]; simp [jJ, csum]
 ·simp
 ·simp only [go_sem]
  refine aL ?_
  refine cnd rfl (fun h => ?_) (fun h => ?_)
  ·simp only [decide_eq_true_eq, Int.ofNat_lt] at h
   have hs := fA cnAttr l h
   have ht := iO cnAttr l (j + 1)
   have hc : cnAttr l[j] = 4 := rfl
   have hset := lI bL qV cnAttr l k j h
   have hkk : k + (csum cnAttr (l.take (j + 1)) : Nat) = k + (csum cnAttr (l.take j) : Nat) + (cnAttr l[j] : Nat) := by omega
   generalize k + (csum cnAttr (l.take j) : Nat) = K at hset hkk ⊢
   have hK : 1 ≤ K ∧ K + (cnAttr l[j] : Nat) ≤ 4611686018427387904 := by omega
   have q0 := @h; refine a6N (gF K (by omega)) (gF (((K + 1) + 1) + 1) (by omega)) ?_
   refine aQ (j + 1) ?_ ?_ ?_
   ·simp only [go_sem, hkk, ← hset]
    simp [qV, bL, hc]
    try omega
   ·omega
   ·omega
  ·simp only [decide_eq_false_iff_not] at h
   have e : j = l.length := by omega
   subst e
   refine aL ?_
   exact ⟨⟨⟨_, rfl, by simp only [go_sem, eU, List.take_length]⟩, trivial⟩, by simp only [go_sem, eU, List.take_length]⟩
def zI (x : TNode) : Nat := 7
def a5a (x : TNode) (k : Int) : TNode := ⟨k, (k + 1), ((k + 1) + 1), (iY (((k + 1) + 1) + 1)), ⟨((((k + 1) + 1) + 1) + 1), (((((k + 1) + 1) + 1) + 1) + 1), (iY ((((((k + 1) + 1) + 1) + 1) + 1) + 1))⟩⟩
end Go.Proofs.Ytcppkdifiimblaa
end
section
set_option linter.all false
set_option maxRecDepth 100000
set_option maxHeartbeats 4000000
namespace Go.Proofs.Ytcppkdifiimblaa
open Go Go.Sx Go.RowKit Go.Proofs
def cnFile (x : TFile) : Nat := 4 + csum cnAttr x.fAttrs
theorem a1W : ∀ x, 1 ≤ cnFile x := fun x => by unfold cnFile; omega
def vS (x : TFile) (k : Int) : TFile := ⟨k, (k + 1), (decide (Int.tmod ((k + 1) + 1) 3 = 0)), (((k + 1) + 1) + 1), (mkL qV cnAttr x.fAttrs ((((k + 1) + 1) + 1) + 1))⟩
theorem zJ (l : List TFile) (k : Int) (hk : 1 ≤ k ∧ k + (csum cnFile l : Nat) ≤ 4611686018427387904) : FnM Try.prog 34 false [.w 0 5 (l.map bM)] [.w 0 5 ((mkL vS cnFile l k).map bM)] k (k + (csum cnFile l : Nat)) := by
 have hlen := gB cnFile a1W l
 refine entm Try.func34 rfl Try.call34 rfl (by simp) (by simp only [go_sem]) (fun C tg => ?_); simp only [go_sem, Try.ntmps34]
 refine aL ?_
 refine bE (α := Nat) (fun j => [(5, oi j), (1, oi (k + (csum cnFile (l.take j) : Nat)))]) (fun j => [(0, .own (tg 0) 5 (mZ bM vS cnFile l k j))]) (fun j => j ≤ l.length) (fun j => l.length - j) 0 (fun _ => ?_) ?_ ?_ (fun j hj => ?_)
 ·simp only [go_sem]
 ·simp only [go_sem]; simp [jJ, csum]
 ·simp
 ·simp only [go_sem]
  refine aL ?_
  refine cnd rfl (fun h => ?_) (fun h => ?_)
  ·simp only [decide_eq_true_eq, Int.ofNat_lt] at h
   have hs := fA cnFile l h
   have ht := iO cnFile l (j + 1)
   have hc : cnFile l[j] = 4 + csum cnAttr l[j].fAttrs := rfl
   have hset := lI bM vS cnFile l k j h
   have hkk : k + (csum cnFile (l.take (j + 1)) : Nat) = k + (csum cnFile (l.take j) : Nat) + (cnFile l[j] : Nat) := by omega
   generalize k + (csum cnFile (l.take j) : Nat) = K at hset hkk ⊢
   have hK : 1 ≤ K ∧ K + (cnFile l[j] : Nat) ≤ 4611686018427387904 := by omega
   have qH := @h; repeat' (with_reducible first | refine nY ?_ | (refine mX ?_; try simp only [go_sem, qH]) | refine kD ?_ | refine rD ?_ | refine vN (zH l[j].fAttrs _ (by omega)) ?_ | refine aO ?_ | fail)
   refine aQ (j + 1) ?_ ?_ ?_
   ·simp only [go_sem, hkk, ← hset]
    simp [vS, bM, hc]
    try omega
   ·omega
   ·omega
  ·simp only [decide_eq_false_iff_not] at h
   have e : j = l.length := by omega
   subst e
   refine aL ?_
   exact ⟨⟨⟨_, rfl, by simp only [go_sem, eU, List.take_length]⟩, trivial⟩, by simp only [go_sem, eU, List.take_length]⟩
def a9u (x : TDir) : Nat := 1 + csum zI x.fQuery
def a9v (x : TDir) (k : Int) : TDir := ⟨(iY k), (mkL a5a zI x.fQuery (k + 1))⟩
def a8i (x : TResult) : Nat := 1 + csum cnInt x.fIDs
def a8j (x : TResult) (k : Int) : TResult := ⟨(iY k), (mkL lW cnInt x.fIDs (k + 1))⟩
def a9d (x : TDiff) : Nat := 1 + csum cnInt x.fAdded + csum cnInt x.fRemoved
def a9e (x : TDiff) (k : Int) : TDiff := ⟨(iY k), (mkL lW cnInt x.fAdded (k + 1)), (mkL lW cnInt x.fRemoved ((k + 1) + (csum cnInt x.fAdded : Nat)))⟩
def cnGroup (x : TGroup) : Nat := 3 + csum cnInt x.fIDs
theorem rU : ∀ x, 1 ≤ cnGroup x := fun x => by unfold cnGroup; omega
def kQ (x : TGroup) (k : Int) : TGroup := ⟨⟨k, (k + 1), (iY ((k + 1) + 1))⟩, (mkL lW cnInt x.fIDs (((k + 1) + 1) + 1))⟩
theorem wH (l : List TGroup) (k : Int) (hk : 1 ≤ k ∧ k + (csum cnGroup l : Nat) ≤ 4611686018427387904) : FnM Try.prog 14 false [.w 0 4 (l.map dC)] [.w 0 4 ((mkL kQ cnGroup l k).map dC)] k (k + (csum cnGroup l : Nat)) := by
 have hlen := gB cnGroup rU l
 refine entm Try.func14 rfl Try.call14 rfl (by simp) (by simp only [go_sem]) (fun C tg => ?_); simp only [go_sem, Try.ntmps14]
 refine aL ?_
 refine bE (α := Nat) (fun j => [(5, oi j), (1, oi (k + (csum cnGroup (l.take j) : Nat)))]) (fun j => [(0, .own (tg 0) 4 (mZ dC kQ cnGroup l k j))]) (fun j => j ≤ l.length) (fun j => l.length - j) 0 (fun _ => ?_) ?_ ?_ (fun j hj => ?_)
 ·simp only [go_sem]
 ·simp only [go_sem]; simp [jJ, csum]
 ·simp
 ·simp only [go_sem]
  refine aL ?_
  refine cnd rfl (fun h => ?_) (fun h => ?_)
  ·simp only [decide_eq_true_eq, Int.ofNat_lt] at h
   have hs := fA cnGroup l h
   have ht := iO cnGroup l (j + 1)
   have hc : cnGroup l[j] = 3 + csum cnInt l[j].fIDs := rfl
   have hset := lI dC kQ cnGroup l k j h
   have hkk : k + (csum cnGroup (l.take (j + 1)) : Nat) = k + (csum cnGroup (l.take j) : Nat) + (cnGroup l[j] : Nat) := by omega
   generalize k + (csum cnGroup (l.take j) : Nat) = K at hset hkk ⊢
   have hK : 1 ≤ K ∧ K + (cnGroup l[j] : Nat) ≤ 4611686018427387904 := by omega
   have qH := @h; repeat' (with_reducible first | refine nY ?_ | (refine mX ?_; try simp only [go_sem, qH]) | refine kD ?_ | refine rD ?_ | refine cP (gF ((K + 1) + 1) (by omega)) ?_ | refine vN (rR l[j].fIDs _ (by omega)) ?_ | refine aO ?_ | fail)
   refine aQ (j + 1) ?_ ?_ ?_
   ·simp only [go_sem, hkk, ← hset]
    simp [kQ, dC, hc]
    try omega
   ·omega
   ·omega
  ·simp only [decide_eq_false_iff_not] at h
   have e : j = l.length := by omega
   subst e
   refine aL ?_
   exact ⟨⟨⟨_, rfl, by simp only [go_sem, eU, List.take_length]⟩, trivial⟩, by simp only [go_sem, eU, List.take_length]⟩
theorem nJ (l : List TGroup) (k : Int) (hk : 1 ≤ k ∧ k + (csum cnGroup l : Nat) ≤ 4611686018427387904) : FnC Try.prog 15 [.o (.d (.sl ((mkL kQ cnGroup l k).map dC))), oi k] (oi (k + (csum cnGroup l : Nat))) := by
 have hlen := gB cnGroup rU l
 refine ent Try.func15 rfl Try.call15 rfl (fun C => ?_); simp only [go_sem, st0, Try.ntmps15]
 refine aL ?_
 refine bE (α := Nat) (fun j => [(5, oi j), (1, oi (k + (csum cnGroup (l.take j) : Nat)))]) (fun _ => []) (fun j => j ≤ l.length) (fun j => l.length - j) 0 (fun _ => ?_) ?_ ?_ (fun j hj => ?_)
 ·simp only [go_sem]
 ·simp only [go_sem]; simp [csum]
 ·simp
 ·simp only [go_sem]
  refine aL ?_
  refine cnd rfl (fun h => ?_) (fun h => ?_)
  ·simp only [decide_eq_true_eq, Int.ofNat_lt] at h
   have hs := fA cnGroup l h
   have ht := iO cnGroup l (j + 1)
   have hc : cnGroup l[j] = 3 + csum cnInt l[j].fIDs := rfl
   have hkk : k + (csum cnGroup (l.take (j + 1)) : Nat) = k + (csum cnGroup (l.take j) : Nat) + (cnGroup l[j] : Nat) := by omega
   have hg := oO kQ cnGroup l k j (by rw [dE]; exact h)
   generalize k + (csum cnGroup (l.take j) : Nat) = K at hg hkk ⊢
   have hK : 1 ≤ K ∧ K + (cnGroup l[j] : Nat) ≤ 4611686018427387904 := by omega
   have hneg0 : ¬ ((((K + 1) + 1) + 1) + (csum cnInt l[j].fIDs : Nat) < 0) := by omega
   repeat' (with_reducible first | refine nY ?_ | (refine mX ?_; try simp only [go_sem, h, hg, kQ, hneg0]) | refine kO ?_ (by decide) | refine regd (by kernel_rfl) ?_ | (refine cC (gF ((K + 1) + 1) (by omega)) ?_ ?_; focus simp only [go_sem, and_self]; done) | (refine cC (a0Q l[j].fIDs (((K + 1) + 1) + 1) (by omega)) ?_ ?_; focus simp only [go_sem, and_self]; done) | (refine And.intro ?_ ?_; focus omega))
   refine aQ (j + 1) ?_ ?_ ?_
   ·simp only [go_sem, hkk]
    simp [hc]
    try omega
   ·omega
   ·omega
  ·simp only [decide_eq_false_iff_not] at h
   have e : j = l.length := by omega
   subst e
   refine aL ?_
   exact aA ⟨⟨_, rfl, by simp only [go_sem, List.take_length]⟩, trivial⟩
def a8k (x : TChange) : Nat := 7 + csum cnAttr x.fFile.fAttrs + csum zI x.fDir.fQuery
def a8l (x : TChange) (k : Int) : TChange := ⟨k, ⟨(k + 1), ((k + 1) + 1), (decide (Int.tmod (((k + 1) + 1) + 1) 3 = 0)), ((((k + 1) + 1) + 1) + 1), (mkL qV cnAttr x.fFile.fAttrs (((((k + 1) + 1) + 1) + 1) + 1))⟩, ((((((k + 1) + 1) + 1) + 1) + 1) + (csum cnAttr x.fFile.fAttrs : Nat)), ⟨(iY (((((((k + 1) + 1) + 1) + 1) + 1) + (csum cnAttr x.fFile.fAttrs : Nat)) + 1)), (mkL a5a zI x.fDir.fQuery ((((((((k + 1) + 1) + 1) + 1) + 1) + (csum cnAttr x.fFile.fAttrs : Nat)) + 1) + 1))⟩⟩
end Go.Proofs.Ytcppkdifiimblaa
end
section
set_option linter.all false
set_option maxRecDepth 100000
set_option maxHeartbeats 4000000
namespace Go.Proofs.Ytcppkdifiimblaa
open Go Go.Sx Go.RowKit Go.Proofs
theorem zK (x : TStore) (k : Int) (hk : 1 ≤ k ∧ k + (csum cnField x.fSchema : Nat) + (csum cnFile x.fFiles : Nat) ≤ 4611686018427387904) : FnM Try.prog 12 true [.w 0 2 (x.fSchema.map bD), .w 0 5 (x.fFiles.map bM), .d (iv x.fNextID)] [.w 0 2 ((mkL qA cnField x.fSchema (k)).map bD), .w 0 5 ((mkL vS cnFile x.fFiles (k + (csum cnField x.fSchema : Nat))).map bM), .d (iv x.fNextID)] k (k + (csum cnField x.fSchema : Nat) + (csum cnFile x.fFiles : Nat)) := by
 refine entm Try.func12 rfl Try.call12 rfl (by simp) (by simp only [go_sem]) (fun C tg => ?_); simp only [go_sem, Try.ntmps12]
 have qH := trivial; repeat' (with_reducible first | refine nY ?_ | (refine mX ?_; try simp only [go_sem]) | refine kD ?_ | refine rD ?_ | refine vM (wG x.fSchema _ (by omega)) ?_ | refine vM (zJ x.fFiles _ (by omega)) ?_ | refine aO ?_ | fail)
 exact ⟨⟨⟨_, rfl, by simp only [go_sem]⟩, trivial⟩, by simp only [go_sem]⟩
end Go.Proofs.Ytcppkdifiimblaa
end
section
set_option linter.all false
namespace Go.Proofs.Ytcppkdifiimblaa
open Go Go.Sx Go.RowKit Go.Proofs
theorem oF {α : Type} (cn w : α → Nat) (c : Nat) (hx : ∀ x, cn x ≤ c * (1 + w x)) : ∀ l : List α, csum cn l ≤ c * (l.length + wsum w l)
 | [] => by simp [csum]
 | x :: l => by
  have h1 := oF cn w c hx l
  have h2 := hx x
  simp only [csum, wsum, List.length_cons]
  have : c * (l.length + 1 + (w x + wsum w l)) = c * (1 + w x) + c * (l.length + wsum w l) := by rw [← Nat.mul_add]; congr 1; omega
  omega
theorem kR {α : Type} (cn : α → Nat) (c : Nat) (hx : ∀ x, cn x = c) : ∀ l : List α, csum cn l = c * l.length
 | [] => by simp [csum]
 | x :: l => by
  have h1 := kR cn c hx l
  simp only [csum, List.length_cons, hx, h1, Nat.mul_add]; omega
theorem a2H (l : List Int) : csum cnInt l = l.length := by rw [kR cnInt 1 (fun _ => rfl)]; omega
theorem a3z (l : List TField) : csum cnField l = 2 * l.length := kR cnField 2 (fun _ => rfl) l
theorem a5b (l : List TAttr) : csum cnAttr l = 4 * l.length := kR cnAttr 4 (fun _ => rfl) l
theorem a3A (l : List TGroup) : csum cnGroup l ≤ 3 * (l.length + wsum jF l) := oF cnGroup jF 3 (fun x => by
 unfold cnGroup jF; rw [a2H]; omega) l
theorem a5c (l : List TFile) : csum cnFile l ≤ 4 * (l.length + wsum wFile l) := oF cnFile wFile 4 (fun x => by
 unfold cnFile wFile cK; rw [a5b]; omega) l
end Go.Proofs.Ytcppkdifiimblaa
end
end
section
set_option maxRecDepth 100000
set_option maxHeartbeats 4000000
namespace Go.Proofs.Ytcppkdifiimblaa
open Go Go.Sx Go.RowKit Go.Proofs
def a9a (l : List ByteArray) (s : ByteArray) : Bool := l.any fun x => decide (x = s)
def a8h (l : List TDir) : List ByteArray := l.map TDir.fName
def uD (names : List ByteArray) (l : List TDir) : List ByteArray := (a8h l).filter fun n => !a9a names n
end Go.Proofs.Ytcppkdifiimblaa
end
section
set_option maxRecDepth 100000
set_option maxHeartbeats 4000000
namespace Go.Sx
end Go.Sx
namespace Go.Proofs.Ytcppkdifiimblaa
open Go Go.Sx Go.RowKit Go.Proofs
def a9p (l : List ByteArray) : List ByteArray := a8g (a8f l)
def geS (s : ByteArray) (y : ByteArray) : Bool := !dH y s
def a8Z (l : List ByteArray) (s : ByteArray) : List ByteArray := if (l.drop (a2E (geS s) l)).head? = some s then l else a6o (a2E (geS s) l) s l
def a9C (l : List ByteArray) : List ByteArray := l.foldl a8Z []
end Go.Proofs.Ytcppkdifiimblaa
end
section
namespace Go.Sx.Clos
section
variable {β : Type} [DecidableEq β]
def a8X (E : List (β × List β)) (S : List β) : Prop := ∀ e ∈ E, (∃ x ∈ e.2, x ∈ S) → e.1 ∈ S
def wsm (w : β → Nat) : List β → Nat
 | [] => 0
 | x :: l => w x + wsm w l
def a7g (w : β → Nat) : List (β × List β) → List β → Nat
 | [], _ => 0
 | e :: E, S => (if e.1 ∈ S then 0 else w e.1) + a7g w E S
variable (put : List β → β → List β)
def a8Y (name : β) (out asks : List β) : List β := asks.foldl (fun o a => if a ∈ o then put o name else o) out
def round (E : List (β × List β)) (S : List β) : List β := E.foldl (fun o e => a8Y put e.1 o e.2) S
def a4Z (E : List (β × List β)) : Nat → List β → List β
 | 0, S => S
 | n + 1, S => round put E (a4Z E n S)
variable {put} (hput : ∀ l s x, x ∈ put l s ↔ x = s ∨ x ∈ l)
include hput
omit hput
theorem rQ {lt : β → β → Prop} (hi : ∀ x, ¬ lt x x) (ht : ∀ x y z, lt x y → lt y z → lt x z) : ∀ {l m : List β}, l.Pairwise lt → m.Pairwise lt → (∀ x, x ∈ l ↔ x ∈ m) → l = m
 | [], [], _, _, _ => rfl
 | [], b :: m, _, _, h => by have := (h b).2 List.mem_cons_self; simp at this
 | a :: l, [], _, _, h => by have := (h a).1 List.mem_cons_self; simp at this
 | a :: l, b :: m, h1, h2, h => by
  rw [List.pairwise_cons] at h1 h2
  have hab : a = b := by
   rcases List.mem_cons.1 ((h a).1 List.mem_cons_self) with e | e
   ·exact e
   ·rcases List.mem_cons.1 ((h b).2 List.mem_cons_self) with e' | e'
    ·exact e'.symm
    ·exact absurd (ht _ _ _ (h1.1 b e') (h2.1 a e)) (hi a)
  subst hab
  congr 1
  refine rQ hi ht h1.2 h2.2 (fun x => ⟨fun hx => ?_, fun hx => ?_⟩)
  ·rcases List.mem_cons.1 ((h x).1 (List.mem_cons_of_mem _ hx)) with e | e
   ·subst e; exact absurd (h1.1 x hx) (hi x)
   ·exact e
  ·rcases List.mem_cons.1 ((h x).2 (List.mem_cons_of_mem _ hx)) with e | e
   ·subst e; exact absurd (h2.1 x hx) (hi x)
   ·exact e
end
end Go.Sx.Clos
namespace Go.Proofs.Ytcppkdifiimblaa
open Go Go.Sx Go.RowKit Go.Proofs
theorem a7h {x y : ByteArray} (h : bl x = bl y) : x = y := by rw [← a6p x, ← a6p y, h]
def ltS (x y : ByteArray) : Prop := bl x < bl y
theorem mU (x y : ByteArray) : dH x y = true ↔ ltS x y := by
 unfold dH ltS bl
 rw [Go.Proofs.bytesLess_eq, decide_eq_true_eq, ByteArray.toList_eq, ByteArray.toList_eq]
theorem a1T (x : ByteArray) : ¬ ltS x x := List.lt_irrefl (bl x)
theorem a3y (x y z : ByteArray) (h : ltS x y) (k : ltS y z) : ltS x z := List.lt_trans h k
theorem a7i {x y : List UInt8} (h : x ≤ y) (k : x ≠ y) : x < y := Classical.byContradiction fun hn => k (List.le_antisymm h (List.not_lt.1 hn))
theorem a2G {x y : ByteArray} (h : ¬ ltS x y) (k : x ≠ y) : ltS y x := a7i (List.not_lt.1 h) fun e => k (a7h e).symm
end Go.Proofs.Ytcppkdifiimblaa
end
section
set_option maxRecDepth 100000
namespace Go.Proofs.Ytcppkdifiimblaa
open Go Go.Sx Go.RowKit Go.Proofs Go.Sx.Clos
def c3 (l g : Bool) (r : Int) : Int := if l then -1 else if g then 1 else r
def cmpV (a b : TValue) : Int := c3 (decide (a.fKind < b.fKind)) (decide (b.fKind < a.fKind)) (c3 (decide (a.fInt < b.fInt)) (decide (b.fInt < a.fInt)) (c3 (dH a.fStr b.fStr) (dH b.fStr a.fStr) 0))
def ltV (a b : TValue) : Prop := a.fKind < b.fKind ∨ (a.fKind = b.fKind ∧ (a.fInt < b.fInt ∨ (a.fInt = b.fInt ∧ ltS a.fStr b.fStr)))
theorem iX (a b : TValue) : cmpV a b < 0 ↔ ltV a b := by
 unfold cmpV ltV c3
 by_cases h1 : a.fKind < b.fKind
 ·simp [h1]
 ·by_cases h2 : b.fKind < a.fKind
  ·simp [h1, h2]; omega
  ·have e : a.fKind = b.fKind := by omega
   by_cases h3 : a.fInt < b.fInt
   ·simp [h1, h2, h3, e]
   ·by_cases h4 : b.fInt < a.fInt
    ·simp [h1, h2, h3, h4, e]; omega
    ·have e2 : a.fInt = b.fInt := by omega
     cases h5 : dH a.fStr b.fStr with
     | true => have := (mU _ _).1 h5; simp [h1, h2, h3, h4, e, e2, this]
     | false =>
      have n5 : ¬ ltS a.fStr b.fStr := fun k => by rw [(mU _ _).2 k] at h5; cases h5
      cases h6 : dH b.fStr a.fStr <;> simp [h1, h2, h3, h4, e, e2, n5]
theorem zG {a b : TValue} (h1 : a.fKind = b.fKind) (h2 : a.fInt = b.fInt) (h3 : a.fStr = b.fStr) : a = b := by cases a; cases b; simp_all
theorem iJ (a : TValue) : ¬ ltV a a := by
 rintro (h | ⟨_, h | ⟨_, h⟩⟩)
 ·omega
 ·omega
 ·exact a1T _ h
theorem jQ (a b c : TValue) (h : ltV a b) (k : ltV b c) : ltV a c := by
 rcases h with h | ⟨e, h | ⟨e2, h⟩⟩ <;> rcases k with k | ⟨f, k | ⟨f2, k⟩⟩
 ·exact .inl (by omega)
 ·exact .inl (by omega)
 ·exact .inl (by omega)
 ·exact .inl (by omega)
 ·exact .inr ⟨by omega, .inl (by omega)⟩
 ·exact .inr ⟨by omega, .inl (by omega)⟩
 ·exact .inl (by omega)
 ·exact .inr ⟨by omega, .inl (by omega)⟩
 ·exact .inr ⟨by omega, .inr ⟨by omega, a3y _ _ _ h k⟩⟩
theorem tN {a b : TValue} (h : ¬ ltV a b) (k : a ≠ b) : ltV b a := by
 unfold ltV at h ⊢
 by_cases h1 : a.fKind < b.fKind
 ·exact absurd (.inl h1) h
 ·by_cases h2 : b.fKind < a.fKind
  ·exact .inl h2
  ·have e : a.fKind = b.fKind := by omega
   by_cases h3 : a.fInt < b.fInt
   ·exact absurd (.inr ⟨e, .inl h3⟩) h
   ·by_cases h4 : b.fInt < a.fInt
    ·exact .inr ⟨e.symm, .inl h4⟩
    ·have e2 : a.fInt = b.fInt := by omega
     have n5 : ¬ ltS a.fStr b.fStr := fun q => h (.inr ⟨e, .inr ⟨e2, q⟩⟩)
     exact .inr ⟨e.symm, .inr ⟨e2.symm, a2G n5 fun q => k (zG e e2 q)⟩⟩
instance decV : DecidableEq TValue := fun a b =>
 if h : a.fKind = b.fKind ∧ a.fInt = b.fInt ∧ a.fStr = b.fStr then isTrue (zG h.1 h.2.1 h.2.2) else isFalse fun e => h ⟨by rw [e], by rw [e], by rw [e]⟩
instance decG : DecidableEq TGroup := fun a b =>
 if h : a.fValue = b.fValue ∧ a.fIDs = b.fIDs then isTrue (by cases a; cases b; simp only at h; rw [h.1, h.2]) else isFalse fun e => h ⟨by rw [e], by rw [e]⟩
def fV (l : List TGroup) (x : TValue × Int) : List TGroup :=
 match l with
 | [] => [⟨x.1, [x.2]⟩]
 | g :: r => if g.fValue = x.1 then ⟨g.fValue, g.fIDs ++ [x.2]⟩ :: r else g :: fV r x
def dO (l : List TGroup) (x : TValue × Int) : List TGroup :=
 match l with
 | [] => [⟨x.1, [x.2]⟩]
 | g :: r => if cmpV g.fValue x.1 < 0 then g :: dO r x else if g.fValue = x.1 then ⟨g.fValue, g.fIDs ++ [x.2]⟩ :: r else ⟨x.1, [x.2]⟩ :: g :: r
def ltG (a b : TGroup) : Prop := ltV a.fValue b.fValue
theorem a1R (a : TGroup) : ¬ ltG a a := iJ _
theorem a3w (a b c : TGroup) (h : ltG a b) (k : ltG b c) : ltG a c := jQ _ _ _ h k
theorem insG_mem {l : List TGroup} {x : TValue × Int} {g : TGroup} (h : g ∈ dO l x) : g.fValue = x.1 ∨ ∃ g' ∈ l, g'.fValue = g.fValue := by
 induction l with
 | nil => simp only [dO, List.mem_singleton] at h; subst h; exact .inl rfl
 | cons a r ih =>
  unfold dO at h
  split at h
  ·rcases List.mem_cons.1 h with rfl | h
   ·exact .inr ⟨g, List.mem_cons_self, rfl⟩
   ·rcases ih h with e | ⟨g', h1, h2⟩
    ·exact .inl e
    ·exact .inr ⟨g', List.mem_cons_of_mem _ h1, h2⟩
  ·split at h
   ·rcases List.mem_cons.1 h with rfl | h
    ·exact .inr ⟨a, List.mem_cons_self, rfl⟩
    ·exact .inr ⟨g, List.mem_cons_of_mem _ h, rfl⟩
   ·rcases List.mem_cons.1 h with rfl | h
    ·exact .inl rfl
    ·exact .inr ⟨g, h, rfl⟩
theorem rP {l : List TGroup} (x : TValue × Int) (h : l.Pairwise ltG) : (dO l x).Pairwise ltG := by
 induction l with
 | nil => exact List.pairwise_singleton _ _
 | cons a r ih =>
  rw [List.pairwise_cons] at h
  unfold dO
  split
  ·rename_i hc
   refine List.pairwise_cons.2 ⟨fun g hg => ?_, ih h.2⟩
   rcases insG_mem hg with e | ⟨g', h1, h2⟩
   ·show ltV a.fValue g.fValue; rw [e]; exact (iX _ _).1 hc
   ·show ltV a.fValue g.fValue; rw [← h2]; exact h.1 g' h1
  ·rename_i hc
   split
   ·exact List.pairwise_cons.2 ⟨fun g hg => h.1 g hg, h.2⟩
   ·rename_i hne
    have hx : ltV x.1 a.fValue := tN (fun k => hc ((iX _ _).2 k)) hne
    refine List.pairwise_cons.2 ⟨fun g hg => ?_, List.pairwise_cons.2 h⟩
    rcases List.mem_cons.1 hg with rfl | hg
    ·exact hx
    ·exact jQ _ _ _ hx (h.1 g hg)
def dW (l : List TGroup) : Prop := l.Pairwise fun a b => a.fValue ≠ b.fValue
theorem kW {l : List TGroup} (h : l.Pairwise ltG) : dW l := h.imp fun {a b} (hab : ltV a.fValue b.fValue) e => by rw [e] at hab; exact iJ _ hab
theorem addG_mem {l : List TGroup} {x : TValue × Int} {g : TGroup} (h : g ∈ fV l x) : g.fValue = x.1 ∨ ∃ g' ∈ l, g'.fValue = g.fValue := by
 induction l with
 | nil => simp only [fV, List.mem_singleton] at h; subst h; exact .inl rfl
 | cons a r ih =>
  unfold fV at h
  split at h
  ·rcases List.mem_cons.1 h with rfl | h
   ·exact .inr ⟨a, List.mem_cons_self, rfl⟩
   ·exact .inr ⟨g, List.mem_cons_of_mem _ h, rfl⟩
  ·rcases List.mem_cons.1 h with rfl | h
   ·exact .inr ⟨g, List.mem_cons_self, rfl⟩
   ·rcases ih h with e | ⟨g', h1, h2⟩
    ·exact .inl e
    ·exact .inr ⟨g', List.mem_cons_of_mem _ h1, h2⟩
theorem a1S {l : List TGroup} (x : TValue × Int) (h : dW l) : dW (fV l x) := by
 induction l with
 | nil => exact List.pairwise_singleton _ _
 | cons a r ih =>
  unfold dW at h ih ⊢
  rw [List.pairwise_cons] at h
  unfold fV
  split
  ·exact List.pairwise_cons.2 ⟨fun g hg => h.1 g hg, h.2⟩
  ·rename_i hne
   refine List.pairwise_cons.2 ⟨fun g hg => ?_, ih h.2⟩
   rcases addG_mem hg with e | ⟨g', h1, h2⟩
   ·rw [e]; exact hne
   ·rw [← h2]; exact h.1 g' h1
def upd (l : List TGroup) (x : TValue × Int) (g : TGroup) : Prop :=
 (g ∈ l ∧ g.fValue ≠ x.1) ∨ (∃ g' ∈ l, g'.fValue = x.1 ∧ g = ⟨x.1, g'.fIDs ++ [x.2]⟩) ∨ ((∀ g' ∈ l, g'.fValue ≠ x.1) ∧ g = ⟨x.1, [x.2]⟩)
theorem a0P {l : List TGroup} (x : TValue × Int) (h : dW l) (g : TGroup) : g ∈ fV l x ↔ upd l x g := by
 induction l with
 | nil => simp [fV, upd]
 | cons a r ih =>
  unfold dW at h
  rw [List.pairwise_cons] at h
  have ih' := ih h.2
  unfold fV
  split
  ·rename_i e
   unfold upd
   constructor
   ·intro hg
    rcases List.mem_cons.1 hg with rfl | hg
    ·exact .inr (.inl ⟨a, List.mem_cons_self, e, by rw [e]⟩)
    ·exact .inl ⟨List.mem_cons_of_mem _ hg, fun k => h.1 g hg (by rw [e, k])⟩
   ·rintro (⟨h1, h2⟩ | ⟨g', h1, h2, rfl⟩ | ⟨h1, rfl⟩)
    ·rcases List.mem_cons.1 h1 with rfl | h1
     ·exact absurd e h2
     ·exact List.mem_cons_of_mem _ h1
    ·rcases List.mem_cons.1 h1 with rfl | h1
     ·rw [← h2]; exact List.mem_cons_self
     ·exact absurd (by rw [e, h2]) (h.1 g' h1)
    ·exact absurd e (h1 a List.mem_cons_self)
  ·rename_i hne
   rw [List.mem_cons, ih']
   unfold upd
   constructor
   ·rintro (rfl | ⟨h1, h2⟩ | ⟨g', h1, h2, rfl⟩ | ⟨h1, rfl⟩)
    ·exact .inl ⟨List.mem_cons_self, hne⟩
    ·exact .inl ⟨List.mem_cons_of_mem _ h1, h2⟩
    ·exact .inr (.inl ⟨g', List.mem_cons_of_mem _ h1, h2, rfl⟩)
    ·exact .inr (.inr ⟨fun g' hg' => by
      rcases List.mem_cons.1 hg' with rfl | hg'
      ·exact hne
      ·exact h1 g' hg', rfl⟩)
   ·rintro (⟨h1, h2⟩ | ⟨g', h1, h2, rfl⟩ | ⟨h1, rfl⟩)
    ·rcases List.mem_cons.1 h1 with rfl | h1
     ·exact .inl rfl
     ·exact .inr (.inl ⟨h1, h2⟩)
    ·rcases List.mem_cons.1 h1 with rfl | h1
     ·exact absurd h2 hne
     ·exact .inr (.inr (.inl ⟨g', h1, h2, rfl⟩))
    ·exact .inr (.inr (.inr ⟨fun g' hg' => h1 g' (List.mem_cons_of_mem _ hg'), rfl⟩))
theorem a4Y {l : List TGroup} (x : TValue × Int) (h : l.Pairwise ltG) (g : TGroup) : g ∈ dO l x ↔ upd l x g := by
 induction l with
 | nil => simp [dO, upd]
 | cons a r ih =>
  have h0 := h
  rw [List.pairwise_cons] at h
  have ih' := ih h.2
  unfold dO
  split
  ·rename_i hc
   have hne : a.fValue ≠ x.1 := fun e => by rw [e] at hc; exact iJ _ ((iX _ _).1 hc)
   rw [List.mem_cons, ih']
   unfold upd
   constructor
   ·rintro (rfl | ⟨h1, h2⟩ | ⟨g', h1, h2, rfl⟩ | ⟨h1, rfl⟩)
    ·exact .inl ⟨List.mem_cons_self, hne⟩
    ·exact .inl ⟨List.mem_cons_of_mem _ h1, h2⟩
    ·exact .inr (.inl ⟨g', List.mem_cons_of_mem _ h1, h2, rfl⟩)
    ·exact .inr (.inr ⟨fun g' hg' => by
      rcases List.mem_cons.1 hg' with rfl | hg'
      ·exact hne
      ·exact h1 g' hg', rfl⟩)
   ·rintro (⟨h1, h2⟩ | ⟨g', h1, h2, rfl⟩ | ⟨h1, rfl⟩)
    ·rcases List.mem_cons.1 h1 with rfl | h1
     ·exact .inl rfl
     ·exact .inr (.inl ⟨h1, h2⟩)
    ·rcases List.mem_cons.1 h1 with rfl | h1
     ·exact absurd h2 hne
     ·exact .inr (.inr (.inl ⟨g', h1, h2, rfl⟩))
    ·exact .inr (.inr (.inr ⟨fun g' hg' => h1 g' (List.mem_cons_of_mem _ hg'), rfl⟩))
  ·rename_i hc
   split
   ·rename_i e
    have hap : dW (a :: r) := kW h0
    have := a0P x hap g
    unfold fV at this
    rw [if_pos e] at this
    exact this
   ·rename_i hne
    have hx : ltV x.1 a.fValue := tN (fun k => hc ((iX _ _).2 k)) hne
    have hall : ∀ g' ∈ a :: r, g'.fValue ≠ x.1 := fun g' hg' e => by
     rcases List.mem_cons.1 hg' with rfl | hg'
     ·exact hne e
     ·have h3 : ltV a.fValue g'.fValue := h.1 g' hg'
      rw [e] at h3
      exact iJ _ (jQ _ _ _ hx h3)
    unfold upd
    constructor
    ·intro hg
     rcases List.mem_cons.1 hg with rfl | hg
     ·exact .inr (.inr ⟨hall, rfl⟩)
     ·exact .inl ⟨hg, hall g hg⟩
    ·rintro (⟨h1, h2⟩ | ⟨g', h1, h2, rfl⟩ | ⟨h1, rfl⟩)
     ·exact List.mem_cons_of_mem _ h1
     ·exact absurd h2 (hall g' h1)
     ·exact List.mem_cons_self
theorem a3x {l m : List TGroup} (h : ∀ g, g ∈ l ↔ g ∈ m) (x : TValue × Int) (g : TGroup) : upd l x g ↔ upd m x g := by
 unfold upd
 simp only [h]
theorem xQ (xs : List (TValue × Int)) : ∀ (l m : List TGroup), dW l → m.Pairwise ltG → (∀ g, g ∈ l ↔ g ∈ m) →
    dW (xs.foldl fV l) ∧ (xs.foldl dO m).Pairwise ltG ∧ ∀ g, g ∈ xs.foldl fV l ↔ g ∈ xs.foldl dO m := by
 induction xs with
 | nil => intro l m h1 h2 h3; exact ⟨h1, h2, h3⟩
 | cons x xs ih =>
  intro l m h1 h2 h3
  exact ih (fV l x) (dO m x) (a1S x h1) (rP x h2) fun g => by rw [a0P x h1, a4Y x h2, a3x h3]
theorem wF (xs : List (TValue × Int)) {s : List TGroup} (hp : ∀ g, g ∈ s ↔ g ∈ xs.foldl fV []) (hs : s.Pairwise ltG) : s = xs.foldl dO [] := by
 obtain ⟨_, h2, h3⟩ := xQ xs [] [] List.Pairwise.nil List.Pairwise.nil fun g => Iff.rfl
 exact rQ a1R a3w hs h2 fun g => by rw [hp, h3]
end Go.Proofs.Ytcppkdifiimblaa
end
