/- Joined texts. -/
import Derived.Test.YteaaopodnbjpoaaZ04
import Derived.Sort.Row
import Derived.Sort.Grow
import Derived.Shelf.RegionOpenPlain
import Derived.WalkKit
import Derived.Deep.LoopGhost
import Derived.Deep.Draws
import Derived.Lib.Walk
import Derived.Lib.SliceRun
import Derived.Shelf.SlicesE.Kit
import Derived.Shelf.SlicesE.DeleteFunc
set_option linter.all false
section
section
set_option linter.all false
namespace Go.Proofs.Yteaaopodnbjpoaa
open Go Go.Sx Go.RowKit Go.Proofs
def bS (n : Int) (w : Nat) : Int := if n - w < 0 then -1 else n - w
theorem aZ {n : Int} {w : Nat} (h : n - w < 0) : bS n w = -1 := if_pos h
theorem bF {n : Int} {w : Nat} (h : ¬ n - w < 0) : bS n w = n - w := if_neg h
theorem wC {n : Int} {w : Nat} (h : ¬ bS n w < 0) : w ≤ n := by
 unfold bS at h
 split at h <;> omega
def wsum {α : Type} (w : α → Nat) : List α → Nat
 | [] => 0
 | x :: l => w x + wsum w l
theorem bW {α : Type} (w : α → Nat) : ∀ (l : List α) {k : Nat} (h : k < l.length), w l[k] ≤ wsum w l
 | [], _, h => by simp at h
 | x :: l, 0, _ => by simp [wsum]
 | x :: l, k + 1, h => by
  have := bW w l (k := k) (by simpa using h)
  simp only [List.getElem_cons_succ, wsum]; omega
theorem lZ {α : Type} (w : α → Nat) : ∀ (l : List α) {k : Nat} (h : k < l.length), wsum w (l.take (k + 1)) = wsum w (l.take k) + w l[k]
 | [], _, h => by simp at h
 | x :: l, 0, _ => by simp [wsum]
 | x :: l, k + 1, h => by
  have := lZ w l (k := k) (by simpa using h)
  simp only [List.take_succ_cons, List.getElem_cons_succ, wsum]; omega
theorem kZ {α : Type} (w : α → Nat) : ∀ (l : List α) (k : Nat), wsum w (l.take k) ≤ wsum w l
 | [], k => by simp
 | x :: l, 0 => by simp [wsum]
 | x :: l, k + 1 => by
  have := kZ w l k
  simp only [List.take_succ_cons, wsum]; omega
@[go_sem] def aU (n : Int) : List D := [iv n]
@[go_sem] def a3J (s : ByteArray) : List D := [sv s]
abbrev slI (l : List Int) : D := .sl (l.map aU)
abbrev slS (l : List ByteArray) : D := .sl (l.map a3J)
def a3K (l : List ByteArray) : Nat := l.length + wsum ByteArray.size l
def mD (l : List Int) : Prop := l.length ≤ 9223372036854775807 ∧ ∀ i ∈ l, inR .i64 i
def a3l (l : List ByteArray) : Prop := l.length ≤ 9223372036854775807 ∧ ∀ s ∈ l, s.size ≤ 9223372036854775807
theorem a4Q {n : Nat} {r : List D} (h : ShD tt n 3 r) : ∃ i, r = aU i ∧ inR .i64 i := by
 match n, h with
 | n + 1, ⟨i, h, hi⟩ => exact ⟨i, h, hi⟩
theorem a3L {n : Nat} {r : List D} (h : ShD tt n 9 r) : ∃ s : ByteArray, r = a3J s ∧ s.size ≤ 9223372036854775807 := by
 match n, h with
 | n + 1, ⟨s, h, hs⟩ => exact ⟨s, h, hs⟩
theorem tN {n : Nat} {r : List D} (h : ShD tt n 37 r) : ∃ l : List Int, r = [slI l] ∧ mD l := by
 match n, h with
 | n + 1, ⟨rows, h, hm, hr⟩ =>
  obtain ⟨l, rfl, hl⟩ := kH aU (inR .i64) (fun r h => a4Q (hr r h))
  exact ⟨l, h, by unfold maxLen at hm; simpa using hm, hl⟩
theorem mE (l : List Int) (hl : l.length ≤ 1048576) : FnC Try.prog 30 [.o (.d (slI l))] (.o (.w 3 1 (l.map aU))) := by
 refine ent Try.func30 rfl Try.call30 rfl (fun C => ?_); simp only [go_sem, st0, Try.ntmps30]
 refine aN ?_
 refine bP (α := Nat) (fun k => [(4, oi k)]) (fun k => [(0, .row 3 1 (eP aU [iv 0] l k) true)]) (fun k => k ≤ l.length) (fun k => l.length - k) 0 (fun _ => ?_) ?_ ?_ (fun k hk => ?_)
 ·simp only [go_sem]
 ·simp only [go_sem]; simp [jQ]
 ·simp
 ·simp only [go_sem]
  refine aN ?_
  refine cnd rfl (fun h => ?_) (fun h => ?_)
  ·simp only [decide_eq_true_eq, Int.ofNat_lt] at h
   have q0 := @h; refine lX ?_
   refine aY (k + 1) ?_ ?_ ?_
   ·simp only [go_sem]; simp [← lS, h, aU]
   ·omega
   ·omega
  ·simp only [decide_eq_false_iff_not] at h
   have e : k = l.length := by omega
   subst e
   refine aN ?_
   exact aA ⟨⟨_, rfl, by simp only [go_sem, lT]⟩, trivial⟩
theorem mF (l : List Int) (hl : l.length ≤ 67108864) : FnC Try.prog 33 [.o (.d (slI l)), .o (.d (slI l))] (ob true) := by
 refine ent Try.func33 rfl Try.call33 rfl (fun C => ?_); simp only [go_sem, st0, Try.ntmps33]
 refine aN ?_
 refine bP (α := Nat) (fun k => [(5, oi k)]) (fun _ => []) (fun k => k ≤ l.length) (fun k => l.length - k) 0 (fun _ => ?_) ?_ ?_ (fun k hk => ?_)
 ·simp only [go_sem]
 ·simp only [go_sem]; simp
 ·simp
 ·simp only [go_sem]
  refine aN ?_
  refine cnd rfl (fun h => ?_) (fun h => ?_)
  ·simp only [decide_eq_true_eq, Int.ofNat_lt] at h
   have q0 := @h; refine lX ?_
   refine aY (k + 1) ?_ ?_ ?_
   ·simp only [go_sem]; simp
   ·omega
   ·omega
  ·simp only [decide_eq_false_iff_not] at h
   refine aN ?_
   exact aA ⟨⟨_, rfl, by simp only [go_sem]⟩, trivial⟩
theorem dI (l : List Int) (n : Int) (h0 : 0 ≤ n ∧ n ≤ 1048576) (hw : mD l) : FnC Try.prog 27 [.o (.d (slI l)), oi n] (oi (bS n l.length)) := by
 have h1 := hw.1
 refine ent Try.func27 rfl Try.call27 rfl (fun C => ?_); simp only [go_sem, st0, Try.ntmps27]
 by_cases hc : n - (l.length : Nat) < 0
 ·have q0 := @hc; refine lX ?_
  exact aA ⟨⟨_, rfl, by simp only [go_sem, aZ hc]⟩, trivial⟩
 ·have q0 := @hc; refine lX ?_
  exact aA ⟨⟨_, rfl, by simp only [go_sem, bF hc]⟩, trivial⟩
end Go.Proofs.Yteaaopodnbjpoaa
end
section
set_option linter.all false
set_option maxHeartbeats 1000000
namespace Go.Proofs.Yteaaopodnbjpoaa
open Go Go.Sx Go.RowKit Go.Proofs
structure TValue where
 fKind : Int
 fInt : Int
 fStr : ByteArray
@[go_sem] def a3M (x : TValue) : List D := [iv x.fKind, iv x.fInt, sv x.fStr]
@[go_sem] def a4R (x : TValue) : SV := .g [.d (iv x.fKind), .d (iv x.fInt), .d (sv x.fStr)]
def tO (x : TValue) : Nat := x.fStr.size
def nO (x : TValue) : Prop := inR .i64 x.fKind ∧ inR .i64 x.fInt ∧ x.fStr.size ≤ 9223372036854775807
def a4m (l : List TValue) : Nat := l.length + wsum tO l
def a3N (l : List TValue) : Prop := l.length ≤ 9223372036854775807 ∧ ∀ x ∈ l, nO x
end Go.Proofs.Yteaaopodnbjpoaa
end
section
set_option linter.all false
set_option maxHeartbeats 1000000
namespace Go.Proofs.Yteaaopodnbjpoaa
open Go Go.Sx Go.RowKit Go.Proofs
structure TField where
 fName : ByteArray
 fKind : Int
@[go_sem] def fV (x : TField) : List D := [sv x.fName, iv x.fKind]
@[go_sem] def a4S (x : TField) : SV := .g [.d (sv x.fName), .d (iv x.fKind)]
def a2T (x : TField) : Nat := x.fName.size
def a1X (x : TField) : Prop := x.fName.size ≤ 9223372036854775807 ∧ inR .i64 x.fKind
def a1Y (l : List TField) : Nat := l.length + wsum a2T l
def a0Y (l : List TField) : Prop := l.length ≤ 9223372036854775807 ∧ ∀ x ∈ l, a1X x
end Go.Proofs.Yteaaopodnbjpoaa
end
section
set_option linter.all false
set_option maxHeartbeats 1000000
namespace Go.Proofs.Yteaaopodnbjpoaa
open Go Go.Sx Go.RowKit Go.Proofs
structure TAttr where
 fName : ByteArray
 fValue : TValue
@[go_sem] def jC (x : TAttr) : List D := [sv x.fName, iv x.fValue.fKind, iv x.fValue.fInt, sv x.fValue.fStr]
@[go_sem] def a5m (x : TAttr) : SV := .g [.d (sv x.fName), .d (iv x.fValue.fKind), .d (iv x.fValue.fInt), .d (sv x.fValue.fStr)]
def a3O (x : TAttr) : Nat := x.fName.size + tO x.fValue
def a2U (x : TAttr) : Prop := x.fName.size ≤ 9223372036854775807 ∧ nO x.fValue
def a0Z (l : List TAttr) : Nat := l.length + wsum a3O l
def yJ (l : List TAttr) : Prop := l.length ≤ 9223372036854775807 ∧ ∀ x ∈ l, a2U x
end Go.Proofs.Yteaaopodnbjpoaa
end
section
set_option linter.all false
set_option maxHeartbeats 1000000
namespace Go.Proofs.Yteaaopodnbjpoaa
open Go Go.Sx Go.RowKit Go.Proofs
structure TFile where
 fID : Int
 fOwner : Int
 fShared : Bool
 fLink : Int
 fAttrs : List TAttr
@[go_sem] def jD (x : TFile) : List D := [iv x.fID, iv x.fOwner, bv x.fShared, iv x.fLink, .sl (x.fAttrs.map jC)]
@[go_sem] def a5n (x : TFile) : SV := .g [.d (iv x.fID), .d (iv x.fOwner), .d (bv x.fShared), .d (iv x.fLink), .d (.sl (x.fAttrs.map jC))]
def a2m (x : TFile) : Nat := a0Z x.fAttrs
def a1a (x : TFile) : Prop := inR .i64 x.fID ∧ inR .i64 x.fOwner ∧ True ∧ inR .i64 x.fLink ∧ yJ x.fAttrs
def a2V (l : List TFile) : Nat := l.length + wsum a2m l
def a1Z (l : List TFile) : Prop := l.length ≤ 9223372036854775807 ∧ ∀ x ∈ l, a1a x
end Go.Proofs.Yteaaopodnbjpoaa
end
section
set_option linter.all false
set_option maxHeartbeats 1000000
namespace Go.Proofs.Yteaaopodnbjpoaa
open Go Go.Sx Go.RowKit Go.Proofs
structure TStore where
 fSchema : List TField
 fFiles : List TFile
 fNextID : Int
@[go_sem] def a3P (x : TStore) : List D := [.sl (x.fSchema.map fV), .sl (x.fFiles.map jD), iv x.fNextID]
@[go_sem] def a4T (x : TStore) : SV := .g [.d (.sl (x.fSchema.map fV)), .d (.sl (x.fFiles.map jD)), .d (iv x.fNextID)]
def xJ (x : TStore) : Nat := a1Y x.fSchema + a2V x.fFiles
def tQ (x : TStore) : Prop := a0Y x.fSchema ∧ a1Z x.fFiles ∧ inR .i64 x.fNextID
def a4n (l : List TStore) : Nat := l.length + wsum xJ l
def a3Q (l : List TStore) : Prop := l.length ≤ 9223372036854775807 ∧ ∀ x ∈ l, tQ x
end Go.Proofs.Yteaaopodnbjpoaa
end
section
set_option linter.all false
set_option maxHeartbeats 1000000
namespace Go.Proofs.Yteaaopodnbjpoaa
open Go Go.Sx Go.RowKit Go.Proofs
structure TNode where
 fOp : Int
 fLeft : Int
 fRight : Int
 fName : ByteArray
 fValue : TValue
@[go_sem] def nP (x : TNode) : List D := [iv x.fOp, iv x.fLeft, iv x.fRight, sv x.fName, iv x.fValue.fKind, iv x.fValue.fInt, sv x.fValue.fStr]
@[go_sem] def a5o (x : TNode) : SV := .g [.d (iv x.fOp), .d (iv x.fLeft), .d (iv x.fRight), .d (sv x.fName), .d (iv x.fValue.fKind), .d (iv x.fValue.fInt), .d (sv x.fValue.fStr)]
def a3R (x : TNode) : Nat := x.fName.size + tO x.fValue
def a2W (x : TNode) : Prop := inR .i64 x.fOp ∧ inR .i64 x.fLeft ∧ inR .i64 x.fRight ∧ x.fName.size ≤ 9223372036854775807 ∧ nO x.fValue
def a2X (l : List TNode) : Nat := l.length + wsum a3R l
def a2a (l : List TNode) : Prop := l.length ≤ 9223372036854775807 ∧ ∀ x ∈ l, a2W x
end Go.Proofs.Yteaaopodnbjpoaa
end
section
set_option linter.all false
set_option maxHeartbeats 1000000
namespace Go.Proofs.Yteaaopodnbjpoaa
open Go Go.Sx Go.RowKit Go.Proofs
structure TDir where
 fName : ByteArray
 fQuery : List TNode
@[go_sem] def tT (x : TDir) : List D := [sv x.fName, .sl (x.fQuery.map nP)]
@[go_sem] def a5x (x : TDir) : SV := .g [.d (sv x.fName), .d (.sl (x.fQuery.map nP))]
def a3S (x : TDir) : Nat := x.fName.size + a2X x.fQuery
def a2n (x : TDir) : Prop := x.fName.size ≤ 9223372036854775807 ∧ a2a x.fQuery
def a2o (l : List TDir) : Nat := l.length + wsum a3S l
def a1b (l : List TDir) : Prop := l.length ≤ 9223372036854775807 ∧ ∀ x ∈ l, a2n x
end Go.Proofs.Yteaaopodnbjpoaa
end
end
section
section
set_option linter.all false
namespace Go.Sx
open Go Go.RowKit
def gZ {α : Type} (e : α → Value) (l : List α) : List (List D) := l.map fun x => [.v (e x)]
theorem bO {α : Type} (e : α → Value) (l : List α) : (gZ e l).flatten = l.map fun x => D.v (e x) := by
 induction l with
 | nil => rfl
 | cons x l ih => simp only [gZ, List.map_cons, List.flatten_cons] at ih ⊢; rw [ih]; rfl
theorem scal_down {α : Type} [Inhabited α] {e : α → Value} {V : View} {w : World} {ty : Nat} {l : List α} {y : Value} {S : List Nat} (h : RowR V w ty 1 (gZ e l) y S) :
    ((∃ ao, y = .slice ao 0 0) ∧ l = [] ∧ S = []) ∨ ∃ b cap c, y = .slice (some ⟨b, 0, none⟩) l.length cap ∧ l.length ≤ cap ∧ cap ≤ maxLen ∧ w.heap[b]? = some (.cells c ty (0, 0)) ∧ c.size = cap ∧ Sort.Holds e w b 0 l.toArray ∧ V b = none ∧ S = [b] := by
 obtain ⟨h0, ys, Ss, h1, h3⟩ := h
 rcases h3 with ⟨ha, hb, hc⟩ | ⟨b, cap, c, rfl, e3, e4, e5, e6, e7, e8, rfl⟩
 ·exact .inl ⟨ha, by simpa [gZ] using hb, hc⟩
 ·have key : ∀ j (hj : j < l.length), ys[j]? = some (e l[j]) ∧ Ss[j]? = some [] := fun j hj => by
   have hd : (gZ e l).flatten[j]? = some (.v (e l[j])) := by rw [bO]; simp [hj]
   have hlt : j < ys.length := by rw [h1.1]; exact (List.getElem?_eq_some_iff.1 hd).1
   have hls : j < Ss.length := by rw [h1.2.1]; exact (List.getElem?_eq_some_iff.1 hd).1
   have hl := h1.2.2 j _ _ _ hd (List.getElem?_eq_getElem hlt) (List.getElem?_eq_getElem hls)
   rw [List.getElem?_eq_getElem hlt, List.getElem?_eq_getElem hls]
   generalize ys[j] = z at hl ⊢
   generalize Ss[j] = s at hl ⊢
   cases hl
   exact ⟨rfl, rfl⟩
  have hlen : Ss.length = l.length := by rw [h1.2.1, bO, List.length_map]
  refine .inr ⟨b, cap, c, by simp [gZ], by simpa [gZ] using e3, e4, e5, by simpa using e6, fun j hj => ?_, e8, ?_⟩
  ·have hj' : j < l.length := by simpa using hj
   have hy := bG e7 (key j hj').1
   refine ⟨?_, by simp [World.frozen?, e5]⟩
   simp only [World.cell?, e5, Nat.zero_add]
   simp only [Option.isSome_none, Bool.false_eq_true, if_false]
   rw [← Array.getElem?_toList, hy]
   congr 1
   rw [getElem!_pos l.toArray j (by simpa using hj')]
   simp
  ·congr 1
   refine List.flatten_eq_nil_iff.2 fun s hs => ?_
   obtain ⟨j, hj, rfl⟩ := List.mem_iff_getElem.1 hs
   have := (key j (by omega)).2
   rw [List.getElem?_eq_getElem hj] at this
   exact Option.some.inj this
theorem yH {α : Type} [Inhabited α] {e : α → Value} (hs : ∀ x, scalar (e x) = true) {V : View} {w w' : World} {b ty cap n : Nat} {c : Array Value} {d : Array α} {l : List α} {os : Array Obj} (hb : w.heap[b]? = some (.cells c ty (0, 0)))
    (hc : c.size = cap) (hcap : cap ≤ maxLen) (hd : d.size ≤ cap) (hw : w' = Sort.grow (Sort.putRow e (Sort.ahead w n) b 0 d) os) (hl : l <+: d.toList) (hV : V b = none) :
    RowR V w' ty 1 (gZ e l) (.slice (some ⟨b, 0, none⟩) l.length cap) [b] ∧ w.grownBy w' (some b) := by
 have hlt : b < w.heap.size := (Array.getElem?_eq_some_iff.1 hb).1
 have hle : l.length ≤ d.size := by have := hl.length_le; simpa using this
 have hheap : w'.heap[b]? = some (.cells (Sort.putCells e 0 d c) ty (0, 0)) := by
  subst hw
  rw [Sort.heap_grow_old _ _ (by simp [Sort.putRow, Sort.mapBlock, Sort.ahead]; exact hlt)]
  simp only [Sort.putRow, Sort.mapBlock, Sort.ahead, Array.getElem?_modify, if_true, hb, Option.map_some, Sort.onCells]
 refine ⟨⟨fun r hr => ?_, l.map e, List.replicate l.length [], ⟨by rw [bO]; simp, by rw [bO]; simp, fun k dd y s h1 h2 h3 => ?_⟩, .inr ⟨b, cap, _, by simp [gZ], by simp [gZ]; omega, hcap, hheap, by simp [Sort.putCells, hc], ?_, hV, ?_⟩⟩, ?_⟩
 ·obtain ⟨x, _, rfl⟩ := List.mem_map.1 hr; rfl
 ·rw [bO, List.getElem?_map] at h1
  rw [List.getElem?_map] at h2
  cases hk : l[k]? with
  | none => rw [hk] at h1; cases h1
  | some x =>
   rw [hk] at h1 h2
   cases h1; cases h2
   rw [List.getElem?_replicate] at h3
   split at h3
   ·cases h3; exact .v _ (hs x)
   ·cases h3
 ·refine List.prefix_iff_eq_take.2 ?_
  apply List.ext_getElem?
  intro j
  rw [List.getElem?_take, List.getElem?_map]
  simp only [List.length_map]
  by_cases hj : j < l.length
  ·have hjc : j < c.size := by omega
   have hdj : d.toList[j]? = some l[j] := bG hl (List.getElem?_eq_getElem hj)
   rw [Array.getElem?_toList, Array.getElem?_eq_getElem (by omega)] at hdj
   have h1 : (Sort.putCells e 0 d c).toList[j]? = some (e l[j]) := by
    rw [Array.getElem?_toList]
    simp only [Sort.putCells, Array.getElem?_mapIdx, Array.getElem?_eq_getElem hjc, Option.map_some]
    rw [if_pos (by omega), Nat.sub_zero, getElem!_pos d j (by omega), Option.some.inj hdj]
   rw [if_pos hj, h1, List.getElem?_eq_getElem hj]; rfl
  ·rw [if_neg hj, List.getElem?_eq_none (by omega)]; rfl
 ·simp
 ·subst hw
  refine ⟨rfl, rfl, rfl, by simp [Sort.putRow, Sort.mapBlock, Sort.ahead], fun k hk hne => ?_⟩
  rw [Sort.heap_grow_old _ _ (by simp [Sort.putRow, Sort.mapBlock, Sort.ahead]; exact hk)]
  simp only [Sort.putRow, Sort.mapBlock, Sort.ahead, Array.getElem?_modify]
  rw [if_neg (fun e => hne (by rw [e]))]
end Go.Sx
end
section
set_option linter.all false
namespace Go.Sx
open Go Go.RowKit
structure RowAt (w wr : World) (b ty N : Nat) (F : List Value) : Prop where
 cells : ∃ c : Array Value, wr.heap[b]? = some (.cells c ty (0, 0)) ∧ c.size = N ∧ F <+: c.toList
 grown : w.grownBy wr (some b)
theorem tK (w : World) (r : Option Nat) : w.grownBy w r := ⟨rfl, rfl, rfl, Nat.le_refl _, fun _ _ _ => rfl⟩
theorem jJ {w w1 w2 : World} {r : Option Nat} (h1 : w.grownBy w1 r) (h2 : w1.grownBy w2 r) : w.grownBy w2 r :=
 ⟨h2.os.trans h1.os, h2.tape.trans h1.tape, h2.output.trans h1.output, Nat.le_trans h1.size h2.size, fun k hk hn => (h2.block k (Nat.lt_of_lt_of_le hk h1.size) hn).trans (h1.block k hk hn)⟩
theorem fC {w w' : World} (r : Option Nat) (h : Below w.heap.size w w') : w.grownBy w' r := ⟨h.os, h.tape, h.output, h.size, fun k hk _ => h.block k hk⟩
variable {w wr : World} {b ty N : Nat} {F : List Value}
theorem RowAt.lt (h : RowAt w wr b ty N F) : b < wr.heap.size := by
 obtain ⟨c, h1, _⟩ := h.cells
 exact (Array.getElem?_eq_some_iff.1 h1).1
theorem RowAt.le (h : RowAt w wr b ty N F) : F.length ≤ N := by
 obtain ⟨c, _, h2, h3⟩ := h.cells
 have := h3.length_le
 simpa [h2] using this
theorem RowAt.cell (h : RowAt w wr b ty N F) {t : Nat} {v : Value} (ht : F[t]? = some v) : wr.cell? ⟨b, t, none⟩ = some v := by
 obtain ⟨c, h1, h2, h3⟩ := h.cells
 have := bG h3 ht
 simp only [World.cell?, h1, Option.isSome_none, Bool.false_eq_true, if_false]
 rw [← Array.getElem?_toList]; exact this
theorem RowAt.there (h : RowAt w wr b ty N F) {t : Nat} (ht : t < N) : (wr.cell? ⟨b, t, none⟩).isSome = true := by
 obtain ⟨c, h1, h2, h3⟩ := h.cells
 simp only [World.cell?, h1, Option.isSome_none, Bool.false_eq_true, if_false]
 simp [h2, ht]
theorem RowAt.frozen (h : RowAt w wr b ty N F) (t : Nat) : wr.frozen? ⟨b, t, none⟩ = false := by
 obtain ⟨c, h1, _⟩ := h.cells
 simp [World.frozen?, h1]
theorem RowAt.behind (h : RowAt w wr b ty N F) {w' : World} (hb : Below wr.heap.size wr w') : RowAt w w' b ty N F := by
 obtain ⟨c, h1, h2, h3⟩ := h.cells
 exact ⟨⟨c, by rw [hb.block b h.lt]; exact h1, h2, h3⟩, jJ h.grown (fC _ hb)⟩
theorem qJ (F : List Value) (s : Nat) (v : Value) (c : List Value) (hF : F <+: c) (hs : s ≤ F.length) (hc : s < c.length) : F.take s ++ v :: F.drop (s + 1) <+: c.set s v := by
 obtain ⟨r, rfl⟩ := hF
 rcases Nat.lt_or_ge s F.length with h | h
 ·refine ⟨r, ?_⟩
  rw [List.set_append_left _ _ h, List.set_eq_take_append_cons_drop, if_pos h]
 ·have e : s = F.length := by omega
  subst e
  rw [List.take_of_length_le (Nat.le_refl _), List.drop_of_length_le (by omega), List.set_append_right _ _ (Nat.le_refl _), Nat.sub_self]
  cases r with
  | nil => simp at hc
  | cons x r => exact ⟨r, by simp⟩
theorem RowAt.set1 (h : RowAt w wr b ty N F) {s : Nat} (hs : s ≤ F.length) (hN : s < N) (v : Value) : RowAt w (wr.setCell ⟨b, s, none⟩ v) b ty N (F.take s ++ v :: F.drop (s + 1)) := by
 obtain ⟨c, h1, h2, h3⟩ := h.cells
 rw [Sort.setCell_eq]
 refine ⟨⟨c.setIfInBounds s v, ?_, by simp [h2], ?_⟩, jJ h.grown ⟨rfl, rfl, rfl, by simp [Sort.mapBlock], fun k hk hne => ?_⟩⟩
 ·simp only [Sort.mapBlock, Array.getElem?_modify, if_true, h1, Option.map_some, Sort.onCells]
 ·rw [Array.toList_setIfInBounds]
  exact qJ F s v c.toList h3 hs (by simpa [h2] using hN)
 ·simp only [Sort.mapBlock, Array.getElem?_modify]
  rw [if_neg (fun e => hne (by rw [e]))]
theorem RowAt.set : ∀ (vs : List Value) {wr : World} {F : List Value} {s : Nat}, RowAt w wr b ty N F → s ≤ F.length → s + vs.length ≤ N → RowAt w (wr.setCells b s vs) b ty N (F.take s ++ vs ++ F.drop (s + vs.length))
 | [], wr, F, s, h, hs, hN => by simpa [World.setCells] using h
 | v :: vs, wr, F, s, h, hs, hN => by
  simp only [List.length_cons] at hN
  have h1 := h.set1 hs (by omega) v
  have h2 := RowAt.set vs (s := s + 1) h1 (by simp; omega) (by omega)
  rw [World.setCells]
  have e1 : (F.take s ++ v :: F.drop (s + 1)).take (s + 1) = F.take s ++ [v] := by
   rw [List.take_append, List.take_of_length_le (by simp; omega), List.length_take, Nat.min_eq_left hs, Nat.add_sub_cancel_left]; rfl
  have e2 : (F.take s ++ v :: F.drop (s + 1)).drop (s + 1 + vs.length) = F.drop (s + (vs.length + 1)) := by
   rw [List.drop_append, List.drop_of_length_le (by simp; omega), List.length_take, Nat.min_eq_left hs, List.nil_append, show s + 1 + vs.length - s = vs.length + 1 by omega, List.drop_succ_cons, List.drop_drop]
   congr 1; omega
  rw [e1, e2] at h2
  simpa [List.append_assoc] using h2
end Go.Sx
end
section
set_option linter.all false
namespace Go.Proofs.Yteaaopodnbjpoaa
open Go Go.Sx Go.RowKit Go.Proofs Go.Lib
structure DelInv {α : Type} (e : α → Value) (p : α → Bool) (xs : List α) (i j : Nat) (F : List Value) : Prop where
 len : F.length = xs.length
 ij : i < j
 jn : j ≤ xs.length
 lo : F.take i = ((xs.take j).filter fun x => !p x).map e
 hi : F.drop j = (xs.drop j).map e
 il : i = ((xs.take j).filter fun x => !p x).length
theorem jF {α : Type} (p : α → Bool) (xs : List α) (k : Nat) (h : ∀ j (hj : j < xs.length), j < k → p xs[j] = false) : (xs.take k).filter (fun x => !p x) = xs.take k := by
 refine List.filter_eq_self.2 fun x hx => ?_
 obtain ⟨j, hj, rfl⟩ := List.mem_iff_getElem.1 hx
 simp only [List.length_take] at hj
 rw [List.getElem_take, h j (by omega) (by omega)]; rfl
theorem DelInv.at {α : Type} {e : α → Value} {p : α → Bool} {xs : List α} {i j : Nat} {F : List Value} (h : DelInv e p xs i j F) (hj : j < xs.length) : F[j]? = some (e xs[j]) := by
 have h0 : (F.drop j)[0]? = ((xs.drop j).map e)[0]? := by rw [h.hi]
 rw [List.getElem?_drop, Nat.add_zero] at h0
 rw [h0, List.getElem?_map, List.getElem?_drop, Nat.add_zero, List.getElem?_eq_getElem hj]; rfl
theorem DelInv.start {α : Type} {e : α → Value} {p : α → Bool} {xs : List α} {k : Nat} (hk : k < xs.length) (h : ∀ j (hj : j < xs.length), j < k → p xs[j] = false) (hp : p xs[k] = true) : DelInv e p xs k (k + 1) (xs.map e) := by
 have e1 : (xs.take (k + 1)).filter (fun x => !p x) = xs.take k := by
  rw [List.take_succ_eq_append_getElem hk, List.filter_append, jF p xs k h]
  simp [hp]
 refine ⟨by simp, by omega, by omega, ?_, by simp, ?_⟩
 ·rw [e1, List.map_take]
 ·rw [e1]; simp; omega
theorem DelInv.keep {α : Type} {e : α → Value} {p : α → Bool} {xs : List α} {i j : Nat} {F : List Value} (h : DelInv e p xs i j F) (hj : j < xs.length) (hp : p xs[j] = false) : DelInv e p xs (i + 1) (j + 1) (F.take i ++ [e xs[j]] ++ F.drop (i + 1)) := by
 have e1 : (xs.take (j + 1)).filter (fun x => !p x) = (xs.take j).filter (fun x => !p x) ++ [xs[j]] := by
  rw [List.take_succ_eq_append_getElem hj, List.filter_append]
  simp [hp]
 have hl := h.len
 have hij := h.ij
 refine ⟨by simp; omega, by omega, by omega, ?_, ?_, ?_⟩
 ·rw [List.take_append_of_le_length (by simp; omega), List.take_of_length_le (by simp; omega), e1, List.map_append, h.lo]; rfl
 ·rw [List.drop_append, List.drop_of_length_le (by simp; omega), List.nil_append, List.drop_drop]
  have : F.drop (j + 1) = (xs.drop (j + 1)).map e := by rw [← List.drop_drop, h.hi, ← List.map_drop, List.drop_drop]
  rw [← this]
  congr 1
  simp; omega
 ·rw [e1, List.length_append, ← h.il]; rfl
theorem DelInv.skip {α : Type} {e : α → Value} {p : α → Bool} {xs : List α} {i j : Nat} {F : List Value} (h : DelInv e p xs i j F) (hj : j < xs.length) (hp : p xs[j] = true) : DelInv e p xs i (j + 1) F := by
 have e1 : (xs.take (j + 1)).filter (fun x => !p x) = (xs.take j).filter (fun x => !p x) := by
  rw [List.take_succ_eq_append_getElem hj, List.filter_append]
  simp [hp]
 have hij := h.ij
 exact ⟨h.len, by omega, by omega, by rw [e1]; exact h.lo, by rw [← List.drop_drop, h.hi, ← List.map_drop, List.drop_drop], by rw [e1]; exact h.il⟩
end Go.Proofs.Yteaaopodnbjpoaa
end
section
set_option linter.all false
set_option maxRecDepth 100000
namespace Go.Sx
open Go Go.RowKit
theorem RowAt.mod {V : View} {w W : World} {b ty N : Nat} {F : List Value} (hm : Mod V w) (hV : V b = none) (h : RowAt w W b ty N F) : Mod V W := fun k cs hk => by
 obtain ⟨c, t, fz, e1, e2⟩ := hm k cs hk
 exact ⟨c, t, fz, by rw [h.grown.block k (Array.getElem?_eq_some_iff.1 e1).1 (fun e => by cases e; rw [hV] at hk; cases hk)]; exact e1, e2⟩
def mW (V : View) (b : Nat) (cs : List Value) : View := fun k => if k = b then some cs else V k
theorem a0W {V : View} {b : Nat} (hV : V b = none) (cs : List Value) : V.le (mW V b cs) := fun k c hk => ⟨c, by
 unfold mW
 rw [if_neg (fun e => by subst e; rw [hV] at hk; cases hk)]; exact hk, List.prefix_refl _⟩
theorem zW {V : View} {w : World} {b ty N : Nat} {F : List Value} (hm : Mod V w) (h : RowAt w w b ty N F) : Mod (mW V b F) w := fun k cs hk => by
 unfold mW at hk
 split at hk
 ·cases hk
  rename_i e
  subst e
  obtain ⟨c, e1, _, e3⟩ := h.cells
  exact ⟨c, ty, (0, 0), e1, e3⟩
 ·exact hm k cs hk
theorem zX {α : Type} {e : α → Value} (hs : ∀ x, scalar (e x) = true) {V : View} {b cap : Nat} {l : List α} (h1 : l.length ≤ cap) (h2 : cap ≤ maxLen) : Lay (mW V b (l.map e)) (.sl (gZ e l)) (.slice (some ⟨b, 0, none⟩) l.length cap) ((if (gZ e l).isEmpty then [] else [b]) ++ (List.replicate l.length []).flatten) := by
 have := Lay.sl (V := mW V b (l.map e)) (gZ e l) ⟨b, 0, none⟩ cap 1 (l.map e) (List.replicate l.length []) (fun r hr => by obtain ⟨x, _, rfl⟩ := List.mem_map.1 hr; rfl) (by simpa [gZ] using h1) h2 (by rw [bO]; simp) (by rw [bO]; simp)
  (fun k y hk => by
   have : (Addr.add ⟨b, 0, none⟩ k) = ⟨b, k, none⟩ := by rw [Addr.add_lit, Nat.zero_add]
   rw [this]
   simp only [View.cell, mW, if_true]
   simpa using hk)
  (fun k d y S h1 h2 h3 => by
   rw [bO, List.getElem?_map] at h1
   rw [List.getElem?_map] at h2
   cases hk : l[k]? with
   | none => rw [hk] at h1; cases h1
   | some x =>
    rw [hk] at h1 h2
    cases h1; cases h2
    rw [List.getElem?_replicate] at h3
    split at h3
    ·cases h3; exact .v _ (hs x)
    ·cases h3)
 simpa [gZ] using this
theorem RowAt.of_row {α : Type} [Inhabited α] {e : α → Value} {w : World} {ty b cap : Nat} {c : Array Value} {l : List α} (h1 : w.heap[b]? = some (.cells c ty (0, 0))) (h2 : c.size = cap) (h3 : l.length ≤ cap) (h4 : Sort.Holds e w b 0 l.toArray) : RowAt w w b ty cap (l.map e) := by
 refine ⟨⟨c, h1, h2, ?_⟩, tK w _⟩
 refine List.prefix_iff_eq_take.2 ?_
 apply List.ext_getElem?
 intro j
 rw [List.getElem?_take, List.getElem?_map]
 simp only [List.length_map]
 by_cases hj : j < l.length
 ·rw [if_pos hj]
  have := (h4 j (by simpa using hj)).1
  simp only [World.cell?, h1, Nat.zero_add, Option.isSome_none, Bool.false_eq_true, if_false] at this
  have h5 : c.toList[j]? = some (e l[j]) := by
   rw [Array.getElem?_toList, this, getElem!_pos l.toArray j (by simpa using hj)]
   simp
  rw [h5, List.getElem?_eq_getElem hj]; rfl
 ·rw [if_neg hj, List.getElem?_eq_none (by omega)]; rfl
theorem RowAt.row {α : Type} {e : α → Value} (hs : ∀ x, scalar (e x) = true) {V : View} {w w' : World} {ty b cap : Nat} {l : List α} {G : List Value} (h : RowAt w w' b ty cap (l.map e ++ G)) (hcap : cap ≤ maxLen) (hV : V b = none) : RowR V w' ty 1 (gZ e l) (.slice (some ⟨b, 0, none⟩) l.length cap) [b] := by
 have hle := h.le
 rw [List.length_append, List.length_map] at hle
 obtain ⟨c, h1, h2, h3⟩ := h.cells
 refine ⟨fun r hr => ?_, l.map e, List.replicate l.length [], ⟨by rw [bO]; simp, by rw [bO]; simp, fun k dd y s q1 q2 q3 => ?_⟩, .inr ⟨b, cap, c, by simp [gZ], by simp [gZ]; omega, hcap, h1, by simp [h2], (List.prefix_append _ _).trans h3, hV, by simp⟩⟩
 ·obtain ⟨x, _, rfl⟩ := List.mem_map.1 hr; rfl
 ·rw [bO, List.getElem?_map] at q1
  rw [List.getElem?_map] at q2
  cases hk : l[k]? with
  | none => rw [hk] at q1; cases q1
  | some x =>
   rw [hk] at q1 q2
   cases q1; cases q2
   rw [List.getElem?_replicate] at q3
   split at q3
   ·cases q3; exact .v _ (hs x)
   ·cases q3
theorem a0X {V : View} (ao : Option Addr) : ∃ S, Lay V (.sl []) (.slice ao 0 0) S := by
 cases ao with
 | none => exact ⟨_, .nil⟩
 | some a => exact ⟨_, .sl [] a 0 0 [] [] (by simp) (by simp) (by simp [maxLen]) rfl rfl (fun k y h => by simp at h) (fun k d y S h => by simp at h)⟩
end Go.Sx
end
section
set_option linter.all false
set_option maxRecDepth 100000
set_option maxHeartbeats 4000000
namespace Go.Proofs.Yteaaopodnbjpoaa
open Go Go.Sx Go.RowKit Go.Proofs
def fD {α : Type} (p : α → Bool) : List α → Nat → Int
 | [], _ => -1
 | x :: xs, k => if p x then k else fD p xs (k + 1)
theorem idxP_spec {α : Type} (p : α → Bool) : ∀ (xs : List α) (k : Nat), (fD p xs k = -1 ∧ ∀ x ∈ xs, p x = false) ∨ ∃ k0 : Nat, fD p xs k = ((k + k0 : Nat) : Int) ∧ ∃ h : k0 < xs.length, p xs[k0] = true ∧ ∀ j (hj : j < xs.length), j < k0 → p xs[j] = false
 | [], k => .inl ⟨rfl, fun x hx => by simp at hx⟩
 | x :: xs, k => by
  unfold fD
  cases hx : p x with
  | true => exact .inr ⟨0, by simp, by simp, by simpa using hx, fun j hj h => by omega⟩
  | false =>
   rcases idxP_spec p xs (k + 1) with ⟨h1, h2⟩ | ⟨k0, h1, h2, h3, h4⟩
   ·exact .inl ⟨by simpa using h1, fun y hy => by
     rcases List.mem_cons.1 hy with rfl | hy
     ·exact hx
     ·exact h2 y hy⟩
   ·refine .inr ⟨k0 + 1, by simp only [Bool.false_eq_true, if_false]; rw [h1]; congr 1; omega, by simp; omega, by simpa using h3, fun j hj hk => ?_⟩
    cases j with
    | zero => simpa using hx
    | succ j => simpa using h4 j (by simpa using hj) (by omega)
theorem yI {V : View} {w w' : World} {v y : Value} (hs : scalar v = true) (h : Done V w (.o (.d (.v v))) y w') : Ending.returned y = Ending.returned v := by
 obtain ⟨V', S, _, _, _, ⟨l, hsh, Ss, r1, r2, r3, r4⟩, _, _⟩ := h.out
 have hl : l = [y] := hsh
 subst hl
 have hlt : 0 < Ss.length := by rw [r2]; simp [SV.all]
 obtain ⟨_, T, hL⟩ := r4 0 (.d (.v v)) y _ rfl rfl (List.getElem?_eq_getElem hlt)
 cases hL
 rfl
theorem tL {V : View} {w w' : World} {n : Int} {y : Value} (h : Done V w (oi n) y w') : Ending.returned y = Ending.returned (.int .i64 n) := yI rfl h
theorem a1W {V : View} {w w' : World} {n : Bool} {y : Value} (h : Done V w (ob n) y w') : Ending.returned y = Ending.returned (.bool n) := yI rfl h
end Go.Proofs.Yteaaopodnbjpoaa
end
end
section
set_option maxRecDepth 100000
set_option maxHeartbeats 4000000
namespace Go.Proofs.Yteaaopodnbjpoaa
open Go Go.Sx Go.RowKit Go.Proofs Go.Lib
set_option maxHeartbeats 4000000 in
set_option maxRecDepth 1000000 in
theorem wB (b cap : Nat) (xs : List Int) (w : World) (p : Int → Bool) (g : Nat) (lb : Array Value) (hR : RowAt w w b 3 cap (xs.map (Value.int .i64))) (hn : xs.length ≤ cap) (hbig : cap ≤ 9223372036854775807) (k : Int)
    (hk : (k = -1 ∧ ∀ x ∈ xs, p x = false) ∨ ∃ k0 : Nat, k = k0 ∧ ∃ h : k0 < xs.length, p xs[k0] = true ∧ ∀ j (hj : j < xs.length), j < k0 → p xs[j] = false)
    (eg : ∀ args w, (callFunc g args).run Try.prog w = .ok (.enter g args) w)
    (hIF : Calls Try.prog 42 #[.slice (some ⟨b, 0, none⟩) xs.length cap, .func (.func g) #[] lb] w fun e w' => e = .returned (.int .i64 k) ∧ Below w.heap.size w w')
    (hp : ∀ W F x, x ∈ xs → RowAt w W b 3 cap F → Calls Try.prog g (#[.int .i64 x] ++ lb) W fun e w' => e = .returned (.bool (p x)) ∧ Below W.heap.size W w') :
    Calls Try.prog 37 #[.slice (some ⟨b, 0, none⟩) xs.length cap, .func (.func g) #[] lb] w fun e w' =>
     e = .returned (.slice (some ⟨b, 0, none⟩) (xs.filter fun x => !p x).length cap) ∧ ∃ G, RowAt w w' b 3 cap ((xs.filter fun x => !p x).map (Value.int .i64) ++ G) := by
 have e6 := Try.call42
 rcases hk with ⟨rfl, hall⟩ | ⟨k0, rfl, hk0, ht, hall⟩
 ·have hkeep : (xs.filter fun x => !p x) = xs := List.filter_eq_self.2 fun x hx => by rw [hall x hx]; rfl
  rw [hkeep]
  have HR : Aside (RowAt w w b 3 cap (xs.map (Value.int .i64))) := hR
  clear hR hp
  go_enter Try.func37, Try.ntmps37
  go_wp2_with fail
  refine hIF.mono ?_
  rintro e w' ⟨rfl, hb⟩
  go_wp2
  go_ret
  exact ⟨rfl, [], by simpa using HR.out.behind hb⟩
 ·have hne1 : ((k0 : Int) == -1) = false := beq_eq_false_iff_ne.2 (by omega)
  have HS : Aside (DelInv (Value.int .i64) p xs k0 (k0 + 1) (xs.map (Value.int .i64))) := DelInv.start hk0 hall ht
  have HR : Aside (RowAt w w b 3 cap (xs.map (Value.int .i64))) := hR
  have HC : Aside _ := hp
  clear hR hp ht hall
  go_enter Try.func37, Try.ntmps37
  go_wp2_with fail
  refine hIF.mono ?_
  rintro e w' ⟨rfl, hb⟩
  go_wp2
  go_loopg [5, 6, 7] xs.length (fun gg s5 s6 _ wr => ∃ (i j : Nat) (F : List Value), s5 = .int .i64 i ∧ s6 = .int .i64 j ∧ j ≤ xs.length ∧ xs.length - j ≤ gg ∧ Aside (RowAt w wr b 3 cap F) ∧ Aside (DelInv (Value.int .i64) p xs i j F))
  case atStart => exact ⟨k0, k0 + 1, _, rfl, by go_num, by omega, by omega, HR.out.behind hb, HS⟩
  case round =>
   obtain ⟨i, j, F, rfl, rfl, hjd, hgg, R2, I2⟩ := hrel
   have hI := I2.out
   have hlF := hI.len
   have hij := hI.ij
   by_cases hlt : j < xs.length
   ·have hltz : (j : Int) < (xs.length : Int) := by omega
    have cj : wr.cell? ⟨b, j, none⟩ = some (.int .i64 xs[j]) := R2.out.cell (hI.at hlt)
    have hcall := HC.out wr F xs[j] (List.getElem_mem hlt) R2.out
    generalize hu : xs[j] = u at cj hcall
    have C : Aside (xs[j] = u) := hu
    clear hu hI
    cases hq : p u with
    | false =>
     rw [hq] at hcall
     go_wp2_with fail
     refine hcall.mono ?_
     rintro e w'' ⟨rfl, hb'⟩
     have R3 := R2.out.behind hb'
     have ci := R3.cell (List.getElem?_eq_getElem (show i < F.length by omega))
     have fi := R3.frozen i
     have A3 : Aside (RowAt w w'' b 3 cap F) := R3
     clear R3
     generalize F[i] = old at ci
     go_wp2
     go_roundg (xs.length - (j + 1))
     case measure => omega
     case rel =>
      refine ⟨i + 1, j + 1, F.take i ++ [.int .i64 u] ++ F.drop (i + 1), by go_num, by go_num, by omega, Nat.le_refl _, (show Aside _ from ?_), (show Aside _ from ?_)⟩
      ·exact A3.out.set [.int .i64 u] (by omega) (by simp; omega)
      ·have := I2.out.keep hlt (by rw [C.out]; exact hq)
       rwa [C.out] at this
    | true =>
     rw [hq] at hcall
     go_wp2_with fail
     refine hcall.mono ?_
     rintro e w'' ⟨rfl, hb'⟩
     go_wp2
     go_roundg (xs.length - (j + 1))
     case measure => omega
     case rel => exact ⟨i, j + 1, F, rfl, by go_num, by omega, Nat.le_refl _, R2.out.behind hb', I2.out.skip hlt (by rw [C.out]; exact hq)⟩
   ·obtain rfl : j = xs.length := by omega
    have hltz : ¬ (xs.length : Int) < (xs.length : Int) := by omega
    have hRN := R2.out.le
    have hcl : ∀ ty, (Builtin.clear_ #[37] ty #[.slice (some ⟨b, i, none⟩) (xs.length - i) (cap - i)]).run Try.prog wr = .ok (.tuple #[]) (wr.setCells b i (List.replicate (xs.length - i) (.int .i64 0))) :=
     fun ty => Lib.run_clear_slice wr _ _ ty _ Try.underlying37 (fun w => Try.zeroValue3 w) rfl rfl b i _ _ (by omega) (fun t ht => R2.out.there (by omega)) (fun t ht => R2.out.frozen _)
    have hle : ((xs.take xs.length).filter fun x => !p x) = xs.filter fun x => !p x := by rw [List.take_length]
    have hil := hI.il
    have hlo := hI.lo
    rw [hle] at hil hlo
    have HE : Aside (∃ G, RowAt w (wr.setCells b i (List.replicate (xs.length - i) (.int .i64 0))) b 3 cap ((xs.filter fun x => !p x).map (Value.int .i64) ++ G)) := by
     have := R2.out.set (List.replicate (xs.length - i) (Value.int .i64 0)) (s := i) (by omega) (by simp; omega)
     rw [hlo, List.append_assoc] at this
     exact ⟨_, this⟩
    have HL : Aside (i = (xs.filter fun x => !p x).length) := hil
    clear hil hlo hle hI
    go_wp2
    go_ret
    exact ⟨by rw [← HL.out]; rfl, HE.out⟩
set_option maxHeartbeats 4000000 in
set_option maxRecDepth 1000000 in
theorem mV (ao : Option Addr) (n cap : Nat) (w : World) (g : Nat) (lb : Array Value)
    (hIF : Calls Try.prog 42 #[.slice ao n cap, .func (.func g) #[] lb] w fun e w' => e = .returned (.int .i64 (-1)) ∧ Below w.heap.size w w') :
    Calls Try.prog 37 #[.slice ao n cap, .func (.func g) #[] lb] w fun e w' => e = .returned (.slice ao n cap) ∧ Below w.heap.size w w' := by
 have e6 := Try.call42
 go_enter Try.func37, Try.ntmps37
 go_wp2_with fail
 refine hIF.mono ?_
 rintro e w' ⟨rfl, hb⟩
 go_wp2
 go_ret
 exact ⟨rfl, hb⟩
theorem qI (f : Nat) (c : List D) (p : Int → Bool) (l : List Int) (hf : ∀ s ∈ l, FnC Try.prog f [oi s, .o (.q c)] (ob (p s))) (hl : l.length ≤ 67108864) : FnC Try.prog 42 [.o (.d (.sl (l.map aU))), .o (.f f [c])] (oi (fD p l 0)) := by
 refine ent Try.func42 rfl Try.call42 rfl (fun C => ?_); simp only [go_sem, st0, Try.ntmps42]
 refine aN ?_
 refine bP (α := Nat) (fun k => [(8, oi k)]) (fun _ => []) (fun k => k ≤ l.length ∧ fD p l 0 = fD p (l.drop k) k) (fun k => l.length - k) 0 (fun _ => ?_) ?_ ?_ (fun k hk => ?_)
 ·simp only [go_sem]
 ·simp only [go_sem]; simp
 ·simp
 ·obtain ⟨hk, hq⟩ := hk
  simp only [go_sem]
  refine aN ?_
  refine cnd rfl (fun h => ?_) (fun h => ?_)
  ·simp only [decide_eq_true_eq, Int.ofNat_lt] at h
   have hd := List.drop_eq_getElem_cons h
   rw [hd, fD] at hq
   have q0 := @h; refine vT (hf l[k] (List.getElem_mem h)) ?_
   refine cnd rfl (fun h2 => ?_) (fun h2 => ?_)
   ·refine aN ?_
    exact aA ⟨⟨_, rfl, by simp only [go_sem, hq, h2]⟩, trivial⟩
   ·refine aN ?_
    refine aY (k + 1) ?_ ?_ ?_
    ·simp only [go_sem]; simp
    ·rw [hq, h2]; exact ⟨h, by simp⟩
    ·omega
  ·simp only [decide_eq_false_iff_not] at h
   have e : k = l.length := by omega
   subst e
   simp only [List.drop_length, fD] at hq
   refine aN ?_
   exact aA ⟨⟨_, rfl, by simp only [go_sem, hq]⟩, trivial⟩
theorem iM (f : Nat) (c : List D) (p : Int → Bool) (l : List Int) (hf : ∀ s ∈ l, FnC Try.prog f [oi s, .o (.q c)] (ob (p s))) (hl : l.length ≤ 67108864) :
    FnI Try.prog 37 3 1 (l.map aU) [.o (.f f [c])] false ((l.filter fun x => !p x).map aU) := by
 refine ⟨Try.call37, fun V w y S vs hm hrow hnd hlt hargs => ?_⟩
 have hl1 : vs.length = 1 := by have := hargs.1; simpa using this
 match vs, hl1 with
 | [v], _ =>
  have hv := hargs.2 0 _ v rfl rfl
  obtain ⟨lb, rfl, hlb, hcaps⟩ := hv
  have hcl : cSV [] V (.o (.f f [c])) (.func (.func f) #[] lb.toArray) := ⟨lb, rfl, hlb, hcaps⟩
  have hone : ∃ pv, lb = [pv] := by
   match lb, hlb with
   | [pv], _ => exact ⟨pv, rfl⟩
  obtain ⟨pv, rfl⟩ := hone
  have hq : cSV [] V (.o (.q c)) pv := hcaps 0 c pv rfl rfl
  have hI := qI f c p l hf hl
  rcases scal_down (e := (Value.int .i64)) hrow with ⟨⟨ao, rfl⟩, rfl, rfl⟩ | ⟨b, cap, cc, rfl, h1, h2, h3, h4, h5, h6, rfl⟩
  ·have hIF := hI.calls V w [.slice ao 0 0, .func (.func f) #[] #[pv]] hm ⟨rfl, fun i s y e1 e2 => by
    match i with
    | 0 => simp at e1 e2; subst e1; subst e2; exact a0X ao
    | 1 => simp at e1 e2; subst e1; subst e2; exact hcl
    | i + 2 => simp at e1⟩
   have hD := mV ao 0 0 w f #[pv] (hIF.mono (by
    rintro e w' ⟨y, rfl, hd⟩
    obtain ⟨V', S', _, _, _, ⟨l', hsh, hr⟩, _, _⟩ := hd.out
    exact ⟨by simpa [fD] using tL hd, hd.below⟩))
   refine hD.mono ?_
   rintro e w' ⟨rfl, hb⟩
   exact ⟨_, rfl, (fun h => (by cases h)), ⟨fC _ hb, [], ⟨by simp, [], [], LayL.nil V, .inl ⟨⟨ao, rfl⟩, rfl, rfl⟩⟩, hnd, (fun b hb => .inl hb), (fun _ => rfl)⟩⟩
  ·have hR := RowAt.of_row (e := (Value.int .i64)) h3 h4 h1 h5
   have hlt' : b < w.heap.size := (Array.getElem?_eq_some_iff.1 h3).1
   have hIF := hI.calls (mW V b (l.map (Value.int .i64))) w [.slice (some ⟨b, 0, none⟩) l.length cap, .func (.func f) #[] #[pv]] (zW hm hR) ⟨rfl, fun i s y e1 e2 => by
    match i with
    | 0 => simp at e1 e2; subst e1; subst e2; exact ⟨_, zX (e := (Value.int .i64)) (fun _ => rfl) h1 h2⟩
    | 1 => simp at e1 e2; subst e1; subst e2; exact hcl.mono (GLe.refl _) (a0W h6 _)
    | i + 2 => simp at e1⟩
   rcases Nat.eq_zero_or_pos l.length with h0 | h0
   ·have hnil : l = [] := List.eq_nil_of_length_eq_zero h0
    subst hnil
    have hD := mV (some ⟨b, 0, none⟩) 0 cap w f #[pv] (hIF.mono (by
     rintro e w' ⟨y, rfl, hd⟩
     exact ⟨by simpa [fD] using tL hd, hd.below⟩))
    refine hD.mono ?_
    rintro e w' ⟨rfl, hb⟩
    have hG := (hR.behind hb).row (l := ([] : List Int)) (G := []) (V := V) (e := (Value.int .i64)) (fun _ => rfl) h2 h6
    exact ⟨_, rfl, (fun h => (by cases h)), ⟨fC _ hb, [b], hG, hnd, (fun b hb => .inl hb), (fun _ => rfl)⟩⟩
   ·have hg := hf l[0] (List.getElem_mem h0)
    have hW := wB b cap l w p f #[pv] hR h1 (by simp only [maxLen] at h2; omega) (fD p l 0) (by
        rcases idxP_spec p l 0 with h | ⟨k0, e1, e2⟩
        ·exact .inl h
        ·exact .inr ⟨k0, by rw [e1]; simp, e2⟩) hg.enters (hIF.mono (by
        rintro e w' ⟨y, rfl, hd⟩
        exact ⟨tL hd, hd.below⟩)) (fun W F x hx hRW => by
        refine ((hf x hx).calls V W [.int .i64 x, pv] (hRW.mod hm h6) ⟨rfl, fun i s y e1 e2 => ?_⟩).mono ?_
        ·match i with
         | 0 => simp at e1 e2; subst e1; subst e2; exact ⟨_, .v _ rfl⟩
         | 1 => simp at e1 e2; subst e1; subst e2; exact hq
         | i + 2 => simp at e1
        ·rintro e w' ⟨y, rfl, hd⟩
         exact ⟨a1W hd, hd.below⟩)
    refine hW.mono ?_
    rintro e w' ⟨rfl, G, hG⟩
    exact ⟨_, rfl, (fun h => (by cases h)), ⟨hG.grown, [b], hG.row (fun _ => rfl) h2 h6, hnd, (fun b hb => .inl hb), (fun _ => rfl)⟩⟩
end Go.Proofs.Yteaaopodnbjpoaa
end
section
section
set_option linter.all false
set_option maxHeartbeats 1000000
namespace Go.Proofs.Yteaaopodnbjpoaa
open Go Go.Sx Go.RowKit Go.Proofs
structure TResult where
 fName : ByteArray
 fIDs : List Int
@[go_sem] def aF (x : TResult) : List D := [sv x.fName, .sl (x.fIDs.map aU)]
@[go_sem] def nQ (x : TResult) : SV := .g [.d (sv x.fName), .d (.sl (x.fIDs.map aU))]
@[go_sem] def a2b (x : TResult) : SV := .g [.d (sv x.fName), .w 3 1 (x.fIDs.map aU)]
def wResult (x : TResult) : Nat := x.fName.size + x.fIDs.length
def iT (x : TResult) : Prop := x.fName.size ≤ 9223372036854775807 ∧ mD x.fIDs
def wResultS (l : List TResult) : Nat := l.length + wsum wResult l
def fZ (l : List TResult) : Prop := l.length ≤ 9223372036854775807 ∧ ∀ x ∈ l, iT x
theorem a0a {n : Nat} {r : List D} (h : ShD tt n 39 r) : ∃ x : TResult, r = aF x ∧ iT x := by
 match n, h with
 | n + 1, ⟨a0, b0, e0, h0, a1, b1, e1, h1, ee⟩ =>
  obtain ⟨x0, rfl, p0⟩ := a3L h0
  obtain ⟨x1, rfl, p1⟩ := tN h1
  have ee' : b1 = [] := ee
  subst ee' e1 e0
  exact ⟨⟨x0, x1⟩, rfl, p0, p1⟩
theorem xM {n : Nat} {r : List D} (h : ShD tt n 22 r) : ∃ l : List TResult, r = [.sl (l.map aF)] ∧ fZ l := by
 match n, h with
 | n + 1, ⟨rows, h, hm, hr⟩ =>
  obtain ⟨l, rfl, hl⟩ := kH aF iT (fun r h => a0a (hr r h))
  exact ⟨l, h, by unfold maxLen at hm; simpa using hm, hl⟩
theorem mY (x : TResult) (n : Int) (h0 : 0 ≤ n ∧ n ≤ 1048576) (hw : iT x) : FnC Try.prog 15 [nQ x, oi n] (oi (bS n (wResult x))) := by
 refine ent Try.func15 rfl Try.call15 rfl (fun C => ?_); simp only [go_sem, st0, Try.ntmps15]
 unfold iT at hw
 by_cases hc0 : n - (x.fName.size : Nat) < 0
 ·have e : bS n (wResult x) = -1 := by rw [aZ (by unfold wResult; omega)]
  have q0 := @hc0; refine lX ?_
  exact aA ⟨⟨_, rfl, by simp only [go_sem, e]⟩, trivial⟩
 by_cases hc1 : n - (x.fName.size : Nat) - (x.fIDs.length : Nat) < 0
 ·have e : bS n (wResult x) = -1 := by rw [aZ (by unfold wResult; omega)]
  have q0 := @hc0; have q1 := aZ hc1; have q2 := @hc1; refine a0S (dI x.fIDs (n - (x.fName.size : Nat)) (by omega) hw.2) ?_
  exact aA ⟨⟨_, rfl, by simp only [go_sem, e]⟩, trivial⟩
 have e : bS n (wResult x) = n - (x.fName.size : Nat) - (x.fIDs.length : Nat) := by rw [bF (by unfold wResult; omega)]; unfold wResult; omega
 have q0 := @hc0; have q1 := bF hc1; have q2 := @hc1; refine a0S (dI x.fIDs (n - (x.fName.size : Nat)) (by omega) hw.2) ?_
 exact aA ⟨⟨_, rfl, by simp only [go_sem, e]⟩, trivial⟩
theorem wF (x : TResult) (hx : wResult x ≤ 1048576) : FnC Try.prog 18 [nQ x] (a2b x) := by
 unfold wResult at hx
 refine ent Try.func18 rfl Try.call18 rfl (fun C => ?_); simp only [go_sem, st0, Try.ntmps18]
 refine zM (mE x.fIDs (by omega)) ?_
 exact aA ⟨⟨_, rfl, by simp only [go_sem]⟩, trivial⟩
theorem mZ (x : TResult) (hx : wResult x ≤ 67108864) : FnC Try.prog 22 [nQ x, nQ x] (ob true) := by
 unfold wResult at hx
 refine ent Try.func22 rfl Try.call22 rfl (fun C => ?_); simp only [go_sem, st0, Try.ntmps22]
 refine zM (mF x.fIDs (by omega)) ?_
 exact aA ⟨⟨_, rfl, by simp only [go_sem]⟩, trivial⟩
theorem gQ (l : List TResult) (hl : wResultS l ≤ 1048576) : FnC Try.prog 7 [.o (.d (.sl (l.map aF)))] (.o (.w 43 2 (l.map aF))) := by
 unfold wResultS at hl
 refine ent Try.func7 rfl Try.call7 rfl (fun C => ?_); simp only [go_sem, st0, Try.ntmps7]
 refine aN ?_
 refine bP (α := Nat) (fun k => [(4, oi k)]) (fun k => [(0, .row 43 2 (eP aF [sv ⟨#[]⟩, .sl []] l k) true)]) (fun k => k ≤ l.length) (fun k => l.length - k) 0 (fun _ => ?_) ?_ ?_ (fun k hk => ?_)
 ·simp only [go_sem]
 ·simp only [go_sem]; simp [jQ]
 ·simp
 ·simp only [go_sem]
  refine aN ?_
  refine cnd rfl (fun h => ?_) (fun h => ?_)
  ·simp only [decide_eq_true_eq, Int.ofNat_lt] at h
   have hw := bW wResult l h
   have q0 := @h; refine vT (wF l[k] (by omega)) ?_
   refine aY (k + 1) ?_ ?_ ?_
   ·simp only [go_sem]; simp [← lS, h, aF]
   ·omega
   ·omega
  ·simp only [decide_eq_false_iff_not] at h
   have e : k = l.length := by omega
   subst e
   refine aN ?_
   exact aA ⟨⟨_, rfl, by simp only [go_sem, lT]⟩, trivial⟩
theorem jK (l : List TResult) (hl : wResultS l ≤ 1048576) : FnC Try.prog 7 [.o (.d (.sl (l.map aF)))] (.o (.d (.sl (l.map aF)))) := (gQ l hl).pu (by simp only [go_sem, and_self])
theorem lG (l : List TResult) (hl : wResultS l ≤ 67108864) : FnC Try.prog 10 [.o (.d (.sl (l.map aF))), .o (.d (.sl (l.map aF)))] (ob true) := by
 unfold wResultS at hl
 refine ent Try.func10 rfl Try.call10 rfl (fun C => ?_); simp only [go_sem, st0, Try.ntmps10]
 refine aN ?_
 refine bP (α := Nat) (fun k => [(5, oi k)]) (fun _ => []) (fun k => k ≤ l.length) (fun k => l.length - k) 0 (fun _ => ?_) ?_ ?_ (fun k hk => ?_)
 ·simp only [go_sem]
 ·simp only [go_sem]; simp
 ·simp
 ·simp only [go_sem]
  refine aN ?_
  refine cnd rfl (fun h => ?_) (fun h => ?_)
  ·simp only [decide_eq_true_eq, Int.ofNat_lt] at h
   have hw := bW wResult l h
   have q0 := @h; refine vT (mZ l[k] (by omega)) ?_
   refine aY (k + 1) ?_ ?_ ?_
   ·simp only [go_sem]; simp
   ·omega
   ·omega
  ·simp only [decide_eq_false_iff_not] at h
   refine aN ?_
   exact aA ⟨⟨_, rfl, by simp only [go_sem]⟩, trivial⟩
theorem uE (l : List TResult) (n : Int) (h0 : 0 ≤ n ∧ n ≤ 1048576) (hw : fZ l) : FnC Try.prog 4 [.o (.d (.sl (l.map aF))), oi n] (oi (bS n (wResultS l))) := by
 unfold fZ at hw
 refine ent Try.func4 rfl Try.call4 rfl (fun C => ?_); simp only [go_sem, st0, Try.ntmps4]
 by_cases hc : n - (l.length : Nat) < 0
 ·have e : bS n (wResultS l) = -1 := by rw [aZ (by unfold wResultS; omega)]
  have q0 := @hc; refine lX ?_
  exact aA ⟨⟨_, rfl, by simp only [go_sem, e]⟩, trivial⟩
 have q0 := @hc; refine lX ?_
 refine bP (α := Nat) (fun k => [(5, oi k), (1, oi (n - (l.length : Nat) - (wsum wResult (l.take k) : Nat)))]) (fun _ => []) (fun k => k ≤ l.length ∧ 0 ≤ n - (l.length : Nat) - (wsum wResult (l.take k) : Nat)) (fun k => l.length - k) 0 (fun _ => ?_) ?_ ?_ (fun k hk => ?_)
 ·simp only [go_sem]
 ·simp only [go_sem]; simp [wsum]
 ·simp [wsum]; omega
 ·obtain ⟨hk, hn⟩ := hk
  simp only [go_sem]
  refine aN ?_
  refine cnd rfl (fun h => ?_) (fun h => ?_)
  ·simp only [decide_eq_true_eq, Int.ofNat_lt] at h
   have hs := lZ wResult l h
   have ht := kZ wResult l (k + 1)
   by_cases h2 : n - (l.length : Nat) - (wsum wResult (l.take k) : Nat) - (wResult l[k] : Nat) < 0
   ·have e : bS n (wResultS l) = -1 := by rw [aZ (by unfold wResultS; omega)]
    have q0 := @h; have q1 := aZ h2; refine a3D (mY l[k] _ ⟨hn, by omega⟩ (hw.2 _ (List.getElem_mem h))) ?_
    exact aA ⟨⟨_, rfl, by simp only [go_sem, e]⟩, trivial⟩
   ·have q0 := @h; have q1 := bF h2; have q2 := @h2; refine a0S (mY l[k] _ ⟨hn, by omega⟩ (hw.2 _ (List.getElem_mem h))) ?_
    refine aY (k + 1) ?_ ?_ ?_
    ·simp only [go_sem]; simp; omega
    ·omega
    ·omega
  ·simp only [decide_eq_false_iff_not] at h
   have e0 : k = l.length := by omega
   subst e0
   rw [List.take_length] at hn
   have e : bS n (wResultS l) = n - (l.length : Nat) - (wsum wResult l : Nat) := by rw [bF (by unfold wResultS; omega)]; unfold wResultS; omega
   refine aN ?_
   exact aA ⟨⟨_, rfl, by simp only [go_sem, e, List.take_length]⟩, trivial⟩
end Go.Proofs.Yteaaopodnbjpoaa
end
section
set_option linter.all false
set_option maxHeartbeats 1000000
namespace Go.Proofs.Yteaaopodnbjpoaa
open Go Go.Sx Go.RowKit Go.Proofs
structure TDiff where
 fName : ByteArray
 fAdded : List Int
 fRemoved : List Int
@[go_sem] def bD (x : TDiff) : List D := [sv x.fName, .sl (x.fAdded.map aU), .sl (x.fRemoved.map aU)]
@[go_sem] def rP (x : TDiff) : SV := .g [.d (sv x.fName), .d (.sl (x.fAdded.map aU)), .d (.sl (x.fRemoved.map aU))]
@[go_sem] def a3X (x : TDiff) : SV := .g [.d (sv x.fName), .w 3 1 (x.fAdded.map aU), .w 3 1 (x.fRemoved.map aU)]
def wDiff (x : TDiff) : Nat := x.fName.size + x.fAdded.length + x.fRemoved.length
def pU (x : TDiff) : Prop := x.fName.size ≤ 9223372036854775807 ∧ mD x.fAdded ∧ mD x.fRemoved
def wDiffS (l : List TDiff) : Nat := l.length + wsum wDiff l
def nR (l : List TDiff) : Prop := l.length ≤ 9223372036854775807 ∧ ∀ x ∈ l, pU x
theorem a2c {n : Nat} {r : List D} (h : ShD tt n 42 r) : ∃ x : TDiff, r = bD x ∧ pU x := by
 match n, h with
 | n + 1, ⟨a0, b0, e0, h0, a1, b1, e1, h1, a2, b2, e2, h2, ee⟩ =>
  obtain ⟨x0, rfl, p0⟩ := a3L h0
  obtain ⟨x1, rfl, p1⟩ := tN h1
  obtain ⟨x2, rfl, p2⟩ := tN h2
  have ee' : b2 = [] := ee
  subst ee' e2 e1 e0
  exact ⟨⟨x0, x1, x2⟩, rfl, p0, p1, p2⟩
theorem a1g {n : Nat} {r : List D} (h : ShD tt n 23 r) : ∃ l : List TDiff, r = [.sl (l.map bD)] ∧ nR l := by
 match n, h with
 | n + 1, ⟨rows, h, hm, hr⟩ =>
  obtain ⟨l, rfl, hl⟩ := kH bD pU (fun r h => a2c (hr r h))
  exact ⟨l, h, by unfold maxLen at hm; simpa using hm, hl⟩
theorem rQ (x : TDiff) (n : Int) (h0 : 0 ≤ n ∧ n ≤ 1048576) (hw : pU x) : FnC Try.prog 16 [rP x, oi n] (oi (bS n (wDiff x))) := by
 refine ent Try.func16 rfl Try.call16 rfl (fun C => ?_); simp only [go_sem, st0, Try.ntmps16]
 unfold pU at hw
 by_cases hc0 : n - (x.fName.size : Nat) < 0
 ·have e : bS n (wDiff x) = -1 := by rw [aZ (by unfold wDiff; omega)]
  have q0 := @hc0; refine lX ?_
  exact aA ⟨⟨_, rfl, by simp only [go_sem, e]⟩, trivial⟩
 by_cases hc1 : n - (x.fName.size : Nat) - (x.fAdded.length : Nat) < 0
 ·have e : bS n (wDiff x) = -1 := by rw [aZ (by unfold wDiff; omega)]
  have q0 := @hc0; have q1 := aZ hc1; have q2 := @hc1; refine a0S (dI x.fAdded (n - (x.fName.size : Nat)) (by omega) hw.2.1) ?_
  exact aA ⟨⟨_, rfl, by simp only [go_sem, e]⟩, trivial⟩
 by_cases hc2 : n - (x.fName.size : Nat) - (x.fAdded.length : Nat) - (x.fRemoved.length : Nat) < 0
 ·have e : bS n (wDiff x) = -1 := by rw [aZ (by unfold wDiff; omega)]
  have q0 := @hc0; have q1 := bF hc1; have q2 := @hc1; have q3 := aZ hc2; have q4 := @hc2; refine a3G (dI x.fAdded (n - (x.fName.size : Nat)) (by omega) hw.2.1) (dI x.fRemoved (n - (x.fName.size : Nat) - (x.fAdded.length : Nat)) (by omega) hw.2.2) ?_
  exact aA ⟨⟨_, rfl, by simp only [go_sem, e]⟩, trivial⟩
 have e : bS n (wDiff x) = n - (x.fName.size : Nat) - (x.fAdded.length : Nat) - (x.fRemoved.length : Nat) := by rw [bF (by unfold wDiff; omega)]; unfold wDiff; omega
 have q0 := @hc0; have q1 := bF hc1; have q2 := @hc1; have q3 := bF hc2; have q4 := @hc2; refine a3G (dI x.fAdded (n - (x.fName.size : Nat)) (by omega) hw.2.1) (dI x.fRemoved (n - (x.fName.size : Nat) - (x.fAdded.length : Nat)) (by omega) hw.2.2) ?_
 exact aA ⟨⟨_, rfl, by simp only [go_sem, e]⟩, trivial⟩
theorem a0b (x : TDiff) (hx : wDiff x ≤ 1048576) : FnC Try.prog 19 [rP x] (a3X x) := by
 unfold wDiff at hx
 refine ent Try.func19 rfl Try.call19 rfl (fun C => ?_); simp only [go_sem, st0, Try.ntmps19]
 refine a3C (mE x.fAdded (by omega)) (mE x.fRemoved (by omega)) ?_
 exact aA ⟨⟨_, rfl, by simp only [go_sem]⟩, trivial⟩
theorem a0c (x : TDiff) (hx : wDiff x ≤ 67108864) : FnC Try.prog 23 [rP x, rP x] (ob true) := by
 unfold wDiff at hx
 refine ent Try.func23 rfl Try.call23 rfl (fun C => ?_); simp only [go_sem, st0, Try.ntmps23]
 refine a3C (mF x.fAdded (by omega)) (mF x.fRemoved (by omega)) ?_
 exact aA ⟨⟨_, rfl, by simp only [go_sem]⟩, trivial⟩
theorem kE (l : List TDiff) (hl : wDiffS l ≤ 1048576) : FnC Try.prog 8 [.o (.d (.sl (l.map bD)))] (.o (.w 44 3 (l.map bD))) := by
 unfold wDiffS at hl
 refine ent Try.func8 rfl Try.call8 rfl (fun C => ?_); simp only [go_sem, st0, Try.ntmps8]
 refine aN ?_
 refine bP (α := Nat) (fun k => [(4, oi k)]) (fun k => [(0, .row 44 3 (eP bD [sv ⟨#[]⟩, .sl [], .sl []] l k) true)]) (fun k => k ≤ l.length) (fun k => l.length - k) 0 (fun _ => ?_) ?_ ?_ (fun k hk => ?_)
 ·simp only [go_sem]
 ·simp only [go_sem]; simp [jQ]
 ·simp
 ·simp only [go_sem]
  refine aN ?_
  refine cnd rfl (fun h => ?_) (fun h => ?_)
  ·simp only [decide_eq_true_eq, Int.ofNat_lt] at h
   have hw := bW wDiff l h
   have q0 := @h; refine vT (a0b l[k] (by omega)) ?_
   refine aY (k + 1) ?_ ?_ ?_
   ·simp only [go_sem]; simp [← lS, h, bD]
   ·omega
   ·omega
  ·simp only [decide_eq_false_iff_not] at h
   have e : k = l.length := by omega
   subst e
   refine aN ?_
   exact aA ⟨⟨_, rfl, by simp only [go_sem, lT]⟩, trivial⟩
theorem nA (l : List TDiff) (hl : wDiffS l ≤ 1048576) : FnC Try.prog 8 [.o (.d (.sl (l.map bD)))] (.o (.d (.sl (l.map bD)))) := (kE l hl).pu (by simp only [go_sem, and_self])
theorem pV (l : List TDiff) (hl : wDiffS l ≤ 67108864) : FnC Try.prog 11 [.o (.d (.sl (l.map bD))), .o (.d (.sl (l.map bD)))] (ob true) := by
 unfold wDiffS at hl
 refine ent Try.func11 rfl Try.call11 rfl (fun C => ?_); simp only [go_sem, st0, Try.ntmps11]
 refine aN ?_
 refine bP (α := Nat) (fun k => [(5, oi k)]) (fun _ => []) (fun k => k ≤ l.length) (fun k => l.length - k) 0 (fun _ => ?_) ?_ ?_ (fun k hk => ?_)
 ·simp only [go_sem]
 ·simp only [go_sem]; simp
 ·simp
 ·simp only [go_sem]
  refine aN ?_
  refine cnd rfl (fun h => ?_) (fun h => ?_)
  ·simp only [decide_eq_true_eq, Int.ofNat_lt] at h
   have hw := bW wDiff l h
   have q0 := @h; refine vT (a0c l[k] (by omega)) ?_
   refine aY (k + 1) ?_ ?_ ?_
   ·simp only [go_sem]; simp
   ·omega
   ·omega
  ·simp only [decide_eq_false_iff_not] at h
   refine aN ?_
   exact aA ⟨⟨_, rfl, by simp only [go_sem]⟩, trivial⟩
theorem xN (l : List TDiff) (n : Int) (h0 : 0 ≤ n ∧ n ≤ 1048576) (hw : nR l) : FnC Try.prog 5 [.o (.d (.sl (l.map bD))), oi n] (oi (bS n (wDiffS l))) := by
 unfold nR at hw
 refine ent Try.func5 rfl Try.call5 rfl (fun C => ?_); simp only [go_sem, st0, Try.ntmps5]
 by_cases hc : n - (l.length : Nat) < 0
 ·have e : bS n (wDiffS l) = -1 := by rw [aZ (by unfold wDiffS; omega)]
  have q0 := @hc; refine lX ?_
  exact aA ⟨⟨_, rfl, by simp only [go_sem, e]⟩, trivial⟩
 have q0 := @hc; refine lX ?_
 refine bP (α := Nat) (fun k => [(5, oi k), (1, oi (n - (l.length : Nat) - (wsum wDiff (l.take k) : Nat)))]) (fun _ => []) (fun k => k ≤ l.length ∧ 0 ≤ n - (l.length : Nat) - (wsum wDiff (l.take k) : Nat)) (fun k => l.length - k) 0 (fun _ => ?_) ?_ ?_ (fun k hk => ?_)
 ·simp only [go_sem]
 ·simp only [go_sem]; simp [wsum]
 ·simp [wsum]; omega
 ·obtain ⟨hk, hn⟩ := hk
  simp only [go_sem]
  refine aN ?_
  refine cnd rfl (fun h => ?_) (fun h => ?_)
  ·simp only [decide_eq_true_eq, Int.ofNat_lt] at h
   have hs := lZ wDiff l h
   have ht := kZ wDiff l (k + 1)
   by_cases h2 : n - (l.length : Nat) - (wsum wDiff (l.take k) : Nat) - (wDiff l[k] : Nat) < 0
   ·have e : bS n (wDiffS l) = -1 := by rw [aZ (by unfold wDiffS; omega)]
    have q0 := @h; have q1 := aZ h2; refine a3D (rQ l[k] _ ⟨hn, by omega⟩ (hw.2 _ (List.getElem_mem h))) ?_
    exact aA ⟨⟨_, rfl, by simp only [go_sem, e]⟩, trivial⟩
   ·have q0 := @h; have q1 := bF h2; have q2 := @h2; refine a0S (rQ l[k] _ ⟨hn, by omega⟩ (hw.2 _ (List.getElem_mem h))) ?_
    refine aY (k + 1) ?_ ?_ ?_
    ·simp only [go_sem]; simp; omega
    ·omega
    ·omega
  ·simp only [decide_eq_false_iff_not] at h
   have e0 : k = l.length := by omega
   subst e0
   rw [List.take_length] at hn
   have e : bS n (wDiffS l) = n - (l.length : Nat) - (wsum wDiff l : Nat) := by rw [bF (by unfold wDiffS; omega)]; unfold wDiffS; omega
   refine aN ?_
   exact aA ⟨⟨_, rfl, by simp only [go_sem, e, List.take_length]⟩, trivial⟩
end Go.Proofs.Yteaaopodnbjpoaa
end
section
set_option linter.all false
set_option maxHeartbeats 1000000
namespace Go.Proofs.Yteaaopodnbjpoaa
open Go Go.Sx Go.RowKit Go.Proofs
structure TCatalog where
 fStore : TStore
 fDirs : List TDir
 fResults : List TResult
@[go_sem] def a2Y (x : TCatalog) : List D := [.sl (x.fStore.fSchema.map fV), .sl (x.fStore.fFiles.map jD), iv x.fStore.fNextID, .sl (x.fDirs.map tT), .sl (x.fResults.map aF)]
@[go_sem] def a3Y (x : TCatalog) : SV := .g [.d (.sl (x.fStore.fSchema.map fV)), .d (.sl (x.fStore.fFiles.map jD)), .d (iv x.fStore.fNextID), .d (.sl (x.fDirs.map tT)), .d (.sl (x.fResults.map aF))]
def a1h (x : TCatalog) : Nat := xJ x.fStore + a2o x.fDirs + wResultS x.fResults
def a0d (x : TCatalog) : Prop := tQ x.fStore ∧ a1b x.fDirs ∧ fZ x.fResults
def a3m (l : List TCatalog) : Nat := l.length + wsum a1h l
def a2Z (l : List TCatalog) : Prop := l.length ≤ 9223372036854775807 ∧ ∀ x ∈ l, a0d x
end Go.Proofs.Yteaaopodnbjpoaa
end
section
set_option linter.all false
set_option maxHeartbeats 1000000
namespace Go.Proofs.Yteaaopodnbjpoaa
open Go Go.Sx Go.RowKit Go.Proofs
structure TGroup where
 fValue : TValue
 fIDs : List Int
@[go_sem] def a3Z (x : TGroup) : List D := [iv x.fValue.fKind, iv x.fValue.fInt, sv x.fValue.fStr, .sl (x.fIDs.map aU)]
@[go_sem] def a4Z (x : TGroup) : SV := .g [.d (iv x.fValue.fKind), .d (iv x.fValue.fInt), .d (sv x.fValue.fStr), .d (.sl (x.fIDs.map aU))]
@[go_sem] def a5a (x : TGroup) : SV := .g [.d (iv x.fValue.fKind), .d (iv x.fValue.fInt), .d (sv x.fValue.fStr), .w 3 1 (x.fIDs.map aU)]
def a3a (x : TGroup) : Nat := tO x.fValue + x.fIDs.length
def a2d (x : TGroup) : Prop := nO x.fValue ∧ mD x.fIDs
def a4s (l : List TGroup) : Nat := l.length + wsum a3a l
def a4a (l : List TGroup) : Prop := l.length ≤ 9223372036854775807 ∧ ∀ x ∈ l, a2d x
end Go.Proofs.Yteaaopodnbjpoaa
end
section
set_option linter.all false
set_option maxHeartbeats 1000000
namespace Go.Proofs.Yteaaopodnbjpoaa
open Go Go.Sx Go.RowKit Go.Proofs
structure TEdit where
 fOK : Bool
 fSet : List TAttr
@[go_sem] def a4t (x : TEdit) : List D := [bv x.fOK, .sl (x.fSet.map jC)]
@[go_sem] def a5u (x : TEdit) : SV := .g [.d (bv x.fOK), .d (.sl (x.fSet.map jC))]
def a4b (x : TEdit) : Nat := a0Z x.fSet
def a3b (x : TEdit) : Prop := True ∧ yJ x.fSet
def a5b (l : List TEdit) : Nat := l.length + wsum a4b l
def a4u (l : List TEdit) : Prop := l.length ≤ 9223372036854775807 ∧ ∀ x ∈ l, a3b x
end Go.Proofs.Yteaaopodnbjpoaa
end
section
set_option linter.all false
set_option maxHeartbeats 1000000
namespace Go.Proofs.Yteaaopodnbjpoaa
open Go Go.Sx Go.RowKit Go.Proofs
structure TChange where
 fKind : Int
 fFile : TFile
 fID : Int
 fDir : TDir
@[go_sem] def a3n (x : TChange) : List D := [iv x.fKind, iv x.fFile.fID, iv x.fFile.fOwner, bv x.fFile.fShared, iv x.fFile.fLink, .sl (x.fFile.fAttrs.map jC), iv x.fID, sv x.fDir.fName, .sl (x.fDir.fQuery.map nP)]
@[go_sem] def a4v (x : TChange) : SV := .g [.d (iv x.fKind), .d (iv x.fFile.fID), .d (iv x.fFile.fOwner), .d (bv x.fFile.fShared), .d (iv x.fFile.fLink), .d (.sl (x.fFile.fAttrs.map jC)), .d (iv x.fID), .d (sv x.fDir.fName), .d (.sl (x.fDir.fQuery.map nP))]
def a2e (x : TChange) : Nat := a2m x.fFile + a3S x.fDir
def a1i (x : TChange) : Prop := inR .i64 x.fKind ∧ a1a x.fFile ∧ inR .i64 x.fID ∧ a2n x.fDir
def a4c (l : List TChange) : Nat := l.length + wsum a2e l
def a3o (l : List TChange) : Prop := l.length ≤ 9223372036854775807 ∧ ∀ x ∈ l, a1i x
end Go.Proofs.Yteaaopodnbjpoaa
end
section
set_option linter.all false
set_option maxHeartbeats 1000000
namespace Go.Proofs.Yteaaopodnbjpoaa
open Go Go.Sx Go.RowKit Go.Proofs
structure TSnapshot where
 fStore : TStore
 fDirs : List TDir
@[go_sem] def a2p (x : TSnapshot) : List D := [.sl (x.fStore.fSchema.map fV), .sl (x.fStore.fFiles.map jD), iv x.fStore.fNextID, .sl (x.fDirs.map tT)]
@[go_sem] def a3p (x : TSnapshot) : SV := .g [.d (.sl (x.fStore.fSchema.map fV)), .d (.sl (x.fStore.fFiles.map jD)), .d (iv x.fStore.fNextID), .d (.sl (x.fDirs.map tT))]
def a0e (x : TSnapshot) : Nat := xJ x.fStore + a2o x.fDirs
def xO (x : TSnapshot) : Prop := tQ x.fStore ∧ a1b x.fDirs
def a3c (l : List TSnapshot) : Nat := l.length + wsum a0e l
def a2q (l : List TSnapshot) : Prop := l.length ≤ 9223372036854775807 ∧ ∀ x ∈ l, xO x
end Go.Proofs.Yteaaopodnbjpoaa
end
section
set_option linter.all false
set_option maxHeartbeats 1000000
namespace Go.Proofs.Yteaaopodnbjpoaa
open Go Go.Sx Go.RowKit Go.Proofs
structure TDisk where
 fSlotA : ByteArray
 fSlotB : ByteArray
@[go_sem] def a4w (x : TDisk) : List D := [sv x.fSlotA, sv x.fSlotB]
@[go_sem] def a5v (x : TDisk) : SV := .g [.d (sv x.fSlotA), .d (sv x.fSlotB)]
def a4d (x : TDisk) : Nat := x.fSlotA.size + x.fSlotB.size
def a3d (x : TDisk) : Prop := x.fSlotA.size ≤ 9223372036854775807 ∧ x.fSlotB.size ≤ 9223372036854775807
def a5c (l : List TDisk) : Nat := l.length + wsum a4d l
def a4x (l : List TDisk) : Prop := l.length ≤ 9223372036854775807 ∧ ∀ x ∈ l, a3d x
end Go.Proofs.Yteaaopodnbjpoaa
end
section
set_option linter.all false
namespace Go.Proofs.Yteaaopodnbjpoaa
open Go Go.Sx Go.RowKit Go.Proofs
def inB (n a b : Int) : Bool := decide (a ≤ n) && decide (n ≤ b)
end Go.Proofs.Yteaaopodnbjpoaa
end
section
set_option linter.all false
set_option maxHeartbeats 1000000
namespace Go.Proofs.Yteaaopodnbjpoaa
open Go Go.Sx Go.RowKit Go.Proofs
end Go.Proofs.Yteaaopodnbjpoaa
end
end
