/- Joined texts. -/
import Derived.Test.YtjkbipgmckeckaaZ07
import Derived.Ground.NamesProg
import Derived.Ground.Names2Prog
import Derived.Shelf.Sort.Plain
import Derived.Shelf.Slices.In.SortNone
import Derived.Shelf.Slices.CompactI
import Derived.Shelf.Slices.CompactS
import Derived.Test.YtjkbipgmckeckaaProg
import Derived.Test.YtjkbipgmckeckaaZ06
import Derived.Sort.Walk0
set_option linter.all false
section
set_option maxRecDepth 100000
set_option maxHeartbeats 4000000
namespace Go.Proofs.Ytjkbipgmckeckaa
open Go Go.Sx Go.RowKit Go.Proofs
theorem mZ (l : List Int) (hl : l.length ≤ 1048576) (hw : ∀ i ∈ l, inR .u8 i) (i : Nat) (h : Int) (hi : i ≤ l.length) (hh : inR .i64 h) (n : Int) (hn : 1 ≤ n) (hn2 : n ≤ 1000000000) : FnB Try.prog 63 88 (oP l i h) [oi n] (fun x : Bool × Nat × Int => x.2.1 ≤ l.length ∧ inR .i64 x.2.2) (fun x => ob x.1) (fun x => oP l x.2.1 x.2.2) := by
 refine zX Try.func63 rfl Try.call63 rfl (fun C b => ?_); simp only [go_sem, Try.ntmps63]
 refine bY ?_
 refine dM (kS l hl hw i h hi hh n hn hn2) ⟨rfl, rfl⟩ rfl rfl ?_
 rintro ⟨x, i1, h1⟩ ⟨⟨b1, b2⟩, b3, b4⟩
 simp only at b1 b2 b3 b4
 simp only [go_sem]
 refine bY ?_
 exact dK (decide (x = 0), i1, h1) ⟨⟨_, rfl, by simp only [go_sem]⟩, trivial⟩ ⟨b3, b4⟩ (by simp only [go_sem])
theorem a0Z (l : List Int) (hl : l.length ≤ 1048576) (hw : ∀ i ∈ l, inR .u8 i) (i : Nat) (h : Int) (hi : i ≤ l.length) (hh : inR .i64 h) (s : List ByteArray) (h1 : 1 ≤ s.length) (h2 : s.length ≤ 1000) : FnB Try.prog 64 88 (oP l i h) [.o (.d (.sl (s.map a1d)))] (fun x : ByteArray × Nat × Int => x.1 ∈ s ∧ (x.2.1 ≤ l.length ∧ inR .i64 x.2.2)) (fun x => os x.1) (fun x => oP l x.2.1 x.2.2) := by
 refine zX Try.func64 rfl Try.call64 rfl (fun C b => ?_); simp only [go_sem, Try.ntmps64]
 have q0 := @a1Z; refine oN ?_
 refine dM (kS l hl hw i h hi hh (s.length : Int) (by omega) (by omega)) ⟨rfl, rfl⟩ rfl rfl ?_
 rintro ⟨x, i1, h1'⟩ ⟨⟨b1, b2⟩, b3, b4⟩
 simp only at b1 b2 b3 b4
 obtain ⟨k, rfl⟩ : ∃ k : Nat, x = k := ⟨x.toNat, by omega⟩
 have hk : k < s.length := by omega
 simp only [go_sem]
 have q0 := @hk; refine oN ?_
 exact dK (s[k], i1, h1') ⟨⟨_, rfl, by simp only [go_sem]⟩, trivial⟩ ⟨List.getElem_mem hk, b3, b4⟩ (by simp only [go_sem])
def nm4 : List ByteArray := [⟨#[97]⟩, ⟨#[98]⟩, ⟨#[110]⟩, ⟨#[116]⟩]
def gZ (e : TEdit) : Prop := (e.fSet.map TAttr.fName).Sublist nm4 ∧ (e.fOK = false → e.fSet = [])
theorem kQ {s : List TAttr} {i : Nat} {x : TAttr} (h : (s.map TAttr.fName).Sublist (nm4.take i)) (hx : nm4[i]? = some x.fName) : ((s ++ [x]).map TAttr.fName).Sublist (nm4.take (i + 1)) := by
 rw [List.take_succ, hx, List.map_append]
 exact h.append (List.Sublist.refl _)
theorem zW {s : List TAttr} {i : Nat} (h : (s.map TAttr.fName).Sublist (nm4.take i)) : (s.map TAttr.fName).Sublist (nm4.take (i + 1)) := by
 rw [List.take_succ]
 exact h.trans (List.sublist_append_left _ _)
theorem uP (l : List Int) (hl : l.length ≤ 1048576) (hw : ∀ i ∈ l, inR .u8 i) (i : Nat) (h : Int) (hi : i ≤ l.length) (hh : inR .i64 h) : FnB Try.prog 33 88 (oP l i h) [] (fun x : TEdit × Nat × Int => gZ x.1 ∧ (x.2.1 ≤ l.length ∧ inR .i64 x.2.2)) (fun x => uU x.1) (fun x => oP l x.2.1 x.2.2) := by
 refine zX Try.func33 rfl Try.call33 rfl (fun C b => ?_); simp only [go_sem, Try.ntmps33]
 refine bY ?_
 refine dM (mZ l hl hw i h hi hh 6 (by omega) (by omega)) ⟨rfl, rfl⟩ rfl rfl ?_
 rintro ⟨ok, i1, h1⟩ ⟨b3, b4⟩
 simp only at b3 b4
 simp only [go_sem]
 refine bY ?_
 refine a0v 2 1 65 4 rfl rfl ?_
 simp only [go_sem]
 refine nN (α := Nat × Nat × Int × List TAttr) (fun x => [(5, oi x.1)]) (fun x => [(0, .pin b 88 [.sl (l.map oO), iv x.2.1, iv x.2.2.1]), (2, .box 26 [.d (bv !ok), .s 4]), (3, .row 9 1 (nm4.map a1d) true), (4, .row 65 4 (x.2.2.2.map aR) true)]) (fun x => (x.1 ≤ 4 ∧ (x.2.1 ≤ l.length ∧ inR .i64 x.2.2.1)) ∧ ((x.2.2.2.map TAttr.fName).Sublist (nm4.take x.1) ∧ (ok = true → x.2.2.2 = []))) (fun x => 4 - x.1) (0, i1, h1, []) (fun _ => ?_) ?_ ?_ (fun x hx => ?_)
 ·simp only [go_sem]
 ·simp only [go_sem]; simp [nm4, a1d]
 ·exact ⟨⟨Nat.zero_le _, b3, b4⟩, List.Sublist.refl _, fun _ => rfl⟩
 ·obtain ⟨k, ci, ch, s⟩ := x
  obtain ⟨⟨r1, r2, r3⟩, r4, r5⟩ := hx
  simp only at r1 r2 r3 r4 r5
  have hsub : (s.map TAttr.fName).Sublist nm4 := r4.trans (List.take_sublist _ _)
  have hs : s.length ≤ 4 := by have := hsub.length_le; simpa [nm4] using this
  have hl1 : s.length + 1 ≤ 140737488355328 := by omega
  have hl2 : (s.length + 1) * 48 ≤ 140737488355328 := by omega
  simp only [go_sem]
  by_cases g : (k : Int) < 4
  ·have g' : ((k : Int) < 4) = True := by simp [g]
   cases ok
   case true =>
    have q0 := @g'; have q1 := @decide_true; have q2 := @Bool.not_true; refine a0Y ?_
    exact dK (⟨!true, s⟩, ci, ch) ⟨⟨_, rfl, by simp only [go_sem]; try simp⟩, trivial⟩ ⟨⟨hsub, fun _ => r5 rfl⟩, r2, r3⟩ (by simp only [go_sem])
   have hk : k < nm4.length := by simp [nm4]; omega
   have hx : nm4[k]? = some nm4[k] := List.getElem?_eq_getElem hk
   have q0 := @g'; have q1 := @decide_true; have q2 := @Bool.not_false; refine a0Y ?_
   refine dM (mZ l hl hw ci ch r2 r3 3 (by omega) (by omega)) ⟨rfl, rfl⟩ rfl rfl ?_
   rintro ⟨x1, i2, h2⟩ ⟨c3, c4⟩
   simp only at c3 c4
   cases x1
   ·simp only [go_sem]
    refine bY ?_
    refine bW (k + 1, i2, h2, s) ?_ ?_ ?_
    ·simp only [go_sem]; simp
    ·exact ⟨⟨by simp only; omega, c3, c4⟩, zW r4, fun h => by cases h⟩
    ·simp only; omega
   simp only [go_sem]
   refine bY ?_
   refine dM (kS l hl hw i2 h2 c3 c4 2 (by omega) (by omega)) ⟨rfl, rfl⟩ rfl rfl ?_
   rintro ⟨v, i3, h3⟩ ⟨_, d3, d4⟩
   simp only at d3 d4
   simp only [go_sem]
   by_cases g1 : (1 : Int) < (k : Int)
   ·have g1' : ((1 : Int) < (k : Int)) = True := by simp [g1]
    have q0 := @g1'; have q1 := @decide_true; refine a0X (xF v) ?_
    refine a3e [6] ?_
    simp only [go_sem]
    refine dM (a0Z l hl hw i3 h3 d3 d4 [⟨#[114, 101, 100]⟩, ⟨#[105, 110, 107]⟩] (by decide) (by decide)) ⟨rfl, rfl⟩ (by simp only [go_sem]) rfl ?_
    rintro ⟨sx, i4, h4⟩ ⟨_, e3, e4⟩
    simp only at e3 e4
    simp only [go_sem]
    refine a4p (a1a sx) ?_
    have he := And.intro e3 e4
    refine dM (mZ l hl hw i4 h4 he.1 he.2 4 (by omega) (by omega)) ⟨rfl, rfl⟩ rfl rfl ?_
    rintro ⟨x2, i5, h5⟩ ⟨f3, f4⟩
    simp only at f3 f4
    cases x2
    ·simp only [go_sem]
     have qH := aI @hk (aI @hl1 @hl2); repeat' (with_reducible first | refine nY ?_ | (refine mX ?_; try simp only [go_sem, qH]) | refine kD ?_ | (apply rE [8,9,11] [] [0,1,2,3,4,5,6,7] [0,1,2,3,4,5,6,7] ((.c 8 [] [0,1] (.c 9 [10] [10] (.c 11 [] [] .n .n) .n) .n)) (by simp only [go_sem]; rfl) (by simp only [go_sem]; rfl) (by simp only [go_sem]; rfl) (by decide +kernel); (focus simp only [go_sem]; done)) | exact tF | refine nE (uX ?_) ?_ | refine nG (aX ?_) ?_ | refine nH (aX ?_) ?_ | exact nD | exact oH | exact uB | refine rD ?_ | refine aO ?_ | fail)
     refine bW (k + 1, i5, h5, s ++ [⟨nm4[k], ⟨2, 0, sx⟩⟩]) ?_ ?_ ?_
     ·simp only [go_sem, List.map_append]; simp [aR]
     ·exact ⟨⟨by simp only; omega, f3, f4⟩, kQ r4 hx, fun h => by cases h⟩
     ·simp only; omega
    ·simp only [go_sem]
     have qH := aI @hk (aI @hl1 @hl2); repeat' (with_reducible first | refine nY ?_ | (refine mX ?_; try simp only [go_sem, qH]) | refine kD ?_ | (apply rE [8,9,11] [] [0,1,2,3,4,5,6,7] [0,1,2,3,4,5,6,7] ((.c 8 [] [0,1] (.c 9 [10] [10] (.c 11 [] [] .n .n) .n) .n)) (by simp only [go_sem]; rfl) (by simp only [go_sem]; rfl) (by simp only [go_sem]; rfl) (by decide +kernel); (focus simp only [go_sem]; done)) | exact tF | refine nE (uX ?_) ?_ | refine nG (aX ?_) ?_ | refine nH (aX ?_) ?_ | exact nD | exact oH | exact uB | refine rD ?_ | refine aO ?_ | fail)
     refine bW (k + 1, i5, h5, s ++ [⟨nm4[k], ⟨0, 0, ⟨#[]⟩⟩⟩]) ?_ ?_ ?_
     ·simp only [go_sem, List.map_append]; simp [aR]
     ·exact ⟨⟨by simp only; omega, f3, f4⟩, kQ r4 hx, fun h => by cases h⟩
     ·simp only; omega
   ·have g1' : ((1 : Int) < (k : Int)) = False := by simp [g1]
    have q0 := @g1'; have q1 := @decide_false; refine a0X (xF v) ?_
    have he := And.intro d3 d4
    refine dM (mZ l hl hw i3 h3 he.1 he.2 4 (by omega) (by omega)) ⟨rfl, rfl⟩ rfl rfl ?_
    rintro ⟨x2, i5, h5⟩ ⟨f3, f4⟩
    simp only at f3 f4
    cases x2
    ·simp only [go_sem]
     have qH := aI @hk (aI @hl1 @hl2); repeat' (with_reducible first | refine nY ?_ | (refine mX ?_; try simp only [go_sem, qH]) | refine kD ?_ | (apply rE [8,9,11] [] [0,1,2,3,4,5,6,7] [0,1,2,3,4,5,6,7] ((.c 8 [] [0,1] (.c 9 [10] [10] (.c 11 [] [] .n .n) .n) .n)) (by simp only [go_sem]; rfl) (by simp only [go_sem]; rfl) (by simp only [go_sem]; rfl) (by decide +kernel); (focus simp only [go_sem]; done)) | exact tF | refine nE (uX ?_) ?_ | refine nG (aX ?_) ?_ | refine nH (aX ?_) ?_ | exact nD | exact oH | exact uB | refine rD ?_ | refine aO ?_ | fail)
     refine bW (k + 1, i5, h5, s ++ [⟨nm4[k], ⟨1, v, ⟨#[]⟩⟩⟩]) ?_ ?_ ?_
     ·simp only [go_sem, List.map_append]; simp [aR]
     ·exact ⟨⟨by simp only; omega, f3, f4⟩, kQ r4 hx, fun h => by cases h⟩
     ·simp only; omega
    ·simp only [go_sem]
     have qH := aI @hk (aI @hl1 @hl2); repeat' (with_reducible first | refine nY ?_ | (refine mX ?_; try simp only [go_sem, qH]) | refine kD ?_ | (apply rE [8,9,11] [] [0,1,2,3,4,5,6,7] [0,1,2,3,4,5,6,7] ((.c 8 [] [0,1] (.c 9 [10] [10] (.c 11 [] [] .n .n) .n) .n)) (by simp only [go_sem]; rfl) (by simp only [go_sem]; rfl) (by simp only [go_sem]; rfl) (by decide +kernel); (focus simp only [go_sem]; done)) | exact tF | refine nE (uX ?_) ?_ | refine nG (aX ?_) ?_ | refine nH (aX ?_) ?_ | exact nD | exact oH | exact uB | refine rD ?_ | refine aO ?_ | fail)
     refine bW (k + 1, i5, h5, s ++ [⟨nm4[k], ⟨0, 0, ⟨#[]⟩⟩⟩]) ?_ ?_ ?_
     ·simp only [go_sem, List.map_append]; simp [aR]
     ·exact ⟨⟨by simp only; omega, f3, f4⟩, kQ r4 hx, fun h => by cases h⟩
     ·simp only; omega
  ·have g' : ((k : Int) < 4) = False := by simp [g]
   have q0 := @g'; have q1 := @decide_false; refine uM ?_
   exact dK (⟨!ok, s⟩, ci, ch) ⟨⟨_, rfl, by simp only [go_sem]; try simp⟩, trivial⟩ ⟨⟨hsub, fun h => r5 (by simpa using h)⟩, r2, r3⟩ (by simp only [go_sem])
theorem sK (l : List Int) (hl : l.length ≤ 1048576) (hw : ∀ i ∈ l, inR .u8 i) : FnX Try.prog 9 [.o (.d (.sl (l.map oO)))] (fun p : TEdit × TEdit => gZ p.1 ∧ gZ p.2) (fun p => .t [(true, (uU p.1).cells), (true, (uU p.2).cells)]) := by
 refine a3c Try.func9 rfl Try.call9 rfl (fun C => ?_); simp only [go_sem, st0, Try.ntmps9]
 refine bY ?_
 refine a1s (qR l hl hw) rfl rfl ?_
 intro h0 q0
 simp only [go_sem]
 refine bY ?_
 refine dM (uP l hl hw 0 h0 (Nat.zero_le _) q0) ⟨rfl, rfl⟩ rfl rfl ?_
 rintro ⟨e1, i1, h1⟩ ⟨a1, a2, a3⟩
 simp only at a1 a2 a3
 simp only [go_sem]
 refine bY ?_
 refine dM (uP l hl hw i1 h1 a2 a3) ⟨rfl, rfl⟩ rfl rfl ?_
 rintro ⟨e2, i2, h2⟩ ⟨b1, b2, b3⟩
 simp only at b1 b2 b3
 simp only [go_sem]
 refine bY ?_
 exact uR (e1, e2) ⟨⟨_, rfl, by simp only [go_sem]; try simp⟩, by simp [vF]⟩ ⟨a1, b1⟩
end Go.Proofs.Ytjkbipgmckeckaa
end
section
namespace Go.Proofs
open Go.Shelf
def Try.laysSortStr_ren : Go.Shelf.Ren := ⟨fun | 190 => 103 | 125 => 115 | 258 => 114 | 128 => 128 | 129 => 129 | 302 => 119 | 303 => 120 | 304 => 121 | 305 => 122 | 306 => 123 | 307 => 124 | 308 => 125 | 309 => 126 | 310 => 127 | 333 => 130 | 329 => 131 | 330 => 132 | 334 => 133 | 335 => 134 | 336 => 135 | 344 => 136 | n => n, fun | 31 => 50 | 9 => 9 | 3 => 3 | 46 => 109 | 0 => 0 | 51 => 133 | 53 => 135 | 4 => 4 | 183 => 126 | 182 => 125 | 131 => 110 | 5 => 5 | 218 => 136 | 222 => 140 | 228 => 142 | 229 => 143 | n => n, fun | n => n⟩
def Try.laysCompactStr_ren : Go.Shelf.Ren := ⟨fun | 194 => 104 | n => n, fun | 31 => 50 | 9 => 9 | 3 => 3 | 4 => 4 | 0 => 0 | n => n, fun | n => n⟩
end Go.Proofs
end
section
namespace Go.Proofs.Ytjkbipgmckeckaa
open Go Go.Sx Go.RowKit Go.Proofs
def a5i (l : List Int) : List Int := l.mergeSort fun x y => decide (x ≤ y)
def a5j (l : List Int) : List Int := Lib.compact l
def bl (s : ByteArray) : List UInt8 := s.data.toList
def lb (l : List UInt8) : ByteArray := ⟨l.toArray⟩
theorem a1A (s : ByteArray) : lb (bl s) = s := by cases s; simp [lb, bl]
def a3I (l : List (List UInt8)) : List (List UInt8) := l.mergeSort fun x y => decide (x ≤ y)
def a3J (l : List ByteArray) : List ByteArray := (a3I (l.map bl)).map lb
def a3K (l : List ByteArray) : List ByteArray := (Lib.compact (l.map bl)).map lb
end Go.Proofs.Ytjkbipgmckeckaa
end
section
set_option maxRecDepth 100000
set_option maxHeartbeats 4000000
namespace Go.Sx
end Go.Sx
namespace Go.Proofs.Ytjkbipgmckeckaa
open Go Go.Sx Go.RowKit Go.Proofs
def a5h (l : List ByteArray) : List ByteArray := a3K (a3J l)
def geS (s : ByteArray) (y : ByteArray) : Bool := !eB y s
def a4R (l : List ByteArray) (s : ByteArray) : List ByteArray := if (l.drop (bH (geS s) l)).head? = some s then l else dC (bH (geS s) l) s l
def a5o (l : List ByteArray) : List ByteArray := l.foldl a4R []
end Go.Proofs.Ytjkbipgmckeckaa
end
section
namespace Go.Sx.Clos
section
variable {β : Type} [DecidableEq β]
def a4P (E : List (β × List β)) (S : List β) : Prop := ∀ e ∈ E, (∃ x ∈ e.2, x ∈ S) → e.1 ∈ S
def wsm (w : β → Nat) : List β → Nat
 | [] => 0
 | x :: l => w x + wsm w l
def a2C (w : β → Nat) : List (β × List β) → List β → Nat
 | [], _ => 0
 | e :: E, S => (if e.1 ∈ S then 0 else w e.1) + a2C w E S
variable (put : List β → β → List β)
def a4Q (name : β) (out asks : List β) : List β := asks.foldl (fun o a => if a ∈ o then put o name else o) out
def round (E : List (β × List β)) (S : List β) : List β := E.foldl (fun o e => a4Q put e.1 o e.2) S
def a2D (E : List (β × List β)) : Nat → List β → List β
 | 0, S => S
 | n + 1, S => round put E (a2D E n S)
variable {put} (hput : ∀ l s x, x ∈ put l s ↔ x = s ∨ x ∈ l)
include hput
omit hput
theorem mI {lt : β → β → Prop} (hi : ∀ x, ¬ lt x x) (ht : ∀ x y z, lt x y → lt y z → lt x z) : ∀ {l m : List β}, l.Pairwise lt → m.Pairwise lt → (∀ x, x ∈ l ↔ x ∈ m) → l = m
 | [], [], _, _, _ => rfl
 | [], b :: m, _, _, h => by have := (h b).2 List.mem_cons_self; simp at this
 | a :: l, [], _, _, h => by have := (h a).1 List.mem_cons_self; simp at this
 | a :: l, b :: m, h1, h2, h => by
  rw [List.pairwise_cons] at h1 h2
  have hab : a = b := by
   rcases List.mem_cons.1 ((h a).1 List.mem_cons_self) with e | e
   ·exact e
   ·rcases List.mem_cons.1 ((h b).2 List.mem_cons_self) with e' | e'
    ·exact e'.symm
    ·exact absurd (ht _ _ _ (h1.1 b e') (h2.1 a e)) (hi a)
  subst hab
  congr 1
  refine mI hi ht h1.2 h2.2 (fun x => ⟨fun hx => ?_, fun hx => ?_⟩)
  ·rcases List.mem_cons.1 ((h x).1 (List.mem_cons_of_mem _ hx)) with e | e
   ·subst e; exact absurd (h1.1 x hx) (hi x)
   ·exact e
  ·rcases List.mem_cons.1 ((h x).2 (List.mem_cons_of_mem _ hx)) with e | e
   ·subst e; exact absurd (h2.1 x hx) (hi x)
   ·exact e
end
end Go.Sx.Clos
namespace Go.Proofs.Ytjkbipgmckeckaa
open Go Go.Sx Go.RowKit Go.Proofs
theorem a2E {x y : ByteArray} (h : bl x = bl y) : x = y := by rw [← a1A x, ← a1A y, h]
def ltS (x y : ByteArray) : Prop := bl x < bl y
theorem fU (x y : ByteArray) : eB x y = true ↔ ltS x y := by
 unfold eB ltS bl
 rw [Go.Proofs.bytesLess_eq, decide_eq_true_eq, ByteArray.toList_eq, ByteArray.toList_eq]
theorem gV (x : ByteArray) : ¬ ltS x x := List.lt_irrefl (bl x)
theorem qW (x y z : ByteArray) (h : ltS x y) (k : ltS y z) : ltS x z := List.lt_trans h k
theorem a2F {x y : List UInt8} (h : x ≤ y) (k : x ≠ y) : x < y := Classical.byContradiction fun hn => k (List.le_antisymm h (List.not_lt.1 hn))
theorem a1o {x y : ByteArray} (h : ¬ ltS x y) (k : x ≠ y) : ltS y x := a2F (List.not_lt.1 h) fun e => k (a2E e).symm
end Go.Proofs.Ytjkbipgmckeckaa
end
section
set_option maxRecDepth 100000
set_option maxHeartbeats 4000000
namespace Go.Proofs.Ytjkbipgmckeckaa
open Go Go.Sx Go.RowKit Go.Proofs Go.Sx.Clos
abbrev nmE (l : List TAttr) : List ByteArray := l.map TAttr.fName
abbrev ltN (x y : TAttr) : Prop := ltS x.fName y.fName
theorem qP (x v : TValue) : mG x v = true ↔ x = v := by
 unfold mG
 obtain ⟨a, b, c⟩ := x
 obtain ⟨d, e, f⟩ := v
 simp
theorem lH (a : List TAttr) (x : TAttr) : bS a x = true ↔ ∃ y ∈ a, y.fName = x.fName ∧ y.fValue ≠ x.fValue := by
 unfold bS
 rw [List.any_eq_true]
 constructor
 ·rintro ⟨y, hy, h⟩
  simp only [Bool.and_eq_true, decide_eq_true_eq, Bool.not_eq_true'] at h
  refine ⟨y, hy, h.1, fun e => ?_⟩
  rw [(qP _ _).2 e] at h
  exact absurd h.2 (by simp)
 ·rintro ⟨y, hy, h1, h2⟩
  refine ⟨y, hy, ?_⟩
  have h3 : mG y.fValue x.fValue = false := by
   cases hq : mG y.fValue x.fValue
   ·rfl
   ·exact absurd ((qP _ _).1 hq) h2
  simp [h1, h3]
theorem qQ (a : List TAttr) (x : TAttr) : dG a x = true ↔ ∃ y ∈ a, y.fName = x.fName := by
 unfold dG
 rw [List.any_eq_true]
 simp
theorem kM {x y : TAttr} (p : TAttr → Bool) (l : List TAttr) : y ∈ dC (bH p l) x l ↔ y = x ∨ y ∈ l := by
 unfold dC
 constructor
 ·intro h
  rcases List.mem_append.1 h with h | h
  ·exact .inr (List.mem_of_mem_take h)
  ·rcases List.mem_cons.1 h with h | h
   ·exact .inl h
   ·exact .inr (List.mem_of_mem_drop h)
 ·intro h
  rcases h with rfl | h
  ·exact List.mem_append.2 (.inr (List.mem_cons_self ..))
  ·have : y ∈ l.take (bH p l) ++ l.drop (bH p l) := by rw [List.take_append_drop]; exact h
   rcases List.mem_append.1 this with h | h
   ·exact List.mem_append.2 (.inl h)
   ·exact List.mem_append.2 (.inr (List.mem_cons_of_mem _ h))
theorem mE (x : TAttr) : ∀ (l : List TAttr), l.Pairwise ltN → (∀ y ∈ l, y.fName ≠ x.fName) → (dC (bH (bB x.fName) l) x l).Pairwise ltN
 | [], _, _ => by simp [dC]
 | y :: l, h, hn => by
  rw [List.pairwise_cons] at h
  obtain ⟨h1, h2⟩ := h
  have hy := hn y (List.mem_cons_self ..)
  by_cases hlt : ltS y.fName x.fName
  ·have hb : bB x.fName y = false := by unfold bB; rw [(fU _ _).2 hlt]; rfl
   have e : bH (bB x.fName) (y :: l) = bH (bB x.fName) l + 1 := by rw [bH, hb]; rfl
   have ih := mE x l h2 (fun z hz => hn z (List.mem_cons_of_mem _ hz))
   have e2 : dC (bH (bB x.fName) (y :: l)) x (y :: l) = y :: dC (bH (bB x.fName) l) x l := by rw [e]; simp [dC]
   rw [e2, List.pairwise_cons]
   refine ⟨fun z hz => ?_, ih⟩
   rcases (kM _ l).1 hz with rfl | hz
   ·exact hlt
   ·exact h1 _ hz
  ·have hb : bB x.fName y = true := by
    have h3 : eB y.fName x.fName = false := by
     cases hq : eB y.fName x.fName
     ·rfl
     ·exact absurd ((fU _ _).1 hq) hlt
    unfold bB; rw [h3]; rfl
   have e : bH (bB x.fName) (y :: l) = 0 := by unfold bH; rw [hb]; rfl
   have hxy := a1o hlt hy
   rw [e]
   simp only [dC, List.take_zero, List.drop_zero, List.nil_append, List.pairwise_cons, List.mem_cons]
   refine ⟨fun z hz => ?_, h1, h2⟩
   rcases hz with rfl | hz
   ·exact hxy
   ·exact qW _ _ _ hxy (h1 z hz)
theorem merge_spec (a : List TAttr) : ∀ (b l : List TAttr), b.Pairwise ltN → l.Pairwise ltN → (∀ y ∈ a, y ∈ l) → (∀ y ∈ l, y ∈ a ∨ ∀ x ∈ b, y.fName ≠ x.fName) →
    (mergeL a l b = none ∧ ∃ x ∈ b, bS a x = true) ∨ ∃ r, mergeL a l b = some r ∧ (∀ x ∈ b, bS a x = false) ∧ r.Pairwise ltN ∧ (∀ y, y ∈ r ↔ y ∈ l ∨ y ∈ b) ∧ l.length ≤ r.length ∧ r.length ≤ l.length + b.length
 | [], l, _, hl, _, _ => .inr ⟨l, rfl, by simp, hl, by simp, Nat.le_refl _, by simp⟩
 | x :: b, l, hb, hl, ha, hn => by
  rw [List.pairwise_cons] at hb
  obtain ⟨hb1, hb2⟩ := hb
  rw [mergeL]
  by_cases h1 : bS a x = true
  ·rw [if_pos h1]
   exact .inl ⟨rfl, x, List.mem_cons_self .., h1⟩
  rw [if_neg h1]
  have h1' : bS a x = false := by simpa using h1
  by_cases h2 : dG a x = true
  ·rw [if_pos h2]
   obtain ⟨y, hy, hyn⟩ := (qQ a x).1 h2
   have hxy : y = x := by
    have h3 : y.fValue = x.fValue := Classical.byContradiction fun h3 => h1 ((lH a x).2 ⟨y, hy, hyn, h3⟩)
    obtain ⟨n, v⟩ := y
    obtain ⟨n', v'⟩ := x
    simp only at hyn h3
    subst hyn h3
    rfl
   subst hxy
   rcases merge_spec a b l hb2 hl ha (fun z hz => (hn z hz).imp id fun h x hx => h x (List.mem_cons_of_mem _ hx)) with ⟨e, z, hz, hc⟩ | ⟨r, e, hc, hs, hm, hl1, hl2⟩
   ·exact .inl ⟨e, z, List.mem_cons_of_mem _ hz, hc⟩
   ·refine .inr ⟨r, e, ?_, hs, fun z => ?_, hl1, by simp only [List.length_cons]; omega⟩
    ·intro z hz
     rcases List.mem_cons.1 hz with rfl | hz
     ·exact h1'
     ·exact hc z hz
    ·rw [hm, List.mem_cons]
     constructor
     ·rintro (h | h)
      ·exact .inl h
      ·exact .inr (.inr h)
     ·rintro (h | rfl | h)
      ·exact .inl h
      ·exact .inl (ha _ hy)
      ·exact .inr h
  rw [if_neg h2]
  have hk : ∀ y ∈ l, y.fName ≠ x.fName := fun y hy e => by
   rcases hn y hy with h | h
   ·exact h2 ((qQ a x).2 ⟨y, h, e⟩)
   ·exact h x (List.mem_cons_self ..) e
  rcases merge_spec a b (dC (bH (bB x.fName) l) x l) hb2 (mE x l hl hk) (fun y hy => (kM _ l).2 (.inr (ha y hy))) (fun z hz => by
   rcases (kM _ l).1 hz with rfl | hz
   ·exact .inr fun w hw e => by
     have := hb1 w hw
     unfold ltN at this
     rw [e] at this
     exact gV _ this
   ·exact (hn z hz).imp id fun h w hw => h w (List.mem_cons_of_mem _ hw)) with ⟨e, z, hz, hc⟩ | ⟨r, e, hc, hs, hm, hl1, hl2⟩
  ·exact .inl ⟨e, z, List.mem_cons_of_mem _ hz, hc⟩
  ·have hle := pE (bB x.fName) l
   rw [lQ _ _ _ hle] at hl1 hl2
   refine .inr ⟨r, e, ?_, hs, fun z => ?_, by omega, by simp only [List.length_cons]; omega⟩
   ·intro z hz
    rcases List.mem_cons.1 hz with rfl | hz
    ·exact h1'
    ·exact hc z hz
   ·rw [hm, kM, List.mem_cons]
    constructor
    ·rintro ((h | h) | h)
     ·exact .inr (.inl h)
     ·exact .inl h
     ·exact .inr (.inr h)
    ·rintro (h | h | h)
     ·exact .inl (.inr h)
     ·exact .inl (.inl h)
     ·exact .inr h
theorem merge_top (a b : List TAttr) (ha : a.Pairwise ltN) (hb : b.Pairwise ltN) :
    (mergeL a a b = none ∧ ∃ x ∈ b, ∃ y ∈ a, y.fName = x.fName ∧ y.fValue ≠ x.fValue) ∨ ∃ r, mergeL a a b = some r ∧ (∀ x ∈ b, ∀ y ∈ a, y.fName = x.fName → y.fValue = x.fValue) ∧ r.Pairwise ltN ∧ (∀ y, y ∈ r ↔ y ∈ a ∨ y ∈ b) ∧ a.length ≤ r.length ∧ r.length ≤ a.length + b.length := by
 rcases merge_spec a b a hb ha (fun y h => h) (fun y h => .inl h) with ⟨e, x, hx, hc⟩ | ⟨r, e, hc, h⟩
 ·exact .inl ⟨e, x, hx, (lH a x).1 hc⟩
 ·refine .inr ⟨r, e, fun x hx y hy hn => Classical.byContradiction fun hv => ?_, h⟩
  have := (lH a x).2 ⟨y, hy, hn, hv⟩
  rw [hc x hx] at this
  simp at this
theorem a1r {l m : List TAttr} (hl : l.Pairwise ltN) (hm : m.Pairwise ltN) (h : ∀ x, x ∈ l ↔ x ∈ m) : l = m := by
 letI : DecidableEq TAttr := fun _ _ => Classical.propDecidable _
 exact mI (lt := ltN) (fun x => gV _) (fun x y z => qW _ _ _) hl hm h
theorem dB {e : TEdit} (h : gZ e) : e.fSet.Pairwise ltN := by
 have h1 : nm4.Pairwise ltS := by
  simp only [nm4, List.pairwise_cons, List.mem_cons, List.not_mem_nil, or_false, false_or, List.Pairwise.nil, and_true]
  refine ⟨?_, ?_, ?_, ?_⟩
  ·rintro x (rfl | rfl | rfl) <;> exact (fU _ _).1 (by decide +kernel)
  ·rintro x (rfl | rfl) <;> exact (fU _ _).1 (by decide +kernel)
  ·rintro x rfl; exact (fU _ _).1 (by decide +kernel)
  ·simp
 have h2 : (e.fSet.map TAttr.fName).Pairwise ltS := h1.sublist h.1
 rw [List.pairwise_map] at h2
 exact h2
theorem iV {e : TEdit} (h : gZ e) : e.fSet.length ≤ 4 := by
 have := h.1.length_le
 simpa [nm4] using this
theorem uN {a b : TEdit} (ha : gZ a) (hb : gZ b) : mergeE a b = mergeE b a := by
 have sa := dB ha
 have sb := dB hb
 unfold mergeE
 rw [Bool.and_comm b.fOK]
 split
 ·rcases merge_top a.fSet b.fSet sa sb with ⟨e, x, hx, y, hy, hn, hv⟩ | ⟨r, e, hc, hs, hm, _⟩
  ·rcases merge_top b.fSet a.fSet sb sa with ⟨e2, _⟩ | ⟨r2, e2, hc2, _⟩
   ·rw [e, e2]
   ·exact absurd (hc2 y hy x hx hn.symm).symm hv
  ·rcases merge_top b.fSet a.fSet sb sa with ⟨e2, x, hx, y, hy, hn, hv⟩ | ⟨r2, e2, hc2, hs2, hm2, _⟩
   ·exact absurd (hc y hy x hx hn.symm).symm hv
   ·rw [e, e2]
    have : r = r2 := a1r hs hs2 fun z => by rw [hm, hm2]; exact Or.comm
    rw [this]
 ·rfl
theorem uO {a : TEdit} (ha : gZ a) (h : a.fOK = true) : mergeE a a = a := by
 have sa := dB ha
 unfold mergeE
 rw [h]
 simp only [Bool.and_self, if_true]
 rcases merge_top a.fSet a.fSet sa sa with ⟨e, x, hx, y, hy, hn, hv⟩ | ⟨r, e, hc, hs, hm, _⟩
 ·exfalso
  obtain ⟨i, hi, rfl⟩ := List.getElem_of_mem hx
  obtain ⟨j, hj, rfl⟩ := List.getElem_of_mem hy
  have hp := List.pairwise_iff_getElem.1 sa
  rcases Nat.lt_trichotomy i j with h1 | h1 | h1
  ·have := hp i j hi hj h1; unfold ltN at this; rw [hn] at this; exact gV _ this
  ·subst h1; exact hv rfl
  ·have := hp j i hj hi h1; unfold ltN at this; rw [hn] at this; exact gV _ this
 ·rw [e]
  have : r = a.fSet := a1r hs sa fun z => by rw [hm]; exact or_self_iff
  rw [this]
  obtain ⟨ok, s⟩ := a
  simp only at h
  subst h
  rfl
theorem kN {a b : TEdit} (ha : gZ a) (hb : gZ b) (h : (mergeE a b).fOK = true) : a.fOK = true ∧ b.fOK = true ∧ a.fSet.length ≤ (mergeE a b).fSet.length ∧ (mergeE a b).fSet.length ≤ a.fSet.length + b.fSet.length := by
 have sa := dB ha
 have sb := dB hb
 unfold mergeE at h ⊢
 by_cases g : (a.fOK && b.fOK) = true
 ·have g2 := g
  rw [Bool.and_eq_true] at g2
  rw [if_pos g] at h ⊢
  rcases merge_top a.fSet b.fSet sa sb with ⟨e, _⟩ | ⟨r, e, _, _, _, h1, h2⟩
  ·rw [e] at h; simp at h
  ·rw [e]; exact ⟨g2.1, g2.2, h1, h2⟩
 ·rw [if_neg g] at h; simp at h
theorem wI {a b : TEdit} (ha : gZ a) (hb : gZ b) : (mergeE a b).fSet.length ≤ 8 := by
 cases h : (mergeE a b).fOK
 ·unfold mergeE at h ⊢
  split
  ·rename_i g
   rw [if_pos g] at h
   split
   ·simp
   ·rename_i l e
    rw [e] at h; simp at h
  ·simp
 ·have := kN ha hb h
  have := iV ha
  have := iV hb
  omega
theorem sJ (l : List TAttr) (hl : l.length ≤ 1048576) : FnC Try.prog 38 [.o (.d (.sl (l.map aR))), .o (.d (.sl (l.map aR)))] (ob true) := by
 refine ent Try.func38 rfl Try.call38 rfl (fun C => ?_); simp only [go_sem, st0, Try.ntmps38]
 have h0 : decide ((l.length : Int) = (l.length : Int)) = true := by simp
 have q0 := @h0; have q1 := @a1Z; refine uM ?_
 refine nN (α := Nat) (fun k => [(5, oi k)]) (fun _ => []) (fun k => k ≤ l.length) (fun k => l.length - k) 0 (fun _ => ?_) ?_ ?_ (fun k hk => ?_)
 ·simp only [go_sem]
 ·simp only [go_sem]; simp
 ·simp
 ·simp only [go_sem]
  refine bY ?_
  refine cnd rfl (fun h => ?_) (fun h => ?_)
  ·simp only [decide_eq_true_eq, Int.ofNat_lt] at h
   have q0 := @h; refine oN ?_
   refine bW (k + 1) ?_ ?_ ?_
   ·simp only [go_sem]; simp
   ·exact h
   ·omega
  ·refine bY ?_
   exact aY ⟨⟨_, rfl, by simp only [go_sem]⟩, trivial⟩
theorem mF (e : TEdit) (hl : e.fSet.length ≤ 1048576) : FnC Try.prog 11 [uT e, uT e] (ob true) := by
 refine ent Try.func11 rfl Try.call11 rfl (fun C => ?_); simp only [go_sem, st0, Try.ntmps11]
 have h0 : decide (e.fOK = e.fOK) = true := by simp
 have h1 : (e.fOK == e.fOK) = true := by simp
 have q0 := @h0; have q1 := @h1; refine a0X (sJ e.fSet hl) ?_
 exact aY ⟨⟨_, rfl, by simp only [go_sem]⟩, trivial⟩
theorem kP (l : List Int) (hf : wfU l) : FnC Try.prog 3 [.o (.d (.sl (l.map oO)))] (ob true) := by
 refine ent Try.func3 rfl Try.call3 rfl (fun C => ?_); simp only [go_sem, st0, Try.ntmps3]
 have hbig := a2b l hf.1
 by_cases g : (1048576 : Int) < (l.length : Int)
 ·have g' : decide ((1048576 : Int) < (l.length : Int)) = true := by simp [g]
  have q0 := @g'; refine a2a hbig ?_
  exact aY ⟨⟨_, rfl, by simp only [go_sem]⟩, trivial⟩
 have g' : decide ((1048576 : Int) < (l.length : Int)) = false := by simp [g]
 have q0 := @g'; refine a2a hbig ?_
 refine a3d (sK l (by omega) hf.2) rfl rfl ?_
 rintro ⟨a, b⟩ ⟨ha, hb⟩
 simp only at ha hb
 have la := iV ha
 have lb := iV hb
 have m1 := lJ (gT a b (by omega) (by omega)) (by simp only [go_sem]) (by simp only [go_sem])
 have m2 := lJ (gT b a (by omega) (by omega)) (by simp only [go_sem]) (by simp only [go_sem])
 have m3 := lJ (gT a a (by omega) (by omega)) (by simp only [go_sem]) (by simp only [go_sem])
 have lm := wI ha hb
 have bd := kN ha hb
 rw [← uN ha hb] at m2
 have s1 := mF (mergeE a b) (by omega)
 have s2 := mF a (by omega)
 have m4 := fun h => uO (a := a) ha h
 generalize mergeE a b = m at *
 generalize mergeE a a = m' at *
 obtain ⟨oa, a⟩ := a
 obtain ⟨ob', b⟩ := b
 obtain ⟨om, m⟩ := m
 simp only at bd m4 la lb lm
 simp only [go_sem]
 cases oa
 ·cases om
  ·refine a4q m1 m2 s1 ?_
   exact aY ⟨⟨_, rfl, by simp only [go_sem]⟩, trivial⟩
  ·have := (bd rfl).1
   simp at this
 ·rw [m4 rfl] at m3
  cases om
  ·refine a4r m1 m2 m3 s1 s2 ?_
   exact aY ⟨⟨_, rfl, by simp only [go_sem]⟩, trivial⟩
  ·obtain ⟨_, hb0, b1, b2⟩ := bd rfl
   subst hb0
   have d1 : decide ((a.length : Int) ≤ (m.length : Int)) = true := by simp; omega
   have d2 : decide ((m.length : Int) ≤ (a.length : Int) + (b.length : Int)) = true := by simp; omega
   have i1 : inR .i64 ((a.length : Int) + (b.length : Int)) := by unfold inR; simp only; omega
   have q0 := @d1; have q1 := @d2; have q2 := @i1; have q3 := @a1Z; refine a4s m1 m2 m3 s1 s2 ?_
   exact aY ⟨⟨_, rfl, by simp only [go_sem]⟩, trivial⟩
end Go.Proofs.Ytjkbipgmckeckaa
end
