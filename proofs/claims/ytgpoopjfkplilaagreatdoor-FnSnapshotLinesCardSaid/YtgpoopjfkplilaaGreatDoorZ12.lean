/- Joined texts. -/
import Derived.Test.YtgpoopjfkplilaaGreatDoorZ11
import Derived.Test.YtgpoopjfkplilaaGreatDoorZ07
import Derived.Test.YtgpoopjfkplilaaGreatDoorZ08
import Derived.Test.YtgpoopjfkplilaaGreatDoorZ05
set_option linter.all false
section
set_option maxRecDepth 100000
set_option maxHeartbeats 4000000
namespace Go.Sx
theorem a9i {P : Program} {C : Ctx} {F : Ex → St → Prop} {st : St} {code : Code} (i id : Nat) {ty sz : Nat} {rows : List (List D)} {lin : Bool} (hi : nth st.t i = .o (.s id)) (hb : bK st.h id = .row ty sz rows lin) (h : WP P C code F ⟨a5S st.t i (.o (.d (.sl rows))), setH st.h id (.frz rows lin)⟩) : WP P C code F st := by
 intro g V a w hr
 obtain ⟨g', V', h1, h2, h3, h4, h5⟩ := hr.hp.frz hr.mod hr.fr.size (aF hb (by simp))
 have hr1 : Rel C g' V' ⟨st.t, setH st.h id (.frz rows lin)⟩ a w := ⟨hr.sl.mono h1 h2, by rw [bO]; exact h4, h3, hr.fr, hr.vw.grow h2 h5⟩
 refine h g' V' a w ⟨⟨by rw [lL]; simpa using hr1.sl.size, fun n s y e1 e2 => ?_, hr1.sl.defers⟩, hr1.hp, hr1.mod, hr1.fr, hr1.vw⟩
 rw [lL, List.getElem?_set] at e1
 by_cases e : i = n
 ·subst e
  rw [if_pos rfl] at e1
  split at e1
  ·rename_i hlt
   cases e1
   have hs : st.t[i]? = some (.o (.s id)) := by
    rw [oW, List.getD_eq_getElem?_getD, List.getElem?_eq_getElem hlt] at hi
    rw [List.getElem?_eq_getElem hlt]
    exact congrArg some hi
   obtain ⟨gh, hgh, hy, _⟩ := hr1.sl.slot i _ y hs e2
   have hf : (setH st.h id (.frz rows lin))[id]? = some (.frz rows lin) := by
    have := aF hb (by simp)
    rw [bO, List.getElem?_set]; simp [(List.getElem?_eq_some_iff.1 this).1]
   obtain ⟨_, S, q1, _⟩ := hr1.hp.hb id _ gh hf hgh
   exact ⟨S, by rw [hy]; exact q1⟩
  ·cases e1
 ·rw [if_neg e] at e1
  exact hr1.sl.slot n s y e1 e2
end Go.Sx
namespace Go.Proofs.YtgpoopjfkplilaaGreatDoor
open Go Go.Sx Go.RowKit Go.Proofs
theorem xB {α : Type} [Inhabited α] [DecidableEq α] (d : Array α) : ∀ (m i : Nat), i < m → d[i]! ∈ Lib.compactUpTo d m
 | 0, i, h => by omega
 | m + 1, i, h => by
  rw [Lib.compactUpTo_succ]
  by_cases hi : i < m
  ·exact List.mem_append_left _ (xB d m i hi)
  ·have e : i = m := by omega
   subst e
   cases hk : Lib.keeps d i with
   | true => exact List.mem_append_right _ (by simp)
   | false =>
    have h0 : 0 < i := by
     rcases Nat.eq_zero_or_pos i with h | h
     ·subst h; rw [Lib.keeps_lt_one d 0 (by omega)] at hk; cases hk
     ·exact h
    have he : d[i]! = d[i - 1]! := Classical.byContradiction fun hn => by rw [Lib.keeps_pos hn] at hk; cases hk
    rw [he]
    exact List.mem_append_left _ (xB d i (i - 1) (by omega))
theorem a6y {α : Type} [Inhabited α] [DecidableEq α] (zs : List α) (x : α) : x ∈ Lib.compact zs ↔ x ∈ zs := by
 refine ⟨fun h => ?_, fun h => ?_⟩
 ·unfold Lib.compact Lib.compactUpTo at h
  obtain ⟨i, hi, rfl⟩ := List.mem_map.1 h
  have hi' : i < zs.length := List.mem_range.1 (List.mem_filter.1 hi).1
  simp [getElem!_pos, hi']
 ·obtain ⟨i, hi, rfl⟩ := List.mem_iff_getElem.1 h
  have := xB zs.toArray zs.length i hi
  have e : zs.toArray[i]! = zs[i] := by simp [getElem!_pos, hi]
  rw [e] at this
  exact this
def iB (l : List ByteArray) : List ByteArray := a6A (uK l)
theorem a3D (l : List ByteArray) : (iB l).length ≤ l.length := by
 have := lX ((uK l).map bl).toArray ((uK l).map bl).length
 simp only [iB, a6A, Lib.compact, List.length_map, a0o] at this ⊢
 exact this
theorem vH (l : List ByteArray) (s : ByteArray) : s ∈ iB l ↔ s ∈ l := by
 have e : (uK l).map bl = wF (l.map bl) := by
  unfold uK
  rw [List.map_map]
  have : (bl ∘ lb) = id := by funext x; exact b4D x
  rw [this, List.map_id]
 unfold iB a6A
 rw [e]
 constructor
 ·intro h
  obtain ⟨y, hy, rfl⟩ := List.mem_map.1 h
  rw [a6y, wF, List.mem_mergeSort] at hy
  obtain ⟨z, hz, rfl⟩ := List.mem_map.1 hy
  rw [b2p]; exact hz
 ·intro h
  refine List.mem_map.2 ⟨bl s, ?_, b2p s⟩
  rw [a6y, wF, List.mem_mergeSort]
  exact List.mem_map.2 ⟨s, h, rfl⟩
theorem a2P (l : List ByteArray) (hl : l.length ≤ 4300000) : FnC Tryz.prog 250 [.o (.d (.sl (l.map dL)))] (.o (.w 9 1 ((iB l).map dL))) := by
 refine ent Tryz.func250 rfl Tryz.call250 rfl (fun C => ?_); simp only [go_sem, st0, Tryz.ntmps250]
 have qH := trivial; repeat' (with_reducible first | refine nY ?_ | (refine mX ?_; try simp only [go_sem]) | refine kD ?_ | refine rD ?_ | refine cP (a6h l hl) ?_ | refine vI (a2m l (by omega)) ?_ | refine vJ (a2m l (by omega)) ?_ | refine vI (wH (uK l) (by rw [a0o]; omega)) ?_ | refine vJ (wH (uK l) (by rw [a0o]; omega)) ?_ | refine aO ?_ | fail)
 exact aA ⟨⟨_, rfl, by simp only [go_sem, iB]⟩, trivial⟩
def geS (s : ByteArray) (y : ByteArray) : Bool := !gB y s
def vZ (l : List ByteArray) (s : ByteArray) : List ByteArray := if (l.drop (eU (geS s) l)).head? = some s then l else jZ (eU (geS s) l) s l
def putL (l : List ByteArray) : List ByteArray := l.foldl vZ []
theorem b2m (l : List ByteArray) (s x : ByteArray) : x ∈ vZ l s ↔ x = s ∨ x ∈ l := by
 unfold vZ
 split
 ·rename_i h
  have : s ∈ l.drop (eU (geS s) l) := by
   cases hd : l.drop (eU (geS s) l) with
   | nil => rw [hd] at h; cases h
   | cons y r => rw [hd] at h; simp at h; simp [h]
  have hs := List.mem_of_mem_drop this
  constructor
  ·exact .inr
  ·rintro (rfl | h) <;> first | exact hs | exact h
 ·unfold jZ
  conv => rhs; rw [← List.take_append_drop (eU (geS s) l) l]
  simp only [List.mem_append, List.mem_cons]
  constructor
  ·rintro (h | h | h) <;> first | exact .inr (.inl h) | exact .inl h | exact .inr (.inr h)
  ·rintro (h | h | h) <;> first | exact .inr (.inl h) | exact .inl h | exact .inr (.inr h)
theorem b2n (l : List ByteArray) (s : ByteArray) : (vZ l s).length ≤ l.length + 1 := by
 unfold vZ
 split
 ·omega
 ·rw [a3v _ _ _ (yR _ l)]; omega
theorem b2o (l : List ByteArray) (s : ByteArray) : putL (l ++ [s]) = vZ (putL l) s := by simp [putL]
theorem b0B (l : List ByteArray) : ∀ (a : List ByteArray) (x : ByteArray), x ∈ l.foldl vZ a ↔ x ∈ a ∨ x ∈ l := by
 induction l with
 | nil => simp
 | cons y l ih =>
  intro a x
  rw [List.foldl_cons, ih, b2m]
  simp only [List.mem_cons]
  constructor
  ·rintro ((h | h) | h) <;> first | exact .inr (.inl h) | exact .inl h | exact .inr (.inr h)
  ·rintro (h | h | h) <;> first | exact .inl (.inr h) | exact .inl (.inl h) | exact .inr h
theorem a6z (l : List ByteArray) (x : ByteArray) : x ∈ putL l ↔ x ∈ l := by rw [putL, b0B]; simp
theorem b0C (l : List ByteArray) : ∀ a : List ByteArray, (l.foldl vZ a).length ≤ a.length + l.length := by
 induction l with
 | nil => simp
 | cons y l ih =>
  intro a
  have h1 := ih (vZ a y)
  have h2 := b2n a y
  simp only [List.foldl_cons, List.length_cons]; omega
theorem uJ (l : List ByteArray) : (putL l).length ≤ l.length := by have := b0C l []; simpa [putL] using this
theorem b0D {α : Type} (p : α → Bool) (l : List α) (k : Nat) (h : k < l.length) (hk : eU p l = k + eU p (l.drop k)) : eU p l = if p l[k] then k else k + 1 + eU p (l.drop (k + 1)) := by
 rw [hk, a2b p l k h]
 split <;> omega
theorem mQ {α β : Type} (f : α → β) (l : List α) (n : Nat) : (l.map f).take n = (l.take n).map f := List.map_take.symm
theorem mR {α β : Type} (f : α → β) (l : List α) (n : Nat) : (l.map f).drop n = (l.drop n).map f := List.map_drop.symm
end Go.Proofs.YtgpoopjfkplilaaGreatDoor
end
section
namespace Go.Proofs.YtgpoopjfkplilaaGreatDoor
open Go Go.Sx Go.RowKit Go.Proofs
def vK (name : ByteArray) : List TAttr → TValue
 | [] => ⟨0, 0, ⟨#[]⟩⟩
 | a :: r => if a.fName = name then a.fValue else vK name r
end Go.Proofs.YtgpoopjfkplilaaGreatDoor
end
section
set_option maxRecDepth 100000
set_option maxHeartbeats 4000000
namespace Go.Proofs.YtgpoopjfkplilaaGreatDoor
open Go Go.Sx Go.RowKit Go.Proofs
theorem b3Y (l : List ByteArray) : ∀ r ∈ l.map dL, r.length = 1 := by intro r hr; obtain ⟨x, _, rfl⟩ := List.mem_map.1 hr; rfl
theorem b0A (l : List ByteArray) (s : ByteArray) (hl : l.length ≤ 4300000) : FnC Tryz.prog 258 [.o (.d (.sl (l.map dL))), os s] (.o (.d (.sl ((vZ l s).map dL)))) := by
 have hle := yR (geS s) l
 refine ent Tryz.func258 rfl Tryz.call258 rfl (fun C => ?_); simp only [go_sem, st0, Tryz.ntmps258]
 refine aD ?_
 refine dB (α := Nat) (fun k => [(5, oi k)]) (fun _ => []) (fun k => k ≤ l.length ∧ eU (geS s) l = k + eU (geS s) (l.drop k)) (fun k => l.length - k) 0 (fun _ => ?_) ?_ ?_ (fun k hk => ?_)
 ·simp only [go_sem]
 ·simp only [go_sem]; simp
 ·simp
 ·obtain ⟨hk, hf⟩ := hk
  simp only [go_sem]
  by_cases h1 : k < l.length
  ·have hfx := b0D (geS s) l k h1 hf
   have h1' : ((k : Int) < (l.length : Int)) = True := by simp [h1]
   have q0 := @h1; have q1 := @h1'; have q2 := @decide_true; refine kI ?_
   refine cnd (b := gB l[k] s) rfl (fun h2 => ?_) (fun h2 => ?_)
   ·rw [if_neg (by simp [geS, h2])] at hfx
    refine aD ?_
    refine aQ (k + 1) ?_ ?_ ?_
    ·simp only [go_sem]; simp
    ·exact ⟨by omega, hfx⟩
    ·omega
   ·rw [if_pos (by simp [geS, h2])] at hfx
    have hd := List.drop_eq_getElem_cons h1
    by_cases h3 : l[k] = s
    ·have hput : vZ l s = l := by unfold vZ; rw [hfx, hd]; simp [h3]
     have q0 := @h1; have q1 := @h1'; have q2 := @h3; have q3 := @decide_true; refine jQ ?_
     exact aA ⟨⟨_, rfl, by simp only [go_sem, hput]⟩, trivial⟩
    ·have hput : vZ l s = jZ k s l := by unfold vZ; rw [hfx, hd]; exact if_neg (fun h => h3 (Option.some.inj h))
     have hn1 : ((0 : Int) ≤ (k : Int)) := by omega
     have qH := aI @h1 (aI @h1' (aI @h3 (aI @hn1 (aI @decide_true (aI @decide_false (aI @mQ (aI @mR (aI @yO (aI @yP @a2J))))))))); repeat' (with_reducible first | refine nY ?_ | (refine mX ?_; try simp only [go_sem, qH]) | refine kD ?_ | refine rD ?_ | refine aO ?_ | fail)
     refine ⟨b3Y l, by omega, by omega, by omega, ?_⟩
     have q0 := @mQ; have q1 := @mR; have q2 := @yO; have q3 := @yP; have q4 := @a2J; refine vW ?_
     refine ⟨b3Y l, by omega, by omega, by omega, ?_⟩
     have q0 := @mQ; have q1 := @mR; have q2 := @yO; have q3 := @yP; have q4 := @a2J; refine vW ?_
     refine uV (Sees.frz 0 rfl) ?_
     simp only [go_sem]
     exact aA ⟨⟨_, rfl, by simp only [go_sem, hput, jZ, List.take_length, List.map_append, List.map_cons, List.append_assoc, List.cons_append, List.nil_append]⟩, trivial⟩
  ·have e : k = l.length := by omega
   have hfx : eU (geS s) l = k := by rw [hf, e, List.drop_length]; rfl
   have hput : vZ l s = jZ k s l := by unfold vZ; rw [hfx, e, List.drop_length]; simp
   have h1' : ((k : Int) < (l.length : Int)) = False := by simp [h1]
   have q0 := @h1; have q1 := @h1'; have q2 := @decide_false; have q3 := @mQ; have q4 := @mR; have q5 := @yO; have q6 := @yP; have q7 := @a2J; refine a1Y ?_
   refine ⟨b3Y l, by omega, by omega, by omega, ?_⟩
   have q0 := @mQ; have q1 := @mR; have q2 := @yO; have q3 := @yP; have q4 := @a2J; refine vW ?_
   refine ⟨b3Y l, by omega, by omega, by omega, ?_⟩
   have q0 := @mQ; have q1 := @mR; have q2 := @yO; have q3 := @yP; have q4 := @a2J; refine vW ?_
   refine uV (Sees.frz 0 rfl) ?_
   simp only [go_sem]
   exact aA ⟨⟨_, rfl, by simp only [go_sem, hput, jZ, List.take_length, List.map_append, List.map_cons, List.append_assoc, List.cons_append, List.nil_append]⟩, trivial⟩
def b2l (l : List TAttr) : List ByteArray := l.map TAttr.fName
def eqV (x v : TValue) : Bool := decide (x.fKind = v.fKind) && (decide (x.fInt = v.fInt) && decide (x.fStr = v.fStr))
def a9h (a b : TFile) (n : ByteArray) : Bool := !(eqV (vK n a.fAttrs) (vK n b.fAttrs))
def chL (a b : TFile) (l : List ByteArray) : List ByteArray := l.filter (a9h a b)
def chg (a b : TFile) : List ByteArray := chL a b (b2l a.fAttrs ++ b2l b.fAttrs)
@[go_sem] def sS (b : Bool) : List D := [bv b]
def b8U (n : TNode) : Bool := decide (n.fOp = 5)
def isTwo (n : TNode) : Bool := decide (n.fOp = 6) || decide (n.fOp = 7)
def lN (q : List TNode) (i : Nat) (L : List Bool) : List Bool := match q[i]? with
 | none => L
 | some n => if n.fOp = 5 then L.set n.fLeft.toNat true else if isTwo n then (L.set n.fLeft.toNat (L.getD i false)).set n.fRight.toNat (L.getD i false) else L
def negJ (q : List TNode) : Nat → List Bool
 | 0 => List.replicate q.length false
 | j + 1 => lN q (q.length - 1 - j) (negJ q j)
theorem a6v (q : List TNode) (i : Nat) (L : List Bool) : (lN q i L).length = L.length := by
 unfold lN
 split
 ·rfl
 ·split
  ·simp
  ·split <;> simp
theorem a2k (q : List TNode) (j : Nat) : (negJ q j).length = q.length := by
 induction j with
 | zero => simp [negJ]
 | succ j ih => simp only [negJ, a6v, ih]
def a1a (q : List TNode) : List Bool := negJ q q.length
theorem a6w (q : List TNode) : (a1a q).length = q.length := a2k q q.length
theorem a3A (q : List TNode) (i : Nat) (h : i < q.length) : negJ q (q.length - i) = lN q i (negJ q (q.length - (i + 1))) := by
 have e : q.length - i = (q.length - (i + 1)) + 1 := by omega
 have e2 : q.length - 1 - (q.length - (i + 1)) = i := by omega
 rw [e, negJ, e2]
def jF (n : TNode) : Bool := inB n.fOp 8 9
def sel (q : List TNode) (b : Bool) (k : Nat) : List ByteArray := match q[k]?, (a1a q)[k]? with
 | some n, some x => if jF n && (x == b) then [n.fName] else []
 | _, _ => []
def lZ (q : List TNode) (b : Bool) (k : Nat) : List ByteArray := (List.range k).flatMap (sel q b)
def cB (q : List TNode) (b : Bool) : List ByteArray := lZ q b q.length
theorem xA (q : List TNode) (b : Bool) (k : Nat) : lZ q b (k + 1) = lZ q b k ++ sel q b k := by
 simp [lZ, List.range_succ, List.flatMap_append]
theorem b3X (q : List TNode) (b : Bool) (k : Nat) : (sel q b k).length ≤ 1 := by
 unfold sel
 split
 ·split <;> simp
 ·simp
theorem jG (q : List TNode) (b : Bool) (k : Nat) : (lZ q b k).length ≤ k := by
 induction k with
 | zero => simp [lZ]
 | succ k ih => rw [xA, List.length_append]; have := b3X q b k; omega
theorem b8t (L : List Bool) (i : Nat) (h : i < L.length) : L.getD i false = L[i] := by simp [List.getD_eq_getElem?_getD, h]
theorem a9e (L : List Bool) (l : Nat) : (L.map sS).set l [D.v (Value.bool false)] = (L.set l false).map sS := by rw [List.map_set]; rfl
theorem a9f (L : List Bool) (l : Nat) : (L.map sS).set l [D.v (Value.bool true)] = (L.set l true).map sS := by rw [List.map_set]; rfl
theorem a7W {L : List Bool} {i : Nat} {b : Bool} (h : i < L.length) (hb : L[i] = b) (l : Nat) (h' : i < (L.set l b).length) : (L.set l b)[i] = b := by
 rw [List.getElem_set]; split
 ·rfl
 ·exact hb
theorem a9g {L : List Bool} {i : Nat} {b : Bool} (h : i < L.length) (hb : L[i] = b) (l r : Nat) (h' : i < ((L.set l b).set r b).length) : ((L.set l b).set r b)[i] = b := by
 rw [List.getElem_set]; split
 ·rfl
 ·exact a7W h hb l _
theorem a6x {q : List TNode} {i : Nat} (h : i < q.length) (L : List Bool) {l : Nat} (h5 : q[i].fOp = 5) (hl : q[i].fLeft = (l : Int)) : lN q i L = L.set l true := by
 simp [lN, List.getElem?_eq_getElem h, h5, hl]
theorem a3B {q : List TNode} {i : Nat} (h : i < q.length) (L : List Bool) (hi : i < L.length) {l m : Nat} (h5 : ¬ q[i].fOp = 5) (h67 : q[i].fOp = 6 ∨ q[i].fOp = 7) (hl : q[i].fLeft = (l : Int)) (hm : q[i].fRight = (m : Int)) : lN q i L = (L.set l L[i]).set m L[i] := by
 have h2 : isTwo q[i] = true := by unfold isTwo; rcases h67 with h | h <;> simp [h]
 simp only [lN, List.getElem?_eq_getElem h, h5, if_false, h2, if_true, hl, hm, Int.toNat_natCast, b8t L i hi]
theorem a3C {q : List TNode} {i : Nat} (h : i < q.length) (L : List Bool) (h5 : ¬ q[i].fOp = 5) (h67 : ¬ (q[i].fOp = 6 ∨ q[i].fOp = 7)) : lN q i L = L := by
 have h2 : isTwo q[i] = false := by
  unfold isTwo
  have h6 : ¬ q[i].fOp = 6 := fun h => h67 (.inl h)
  have h7 : ¬ q[i].fOp = 7 := fun h => h67 (.inr h)
  simp [h6, h7]
 simp only [lN, List.getElem?_eq_getElem h, h5, if_false, h2, Bool.false_eq_true]
theorem a7X (q : List TNode) (hq : okQ q = true) (hw : wNodeS q ≤ 4300000) : FnC Tryz.prog 248 [.o (.d (.sl (q.map bH)))] (.o (.w 4 1 ((a1a q).map sS))) := by
 have hl9 := iI hq
 refine ent Tryz.func248 rfl Tryz.call248 rfl (fun C => ?_); simp only [go_sem, st0, Tryz.ntmps248]
 have q0 := @hq; refine qY (bJ q hw) ?_
 refine dB (α := Nat) (fun m => [(4, oi ((m : Int) - 1))]) (fun m => [(0, .row 4 1 ((negJ q (q.length - m)).map sS) true)]) (fun m => m ≤ q.length) (fun m => m) q.length (fun _ => ?_) ?_ ?_ (fun m hm => ?_)
 ·simp only [go_sem]
 ·simp only [go_sem]; simp [negJ, sS]
 ·simp
 ·simp only [go_sem]
  refine aD ?_
  refine cnd rfl (fun h => ?_) (fun h => ?_)
  ·simp only [decide_eq_true_eq] at h
   obtain ⟨i, rfl⟩ : ∃ i, m = i + 1 := ⟨m - 1, by omega⟩
   have hx : ((i + 1 : Nat) : Int) - 1 = (i : Int) := by omega
   have hi : i < q.length := by omega
   have hst := a3A q i hi
   have hLl := a2k q (q.length - (i + 1))
   generalize negJ q (q.length - (i + 1)) = L at *
   have hiL : i < L.length := by omega
   have hok := uH hq (List.getElem?_eq_getElem hi)
   have hop := qB hok
   by_cases h5 : q[i].fOp = 5
   ·obtain ⟨l, hl, hli⟩ := fM hok (.inl h5)
    have hlL : l < L.length := by omega
    rw [a6x hi L h5 hl] at hst
    cases hb : L[i]
    all_goals
     have q0 := @hx; have q1 := @hi; have q2 := @hiL; have q3 := @hb; have q4 := @h5; have q5 := @hl; have q6 := @hlL; have q7 := @decide_true; have q8 := @decide_false; have q9 := @Int.toNat_natCast; refine pY ?_
     refine aQ i ?_ ?_ ?_
     ·simp only [go_sem, hst]; simp [sS]
     ·omega
     ·omega
   by_cases h67 : q[i].fOp = 6 ∨ q[i].fOp = 7
   ·obtain ⟨l, hl, hli⟩ := fM hok (.inr h67)
    obtain ⟨r, hr, hri⟩ := jE hok h67
    have hlL : l < L.length := by omega
    have hrL : r < L.length := by omega
    rw [a3B hi L hiL h5 h67 hl hr] at hst
    by_cases h6 : q[i].fOp = 6
    ·cases hb : L[i]
     all_goals
      rw [hb] at hst
      have hrL1 : r < (L.set l false).length := by simpa using hrL
      have hrL2 : r < (L.set l true).length := by simpa using hrL
      have qH := aI @hx (aI @hi (aI @hiL (aI @hb (aI @h5 (aI @h6 (aI @hl (aI @hr (aI @hlL (aI @hrL (aI @a9e (aI @a9f (aI @hrL1 (aI @hrL2 (aI @decide_true (aI @decide_false @Int.toNat_natCast))))))))))))))); repeat' (with_reducible first | refine nY ?_ | (refine mX ?_; try simp only [go_sem, qH]) | refine kD ?_ | refine rT [15, 17] [] ?_ | refine dP (aX ?_) (uX ?_) | refine fA (aX ?_) ?_ | exact uB | refine rD ?_ | refine aO ?_ | fail)
      refine aQ i ?_ ?_ ?_
      ·simp only [go_sem, hst]; simp [sS]
      ·omega
      ·omega
    ·have h7 : q[i].fOp = 7 := by omega
     cases hb : L[i]
     all_goals
      rw [hb] at hst
      have hrL1 : r < (L.set l false).length := by simpa using hrL
      have hrL2 : r < (L.set l true).length := by simpa using hrL
      have qH := aI @hx (aI @hi (aI @hiL (aI @hb (aI @h5 (aI @h6 (aI @h7 (aI @hl (aI @hr (aI @hlL (aI @hrL (aI @a9e (aI @a9f (aI @hrL1 (aI @hrL2 (aI @decide_true (aI @decide_false @Int.toNat_natCast)))))))))))))))); repeat' (with_reducible first | refine nY ?_ | (refine mX ?_; try simp only [go_sem, qH]) | refine kD ?_ | refine rT [15, 17] [] ?_ | refine dP (aX ?_) (uX ?_) | refine fA (aX ?_) ?_ | exact uB | refine rD ?_ | refine aO ?_ | fail)
      refine aQ i ?_ ?_ ?_
      ·simp only [go_sem, hst]; simp [sS]
      ·omega
      ·omega
   ·have h6 : ¬ q[i].fOp = 6 := fun h => h67 (.inl h)
    have h7 : ¬ q[i].fOp = 7 := fun h => h67 (.inr h)
    rw [a3C hi L h5 h67] at hst
    cases hb : L[i]
    all_goals
     have q0 := @hx; have q1 := @hi; have q2 := @hiL; have q3 := @hb; have q4 := @h5; have q5 := @h6; have q6 := @h7; have q7 := @decide_true; have q8 := @decide_false; have q9 := @Int.toNat_natCast; refine pY ?_
     refine aQ i ?_ ?_ ?_
     ·simp only [go_sem, hst]; simp [sS]
     ·omega
     ·omega
  ·simp only [decide_eq_false_iff_not] at h
   have e : m = 0 := by omega
   subst e
   refine aD ?_
   exact aA ⟨⟨_, rfl, by simp only [go_sem, a1a, Nat.sub_zero]⟩, trivial⟩
theorem a7Y (q : List TNode) (hq : okQ q = true) (hw : wNodeS q ≤ 4300000) : FnC Tryz.prog 257 [.o (.d (.sl (q.map bH)))] (.o (.w 4 1 ((a1a q).map sS))) := by
 have hl9 := iI hq
 refine ent Tryz.func257 rfl Tryz.call257 rfl (fun C => ?_); simp only [go_sem, st0, Tryz.ntmps257]
 have q0 := @hq; refine qY (dO q hw) ?_
 refine dB (α := Nat) (fun m => [(4, oi ((m : Int) - 1))]) (fun m => [(0, .row 4 1 ((negJ q (q.length - m)).map sS) true)]) (fun m => m ≤ q.length) (fun m => m) q.length (fun _ => ?_) ?_ ?_ (fun m hm => ?_)
 ·simp only [go_sem]
 ·simp only [go_sem]; simp [negJ, sS]
 ·simp
 ·simp only [go_sem]
  refine aD ?_
  refine cnd rfl (fun h => ?_) (fun h => ?_)
  ·simp only [decide_eq_true_eq] at h
   obtain ⟨i, rfl⟩ : ∃ i, m = i + 1 := ⟨m - 1, by omega⟩
   have hx : ((i + 1 : Nat) : Int) - 1 = (i : Int) := by omega
   have hi : i < q.length := by omega
   have hst := a3A q i hi
   have hLl := a2k q (q.length - (i + 1))
   generalize negJ q (q.length - (i + 1)) = L at *
   have hiL : i < L.length := by omega
   have hok := uH hq (List.getElem?_eq_getElem hi)
   have hop := qB hok
   by_cases h5 : q[i].fOp = 5
   ·obtain ⟨l, hl, hli⟩ := fM hok (.inl h5)
    have hlL : l < L.length := by omega
    rw [a6x hi L h5 hl] at hst
    cases hb : L[i]
    all_goals
     have q0 := @hx; have q1 := @hi; have q2 := @hiL; have q3 := @hb; have q4 := @h5; have q5 := @hl; have q6 := @hlL; have q7 := @decide_true; have q8 := @decide_false; have q9 := @Int.toNat_natCast; refine pY ?_
     refine aQ i ?_ ?_ ?_
     ·simp only [go_sem, hst]; simp [sS]
     ·omega
     ·omega
   by_cases h67 : q[i].fOp = 6 ∨ q[i].fOp = 7
   ·obtain ⟨l, hl, hli⟩ := fM hok (.inr h67)
    obtain ⟨r, hr, hri⟩ := jE hok h67
    have hlL : l < L.length := by omega
    have hrL : r < L.length := by omega
    rw [a3B hi L hiL h5 h67 hl hr] at hst
    by_cases h6 : q[i].fOp = 6
    ·cases hb : L[i]
     all_goals
      rw [hb] at hst
      have hs1 := a7W hiL hb l
      have hs2 := a9g hiL hb l r
      have hrL1 : r < (L.set l false).length := by simpa using hrL
      have hrL2 : r < (L.set l true).length := by simpa using hrL
      have qH := aI @hx (aI @hi (aI @hiL (aI @hb (aI @h5 (aI @h6 (aI @hl (aI @hr (aI @hlL (aI @hrL (aI @a9e (aI @a9f (aI @hrL1 (aI @hrL2 (aI @hs1 (aI @hs2 (aI @decide_true (aI @decide_false @Int.toNat_natCast))))))))))))))))); repeat' (with_reducible first | refine nY ?_ | (refine mX ?_; try simp only [go_sem, qH]) | refine kD ?_ | refine rT [8] [] ?_ | refine dP (aX ?_) (uX ?_) | refine fA (aX ?_) ?_ | exact uB | refine rD ?_ | refine aO ?_ | fail)
      refine aQ i ?_ ?_ ?_
      ·simp only [go_sem, hst]; simp [sS]
      ·omega
      ·omega
    ·have h7 : q[i].fOp = 7 := by omega
     cases hb : L[i]
     all_goals
      rw [hb] at hst
      have hs1 := a7W hiL hb l
      have hs2 := a9g hiL hb l r
      have hrL1 : r < (L.set l false).length := by simpa using hrL
      have hrL2 : r < (L.set l true).length := by simpa using hrL
      have qH := aI @hx (aI @hi (aI @hiL (aI @hb (aI @h5 (aI @h6 (aI @h7 (aI @hl (aI @hr (aI @hlL (aI @hrL (aI @a9e (aI @a9f (aI @hrL1 (aI @hrL2 (aI @hs1 (aI @hs2 (aI @decide_true (aI @decide_false @Int.toNat_natCast)))))))))))))))))); repeat' (with_reducible first | refine nY ?_ | (refine mX ?_; try simp only [go_sem, qH]) | refine kD ?_ | refine rT [8] [] ?_ | refine dP (aX ?_) (uX ?_) | refine fA (aX ?_) ?_ | exact uB | refine rD ?_ | refine aO ?_ | fail)
      refine aQ i ?_ ?_ ?_
      ·simp only [go_sem, hst]; simp [sS]
      ·omega
      ·omega
   ·have h6 : ¬ q[i].fOp = 6 := fun h => h67 (.inl h)
    have h7 : ¬ q[i].fOp = 7 := fun h => h67 (.inr h)
    rw [a3C hi L h5 h67] at hst
    cases hb : L[i]
    all_goals
     have q0 := @hx; have q1 := @hi; have q2 := @hiL; have q3 := @hb; have q4 := @h5; have q5 := @h6; have q6 := @h7; have q7 := @decide_true; have q8 := @decide_false; have q9 := @Int.toNat_natCast; refine pY ?_
     refine aQ i ?_ ?_ ?_
     ·simp only [go_sem, hst]; simp [sS]
     ·omega
     ·omega
  ·simp only [decide_eq_false_iff_not] at h
   have e : m = 0 := by omega
   subst e
   refine aD ?_
   exact aA ⟨⟨_, rfl, by simp only [go_sem, a1a, Nat.sub_zero]⟩, trivial⟩
theorem b2k (q : List TNode) (b : Bool) (k : Nat) (h : k < q.length) (h2 : k < (a1a q).length) : sel q b k = if jF q[k] && ((a1a q)[k] == b) then [q[k].fName] else [] := by
 unfold sel; rw [List.getElem?_eq_getElem h, List.getElem?_eq_getElem h2]
theorem a6s (n : TNode) : FnC Tryz.prog 249 [a8Q n] (ob (jF n)) := by
 refine ent Tryz.func249 rfl Tryz.call249 rfl (fun C => ?_); simp only [go_sem, st0, Tryz.ntmps249]
 by_cases c8 : n.fOp = 8
 ·have hd : jF n = true := by simp [jF, inB, c8]
  have q0 := @c8; have q1 := @decide_true; refine jM ?_
  exact aA ⟨⟨_, rfl, by simp only [go_sem, hd]⟩, trivial⟩
 by_cases c9 : n.fOp = 9
 ·have hd : jF n = true := by simp [jF, inB, c9]
  have q0 := @c8; have q1 := @c9; have q2 := @decide_true; have q3 := @decide_false; refine jQ ?_
  exact aA ⟨⟨_, rfl, by simp only [go_sem, hd]⟩, trivial⟩
 ·have hd : jF n = false := by
   rw [← Bool.not_eq_true]
   simp only [jF, inB, Bool.and_eq_true, decide_eq_true_eq]; omega
  have q0 := @c8; have q1 := @c9; have q2 := @decide_true; have q3 := @decide_false; refine jQ ?_
  exact aA ⟨⟨_, rfl, by simp only [go_sem, hd]⟩, trivial⟩
theorem a0M (q : List TNode) (b : Bool) (hq : okQ q = true) (hw : wNodeS q ≤ 4300000) : FnC Tryz.prog 228 [.o (.d (.sl (q.map bH))), ob b] (.o (.w 9 1 ((iB (cB q b)).map dL))) := by
 have hl9 := iI hq
 have hnl := a6w q
 refine ent Tryz.func228 rfl Tryz.call228 rfl (fun C => ?_); simp only [go_sem, st0, Tryz.ntmps228]
 refine kS (a7X q hq hw) ?_
 refine dB (α := Nat) (fun k => [(5, .o (.s 0)), (8, .o .u), (12, oi k)]) (fun k => [(0, .row 9 1 ((lZ q b k).map dL) true)]) (fun k => k ≤ q.length) (fun k => q.length - k) 0 (fun _ => ?_) ?_ ?_ (fun k hk => ?_)
 ·simp only [go_sem]
 ·simp only [go_sem]; simp [lZ]
 ·simp
 ·simp only [go_sem]
  refine aD ?_
  refine cnd rfl (fun h1 => ?_) (fun h1 => ?_)
  ·simp only [decide_eq_true_eq, Int.ofNat_lt] at h1
   have h2 : k < (a1a q).length := h1
   have h1 : k < q.length := by omega
   have hdl := jG q b k
   have hs := b2k q b k h1 h2
   have ht := xA q b k
   rw [hs] at ht
   have hl1 : (lZ q b k).length + 1 ≤ 140737488355328 := by omega
   have hl2 : ((lZ q b k).length + 1) * 16 ≤ 140737488355328 := by omega
   cases hd : jF q[k]
   ·simp only [hd, Bool.false_and, Bool.false_eq_true, if_false, List.append_nil] at ht
    have q0 := @h1; have q1 := @h2; have q2 := @hd; refine pX (a6s q[k]) ?_
    refine aQ (k + 1) ?_ ?_ ?_
    ·simp only [go_sem, ht]; simp
    ·omega
    ·omega
   ·cases hx : (a1a q)[k] <;> cases b
    all_goals
     simp only [hd, hx, Bool.true_and, Bool.true_beq, Bool.false_beq, Bool.not_true, Bool.not_false, Bool.false_eq_true, if_false, if_true, List.append_nil] at ht
     have q0 := @h1; have q1 := @h2; have q2 := @hd; have q3 := @hx; have q4 := @Bool.true_beq; have q5 := @Bool.false_beq; refine a0Y (a6s q[k]) ?_
     refine aQ (k + 1) ?_ ?_ ?_
     ·simp only [go_sem, ht, List.map_append]; simp
     ·omega
     ·omega
  ·simp only [decide_eq_false_iff_not] at h1
   have e : k = q.length := by omega
   subst e
   have hdl := jG q b q.length
   refine kS (a2P (lZ q b q.length) (by omega)) ?_
   exact aA ⟨⟨_, rfl, by simp only [go_sem, cB]⟩, trivial⟩
theorem a0N (q : List TNode) (b : Bool) (hq : okQ q = true) (hw : wNodeS q ≤ 4300000) : FnC Tryz.prog 237 [.o (.d (.sl (q.map bH))), ob b] (.o (.w 9 1 ((putL (cB q b)).map dL))) := by
 have hl9 := iI hq
 have hnl := a6w q
 refine ent Tryz.func237 rfl Tryz.call237 rfl (fun C => ?_); simp only [go_sem, st0, Tryz.ntmps237]
 refine kS (a7Y q hq hw) ?_
 refine a9i 5 0 rfl rfl ?_
 simp only [go_sem]
 refine dB (α := Nat) (fun k => [(5, .o (.d (.sl ((putL (lZ q b k)).map dL)))), (7, oi k), (8, .o .u)]) (fun _ => []) (fun k => k ≤ q.length) (fun k => q.length - k) 0 (fun _ => ?_) ?_ ?_ (fun k hk => ?_)
 ·simp only [go_sem]
 ·simp only [go_sem]; simp [lZ, putL]
 ·simp
 ·simp only [go_sem]
  have hdl := jG q b k
  have hlen : (putL (lZ q b k)).length ≤ 4300000 := by have h1 := uJ (lZ q b k); omega
  refine aD ?_
  refine cnd rfl (fun h1 => ?_) (fun h1 => ?_)
  ·simp only [decide_eq_true_eq, Int.ofNat_lt] at h1
   have h2 : k < (a1a q).length := h1
   have h1 : k < q.length := by omega
   have hs := b2k q b k h1 h2
   have ht := xA q b k
   rw [hs] at ht
   cases hd : jF q[k]
   ·simp only [hd, Bool.false_and, Bool.false_eq_true, if_false, List.append_nil] at ht
    have q0 := @h1; have q1 := @h2; have q2 := @hd; refine pX (show FnC Tryz.prog _ _ (ob (jF q[k])) from bS q[k].fOp 8 9) ?_
    refine aQ (k + 1) ?_ ?_ ?_
    ·simp only [go_sem, ht]; simp
    ·omega
    ·omega
   ·cases hx : (a1a q)[k] <;> cases b
    all_goals
     simp only [hd, hx, Bool.true_and, Bool.true_beq, Bool.false_beq, Bool.not_true, Bool.not_false, Bool.false_eq_true, if_false, if_true, List.append_nil] at ht
     have q0 := @h1; have q1 := @h2; have q2 := @hd; have q3 := @hx; have q4 := @Bool.true_beq; have q5 := @Bool.false_beq; refine a1X (show FnC Tryz.prog _ _ (ob (jF q[k])) from bS q[k].fOp 8 9) (b0A (putL (lZ q _ k)) q[k].fName hlen) ?_
     refine aQ (k + 1) ?_ ?_ ?_
     ·simp only [go_sem, ht, b2o]; simp
     ·omega
     ·omega
  ·simp only [decide_eq_false_iff_not] at h1
   have e : k = q.length := by omega
   subst e
   refine aD ?_
   exact aA ⟨⟨_, rfl, by simp only [go_sem, cB]⟩, trivial⟩
theorem a7U (q : List TNode) (hq : okQ q = true) (hw : wNodeS q ≤ 4300000) : FnC Tryz.prog 189 [.o (.d (.sl (q.map bH)))] (.o (.w 9 1 ((iB (cB q false)).map dL))) := by
 refine ent Tryz.func189 rfl Tryz.call189 rfl (fun C => ?_); simp only [go_sem, st0, Tryz.ntmps189]
 refine kS (a0M q false hq hw) ?_
 exact aA ⟨⟨_, rfl, by simp only [go_sem]⟩, trivial⟩
theorem a6t (q : List TNode) (hq : okQ q = true) (hw : wNodeS q ≤ 4300000) : FnC Tryz.prog 190 [.o (.d (.sl (q.map bH)))] (.o (.w 9 1 ((iB (cB q true)).map dL))) := by
 refine ent Tryz.func190 rfl Tryz.call190 rfl (fun C => ?_); simp only [go_sem, st0, Tryz.ntmps190]
 refine kS (a0M q true hq hw) ?_
 exact aA ⟨⟨_, rfl, by simp only [go_sem]⟩, trivial⟩
theorem a7V (q : List TNode) (hq : okQ q = true) (hw : wNodeS q ≤ 4300000) : FnC Tryz.prog 202 [.o (.d (.sl (q.map bH)))] (.o (.w 9 1 ((putL (cB q false)).map dL))) := by
 refine ent Tryz.func202 rfl Tryz.call202 rfl (fun C => ?_); simp only [go_sem, st0, Tryz.ntmps202]
 refine kS (a0N q false hq hw) ?_
 exact aA ⟨⟨_, rfl, by simp only [go_sem]⟩, trivial⟩
theorem a6u (q : List TNode) (hq : okQ q = true) (hw : wNodeS q ≤ 4300000) : FnC Tryz.prog 204 [.o (.d (.sl (q.map bH)))] (.o (.w 9 1 ((putL (cB q true)).map dL))) := by
 refine ent Tryz.func204 rfl Tryz.call204 rfl (fun C => ?_); simp only [go_sem, st0, Tryz.ntmps204]
 refine kS (a0N q true hq hw) ?_
 exact aA ⟨⟨_, rfl, by simp only [go_sem]⟩, trivial⟩
end Go.Proofs.YtgpoopjfkplilaaGreatDoor
end
section
set_option maxRecDepth 100000
set_option maxHeartbeats 4000000
namespace Go.Proofs.YtgpoopjfkplilaaGreatDoor
def lv (L : List Nat) (i : Nat) : Nat := L.getD i 0
structure Clo (n : Nat) (E : Nat → Nat → Nat → Prop) (F : List Nat) : Prop where
 len : F.length = n
 le : ∀ i k w, E i k w → lv F k + w ≤ lv F i
structure Edges (n : Nat) (E : Nat → Nat → Nat → Prop) : Prop where
 ok : ∀ i k w, E i k w → i < n ∧ k < n ∧ w ≤ 1
structure Least (n : Nat) (E : Nat → Nat → Nat → Prop) (L : List Nat) : Prop where
 clo : Clo n E L
 le : ∀ F, Clo n E F → ∀ i, lv L i ≤ lv F i
theorem b5A {L M : List Nat} (h : L.length = M.length) (hi : ∀ i, lv L i = lv M i) : L = M := by
 apply List.ext_getElem h
 intro i h1 h2
 have := hi i
 simpa [lv, List.getD_eq_getElem?_getD, h1, h2] using this
theorem a5d {n : Nat} {E : Nat → Nat → Nat → Prop} {L M : List Nat} (h : Least n E L) (k : Least n E M) : L = M :=
 b5A (by rw [h.clo.len, k.clo.len]) fun i => Nat.le_antisymm (h.le M k.clo i) (k.le L h.clo i)
open Classical in
noncomputable def a7Z (n : Nat) (E : Nat → Nat → Nat → Prop) : List Nat := if h : ∃ L, Least n E L then h.choose else []
theorem a9l {n : Nat} {E : Nat → Nat → Nat → Prop} {L : List Nat} (h : Least n E L) : a7Z n E = L := by
 have he : ∃ L, Least n E L := ⟨L, h⟩
 unfold a7Z
 rw [dif_pos he]
 exact a5d he.choose_spec h
theorem a9m {n : Nat} {E : Nat → Nat → Nat → Prop} (h : ¬ ∃ F, Clo n E F) : a7Z n E = [] := by
 unfold a7Z
 rw [dif_neg (fun ⟨L, hL⟩ => h ⟨L, hL.clo⟩)]
open Classical in
noncomputable def a2n (n : Nat) (E : Nat → Nat → Nat → Prop) : Bool := if ∃ F, Clo n E F then true else false
theorem a0p {n : Nat} {E : Nat → Nat → Nat → Prop} {L : List Nat} (h : Clo n E L) : a2n n E = true := by
 unfold a2n; rw [if_pos ⟨L, h⟩]
theorem a6B {n : Nat} {E : Nat → Nat → Nat → Prop} (h : ¬ ∃ F, Clo n E F) : a2n n E = false := by
 unfold a2n; rw [if_neg h]
theorem a3E {n : Nat} {E : Nat → Nat → Nat → Prop} (hE : Edges n E) {F : List Nat} (h : Clo n E F) : ∃ G, Clo n E G ∧ ∀ i, i < n → lv G i < n := by
 let r (i : Nat) : Nat := ((List.range n).filter fun j => decide (lv F j < lv F i)).length
 have hr : ∀ i, i < n → lv ((List.range n).map r) i = r i := fun i hi => by simp [lv, List.getD_eq_getElem?_getD, hi]
 have sub : ∀ (p q : Nat → Bool) (l : List Nat), (∀ j, p j = true → q j = true) → (l.filter p).length ≤ (l.filter q).length := by
  intro p q l hpq
  induction l with
  | nil => simp
  | cons x l ih =>
   simp only [List.filter_cons]
   cases hp : p x
   ·cases hq : q x <;> simp <;> omega
   ·rw [hpq x hp]; simpa using ih
 have sub1 : ∀ (p q : Nat → Bool) (l : List Nat) (x : Nat), x ∈ l → (∀ j, p j = true → q j = true) → p x = false → q x = true → (l.filter p).length < (l.filter q).length := by
  intro p q l x hx hpq hp hq
  induction l with
  | nil => simp at hx
  | cons y l ih =>
   simp only [List.filter_cons]
   rcases List.mem_cons.1 hx with rfl | hx
   ·rw [hp, hq]
    have := sub p q l hpq
    simp
    omega
   ·have := ih hx
    cases hp' : p y
    ·cases hq' : q y <;> simp <;> omega
    ·rw [hpq y hp']; simpa using this
 refine ⟨(List.range n).map r, ⟨by simp, fun i k w he => ?_⟩, fun i hi => ?_⟩
 ·obtain ⟨hi, hk, hw⟩ := hE.ok i k w he
  rw [hr i hi, hr k hk]
  have hle := h.le i k w he
  rcases Nat.lt_or_ge w 1 with hw0 | hw1
  ·have hw' : w = 0 := by omega
   subst hw'
   exact sub _ _ _ fun j hj => by simp only [decide_eq_true_eq] at hj ⊢; omega
  ·have hw' : w = 1 := by omega
   subst hw'
   exact sub1 _ _ _ k (List.mem_range.2 hk) (fun j hj => by simp only [decide_eq_true_eq] at hj ⊢; omega) (by simp) (by simp only [decide_eq_true_eq]; omega)
 ·rw [hr i hi]
  have := sub1 (fun j => decide (lv F j < lv F i)) (fun _ => true) (List.range n) i (List.mem_range.2 hi) (fun _ _ => rfl) (by simp) rfl
  rw [List.filter_eq_self.2 (fun _ _ => rfl), List.length_range] at this
  exact this
theorem a2o (L : List Nat) (i v j : Nat) (h : i < L.length) : lv (L.set i v) j = if j = i then v else lv L j := by
 unfold lv
 simp only [List.getD_eq_getElem?_getD, List.getElem?_set]
 by_cases e : i = j
 ·subst e; simp [h]
 ·rw [if_neg e, if_neg (fun e' => e e'.symm)]
def rM : List Nat → Nat
 | [] => 0
 | x :: l => x + rM l
theorem a6C (L : List Nat) (i v : Nat) (h : i < L.length) : rM (L.set i v) + lv L i = rM L + v := by
 induction L generalizing i with
 | nil => simp at h
 | cons x l ih =>
  cases i with
  | zero => simp [rM, lv]; omega
  | succ i =>
   have := ih i (by simpa using h)
   simp only [List.set_cons_succ, rM, lv, List.getD_cons_succ] at this ⊢
   omega
theorem a9n (L : List Nat) (c : Nat) (h : ∀ i, i < L.length → lv L i ≤ c) : rM L ≤ L.length * c := by
 induction L with
 | nil => simp [rM]
 | cons x l ih =>
  have h0 : x ≤ c := by simpa [lv] using h 0 (by simp)
  have h1 := ih fun i hi => by simpa [lv] using h (i + 1) (by simpa using hi)
  simp only [rM, List.length_cons, Nat.succ_mul]
  omega
theorem a5e (n i : Nat) : lv (List.replicate n 0) i = 0 := by
 simp only [lv, List.getD_eq_getElem?_getD, List.getElem?_replicate]
 split <;> rfl
def up1 (i k w : Nat) (L : List Nat) : List Nat := if lv L k + w > lv L i then L.set i (lv L k + w) else L
theorem a1o (i k w : Nat) (L : List Nat) : (up1 i k w L).length = L.length := by unfold up1; split <;> simp
theorem up1_grow (i k w : Nat) (L : List Nat) (h : i < L.length) : up1 i k w L = L ∨ rM L < rM (up1 i k w L) := by
 unfold up1
 split
 ·rename_i hc
  have := a6C L i (lv L k + w) h
  right; omega
 ·exact .inl rfl
theorem b2s {i k w : Nat} {L : List Nat} (hl : i < L.length) (h : up1 i k w L = L) : lv L k + w ≤ lv L i := by
 apply Classical.byContradiction
 intro hn
 have hc : lv L k + w > lv L i := by omega
 unfold up1 at h
 rw [if_pos hc] at h
 have := a2o L i (lv L k + w) i hl
 rw [h, if_pos rfl] at this
 omega
theorem b0E {n : Nat} {E : Nat → Nat → Nat → Prop} {F : List Nat} (hF : Clo n E F) {i k w : Nat} (he : E i k w) {L : List Nat} (hl : i < L.length) (h : ∀ j, lv L j ≤ lv F j) : ∀ j, lv (up1 i k w L) j ≤ lv F j := by
 intro j
 unfold up1
 split
 ·rw [a2o L i _ j hl]
  split
  ·rename_i e; subst e
   have := hF.le j k w he
   have := h k
   omega
  ·exact h j
 ·exact h j
theorem b0F {i k w : Nat} {L : List Nat} {B : Nat} (hl : i < L.length) (hw : w ≤ 1) (h : ∀ j, lv L j ≤ B) : ∀ j, lv (up1 i k w L) j ≤ B + 1 := by
 intro j
 unfold up1
 split
 ·rw [a2o L i _ j hl]
  split
  ·have := h k; omega
  ·have := h j; omega
 ·have := h j; omega
def ups : List (Nat × Nat × Nat) → List Nat → List Nat
 | [], L => L
 | (i, k, w) :: l, L => ups l (up1 i k w L)
theorem a1p (l m : List (Nat × Nat × Nat)) (L : List Nat) : ups (l ++ m) L = ups m (ups l L) := by
 induction l generalizing L with
 | nil => rfl
 | cons x l ih => obtain ⟨i, k, w⟩ := x; simp only [List.cons_append, ups, ih]
theorem vM (l : List (Nat × Nat × Nat)) (L : List Nat) : (ups l L).length = L.length := by
 induction l generalizing L with
 | nil => rfl
 | cons x l ih => obtain ⟨i, k, w⟩ := x; simp only [ups, ih, a1o]
theorem ups_grow : ∀ (l : List (Nat × Nat × Nat)) (L : List Nat), (∀ x ∈ l, x.1 < L.length) → (ups l L = L ∧ ∀ x ∈ l, up1 x.1 x.2.1 x.2.2 L = L) ∨ rM L < rM (ups l L)
 | [], L, _ => .inl ⟨rfl, fun x h => by simp at h⟩
 | (i, k, w) :: l, L, h => by
  have hi := h (i, k, w) (by simp)
  have hl := ups_grow l (up1 i k w L) fun x hx => by rw [a1o]; exact h x (by simp [hx])
  simp only [ups]
  rcases up1_grow i k w L hi with e | g
  ·rw [e] at hl ⊢
   rcases hl with ⟨h1, h2⟩ | h1
   ·refine .inl ⟨h1, fun x hx => ?_⟩
    rcases List.mem_cons.1 hx with rfl | hx
    ·exact e
    ·exact h2 x hx
   ·exact .inr h1
  ·rcases hl with ⟨h1, _⟩ | h1
   ·rw [h1]; exact .inr g
   ·exact .inr (by omega)
theorem a3F {n : Nat} {E : Nat → Nat → Nat → Prop} {F : List Nat} (hE : Edges n E) (hF : Clo n E F) : ∀ (l : List (Nat × Nat × Nat)) (L : List Nat), L.length = n → (∀ x ∈ l, E x.1 x.2.1 x.2.2) → (∀ j, lv L j ≤ lv F j) → ∀ j, lv (ups l L) j ≤ lv F j
 | [], L, _, _, h => h
 | (i, k, w) :: l, L, hl, he, h => by
  have e := he (i, k, w) (by simp)
  exact a3F hE hF l _ (by rw [a1o]; exact hl) (fun x hx => he x (by simp [hx])) (b0E hF e (by rw [hl]; exact (hE.ok _ _ _ e).1) h)
theorem mU : ∀ (l : List (Nat × Nat × Nat)) (L : List Nat) (B : Nat), (∀ x ∈ l, x.1 < L.length ∧ x.2.2 ≤ 1) → (∀ j, lv L j ≤ B) → ∀ j, lv (ups l L) j ≤ B + l.length
 | [], L, B, _, h => h
 | (i, k, w) :: l, L, B, hx, h => by
  have e := hx (i, k, w) (by simp)
  have := mU l (up1 i k w L) (B + 1) (fun x hx' => by rw [a1o]; exact hx x (by simp [hx'])) (b0F e.1 e.2 h)
  intro j
  have := this j
  simp only [ups, List.length_cons]
  omega
def upsN (l : List (Nat × Nat × Nat)) : Nat → List Nat → List Nat
 | 0, L => L
 | r + 1, L => ups l (upsN l r L)
theorem a2p (l : List (Nat × Nat × Nat)) (r : Nat) (L : List Nat) : (upsN l r L).length = L.length := by
 induction r with
 | zero => rfl
 | succ r ih => simp only [upsN, vM, ih]
theorem a2q (l : List (Nat × Nat × Nat)) (L : List Nat) (hx : ∀ x ∈ l, x.1 < L.length ∧ x.2.2 ≤ 1) (h : ∀ j, lv L j = 0) : ∀ r j, lv (upsN l r L) j ≤ r * l.length
 | 0, j => by simp [upsN, h j]
 | r + 1, j => by
  have := mU l (upsN l r L) (r * l.length) (fun x hx' => by rw [a2p]; exact hx x hx') (a2q l L hx h r) j
  simp only [upsN, Nat.succ_mul]
  omega
theorem b0G {n : Nat} {E : Nat → Nat → Nat → Prop} (hE : Edges n E) (l : List (Nat × Nat × Nat)) (hl : ∀ x, x ∈ l ↔ E x.1 x.2.1 x.2.2) (R : Nat) (hR : n * n < R) :
    let L := upsN l R (List.replicate n 0)
    if ups l L = L then Least n E L else ¬ ∃ F, Clo n E F := by
 intro L
 have hlen : ∀ r, (upsN l r (List.replicate n 0)).length = n := fun r => by rw [a2p]; simp
 have hbel : ∀ F, Clo n E F → ∀ r j, lv (upsN l r (List.replicate n 0)) j ≤ lv F j := fun F hF r => by
  induction r with
  | zero => intro j; simp only [upsN, a5e]; omega
  | succ r ih => exact a3F hE hF l _ (hlen r) (fun x hx => (hl x).1 hx) ih
 have hix : ∀ r, ∀ x ∈ l, x.1 < (upsN l r (List.replicate n 0)).length := fun r x hx => by rw [hlen]; exact (hE.ok _ _ _ ((hl x).1 hx)).1
 have hgrow : ∀ r, ups l (upsN l r (List.replicate n 0)) = upsN l r (List.replicate n 0) ∨ r ≤ rM (upsN l r (List.replicate n 0)) := fun r => by
  induction r with
  | zero => exact .inr (by omega)
  | succ r ih =>
   rcases ih with e | h
   ·left; simp only [upsN]; rw [e, e]
   ·rcases ups_grow l _ (hix r) with ⟨e, _⟩ | g
    ·left; simp only [upsN]; rw [e, e]
    ·right; simp only [upsN]; omega
 by_cases hs : ups l L = L
 ·rw [if_pos hs]
  refine ⟨⟨hlen R, fun i k w he => ?_⟩, fun F hF => hbel F hF R⟩
  rcases ups_grow l L (hix R) with ⟨_, h⟩ | g
  ·exact b2s (by rw [hlen]; exact (hE.ok _ _ _ he).1) (h (i, k, w) ((hl (i, k, w)).2 he))
  ·rw [hs] at g; omega
 ·rw [if_neg hs]
  rintro ⟨F, hF⟩
  obtain ⟨G, hG, hsm⟩ := a3E hE hF
  rcases hgrow R with e | h
  ·exact hs e
  ·have h1 := a9n L n fun i hi => by
    have h2 := hbel G hG R i
    have h3 := hsm i (by rw [← hlen R]; exact hi)
    show lv (upsN l R (List.replicate n 0)) i ≤ n
    omega
   rw [hlen R] at h1
   show False
   have : rM L = rM (upsN l R (List.replicate n 0)) := rfl
   omega
end Go.Proofs.YtgpoopjfkplilaaGreatDoor
end
section
set_option maxRecDepth 100000
set_option maxHeartbeats 4000000
namespace Go.Proofs.YtgpoopjfkplilaaGreatDoor
def placeD (d : List TDir) (nm : ByteArray) : Int := oC (fun x => decide (x.fName = nm)) d 0
theorem placeD_cases (d : List TDir) (nm : ByteArray) : placeD d nm = -1 ∨ ∃ k : Nat, placeD d nm = (k : Int) ∧ k < d.length := by
 unfold placeD
 rcases idxP_fst (fun x => decide (x.fName = nm)) d 0 with ⟨_, h, _⟩ | ⟨h, hl⟩
 ·exact .inl h
 ·exact .inr ⟨_, by rw [h]; simp, hl⟩
def dH (d : List TDir) (i w : Nat) (names : List ByteArray) : List (Nat × Nat × Nat) := names.flatMap fun nm => if 0 ≤ placeD d nm then [(i, (placeD d nm).toNat, w)] else []
theorem wZ (d : List TDir) (i w : Nat) (names : List ByteArray) (x : Nat × Nat × Nat) : x ∈ dH d i w names ↔ ∃ nm ∈ names, ∃ k : Nat, placeD d nm = (k : Int) ∧ x = (i, k, w) := by
 unfold dH
 simp only [List.mem_flatMap]
 constructor
 ·rintro ⟨nm, h1, h2⟩
  split at h2
  ·rename_i hp
   refine ⟨nm, h1, (placeD d nm).toNat, by omega, by simpa using h2⟩
  ·simp at h2
 ·rintro ⟨nm, h1, k, h2, rfl⟩
  refine ⟨nm, h1, ?_⟩
  rw [if_pos (by omega), h2]; simp
def pF (d : List TDir) (i : Nat) : List (Nat × Nat × Nat) := match d[i]? with
 | none => []
 | some x => dH d i 0 (putL (cB x.fQuery false)) ++ dH d i 1 (putL (cB x.fQuery true))
def gQ (d : List TDir) : List (Nat × Nat × Nat) := (List.range d.length).flatMap (pF d)
def EE (d : List TDir) (i k w : Nat) : Prop := (i, k, w) ∈ gQ d
theorem a2h (d : List TDir) (i k w : Nat) : EE d i k w ↔ ∃ x, d[i]? = some x ∧ ((w = 0 ∧ ∃ nm ∈ cB x.fQuery false, placeD d nm = (k : Int)) ∨ (w = 1 ∧ ∃ nm ∈ cB x.fQuery true, placeD d nm = (k : Int))) := by
 unfold EE gQ
 simp only [List.mem_flatMap, List.mem_range]
 constructor
 ·rintro ⟨j, hj, h⟩
  unfold pF at h
  rw [List.getElem?_eq_getElem hj] at h
  simp only [List.mem_append, wZ, a6z] at h
  rcases h with ⟨nm, h1, k', h2, h3⟩ | ⟨nm, h1, k', h2, h3⟩
  ·cases h3; exact ⟨_, List.getElem?_eq_getElem hj, .inl ⟨rfl, nm, h1, h2⟩⟩
  ·cases h3; exact ⟨_, List.getElem?_eq_getElem hj, .inr ⟨rfl, nm, h1, h2⟩⟩
 ·rintro ⟨x, hx, h⟩
  refine ⟨i, (List.getElem?_eq_some_iff.1 hx).1, ?_⟩
  unfold pF
  rw [hx]
  simp only [List.mem_append, wZ, a6z]
  rcases h with ⟨rfl, nm, h1, h2⟩ | ⟨rfl, nm, h1, h2⟩
  ·exact .inl ⟨nm, h1, k, h2, rfl⟩
  ·exact .inr ⟨nm, h1, k, h2, rfl⟩
theorem a2i (d : List TDir) : Edges d.length (EE d) := ⟨fun i k w h => by
 obtain ⟨x, hx, h⟩ := (a2h d i k w).1 h
 refine ⟨(List.getElem?_eq_some_iff.1 hx).1, ?_, by rcases h with ⟨rfl, _⟩ | ⟨rfl, _⟩ <;> omega⟩
 obtain ⟨nm, hp⟩ : ∃ nm, placeD d nm = (k : Int) := by rcases h with ⟨_, nm, _, h⟩ | ⟨_, nm, _, h⟩ <;> exact ⟨nm, h⟩
 rcases placeD_cases d nm with h | ⟨k', h, hl⟩ <;> omega⟩
def abv (d : List TDir) (L : List Nat) (w : Nat) : List ByteArray → Nat → Nat
 | [], m => m
 | nm :: r, m => abv d L w r (if 0 ≤ placeD d nm then (if lv L (placeD d nm).toNat + w > m then lv L (placeD d nm).toNat + w else m) else m)
theorem b2j (d : List TDir) (L : List Nat) (w : Nat) (l : List ByteArray) (k m : Nat) (h : k < l.length) : abv d L w (l.drop k) m = abv d L w (l.drop (k + 1)) (if 0 ≤ placeD d l[k] then (if lv L (placeD d l[k]).toNat + w > m then lv L (placeD d l[k]).toNat + w else m) else m) := by
 rw [List.drop_eq_getElem_cons h, abv]
theorem a7T (d : List TDir) (L : List Nat) (w c : Nat) : ∀ (l : List ByteArray) (m : Nat), abv d L w l m ≤ c ↔ m ≤ c ∧ ∀ nm ∈ l, ∀ k : Nat, placeD d nm = (k : Int) → lv L k + w ≤ c
 | [], m => by simp [abv]
 | nm :: r, m => by
  rw [abv, a7T d L w c r]
  constructor
  ·rintro ⟨h1, h2⟩
   refine ⟨?_, fun n hn k hk => ?_⟩
   ·split at h1
    ·split at h1 <;> omega
    ·exact h1
   ·rcases List.mem_cons.1 hn with rfl | hn
    ·have e : (placeD d n).toNat = k := by omega
     rw [if_pos (by omega), e] at h1
     split at h1 <;> omega
    ·exact h2 n hn k hk
  ·rintro ⟨h1, h2⟩
   refine ⟨?_, fun n hn k hk => h2 n (List.mem_cons_of_mem _ hn) k hk⟩
   split
   ·rename_i hp
    have := h2 nm (by simp) (placeD d nm).toNat (by omega)
    split <;> omega
   ·exact h1
def gJ (d : List TDir) (L : List Nat) (x : TDir) : Nat := if abv d L 1 (iB (cB x.fQuery true)) 0 > abv d L 0 (iB (cB x.fQuery false)) 0 then abv d L 1 (iB (cB x.fQuery true)) 0 else abv d L 0 (iB (cB x.fQuery false)) 0
theorem a2j (d : List TDir) (L : List Nat) (i c : Nat) (h : i < d.length) : gJ d L d[i] ≤ c ↔ ∀ k w, EE d i k w → lv L k + w ≤ c := by
 have h0 := a7T d L 0 c (iB (cB d[i].fQuery false)) 0
 have h1 := a7T d L 1 c (iB (cB d[i].fQuery true)) 0
 have hm : gJ d L d[i] ≤ c ↔ abv d L 0 (iB (cB d[i].fQuery false)) 0 ≤ c ∧ abv d L 1 (iB (cB d[i].fQuery true)) 0 ≤ c := by
  unfold gJ; split <;> omega
 rw [hm, h0, h1]
 constructor
 ·rintro ⟨⟨_, a⟩, ⟨_, b⟩⟩ k w he
  obtain ⟨x, hx, he⟩ := (a2h d i k w).1 he
  rw [List.getElem?_eq_getElem h] at hx
  cases hx
  rcases he with ⟨rfl, nm, q1, q2⟩ | ⟨rfl, nm, q1, q2⟩
  ·exact a nm ((vH _ _).2 q1) k q2
  ·exact b nm ((vH _ _).2 q1) k q2
 ·intro a
  exact ⟨⟨by omega, fun nm q k hk => a k 0 ((a2h d i k 0).2 ⟨d[i], List.getElem?_eq_getElem h, .inl ⟨rfl, nm, (vH _ _).1 q, hk⟩⟩)⟩,
   ⟨by omega, fun nm q k hk => a k 1 ((a2h d i k 1).2 ⟨d[i], List.getElem?_eq_getElem h, .inr ⟨rfl, nm, (vH _ _).1 q, hk⟩⟩)⟩⟩
structure Low (d : List TDir) (L : List Nat) : Prop where
 len : L.length = d.length
 clo : ∀ F, Clo d.length (EE d) F → ∀ j, lv L j ≤ lv F j
 small : ∀ j, lv L j ≤ d.length
theorem Low.start (d : List TDir) : Low d (List.replicate d.length 0) := ⟨by simp, fun F _ j => by rw [a5e]; omega, fun j => by rw [a5e]; omega⟩
theorem Low.least_le {d : List TDir} {L : List Nat} (h : Low d L) {i : Nat} (hi : i < d.length) {F : List Nat} (hF : Clo d.length (EE d) F) : gJ d L d[i] ≤ lv F i :=
 (a2j d L i _ hi).2 fun k w he => by
  have h1 := hF.le i k w he
  have h2 := h.clo F hF k
  omega
theorem Low.over {d : List TDir} {L : List Nat} (h : Low d L) {i : Nat} (hi : i < d.length) (ho : gJ d L d[i] > d.length) : ¬ ∃ F, Clo d.length (EE d) F := by
 rintro ⟨F, hF⟩
 obtain ⟨G, hG, hs⟩ := a3E (a2i d) hF
 have h1 := h.least_le hi hG
 have h2 := hs i hi
 omega
theorem Low.set {d : List TDir} {L : List Nat} (h : Low d L) {i : Nat} (hi : i < d.length) (ho : ¬ gJ d L d[i] > d.length) : Low d (L.set i (gJ d L d[i])) := by
 have hl : i < L.length := by rw [h.len]; exact hi
 refine ⟨by simp [h.len], fun F hF j => ?_, fun j => ?_⟩
 ·rw [a2o L i _ j hl]
  split
  ·rename_i e; subst e; exact h.least_le hi hF
  ·exact h.clo F hF j
 ·rw [a2o L i _ j hl]
  split
  ·omega
  ·exact h.small j
theorem Low.done {d : List TDir} {L : List Nat} (h : Low d L) (hc : ∀ i, (hi : i < d.length) → gJ d L d[i] ≤ lv L i) : Least d.length (EE d) L :=
 ⟨⟨h.len, fun i k w he => (a2j d L i _ ((a2i d).ok i k w he).1).1 (hc i _) k w he⟩, h.clo⟩
theorem Low.sum {d : List TDir} {L : List Nat} (h : Low d L) : rM L ≤ d.length * d.length := by
 have := a9n L d.length fun i _ => h.small i
 rwa [h.len] at this
end Go.Proofs.YtgpoopjfkplilaaGreatDoor
end
section
set_option maxRecDepth 100000
set_option maxHeartbeats 4000000
namespace Go.Proofs.YtgpoopjfkplilaaGreatDoor
open Go Go.Sx Go.RowKit Go.Proofs
theorem a1b (f : Nat) (c : List D) (p : TDir → Bool) (l : List TDir) (hf : ∀ s ∈ l, FnC Tryz.prog f [b6Y s, .o (.q c)] (ob (p s))) (hl : l.length ≤ 8388608) : FnC Tryz.prog 246 [.o (.d (.sl (l.map eP))), .o (.f f [c])] (oi (oC p l 0)) := by
 refine ent Tryz.func246 rfl Tryz.call246 rfl (fun C => ?_); simp only [go_sem, st0, Tryz.ntmps246]
 refine aD ?_
 refine dB (α := Nat) (fun k => [(8, oi k)]) (fun _ => []) (fun k => k ≤ l.length ∧ oC p l 0 = oC p (l.drop k) k) (fun k => l.length - k) 0 (fun _ => ?_) ?_ ?_ (fun k hk => ?_)
 ·simp only [go_sem]
 ·simp only [go_sem]; simp
 ·simp
 ·obtain ⟨hk, hq⟩ := hk
  simp only [go_sem]
  refine aD ?_
  refine cnd rfl (fun h => ?_) (fun h => ?_)
  ·simp only [decide_eq_true_eq, Int.ofNat_lt] at h
   have hd := List.drop_eq_getElem_cons h
   rw [hd, oC] at hq
   have q0 := @h; refine qY (hf l[k] (List.getElem_mem h)) ?_
   refine cnd rfl (fun h2 => ?_) (fun h2 => ?_)
   ·refine aD ?_
    exact aA ⟨⟨_, rfl, by simp only [go_sem, hq, h2]⟩, trivial⟩
   ·refine aD ?_
    refine aQ (k + 1) ?_ ?_ ?_
    ·simp only [go_sem]; simp
    ·rw [hq, h2]; exact ⟨h, by simp⟩
    ·omega
  ·simp only [decide_eq_false_iff_not] at h
   have e : k = l.length := by omega
   subst e
   simp only [List.drop_length, oC] at hq
   refine aD ?_
   exact aA ⟨⟨_, rfl, by simp only [go_sem, hq]⟩, trivial⟩
@[go_sem] def rH (n : Nat) : List D := [iv (n : Int)]
theorem b0z (nm : ByteArray) (x : TDir) : FnC Tryz.prog 247 [b6Y x, .o (.q [sv nm])] (ob (decide (x.fName = nm))) := by
 refine ent Tryz.func247 rfl Tryz.call247 rfl (fun C => ?_); simp only [go_sem, st0, Tryz.ntmps247]
 refine aD ?_
 exact aA ⟨⟨_, rfl, by simp only [go_sem]⟩, trivial⟩
theorem a6q (d : List TDir) (nm : ByteArray) (hl : d.length ≤ 4300000) : FnC Tryz.prog 227 [.o (.d (.sl (d.map eP))), os nm] (oi (placeD d nm)) := by
 refine ent Tryz.func227 rfl Tryz.call227 rfl (fun C => ?_); simp only [go_sem, st0, Tryz.ntmps227]
 refine kS (a1b _ _ (fun x => decide (x.fName = nm)) d (fun y _ => b0z nm y) (by omega)) ?_
 exact aA ⟨⟨_, rfl, by simp only [go_sem, placeD]⟩, trivial⟩
theorem kE (d : List TDir) (nm : ByteArray) (hl : d.length ≤ 4300000) : FnC Tryz.prog 203 [.o (.d (.sl (d.map eP))), os nm] (oi (placeD d nm)) := by
 refine ent Tryz.func203 rfl Tryz.call203 rfl (fun C => ?_); simp only [go_sem, st0, Tryz.ntmps203]
 refine aD ?_
 refine dB (α := Nat) (fun k => [(5, oi k)]) (fun _ => []) (fun k => k ≤ d.length ∧ placeD d nm = oC (fun x => decide (x.fName = nm)) (d.drop k) k) (fun k => d.length - k) 0 (fun _ => ?_) ?_ ?_ (fun k hk => ?_)
 ·simp only [go_sem]
 ·simp only [go_sem]; simp
 ·simp [placeD]
 ·obtain ⟨hk, hq⟩ := hk
  simp only [go_sem]
  refine aD ?_
  refine cnd rfl (fun h => ?_) (fun h => ?_)
  ·simp only [decide_eq_true_eq, Int.ofNat_lt] at h
   have hd := List.drop_eq_getElem_cons h
   rw [hd, oC] at hq
   by_cases h2 : d[k].fName = nm
   ·rw [if_pos (by simp [h2])] at hq
    have q0 := @h; have q1 := @h2; have q2 := @decide_true; refine kI ?_
    exact aA ⟨⟨_, rfl, by simp only [go_sem, hq]⟩, trivial⟩
   ·rw [if_neg (by simp [h2])] at hq
    have q0 := @h; have q1 := @h2; have q2 := @decide_false; refine kI ?_
    refine aQ (k + 1) ?_ ?_ ?_
    ·simp only [go_sem]; simp
    ·rw [hq]; exact ⟨h, by simp⟩
    ·omega
  ·simp only [decide_eq_false_iff_not] at h
   have e : k = d.length := by omega
   subst e
   simp only [List.drop_length, oC] at hq
   refine aD ?_
   exact aA ⟨⟨_, rfl, by simp only [go_sem, hq]⟩, trivial⟩
theorem a0n (L : List Nat) (i : Nat) (h : i < L.length) : L[i] = lv L i := by simp [lv, List.getD_eq_getElem?_getD, h]
def mxN (a b : Nat) : Nat := if b > a then b else a
theorem a9d (a b : Nat) : mxI (a : Int) (b : Int) = ((mxN a b : Nat) : Int) := by
 unfold mxI mxN
 split <;> split <;> omega
theorem a6r (d : List TDir) (L : List Nat) (w : Nat) (names : List ByteArray) (hd : d.length ≤ 4300000) (hL : L.length = d.length) (hn : names.length ≤ 4300000) (hB : ∀ j, lv L j ≤ 1000000) (hw : w ≤ 1) : FnC Tryz.prog 188 [.o (.d (.sl (d.map eP))), .o (.d (.sl (L.map rH))), .o (.d (.sl (names.map dL))), oi (w : Nat)] (oi (abv d L w names 0 : Nat)) := by
 refine ent Tryz.func188 rfl Tryz.call188 rfl (fun C => ?_); simp only [go_sem, st0, Tryz.ntmps188]
 refine aD ?_
 refine dB (α := Nat × Nat) (fun x => [(9, oi (x.2 : Nat)), (15, oi x.1)]) (fun _ => []) (fun x => x.1 ≤ names.length ∧ abv d L w names 0 = abv d L w (names.drop x.1) x.2 ∧ x.2 ≤ 1000001) (fun x => names.length - x.1) (0, 0) (fun _ => ?_) ?_ ?_ (fun x hx => ?_)
 ·simp only [go_sem]
 ·simp only [go_sem]; simp
 ·simp
 ·obtain ⟨k, m⟩ := x
  obtain ⟨hk, hq, hm⟩ := hx
  simp only at hk hq hm
  simp only [go_sem]
  refine aD ?_
  refine cnd rfl (fun h => ?_) (fun h => ?_)
  ·simp only [decide_eq_true_eq, Int.ofNat_lt] at h
   rw [b2j d L w names k m h] at hq
   rcases placeD_cases d names[k] with hp | ⟨p, hp, hpl⟩
   ·rw [if_neg (by omega)] at hq
    have q0 := @h; have q1 := @hp; have q2 := @decide_true; have q3 := @decide_false; refine a0X (a6q d names[k] hd) ?_
    refine aQ (k + 1, m) ?_ ?_ ?_
    ·simp only [go_sem]; simp
    ·exact ⟨by simp only; omega, hq, hm⟩
    ·simp only; omega
   ·have hpL : p < L.length := by omega
    have hb := hB p
    have hg := a0n L p hpL
    have hge : (0 : Int) ≤ (p : Int) := by omega
    have hs : ((lv L p : Nat) : Int) + (w : Int) = ((lv L p + w : Nat) : Int) := by omega
    have hmx := a9d m (lv L p + w)
    rw [if_pos (by omega), hp, Int.toNat_natCast] at hq
    have q0 := @h; have q1 := @hp; have q2 := @hge; have q3 := @hpL; have q4 := @hg; have q5 := @hs; have q6 := @hmx; have q7 := @decide_true; have q8 := @decide_false; have q9 := @Int.toNat_natCast; refine a8O (a6q d names[k] hd) ?_
    refine aQ (k + 1, mxN m (lv L p + w)) ?_ ?_ ?_
    ·simp only [go_sem]; simp
    ·exact ⟨by simp only; omega, hq, by simp only [mxN]; split <;> omega⟩
    ·simp only; omega
  ·simp only [decide_eq_false_iff_not] at h
   have e : k = names.length := by omega
   subst e
   rw [List.drop_length, abv] at hq
   refine aD ?_
   exact aA ⟨⟨_, rfl, by simp only [go_sem, hq]⟩, trivial⟩
theorem a0m {d : List TDir} (h : dJ d = true) (i : Nat) (hi : i < d.length) : okQ d[i].fQuery = true := by
 unfold dJ at h
 simp only [Bool.and_eq_true, List.all_eq_true, List.mem_range] at h
 have := h.1 i hi
 unfold jI at this
 rw [List.getElem?_eq_getElem hi] at this
 simp only [Bool.and_eq_true] at this
 exact this.2.2
theorem wY {d : List TDir} (h : dJ d = true) : d.length ≤ 5 := by
 unfold dJ at h
 simp only [Bool.and_eq_true, decide_eq_true_eq] at h
 omega
theorem a6o (q : List TNode) (hq : okQ q = true) (hw : wNodeS q ≤ 4300000) : FnC Tryz.prog 189 [.o (.d (.sl (q.map bH)))] (.o (.d (.sl ((iB (cB q false)).map dL)))) := (a7U q hq hw).pu (by simp only [go_sem, and_self])
theorem a6p (q : List TNode) (hq : okQ q = true) (hw : wNodeS q ≤ 4300000) : FnC Tryz.prog 190 [.o (.d (.sl (q.map bH)))] (.o (.d (.sl ((iB (cB q true)).map dL)))) := (a6t q hq hw).pu (by simp only [go_sem, and_self])
theorem a3y (d : List TDir) (L : List Nat) (names : List ByteArray) (hd : d.length ≤ 4300000) (hL : L.length = d.length) (hn : names.length ≤ 4300000) (hB : ∀ j, lv L j ≤ 1000000) : FnC Tryz.prog 188 [.o (.d (.sl (d.map eP))), .o (.d (.sl (L.map rH))), .o (.d (.sl (names.map dL))), oi 0] (oi (abv d L 0 names 0 : Nat)) := a6r d L 0 names hd hL hn hB (by omega)
theorem a3z (d : List TDir) (L : List Nat) (names : List ByteArray) (hd : d.length ≤ 4300000) (hL : L.length = d.length) (hn : names.length ≤ 4300000) (hB : ∀ j, lv L j ≤ 1000000) : FnC Tryz.prog 188 [.o (.d (.sl (d.map eP))), .o (.d (.sl (L.map rH))), .o (.d (.sl (names.map dL))), oi 1] (oi (abv d L 1 names 0 : Nat)) := a6r d L 1 names hd hL hn hB (by omega)
noncomputable def resL (d : List TDir) : List Nat := if dJ d then a7Z d.length (EE d) else []
noncomputable def qD (d : List TDir) : Bool := if dJ d then a2n d.length (EE d) else false
theorem b2i (L : List Nat) (i v : Nat) : (L.map rH).set i [D.v (Value.int .i64 (v : Int))] = (L.set i v).map rH := by rw [List.map_set]; rfl
structure Pass (d : List TDir) (L : List Nat) (i : Nat) (M : List Nat) (ch : Bool) : Prop where
 low : Low d M
 no : ch = false → M = L ∧ ∀ j, (hj : j < d.length) → j < i → gJ d L d[j] ≤ lv L j
 yes : ch = true → rM L < rM M
theorem Pass.start {d : List TDir} {L : List Nat} (h : Low d L) : Pass d L 0 L false := ⟨h, fun _ => ⟨rfl, fun j _ hj => by omega⟩, fun h => by cases h⟩
theorem Pass.keep {d : List TDir} {L M : List Nat} {i : Nat} {ch : Bool} (h : Pass d L i M ch) (hi : i < d.length) (hle : ¬ gJ d M d[i] > lv M i) : Pass d L (i + 1) M ch := by
 refine ⟨h.low, fun hc => ⟨(h.no hc).1, fun j hj hlt => ?_⟩, h.yes⟩
 by_cases e : j = i
 ·subst e
  have := (h.no hc).1
  subst this
  omega
 ·exact (h.no hc).2 j hj (by omega)
theorem Pass.set {d : List TDir} {L M : List Nat} {i : Nat} {ch : Bool} (h : Pass d L i M ch) (hi : i < d.length) (ho : ¬ gJ d M d[i] > d.length) (hgt : gJ d M d[i] > lv M i) : Pass d L (i + 1) (M.set i (gJ d M d[i])) true := by
 have hl : i < M.length := by rw [h.low.len]; exact hi
 have hs := a6C M i (gJ d M d[i]) hl
 refine ⟨h.low.set hi ho, fun hc => (by cases hc), fun _ => ?_⟩
 cases ch with
 | false =>
  have := (h.no rfl).1
  subst this
  omega
 | true =>
  have := h.yes rfl
  omega
theorem a2O (d : List TDir) (hd : jR d ≤ 4300000) : FnC Tryz.prog 139 [.o (.d (.sl (d.map eP)))] (.t [(false, [.w 3 1 ((resL d).map rH)]), (false, [.d (bv (qD d))])]) := by
 have hd0 : d.length + dU nZ d ≤ 4300000 := hd
 refine ent Tryz.func139 rfl Tryz.call139 rfl (fun C => ?_); simp only [go_sem, st0, Tryz.ntmps139]
 cases hv : dJ d
 ·have e1 : resL d = [] := by simp [resL, hv]
  have e2 : qD d = false := by simp [qD, hv]
  have q0 := @hv; refine qY (yX d hd) ?_
  exact aA ⟨⟨_, rfl, by simp only [go_sem, e1, e2]⟩, by simp [bW]⟩
 have e1 : resL d = a7Z d.length (EE d) := by simp [resL, hv]
 have e2 : qD d = a2n d.length (EE d) := by simp [qD, hv]
 have hl5 := wY hv
 have q0 := @hv; refine qY (yX d hd) ?_
 refine dB (α := List Nat × Bool) (fun x => [(5, ob x.2)]) (fun x => [(0, .row 3 1 (x.1.map rH) true)]) (fun x => Low d x.1 ∧ (x.2 = false → ∀ i, (hi : i < d.length) → gJ d x.1 d[i] ≤ lv x.1 i)) (fun x => if x.2 then d.length * d.length - rM x.1 + 1 else 0) (List.replicate d.length 0, true) (fun _ => ?_) ?_ ?_ (fun x hx => ?_)
 ·simp only [go_sem]
 ·simp only [go_sem]; simp [rH]
 ·exact ⟨Low.start d, fun h => by cases h⟩
 ·obtain ⟨L, ch⟩ := x
  obtain ⟨hlow, hdone⟩ := hx
  simp only at hlow hdone
  simp only [go_sem]
  refine aD ?_
  refine cnd rfl (fun h => ?_) (fun h => ?_)
  ·subst h
   refine aD ?_
   refine dB (α := Nat × List Nat × Bool) (fun x => [(5, ob x.2.2), (18, oi x.1)]) (fun x => [(0, .row 3 1 (x.2.1.map rH) true)]) (fun x => x.1 ≤ d.length ∧ Pass d L x.1 x.2.1 x.2.2) (fun x => d.length - x.1) (0, L, false) (fun _ => ?_) ?_ ?_ (fun x hx => ?_)
   ·simp only [go_sem]
   ·simp only [go_sem]; simp
   ·exact ⟨by simp, Pass.start hlow⟩
   ·obtain ⟨i, M, c⟩ := x
    obtain ⟨hi, hp⟩ := hx
    simp only at hi hp
    simp only [go_sem]
    refine aD ?_
    refine cnd rfl (fun h => ?_) (fun h => ?_)
    ·simp only [decide_eq_true_eq, Int.ofNat_lt] at h
     have hq := a0m hv i h
     have hq9 := iI hq
     have hwd := eT nZ d h
     have hwq : wNodeS d[i].fQuery ≤ nZ d[i] := by unfold nZ; omega
     have hML : M.length = d.length := hp.low.len
     have hiM : i < M.length := by omega
     have hB : ∀ j, lv M j ≤ 1000000 := fun j => by have := hp.low.small j; omega
     have ho1 := a3D (cB d[i].fQuery false)
     have ho2 := a3D (cB d[i].fQuery true)
     have ho3 := jG d[i].fQuery false d[i].fQuery.length
     have ho4 := jG d[i].fQuery true d[i].fQuery.length
     have hk1 : (iB (cB d[i].fQuery false)).length ≤ 4300000 := by unfold cB at ho1 ⊢; omega
     have hk2 : (iB (cB d[i].fQuery true)).length ≤ 4300000 := by unfold cB at ho2 ⊢; omega
     have hmx : mxI (abv d M 0 (iB (cB d[i].fQuery false)) 0 : Nat) (abv d M 1 (iB (cB d[i].fQuery true)) 0 : Nat) = ((gJ d M d[i] : Nat) : Int) := by
      rw [a9d]; rfl
     have hg := a0n M i hiM
     have qH := aI @h @hmx; repeat' (with_reducible first | refine nY ?_ | (refine mX ?_; try simp only [go_sem, qH]) | refine kD ?_ | refine rD ?_ | refine cP (a6o d[i].fQuery hq (by omega)) ?_ | refine cP (a6p d[i].fQuery hq (by omega)) ?_ | refine vO (a3y d M (iB (cB d[i].fQuery false)) (by omega) hML hk1 hB) ?_ | refine vQ (a3y d M (iB (cB d[i].fQuery false)) (by omega) hML hk1 hB) ?_ | refine vO (a3z d M (iB (cB d[i].fQuery true)) (by omega) hML hk2 hB) ?_ | refine vQ (a3z d M (iB (cB d[i].fQuery true)) (by omega) hML hk2 hB) ?_ | refine aO ?_ | fail)
     refine cnd rfl (fun ho => ?_) (fun ho => ?_)
     ·simp only [decide_eq_true_eq, Int.ofNat_lt] at ho
      have hno := hp.low.over h ho
      have f1 := a9m hno
      have f2 := a6B hno
      refine aD ?_
      exact aA ⟨⟨_, rfl, by simp only [go_sem, e1, e2, f1, f2]⟩, by simp [bW]⟩
     ·simp only [decide_eq_false_iff_not, Int.ofNat_lt] at ho
      have q0 := @h; have q1 := @hiM; have q2 := @hg; refine kI ?_
      refine cnd rfl (fun hgt => ?_) (fun hgt => ?_)
      ·simp only [decide_eq_true_eq, Int.ofNat_lt] at hgt
       have q0 := @h; have q1 := @hiM; have q2 := @hg; refine kI ?_
       refine aQ (i + 1, M.set i (gJ d M d[i]), true) ?_ ?_ ?_
       ·simp only [go_sem, ← b2i]; simp
       ·exact ⟨by simp only; omega, hp.set h ho hgt⟩
       ·simp only; omega
      ·simp only [decide_eq_false_iff_not, Int.ofNat_lt] at hgt
       have q0 := @h; have q1 := @hiM; have q2 := @hg; refine kI ?_
       refine aQ (i + 1, M, c) ?_ ?_ ?_
       ·simp only [go_sem]; simp
       ·exact ⟨by simp only; omega, hp.keep h hgt⟩
       ·simp only; omega
    ·simp only [decide_eq_false_iff_not] at h
     have e : i = d.length := by omega
     subst e
     refine aD ?_
     refine aQ (M, c) ?_ ?_ ?_
     ·simp only [go_sem]; simp
     ·exact ⟨hp.low, fun hc i hi => by
       simp only at hc
       obtain ⟨h1, h2⟩ := hp.no hc
       subst h1
       exact h2 i hi hi⟩
     ·have hs := hp.low.sum
      simp only
      cases c with
      | false => simp
      | true =>
       have := hp.yes rfl
       simp only [if_true]
       omega
  ·subst h
   have hL := hlow.done (hdone rfl)
   have f1 := a9l hL
   have f2 := a0p hL.clo
   refine aD ?_
   exact aA ⟨⟨_, rfl, by simp only [go_sem, e1, e2, f1, f2]⟩, by simp [bW]⟩
theorem oP (d : List TDir) (hd : jR d ≤ 4300000) : FnC Tryz.prog 88 [.o (.d (.sl (d.map eP)))] (ob (qD d)) := by
 refine ent Tryz.func88 rfl Tryz.call88 rfl (fun C => ?_); simp only [go_sem, st0, Tryz.ntmps88]
 refine kS (a2O d hd) ?_
 exact aA ⟨⟨_, rfl, by simp only [go_sem]⟩, trivial⟩
end Go.Proofs.YtgpoopjfkplilaaGreatDoor
end
