/- Joined texts. -/
import Derived.Test.YtolgdibgnndoaaaGreatZ11
import Derived.Test.YtolgdibgnndoaaaGreatZ12
import Derived.Test.YtolgdibgnndoaaaGreatZ04
import Derived.Test.YtolgdibgnndoaaaGreatZ07
import Derived.Test.YtolgdibgnndoaaaGreatZ08
set_option linter.all false
section
set_option maxRecDepth 100000
set_option maxHeartbeats 4000000
namespace Go.Proofs.YtolgdibgnndoaaaGreat
open Go Go.Sx Go.RowKit Go.Proofs
@[go_sem] def rY (b : Bool) : List D := [bv b]
def b5K (n : TNode) : Bool := decide (n.fOp = 5)
def isTwo (n : TNode) : Bool := decide (n.fOp = 6) || decide (n.fOp = 7)
def jF (q : List TNode) (i : Nat) (L : List Bool) : List Bool := match q[i]? with
 | none => L
 | some n => if n.fOp = 5 then L.set n.fLeft.toNat true else if isTwo n then (L.set n.fLeft.toNat (L.getD i false)).set n.fRight.toNat (L.getD i false) else L
def negJ (q : List TNode) : Nat → List Bool
 | 0 => List.replicate q.length false
 | j + 1 => jF q (q.length - 1 - j) (negJ q j)
theorem a5o (q : List TNode) (i : Nat) (L : List Bool) : (jF q i L).length = L.length := by
 unfold jF
 split
 ·rfl
 ·split
  ·simp
  ·split <;> simp
theorem yK (q : List TNode) (j : Nat) : (negJ q j).length = q.length := by
 induction j with
 | zero => simp [negJ]
 | succ j ih => simp only [negJ, a5o, ih]
def kN (q : List TNode) : List Bool := negJ q q.length
theorem a1y (q : List TNode) : (kN q).length = q.length := yK q q.length
theorem zD (q : List TNode) (i : Nat) (h : i < q.length) : negJ q (q.length - i) = jF q i (negJ q (q.length - (i + 1))) := by
 have e : q.length - i = (q.length - (i + 1)) + 1 := by omega
 have e2 : q.length - 1 - (q.length - (i + 1)) = i := by omega
 rw [e, negJ, e2]
def iD (n : TNode) : Bool := inB n.fOp 8 9
def sel (q : List TNode) (b : Bool) (k : Nat) : List ByteArray := match q[k]?, (kN q)[k]? with
 | some n, some x => if iD n && (x == b) then [n.fName] else []
 | _, _ => []
def lS (q : List TNode) (b : Bool) (k : Nat) : List ByteArray := (List.range k).flatMap (sel q b)
def cB (q : List TNode) (b : Bool) : List ByteArray := lS q b q.length
theorem wM (q : List TNode) (b : Bool) (k : Nat) : lS q b (k + 1) = lS q b k ++ sel q b k := by
 simp [lS, List.range_succ, List.flatMap_append]
theorem b1x (q : List TNode) (b : Bool) (k : Nat) : (sel q b k).length ≤ 1 := by
 unfold sel
 split
 ·split <;> simp
 ·simp
theorem jG (q : List TNode) (b : Bool) (k : Nat) : (lS q b k).length ≤ k := by
 induction k with
 | zero => simp [lS]
 | succ k ih => rw [wM, List.length_append]; have := b1x q b k; omega
theorem b5r (L : List Bool) (i : Nat) (h : i < L.length) : L.getD i false = L[i] := by simp [List.getD_eq_getElem?_getD, h]
theorem a7s (L : List Bool) (l : Nat) : (L.map rY).set l [D.v (Value.bool false)] = (L.set l false).map rY := by rw [List.map_set]; rfl
theorem a7t (L : List Bool) (l : Nat) : (L.map rY).set l [D.v (Value.bool true)] = (L.set l true).map rY := by rw [List.map_set]; rfl
theorem a6w {L : List Bool} {i : Nat} {b : Bool} (h : i < L.length) (hb : L[i] = b) (l : Nat) (h' : i < (L.set l b).length) : (L.set l b)[i] = b := by
 rw [List.getElem_set]; split
 ·rfl
 ·exact hb
theorem a7u {L : List Bool} {i : Nat} {b : Bool} (h : i < L.length) (hb : L[i] = b) (l r : Nat) (h' : i < ((L.set l b).set r b).length) : ((L.set l b).set r b)[i] = b := by
 rw [List.getElem_set]; split
 ·rfl
 ·exact a6w h hb l _
theorem yL {q : List TNode} {i : Nat} (h : i < q.length) (L : List Bool) {l : Nat} (h5 : q[i].fOp = 5) (hl : q[i].fLeft = (l : Int)) : jF q i L = L.set l true := by
 simp [jF, List.getElem?_eq_getElem h, h5, hl]
theorem uK {q : List TNode} {i : Nat} (h : i < q.length) (L : List Bool) (hi : i < L.length) {l m : Nat} (h5 : ¬ q[i].fOp = 5) (h67 : q[i].fOp = 6 ∨ q[i].fOp = 7) (hl : q[i].fLeft = (l : Int)) (hm : q[i].fRight = (m : Int)) : jF q i L = (L.set l L[i]).set m L[i] := by
 have h2 : isTwo q[i] = true := by unfold isTwo; rcases h67 with h | h <;> simp [h]
 simp only [jF, List.getElem?_eq_getElem h, h5, if_false, h2, if_true, hl, hm, Int.toNat_natCast, b5r L i hi]
theorem zG {q : List TNode} {i : Nat} (h : i < q.length) (L : List Bool) (h5 : ¬ q[i].fOp = 5) (h67 : ¬ (q[i].fOp = 6 ∨ q[i].fOp = 7)) : jF q i L = L := by
 have h2 : isTwo q[i] = false := by
  unfold isTwo
  have h6 : ¬ q[i].fOp = 6 := fun h => h67 (.inl h)
  have h7 : ¬ q[i].fOp = 7 := fun h => h67 (.inr h)
  simp [h6, h7]
 simp only [jF, List.getElem?_eq_getElem h, h5, if_false, h2, Bool.false_eq_true]
theorem a6x (q : List TNode) (hq : okQ q = true) (hw : dR q ≤ 4300000) : FnC Tryz.prog 272 [.o (.d (.sl (q.map bH)))] (.o (.w 4 1 ((kN q).map rY))) := by
 have hl9 := lH hq
 refine ent Tryz.func272 rfl Tryz.call272 rfl (fun C => ?_); simp only [go_sem, st0, Tryz.ntmps272]
 have q0 := @hq; refine lK (bM q hw) ?_
 refine bC (α := Nat) (fun m => [(4, oi ((m : Int) - 1))]) (fun m => [(0, .row 4 1 ((negJ q (q.length - m)).map rY) true)]) (fun m => m ≤ q.length) (fun m => m) q.length (fun _ => ?_) ?_ ?_ (fun m hm => ?_)
 ·simp only [go_sem]
 ·simp only [go_sem]; simp [negJ, rY]
 ·simp
 ·simp only [go_sem]
  refine aD ?_
  refine cnd rfl (fun h => ?_) (fun h => ?_)
  ·simp only [decide_eq_true_eq] at h
   obtain ⟨i, rfl⟩ : ∃ i, m = i + 1 := ⟨m - 1, by omega⟩
   have hx : ((i + 1 : Nat) : Int) - 1 = (i : Int) := by omega
   have hi : i < q.length := by omega
   have hst := zD q i hi
   have hLl := yK q (q.length - (i + 1))
   generalize negJ q (q.length - (i + 1)) = L at *
   have hiL : i < L.length := by omega
   have hok := wH hq (List.getElem?_eq_getElem hi)
   have hop := pQ hok
   by_cases h5 : q[i].fOp = 5
   ·obtain ⟨l, hl, hli⟩ := dJ hok (.inl h5)
    have hlL : l < L.length := by omega
    rw [yL hi L h5 hl] at hst
    cases hb : L[i]
    all_goals
     have q0 := @hx; have q1 := @hi; have q2 := @hiL; have q3 := @hb; have q4 := @h5; have q5 := @hl; have q6 := @hlL; have q7 := @decide_true; have q8 := @decide_false; have q9 := @Int.toNat_natCast; refine pI ?_
     refine aF i ?_ ?_ ?_
     ·simp only [go_sem, hst]; simp [rY]
     ·omega
     ·omega
   by_cases h67 : q[i].fOp = 6 ∨ q[i].fOp = 7
   ·obtain ⟨l, hl, hli⟩ := dJ hok (.inr h67)
    obtain ⟨r, hr, hri⟩ := fG hok h67
    have hlL : l < L.length := by omega
    have hrL : r < L.length := by omega
    rw [uK hi L hiL h5 h67 hl hr] at hst
    by_cases h6 : q[i].fOp = 6
    ·cases hb : L[i]
     all_goals
      rw [hb] at hst
      have hrL1 : r < (L.set l false).length := by simpa using hrL
      have hrL2 : r < (L.set l true).length := by simpa using hrL
      have qH := aI @hx (aI @hi (aI @hiL (aI @hb (aI @h5 (aI @h6 (aI @hl (aI @hr (aI @hlL (aI @hrL (aI @a7s (aI @a7t (aI @hrL1 (aI @hrL2 (aI @decide_true (aI @decide_false @Int.toNat_natCast))))))))))))))); repeat' (with_reducible first | refine nY ?_ | (refine mX ?_; try simp only [go_sem, qH]) | refine kD ?_ | refine rT [15, 17] [] ?_ | refine dA (aX ?_) (uX ?_) | refine dZ (aX ?_) ?_ | exact uB | refine rD ?_ | refine aO ?_ | fail)
      refine aF i ?_ ?_ ?_
      ·simp only [go_sem, hst]; simp [rY]
      ·omega
      ·omega
    ·have h7 : q[i].fOp = 7 := by omega
     cases hb : L[i]
     all_goals
      rw [hb] at hst
      have hrL1 : r < (L.set l false).length := by simpa using hrL
      have hrL2 : r < (L.set l true).length := by simpa using hrL
      have qH := aI @hx (aI @hi (aI @hiL (aI @hb (aI @h5 (aI @h6 (aI @h7 (aI @hl (aI @hr (aI @hlL (aI @hrL (aI @a7s (aI @a7t (aI @hrL1 (aI @hrL2 (aI @decide_true (aI @decide_false @Int.toNat_natCast)))))))))))))))); repeat' (with_reducible first | refine nY ?_ | (refine mX ?_; try simp only [go_sem, qH]) | refine kD ?_ | refine rT [15, 17] [] ?_ | refine dA (aX ?_) (uX ?_) | refine dZ (aX ?_) ?_ | exact uB | refine rD ?_ | refine aO ?_ | fail)
      refine aF i ?_ ?_ ?_
      ·simp only [go_sem, hst]; simp [rY]
      ·omega
      ·omega
   ·have h6 : ¬ q[i].fOp = 6 := fun h => h67 (.inl h)
    have h7 : ¬ q[i].fOp = 7 := fun h => h67 (.inr h)
    rw [zG hi L h5 h67] at hst
    cases hb : L[i]
    all_goals
     have q0 := @hx; have q1 := @hi; have q2 := @hiL; have q3 := @hb; have q4 := @h5; have q5 := @h6; have q6 := @h7; have q7 := @decide_true; have q8 := @decide_false; have q9 := @Int.toNat_natCast; refine pI ?_
     refine aF i ?_ ?_ ?_
     ·simp only [go_sem, hst]; simp [rY]
     ·omega
     ·omega
  ·simp only [decide_eq_false_iff_not] at h
   have e : m = 0 := by omega
   subst e
   refine aD ?_
   exact aA ⟨⟨_, rfl, by simp only [go_sem, kN, Nat.sub_zero]⟩, trivial⟩
theorem a6y (q : List TNode) (hq : okQ q = true) (hw : dR q ≤ 4300000) : FnC Tryz.prog 277 [.o (.d (.sl (q.map bH)))] (.o (.w 4 1 ((kN q).map rY))) := by
 have hl9 := lH hq
 refine ent Tryz.func277 rfl Tryz.call277 rfl (fun C => ?_); simp only [go_sem, st0, Tryz.ntmps277]
 have q0 := @hq; refine lK (bX q hw) ?_
 refine bC (α := Nat) (fun m => [(4, oi ((m : Int) - 1))]) (fun m => [(0, .row 4 1 ((negJ q (q.length - m)).map rY) true)]) (fun m => m ≤ q.length) (fun m => m) q.length (fun _ => ?_) ?_ ?_ (fun m hm => ?_)
 ·simp only [go_sem]
 ·simp only [go_sem]; simp [negJ, rY]
 ·simp
 ·simp only [go_sem]
  refine aD ?_
  refine cnd rfl (fun h => ?_) (fun h => ?_)
  ·simp only [decide_eq_true_eq] at h
   obtain ⟨i, rfl⟩ : ∃ i, m = i + 1 := ⟨m - 1, by omega⟩
   have hx : ((i + 1 : Nat) : Int) - 1 = (i : Int) := by omega
   have hi : i < q.length := by omega
   have hst := zD q i hi
   have hLl := yK q (q.length - (i + 1))
   generalize negJ q (q.length - (i + 1)) = L at *
   have hiL : i < L.length := by omega
   have hok := wH hq (List.getElem?_eq_getElem hi)
   have hop := pQ hok
   by_cases h5 : q[i].fOp = 5
   ·obtain ⟨l, hl, hli⟩ := dJ hok (.inl h5)
    have hlL : l < L.length := by omega
    rw [yL hi L h5 hl] at hst
    cases hb : L[i]
    all_goals
     have q0 := @hx; have q1 := @hi; have q2 := @hiL; have q3 := @hb; have q4 := @h5; have q5 := @hl; have q6 := @hlL; have q7 := @decide_true; have q8 := @decide_false; have q9 := @Int.toNat_natCast; refine pI ?_
     refine aF i ?_ ?_ ?_
     ·simp only [go_sem, hst]; simp [rY]
     ·omega
     ·omega
   by_cases h67 : q[i].fOp = 6 ∨ q[i].fOp = 7
   ·obtain ⟨l, hl, hli⟩ := dJ hok (.inr h67)
    obtain ⟨r, hr, hri⟩ := fG hok h67
    have hlL : l < L.length := by omega
    have hrL : r < L.length := by omega
    rw [uK hi L hiL h5 h67 hl hr] at hst
    by_cases h6 : q[i].fOp = 6
    ·cases hb : L[i]
     all_goals
      rw [hb] at hst
      have hs1 := a6w hiL hb l
      have hs2 := a7u hiL hb l r
      have hrL1 : r < (L.set l false).length := by simpa using hrL
      have hrL2 : r < (L.set l true).length := by simpa using hrL
      have qH := aI @hx (aI @hi (aI @hiL (aI @hb (aI @h5 (aI @h6 (aI @hl (aI @hr (aI @hlL (aI @hrL (aI @a7s (aI @a7t (aI @hrL1 (aI @hrL2 (aI @hs1 (aI @hs2 (aI @decide_true (aI @decide_false @Int.toNat_natCast))))))))))))))))); repeat' (with_reducible first | refine nY ?_ | (refine mX ?_; try simp only [go_sem, qH]) | refine kD ?_ | refine rT [8] [] ?_ | refine dA (aX ?_) (uX ?_) | refine dZ (aX ?_) ?_ | exact uB | refine rD ?_ | refine aO ?_ | fail)
      refine aF i ?_ ?_ ?_
      ·simp only [go_sem, hst]; simp [rY]
      ·omega
      ·omega
    ·have h7 : q[i].fOp = 7 := by omega
     cases hb : L[i]
     all_goals
      rw [hb] at hst
      have hs1 := a6w hiL hb l
      have hs2 := a7u hiL hb l r
      have hrL1 : r < (L.set l false).length := by simpa using hrL
      have hrL2 : r < (L.set l true).length := by simpa using hrL
      have qH := aI @hx (aI @hi (aI @hiL (aI @hb (aI @h5 (aI @h6 (aI @h7 (aI @hl (aI @hr (aI @hlL (aI @hrL (aI @a7s (aI @a7t (aI @hrL1 (aI @hrL2 (aI @hs1 (aI @hs2 (aI @decide_true (aI @decide_false @Int.toNat_natCast)))))))))))))))))); repeat' (with_reducible first | refine nY ?_ | (refine mX ?_; try simp only [go_sem, qH]) | refine kD ?_ | refine rT [8] [] ?_ | refine dA (aX ?_) (uX ?_) | refine dZ (aX ?_) ?_ | exact uB | refine rD ?_ | refine aO ?_ | fail)
      refine aF i ?_ ?_ ?_
      ·simp only [go_sem, hst]; simp [rY]
      ·omega
      ·omega
   ·have h6 : ¬ q[i].fOp = 6 := fun h => h67 (.inl h)
    have h7 : ¬ q[i].fOp = 7 := fun h => h67 (.inr h)
    rw [zG hi L h5 h67] at hst
    cases hb : L[i]
    all_goals
     have q0 := @hx; have q1 := @hi; have q2 := @hiL; have q3 := @hb; have q4 := @h5; have q5 := @h6; have q6 := @h7; have q7 := @decide_true; have q8 := @decide_false; have q9 := @Int.toNat_natCast; refine pI ?_
     refine aF i ?_ ?_ ?_
     ·simp only [go_sem, hst]; simp [rY]
     ·omega
     ·omega
  ·simp only [decide_eq_false_iff_not] at h
   have e : m = 0 := by omega
   subst e
   refine aD ?_
   exact aA ⟨⟨_, rfl, by simp only [go_sem, kN, Nat.sub_zero]⟩, trivial⟩
theorem a9Z (q : List TNode) (b : Bool) (k : Nat) (h : k < q.length) (h2 : k < (kN q).length) : sel q b k = if iD q[k] && ((kN q)[k] == b) then [q[k].fName] else [] := by
 unfold sel; rw [List.getElem?_eq_getElem h, List.getElem?_eq_getElem h2]
theorem a5l (n : TNode) : FnC Tryz.prog 232 [a7d n] (ob (iD n)) := by
 refine ent Tryz.func232 rfl Tryz.call232 rfl (fun C => ?_); simp only [go_sem, st0, Tryz.ntmps232]
 by_cases c8 : n.fOp = 8
 ·have hd : iD n = true := by simp [iD, inB, c8]
  have q0 := @c8; have q1 := @decide_true; refine gQ ?_
  exact aA ⟨⟨_, rfl, by simp only [go_sem, hd]⟩, trivial⟩
 by_cases c9 : n.fOp = 9
 ·have hd : iD n = true := by simp [iD, inB, c9]
  have q0 := @c8; have q1 := @c9; have q2 := @decide_true; have q3 := @decide_false; refine kF ?_
  exact aA ⟨⟨_, rfl, by simp only [go_sem, hd]⟩, trivial⟩
 ·have hd : iD n = false := by
   rw [← Bool.not_eq_true]
   simp only [iD, inB, Bool.and_eq_true, decide_eq_true_eq]; omega
  have q0 := @c8; have q1 := @c9; have q2 := @decide_true; have q3 := @decide_false; refine kF ?_
  exact aA ⟨⟨_, rfl, by simp only [go_sem, hd]⟩, trivial⟩
theorem a0d (q : List TNode) (b : Bool) (hq : okQ q = true) (hw : dR q ≤ 4300000) : FnC Tryz.prog 239 [.o (.d (.sl (q.map bH))), ob b] (.o (.w 9 1 ((fQ (cB q b)).map eT))) := by
 have hl9 := lH hq
 have hnl := a1y q
 refine ent Tryz.func239 rfl Tryz.call239 rfl (fun C => ?_); simp only [go_sem, st0, Tryz.ntmps239]
 refine jH (a6x q hq hw) ?_
 refine bC (α := Nat) (fun k => [(5, .o (.s 0)), (8, .o .u), (12, oi k)]) (fun k => [(0, .row 9 1 ((lS q b k).map eT) true)]) (fun k => k ≤ q.length) (fun k => q.length - k) 0 (fun _ => ?_) ?_ ?_ (fun k hk => ?_)
 ·simp only [go_sem]
 ·simp only [go_sem]; simp [lS]
 ·simp
 ·simp only [go_sem]
  refine aD ?_
  refine cnd rfl (fun h1 => ?_) (fun h1 => ?_)
  ·simp only [decide_eq_true_eq, Int.ofNat_lt] at h1
   have h2 : k < (kN q).length := h1
   have h1 : k < q.length := by omega
   have hdl := jG q b k
   have hs := a9Z q b k h1 h2
   have ht := wM q b k
   rw [hs] at ht
   have hl1 : (lS q b k).length + 1 ≤ 140737488355328 := by omega
   have hl2 : ((lS q b k).length + 1) * 16 ≤ 140737488355328 := by omega
   cases hd : iD q[k]
   ·simp only [hd, Bool.false_and, Bool.false_eq_true, if_false, List.append_nil] at ht
    have q0 := @h1; have q1 := @h2; have q2 := @hd; refine a0q (a5l q[k]) ?_
    refine aF (k + 1) ?_ ?_ ?_
    ·simp only [go_sem, ht]; simp
    ·omega
    ·omega
   ·cases hx : (kN q)[k] <;> cases b
    all_goals
     simp only [hd, hx, Bool.true_and, Bool.true_beq, Bool.false_beq, Bool.not_true, Bool.not_false, Bool.false_eq_true, if_false, if_true, List.append_nil] at ht
     have q0 := @h1; have q1 := @h2; have q2 := @hd; have q3 := @hx; have q4 := @Bool.true_beq; have q5 := @Bool.false_beq; refine a0s (a5l q[k]) ?_
     refine aF (k + 1) ?_ ?_ ?_
     ·simp only [go_sem, ht, List.map_append]; simp
     ·omega
     ·omega
  ·simp only [decide_eq_false_iff_not] at h1
   have e : k = q.length := by omega
   subst e
   have hdl := jG q b q.length
   refine jH (a1V (lS q b q.length) (by omega)) ?_
   exact aA ⟨⟨_, rfl, by simp only [go_sem, cB]⟩, trivial⟩
theorem a0e (q : List TNode) (b : Bool) (hq : okQ q = true) (hw : dR q ≤ 4300000) : FnC Tryz.prog 245 [.o (.d (.sl (q.map bH))), ob b] (.o (.w 9 1 ((putL (cB q b)).map eT))) := by
 have hl9 := lH hq
 have hnl := a1y q
 refine ent Tryz.func245 rfl Tryz.call245 rfl (fun C => ?_); simp only [go_sem, st0, Tryz.ntmps245]
 refine jH (a6y q hq hw) ?_
 refine uM 5 0 rfl rfl ?_
 simp only [go_sem]
 refine bC (α := Nat) (fun k => [(5, .o (.d (.sl ((putL (lS q b k)).map eT)))), (7, oi k), (8, .o .u)]) (fun _ => []) (fun k => k ≤ q.length) (fun k => q.length - k) 0 (fun _ => ?_) ?_ ?_ (fun k hk => ?_)
 ·simp only [go_sem]
 ·simp only [go_sem]; simp [lS, putL]
 ·simp
 ·simp only [go_sem]
  have hdl := jG q b k
  have hlen : (putL (lS q b k)).length ≤ 4300000 := by have h1 := lT (lS q b k); omega
  refine aD ?_
  refine cnd rfl (fun h1 => ?_) (fun h1 => ?_)
  ·simp only [decide_eq_true_eq, Int.ofNat_lt] at h1
   have h2 : k < (kN q).length := h1
   have h1 : k < q.length := by omega
   have hs := a9Z q b k h1 h2
   have ht := wM q b k
   rw [hs] at ht
   cases hd : iD q[k]
   ·simp only [hd, Bool.false_and, Bool.false_eq_true, if_false, List.append_nil] at ht
    have q0 := @h1; have q1 := @h2; have q2 := @hd; refine a0q (show FnC Tryz.prog _ _ (ob (iD q[k])) from bO q[k].fOp 8 9) ?_
    refine aF (k + 1) ?_ ?_ ?_
    ·simp only [go_sem, ht]; simp
    ·omega
    ·omega
   ·cases hx : (kN q)[k] <;> cases b
    all_goals
     simp only [hd, hx, Bool.true_and, Bool.true_beq, Bool.false_beq, Bool.not_true, Bool.not_false, Bool.false_eq_true, if_false, if_true, List.append_nil] at ht
     have q0 := @h1; have q1 := @h2; have q2 := @hd; have q3 := @hx; have q4 := @Bool.true_beq; have q5 := @Bool.false_beq; refine a1O (show FnC Tryz.prog _ _ (ob (iD q[k])) from bO q[k].fOp 8 9) (uL (putL (lS q _ k)) q[k].fName hlen) ?_
     refine aF (k + 1) ?_ ?_ ?_
     ·simp only [go_sem, ht, a1z]; simp
     ·omega
     ·omega
  ·simp only [decide_eq_false_iff_not] at h1
   have e : k = q.length := by omega
   subst e
   refine aD ?_
   exact aA ⟨⟨_, rfl, by simp only [go_sem, cB]⟩, trivial⟩
theorem a6u (q : List TNode) (hq : okQ q = true) (hw : dR q ≤ 4300000) : FnC Tryz.prog 200 [.o (.d (.sl (q.map bH)))] (.o (.w 9 1 ((fQ (cB q false)).map eT))) := by
 refine ent Tryz.func200 rfl Tryz.call200 rfl (fun C => ?_); simp only [go_sem, st0, Tryz.ntmps200]
 refine jH (a0d q false hq hw) ?_
 exact aA ⟨⟨_, rfl, by simp only [go_sem]⟩, trivial⟩
theorem a5m (q : List TNode) (hq : okQ q = true) (hw : dR q ≤ 4300000) : FnC Tryz.prog 201 [.o (.d (.sl (q.map bH)))] (.o (.w 9 1 ((fQ (cB q true)).map eT))) := by
 refine ent Tryz.func201 rfl Tryz.call201 rfl (fun C => ?_); simp only [go_sem, st0, Tryz.ntmps201]
 refine jH (a0d q true hq hw) ?_
 exact aA ⟨⟨_, rfl, by simp only [go_sem]⟩, trivial⟩
theorem a6v (q : List TNode) (hq : okQ q = true) (hw : dR q ≤ 4300000) : FnC Tryz.prog 210 [.o (.d (.sl (q.map bH)))] (.o (.w 9 1 ((putL (cB q false)).map eT))) := by
 refine ent Tryz.func210 rfl Tryz.call210 rfl (fun C => ?_); simp only [go_sem, st0, Tryz.ntmps210]
 refine jH (a0e q false hq hw) ?_
 exact aA ⟨⟨_, rfl, by simp only [go_sem]⟩, trivial⟩
theorem a5n (q : List TNode) (hq : okQ q = true) (hw : dR q ≤ 4300000) : FnC Tryz.prog 212 [.o (.d (.sl (q.map bH)))] (.o (.w 9 1 ((putL (cB q true)).map eT))) := by
 refine ent Tryz.func212 rfl Tryz.call212 rfl (fun C => ?_); simp only [go_sem, st0, Tryz.ntmps212]
 refine jH (a0e q true hq hw) ?_
 exact aA ⟨⟨_, rfl, by simp only [go_sem]⟩, trivial⟩
end Go.Proofs.YtolgdibgnndoaaaGreat
end
section
set_option maxRecDepth 100000
set_option maxHeartbeats 4000000
namespace Go.Proofs.YtolgdibgnndoaaaGreat
def lv (L : List Nat) (i : Nat) : Nat := L.getD i 0
structure Clo (n : Nat) (E : Nat → Nat → Nat → Prop) (F : List Nat) : Prop where
 len : F.length = n
 le : ∀ i k w, E i k w → lv F k + w ≤ lv F i
structure Edges (n : Nat) (E : Nat → Nat → Nat → Prop) : Prop where
 ok : ∀ i k w, E i k w → i < n ∧ k < n ∧ w ≤ 1
structure Least (n : Nat) (E : Nat → Nat → Nat → Prop) (L : List Nat) : Prop where
 clo : Clo n E L
 le : ∀ F, Clo n E F → ∀ i, lv L i ≤ lv F i
theorem b2W {L M : List Nat} (h : L.length = M.length) (hi : ∀ i, lv L i = lv M i) : L = M := by
 apply List.ext_getElem h
 intro i h1 h2
 have := hi i
 simpa [lv, List.getD_eq_getElem?_getD, h1, h2] using this
theorem a3P {n : Nat} {E : Nat → Nat → Nat → Prop} {L M : List Nat} (h : Least n E L) (k : Least n E M) : L = M :=
 b2W (by rw [h.clo.len, k.clo.len]) fun i => Nat.le_antisymm (h.le M k.clo i) (k.le L h.clo i)
open Classical in
noncomputable def a6z (n : Nat) (E : Nat → Nat → Nat → Prop) : List Nat := if h : ∃ L, Least n E L then h.choose else []
theorem a3Q {n : Nat} {E : Nat → Nat → Nat → Prop} {L : List Nat} (h : Least n E L) : a6z n E = L := by
 have he : ∃ L, Least n E L := ⟨L, h⟩
 unfold a6z
 rw [dif_pos he]
 exact a3P he.choose_spec h
theorem a3R {n : Nat} {E : Nat → Nat → Nat → Prop} (h : ¬ ∃ F, Clo n E F) : a6z n E = [] := by
 unfold a6z
 rw [dif_neg (fun ⟨L, hL⟩ => h ⟨L, hL.clo⟩)]
open Classical in
noncomputable def a0f (n : Nat) (E : Nat → Nat → Nat → Prop) : Bool := if ∃ F, Clo n E F then true else false
theorem zI {n : Nat} {E : Nat → Nat → Nat → Prop} {L : List Nat} (h : Clo n E L) : a0f n E = true := by
 unfold a0f; rw [if_pos ⟨L, h⟩]
theorem a5r {n : Nat} {E : Nat → Nat → Nat → Prop} (h : ¬ ∃ F, Clo n E F) : a0f n E = false := by
 unfold a0f; rw [if_neg h]
theorem zJ {n : Nat} {E : Nat → Nat → Nat → Prop} (hE : Edges n E) {F : List Nat} (h : Clo n E F) : ∃ G, Clo n E G ∧ ∀ i, i < n → lv G i < n := by
 let r (i : Nat) : Nat := ((List.range n).filter fun j => decide (lv F j < lv F i)).length
 have hr : ∀ i, i < n → lv ((List.range n).map r) i = r i := fun i hi => by simp [lv, List.getD_eq_getElem?_getD, hi]
 have sub : ∀ (p q : Nat → Bool) (l : List Nat), (∀ j, p j = true → q j = true) → (l.filter p).length ≤ (l.filter q).length := by
  intro p q l hpq
  induction l with
  | nil => simp
  | cons x l ih =>
   simp only [List.filter_cons]
   cases hp : p x
   ·cases hq : q x <;> simp <;> omega
   ·rw [hpq x hp]; simpa using ih
 have sub1 : ∀ (p q : Nat → Bool) (l : List Nat) (x : Nat), x ∈ l → (∀ j, p j = true → q j = true) → p x = false → q x = true → (l.filter p).length < (l.filter q).length := by
  intro p q l x hx hpq hp hq
  induction l with
  | nil => simp at hx
  | cons y l ih =>
   simp only [List.filter_cons]
   rcases List.mem_cons.1 hx with rfl | hx
   ·rw [hp, hq]
    have := sub p q l hpq
    simp
    omega
   ·have := ih hx
    cases hp' : p y
    ·cases hq' : q y <;> simp <;> omega
    ·rw [hpq y hp']; simpa using this
 refine ⟨(List.range n).map r, ⟨by simp, fun i k w he => ?_⟩, fun i hi => ?_⟩
 ·obtain ⟨hi, hk, hw⟩ := hE.ok i k w he
  rw [hr i hi, hr k hk]
  have hle := h.le i k w he
  rcases Nat.lt_or_ge w 1 with hw0 | hw1
  ·have hw' : w = 0 := by omega
   subst hw'
   exact sub _ _ _ fun j hj => by simp only [decide_eq_true_eq] at hj ⊢; omega
  ·have hw' : w = 1 := by omega
   subst hw'
   exact sub1 _ _ _ k (List.mem_range.2 hk) (fun j hj => by simp only [decide_eq_true_eq] at hj ⊢; omega) (by simp) (by simp only [decide_eq_true_eq]; omega)
 ·rw [hr i hi]
  have := sub1 (fun j => decide (lv F j < lv F i)) (fun _ => true) (List.range n) i (List.mem_range.2 hi) (fun _ _ => rfl) (by simp) rfl
  rw [List.filter_eq_self.2 (fun _ _ => rfl), List.length_range] at this
  exact this
theorem a1C (L : List Nat) (i v j : Nat) (h : i < L.length) : lv (L.set i v) j = if j = i then v else lv L j := by
 unfold lv
 simp only [List.getD_eq_getElem?_getD, List.getElem?_set]
 by_cases e : i = j
 ·subst e; simp [h]
 ·rw [if_neg e, if_neg (fun e' => e e'.symm)]
def rJ : List Nat → Nat
 | [] => 0
 | x :: l => x + rJ l
theorem a5s (L : List Nat) (i v : Nat) (h : i < L.length) : rJ (L.set i v) + lv L i = rJ L + v := by
 induction L generalizing i with
 | nil => simp at h
 | cons x l ih =>
  cases i with
  | zero => simp [rJ, lv]; omega
  | succ i =>
   have := ih i (by simpa using h)
   simp only [List.set_cons_succ, rJ, lv, List.getD_cons_succ] at this ⊢
   omega
theorem a7x (L : List Nat) (c : Nat) (h : ∀ i, i < L.length → lv L i ≤ c) : rJ L ≤ L.length * c := by
 induction L with
 | nil => simp [rJ]
 | cons x l ih =>
  have h0 : x ≤ c := by simpa [lv] using h 0 (by simp)
  have h1 := ih fun i hi => by simpa [lv] using h (i + 1) (by simpa using hi)
  simp only [rJ, List.length_cons, Nat.succ_mul]
  omega
theorem a3S (n i : Nat) : lv (List.replicate n 0) i = 0 := by
 simp only [lv, List.getD_eq_getElem?_getD, List.getElem?_replicate]
 split <;> rfl
def up1 (i k w : Nat) (L : List Nat) : List Nat := if lv L k + w > lv L i then L.set i (lv L k + w) else L
theorem a0I (i k w : Nat) (L : List Nat) : (up1 i k w L).length = L.length := by unfold up1; split <;> simp
theorem up1_grow (i k w : Nat) (L : List Nat) (h : i < L.length) : up1 i k w L = L ∨ rJ L < rJ (up1 i k w L) := by
 unfold up1
 split
 ·rename_i hc
  have := a5s L i (lv L k + w) h
  right; omega
 ·exact .inl rfl
theorem b0e {i k w : Nat} {L : List Nat} (hl : i < L.length) (h : up1 i k w L = L) : lv L k + w ≤ lv L i := by
 apply Classical.byContradiction
 intro hn
 have hc : lv L k + w > lv L i := by omega
 unfold up1 at h
 rw [if_pos hc] at h
 have := a1C L i (lv L k + w) i hl
 rw [h, if_pos rfl] at this
 omega
theorem a8v {n : Nat} {E : Nat → Nat → Nat → Prop} {F : List Nat} (hF : Clo n E F) {i k w : Nat} (he : E i k w) {L : List Nat} (hl : i < L.length) (h : ∀ j, lv L j ≤ lv F j) : ∀ j, lv (up1 i k w L) j ≤ lv F j := by
 intro j
 unfold up1
 split
 ·rw [a1C L i _ j hl]
  split
  ·rename_i e; subst e
   have := hF.le j k w he
   have := h k
   omega
  ·exact h j
 ·exact h j
theorem a8w {i k w : Nat} {L : List Nat} {B : Nat} (hl : i < L.length) (hw : w ≤ 1) (h : ∀ j, lv L j ≤ B) : ∀ j, lv (up1 i k w L) j ≤ B + 1 := by
 intro j
 unfold up1
 split
 ·rw [a1C L i _ j hl]
  split
  ·have := h k; omega
  ·have := h j; omega
 ·have := h j; omega
def ups : List (Nat × Nat × Nat) → List Nat → List Nat
 | [], L => L
 | (i, k, w) :: l, L => ups l (up1 i k w L)
theorem a0J (l m : List (Nat × Nat × Nat)) (L : List Nat) : ups (l ++ m) L = ups m (ups l L) := by
 induction l generalizing L with
 | nil => rfl
 | cons x l ih => obtain ⟨i, k, w⟩ := x; simp only [List.cons_append, ups, ih]
theorem uN (l : List (Nat × Nat × Nat)) (L : List Nat) : (ups l L).length = L.length := by
 induction l generalizing L with
 | nil => rfl
 | cons x l ih => obtain ⟨i, k, w⟩ := x; simp only [ups, ih, a0I]
theorem ups_grow : ∀ (l : List (Nat × Nat × Nat)) (L : List Nat), (∀ x ∈ l, x.1 < L.length) → (ups l L = L ∧ ∀ x ∈ l, up1 x.1 x.2.1 x.2.2 L = L) ∨ rJ L < rJ (ups l L)
 | [], L, _ => .inl ⟨rfl, fun x h => by simp at h⟩
 | (i, k, w) :: l, L, h => by
  have hi := h (i, k, w) (by simp)
  have hl := ups_grow l (up1 i k w L) fun x hx => by rw [a0I]; exact h x (by simp [hx])
  simp only [ups]
  rcases up1_grow i k w L hi with e | g
  ·rw [e] at hl ⊢
   rcases hl with ⟨h1, h2⟩ | h1
   ·refine .inl ⟨h1, fun x hx => ?_⟩
    rcases List.mem_cons.1 hx with rfl | hx
    ·exact e
    ·exact h2 x hx
   ·exact .inr h1
  ·rcases hl with ⟨h1, _⟩ | h1
   ·rw [h1]; exact .inr g
   ·exact .inr (by omega)
theorem a2M {n : Nat} {E : Nat → Nat → Nat → Prop} {F : List Nat} (hE : Edges n E) (hF : Clo n E F) : ∀ (l : List (Nat × Nat × Nat)) (L : List Nat), L.length = n → (∀ x ∈ l, E x.1 x.2.1 x.2.2) → (∀ j, lv L j ≤ lv F j) → ∀ j, lv (ups l L) j ≤ lv F j
 | [], L, _, _, h => h
 | (i, k, w) :: l, L, hl, he, h => by
  have e := he (i, k, w) (by simp)
  exact a2M hE hF l _ (by rw [a0I]; exact hl) (fun x hx => he x (by simp [hx])) (a8v hF e (by rw [hl]; exact (hE.ok _ _ _ e).1) h)
theorem mP : ∀ (l : List (Nat × Nat × Nat)) (L : List Nat) (B : Nat), (∀ x ∈ l, x.1 < L.length ∧ x.2.2 ≤ 1) → (∀ j, lv L j ≤ B) → ∀ j, lv (ups l L) j ≤ B + l.length
 | [], L, B, _, h => h
 | (i, k, w) :: l, L, B, hx, h => by
  have e := hx (i, k, w) (by simp)
  have := mP l (up1 i k w L) (B + 1) (fun x hx' => by rw [a0I]; exact hx x (by simp [hx'])) (a8w e.1 e.2 h)
  intro j
  have := this j
  simp only [ups, List.length_cons]
  omega
def upsN (l : List (Nat × Nat × Nat)) : Nat → List Nat → List Nat
 | 0, L => L
 | r + 1, L => ups l (upsN l r L)
theorem a1D (l : List (Nat × Nat × Nat)) (r : Nat) (L : List Nat) : (upsN l r L).length = L.length := by
 induction r with
 | zero => rfl
 | succ r ih => simp only [upsN, uN, ih]
theorem a1E (l : List (Nat × Nat × Nat)) (L : List Nat) (hx : ∀ x ∈ l, x.1 < L.length ∧ x.2.2 ≤ 1) (h : ∀ j, lv L j = 0) : ∀ r j, lv (upsN l r L) j ≤ r * l.length
 | 0, j => by simp [upsN, h j]
 | r + 1, j => by
  have := mP l (upsN l r L) (r * l.length) (fun x hx' => by rw [a1D]; exact hx x hx') (a1E l L hx h r) j
  simp only [upsN, Nat.succ_mul]
  omega
theorem a2N {n : Nat} {E : Nat → Nat → Nat → Prop} (hE : Edges n E) (l : List (Nat × Nat × Nat)) (hl : ∀ x, x ∈ l ↔ E x.1 x.2.1 x.2.2) (R : Nat) (hR : n * n < R) :
    let L := upsN l R (List.replicate n 0)
    if ups l L = L then Least n E L else ¬ ∃ F, Clo n E F := by
 intro L
 have hlen : ∀ r, (upsN l r (List.replicate n 0)).length = n := fun r => by rw [a1D]; simp
 have hbel : ∀ F, Clo n E F → ∀ r j, lv (upsN l r (List.replicate n 0)) j ≤ lv F j := fun F hF r => by
  induction r with
  | zero => intro j; simp only [upsN, a3S]; omega
  | succ r ih => exact a2M hE hF l _ (hlen r) (fun x hx => (hl x).1 hx) ih
 have hix : ∀ r, ∀ x ∈ l, x.1 < (upsN l r (List.replicate n 0)).length := fun r x hx => by rw [hlen]; exact (hE.ok _ _ _ ((hl x).1 hx)).1
 have hgrow : ∀ r, ups l (upsN l r (List.replicate n 0)) = upsN l r (List.replicate n 0) ∨ r ≤ rJ (upsN l r (List.replicate n 0)) := fun r => by
  induction r with
  | zero => exact .inr (by omega)
  | succ r ih =>
   rcases ih with e | h
   ·left; simp only [upsN]; rw [e, e]
   ·rcases ups_grow l _ (hix r) with ⟨e, _⟩ | g
    ·left; simp only [upsN]; rw [e, e]
    ·right; simp only [upsN]; omega
 by_cases hs : ups l L = L
 ·rw [if_pos hs]
  refine ⟨⟨hlen R, fun i k w he => ?_⟩, fun F hF => hbel F hF R⟩
  rcases ups_grow l L (hix R) with ⟨_, h⟩ | g
  ·exact b0e (by rw [hlen]; exact (hE.ok _ _ _ he).1) (h (i, k, w) ((hl (i, k, w)).2 he))
  ·rw [hs] at g; omega
 ·rw [if_neg hs]
  rintro ⟨F, hF⟩
  obtain ⟨G, hG, hsm⟩ := zJ hE hF
  rcases hgrow R with e | h
  ·exact hs e
  ·have h1 := a7x L n fun i hi => by
    have h2 := hbel G hG R i
    have h3 := hsm i (by rw [← hlen R]; exact hi)
    show lv (upsN l R (List.replicate n 0)) i ≤ n
    omega
   rw [hlen R] at h1
   show False
   have : rJ L = rJ (upsN l R (List.replicate n 0)) := rfl
   omega
end Go.Proofs.YtolgdibgnndoaaaGreat
end
section
set_option maxRecDepth 100000
set_option maxHeartbeats 4000000
namespace Go.Proofs.YtolgdibgnndoaaaGreat
def placeD (d : List TDir) (nm : ByteArray) : Int := fF (fun x => decide (x.fName = nm)) d 0
theorem placeD_cases (d : List TDir) (nm : ByteArray) : placeD d nm = -1 ∨ ∃ k : Nat, placeD d nm = (k : Int) ∧ k < d.length := by
 unfold placeD
 rcases idxP_fst (fun x => decide (x.fName = nm)) d 0 with ⟨_, h, _⟩ | ⟨h, hl⟩
 ·exact .inl h
 ·exact .inr ⟨_, by rw [h]; simp, hl⟩
def dM (d : List TDir) (i w : Nat) (names : List ByteArray) : List (Nat × Nat × Nat) := names.flatMap fun nm => if 0 ≤ placeD d nm then [(i, (placeD d nm).toNat, w)] else []
theorem wL (d : List TDir) (i w : Nat) (names : List ByteArray) (x : Nat × Nat × Nat) : x ∈ dM d i w names ↔ ∃ nm ∈ names, ∃ k : Nat, placeD d nm = (k : Int) ∧ x = (i, k, w) := by
 unfold dM
 simp only [List.mem_flatMap]
 constructor
 ·rintro ⟨nm, h1, h2⟩
  split at h2
  ·rename_i hp
   refine ⟨nm, h1, (placeD d nm).toNat, by omega, by simpa using h2⟩
  ·simp at h2
 ·rintro ⟨nm, h1, k, h2, rfl⟩
  refine ⟨nm, h1, ?_⟩
  rw [if_pos (by omega), h2]; simp
def oO (d : List TDir) (i : Nat) : List (Nat × Nat × Nat) := match d[i]? with
 | none => []
 | some x => dM d i 0 (putL (cB x.fQuery false)) ++ dM d i 1 (putL (cB x.fQuery true))
def fU (d : List TDir) : List (Nat × Nat × Nat) := (List.range d.length).flatMap (oO d)
def EE (d : List TDir) (i k w : Nat) : Prop := (i, k, w) ∈ fU d
theorem a1w (d : List TDir) (i k w : Nat) : EE d i k w ↔ ∃ x, d[i]? = some x ∧ ((w = 0 ∧ ∃ nm ∈ cB x.fQuery false, placeD d nm = (k : Int)) ∨ (w = 1 ∧ ∃ nm ∈ cB x.fQuery true, placeD d nm = (k : Int))) := by
 unfold EE fU
 simp only [List.mem_flatMap, List.mem_range]
 constructor
 ·rintro ⟨j, hj, h⟩
  unfold oO at h
  rw [List.getElem?_eq_getElem hj] at h
  simp only [List.mem_append, wL, nK] at h
  rcases h with ⟨nm, h1, k', h2, h3⟩ | ⟨nm, h1, k', h2, h3⟩
  ·cases h3; exact ⟨_, List.getElem?_eq_getElem hj, .inl ⟨rfl, nm, h1, h2⟩⟩
  ·cases h3; exact ⟨_, List.getElem?_eq_getElem hj, .inr ⟨rfl, nm, h1, h2⟩⟩
 ·rintro ⟨x, hx, h⟩
  refine ⟨i, (List.getElem?_eq_some_iff.1 hx).1, ?_⟩
  unfold oO
  rw [hx]
  simp only [List.mem_append, wL, nK]
  rcases h with ⟨rfl, nm, h1, h2⟩ | ⟨rfl, nm, h1, h2⟩
  ·exact .inl ⟨nm, h1, k, h2, rfl⟩
  ·exact .inr ⟨nm, h1, k, h2, rfl⟩
theorem tL (d : List TDir) : Edges d.length (EE d) := ⟨fun i k w h => by
 obtain ⟨x, hx, h⟩ := (a1w d i k w).1 h
 refine ⟨(List.getElem?_eq_some_iff.1 hx).1, ?_, by rcases h with ⟨rfl, _⟩ | ⟨rfl, _⟩ <;> omega⟩
 obtain ⟨nm, hp⟩ : ∃ nm, placeD d nm = (k : Int) := by rcases h with ⟨_, nm, _, h⟩ | ⟨_, nm, _, h⟩ <;> exact ⟨nm, h⟩
 rcases placeD_cases d nm with h | ⟨k', h, hl⟩ <;> omega⟩
def abv (d : List TDir) (L : List Nat) (w : Nat) : List ByteArray → Nat → Nat
 | [], m => m
 | nm :: r, m => abv d L w r (if 0 ≤ placeD d nm then (if lv L (placeD d nm).toNat + w > m then lv L (placeD d nm).toNat + w else m) else m)
theorem a9Y (d : List TDir) (L : List Nat) (w : Nat) (l : List ByteArray) (k m : Nat) (h : k < l.length) : abv d L w (l.drop k) m = abv d L w (l.drop (k + 1)) (if 0 ≤ placeD d l[k] then (if lv L (placeD d l[k]).toNat + w > m then lv L (placeD d l[k]).toNat + w else m) else m) := by
 rw [List.drop_eq_getElem_cons h, abv]
theorem a6t (d : List TDir) (L : List Nat) (w c : Nat) : ∀ (l : List ByteArray) (m : Nat), abv d L w l m ≤ c ↔ m ≤ c ∧ ∀ nm ∈ l, ∀ k : Nat, placeD d nm = (k : Int) → lv L k + w ≤ c
 | [], m => by simp [abv]
 | nm :: r, m => by
  rw [abv, a6t d L w c r]
  constructor
  ·rintro ⟨h1, h2⟩
   refine ⟨?_, fun n hn k hk => ?_⟩
   ·split at h1
    ·split at h1 <;> omega
    ·exact h1
   ·rcases List.mem_cons.1 hn with rfl | hn
    ·have e : (placeD d n).toNat = k := by omega
     rw [if_pos (by omega), e] at h1
     split at h1 <;> omega
    ·exact h2 n hn k hk
  ·rintro ⟨h1, h2⟩
   refine ⟨?_, fun n hn k hk => h2 n (List.mem_cons_of_mem _ hn) k hk⟩
   split
   ·rename_i hp
    have := h2 nm (by simp) (placeD d nm).toNat (by omega)
    split <;> omega
   ·exact h1
def gG (d : List TDir) (L : List Nat) (x : TDir) : Nat := if abv d L 1 (fQ (cB x.fQuery true)) 0 > abv d L 0 (fQ (cB x.fQuery false)) 0 then abv d L 1 (fQ (cB x.fQuery true)) 0 else abv d L 0 (fQ (cB x.fQuery false)) 0
theorem a1x (d : List TDir) (L : List Nat) (i c : Nat) (h : i < d.length) : gG d L d[i] ≤ c ↔ ∀ k w, EE d i k w → lv L k + w ≤ c := by
 have h0 := a6t d L 0 c (fQ (cB d[i].fQuery false)) 0
 have h1 := a6t d L 1 c (fQ (cB d[i].fQuery true)) 0
 have hm : gG d L d[i] ≤ c ↔ abv d L 0 (fQ (cB d[i].fQuery false)) 0 ≤ c ∧ abv d L 1 (fQ (cB d[i].fQuery true)) 0 ≤ c := by
  unfold gG; split <;> omega
 rw [hm, h0, h1]
 constructor
 ·rintro ⟨⟨_, a⟩, ⟨_, b⟩⟩ k w he
  obtain ⟨x, hx, he⟩ := (a1w d i k w).1 he
  rw [List.getElem?_eq_getElem h] at hx
  cases hx
  rcases he with ⟨rfl, nm, q1, q2⟩ | ⟨rfl, nm, q1, q2⟩
  ·exact a nm ((pW _ _).2 q1) k q2
  ·exact b nm ((pW _ _).2 q1) k q2
 ·intro a
  exact ⟨⟨by omega, fun nm q k hk => a k 0 ((a1w d i k 0).2 ⟨d[i], List.getElem?_eq_getElem h, .inl ⟨rfl, nm, (pW _ _).1 q, hk⟩⟩)⟩,
   ⟨by omega, fun nm q k hk => a k 1 ((a1w d i k 1).2 ⟨d[i], List.getElem?_eq_getElem h, .inr ⟨rfl, nm, (pW _ _).1 q, hk⟩⟩)⟩⟩
structure Low (d : List TDir) (L : List Nat) : Prop where
 len : L.length = d.length
 clo : ∀ F, Clo d.length (EE d) F → ∀ j, lv L j ≤ lv F j
 small : ∀ j, lv L j ≤ d.length
theorem Low.start (d : List TDir) : Low d (List.replicate d.length 0) := ⟨by simp, fun F _ j => by rw [a3S]; omega, fun j => by rw [a3S]; omega⟩
theorem Low.least_le {d : List TDir} {L : List Nat} (h : Low d L) {i : Nat} (hi : i < d.length) {F : List Nat} (hF : Clo d.length (EE d) F) : gG d L d[i] ≤ lv F i :=
 (a1x d L i _ hi).2 fun k w he => by
  have h1 := hF.le i k w he
  have h2 := h.clo F hF k
  omega
theorem Low.over {d : List TDir} {L : List Nat} (h : Low d L) {i : Nat} (hi : i < d.length) (ho : gG d L d[i] > d.length) : ¬ ∃ F, Clo d.length (EE d) F := by
 rintro ⟨F, hF⟩
 obtain ⟨G, hG, hs⟩ := zJ (tL d) hF
 have h1 := h.least_le hi hG
 have h2 := hs i hi
 omega
theorem Low.set {d : List TDir} {L : List Nat} (h : Low d L) {i : Nat} (hi : i < d.length) (ho : ¬ gG d L d[i] > d.length) : Low d (L.set i (gG d L d[i])) := by
 have hl : i < L.length := by rw [h.len]; exact hi
 refine ⟨by simp [h.len], fun F hF j => ?_, fun j => ?_⟩
 ·rw [a1C L i _ j hl]
  split
  ·rename_i e; subst e; exact h.least_le hi hF
  ·exact h.clo F hF j
 ·rw [a1C L i _ j hl]
  split
  ·omega
  ·exact h.small j
theorem Low.done {d : List TDir} {L : List Nat} (h : Low d L) (hc : ∀ i, (hi : i < d.length) → gG d L d[i] ≤ lv L i) : Least d.length (EE d) L :=
 ⟨⟨h.len, fun i k w he => (a1x d L i _ ((tL d).ok i k w he).1).1 (hc i _) k w he⟩, h.clo⟩
theorem Low.sum {d : List TDir} {L : List Nat} (h : Low d L) : rJ L ≤ d.length * d.length := by
 have := a7x L d.length fun i _ => h.small i
 rwa [h.len] at this
end Go.Proofs.YtolgdibgnndoaaaGreat
end
section
set_option maxRecDepth 100000
set_option maxHeartbeats 4000000
namespace Go.Proofs.YtolgdibgnndoaaaGreat
open Go Go.Sx Go.RowKit Go.Proofs
@[go_sem] def pV (n : Nat) : List D := [iv (n : Int)]
theorem a8p (nm : ByteArray) (x : TDir) : FnC Tryz.prog 271 [b3W x, .o (.q [sv nm])] (ob (decide (x.fName = nm))) := by
 refine ent Tryz.func271 rfl Tryz.call271 rfl (fun C => ?_); simp only [go_sem, st0, Tryz.ntmps271]
 refine aD ?_
 exact aA ⟨⟨_, rfl, by simp only [go_sem]⟩, trivial⟩
theorem a5j (d : List TDir) (nm : ByteArray) (hl : d.length ≤ 4300000) : FnC Tryz.prog 238 [.o (.d (.sl (d.map cO))), os nm] (oi (placeD d nm)) := by
 refine ent Tryz.func238 rfl Tryz.call238 rfl (fun C => ?_); simp only [go_sem, st0, Tryz.ntmps238]
 refine jH (a0v _ _ (fun x => decide (x.fName = nm)) d (fun y _ => a8p nm y) (by omega)) ?_
 exact aA ⟨⟨_, rfl, by simp only [go_sem, placeD]⟩, trivial⟩
theorem jZ (d : List TDir) (nm : ByteArray) (hl : d.length ≤ 4300000) : FnC Tryz.prog 211 [.o (.d (.sl (d.map cO))), os nm] (oi (placeD d nm)) := by
 refine ent Tryz.func211 rfl Tryz.call211 rfl (fun C => ?_); simp only [go_sem, st0, Tryz.ntmps211]
 refine aD ?_
 refine bC (α := Nat) (fun k => [(5, oi k)]) (fun _ => []) (fun k => k ≤ d.length ∧ placeD d nm = fF (fun x => decide (x.fName = nm)) (d.drop k) k) (fun k => d.length - k) 0 (fun _ => ?_) ?_ ?_ (fun k hk => ?_)
 ·simp only [go_sem]
 ·simp only [go_sem]; simp
 ·simp [placeD]
 ·obtain ⟨hk, hq⟩ := hk
  simp only [go_sem]
  refine aD ?_
  refine cnd rfl (fun h => ?_) (fun h => ?_)
  ·simp only [decide_eq_true_eq, Int.ofNat_lt] at h
   have hd := List.drop_eq_getElem_cons h
   rw [hd, fF] at hq
   by_cases h2 : d[k].fName = nm
   ·rw [if_pos (by simp [h2])] at hq
    have q0 := @h; have q1 := @h2; have q2 := @decide_true; refine kE ?_
    exact aA ⟨⟨_, rfl, by simp only [go_sem, hq]⟩, trivial⟩
   ·rw [if_neg (by simp [h2])] at hq
    have q0 := @h; have q1 := @h2; have q2 := @decide_false; refine kE ?_
    refine aF (k + 1) ?_ ?_ ?_
    ·simp only [go_sem]; simp
    ·rw [hq]; exact ⟨h, by simp⟩
    ·omega
  ·simp only [decide_eq_false_iff_not] at h
   have e : k = d.length := by omega
   subst e
   simp only [List.drop_length, fF] at hq
   refine aD ?_
   exact aA ⟨⟨_, rfl, by simp only [go_sem, hq]⟩, trivial⟩
theorem oN (L : List Nat) (i : Nat) (h : i < L.length) : L[i] = lv L i := by simp [lv, List.getD_eq_getElem?_getD, h]
def mxN (a b : Nat) : Nat := if b > a then b else a
theorem a7r (a b : Nat) : mxI (a : Int) (b : Int) = ((mxN a b : Nat) : Int) := by
 unfold mxI mxN
 split <;> split <;> omega
theorem a5k (d : List TDir) (L : List Nat) (w : Nat) (names : List ByteArray) (hd : d.length ≤ 4300000) (hL : L.length = d.length) (hn : names.length ≤ 4300000) (hB : ∀ j, lv L j ≤ 1000000) (hw : w ≤ 1) : FnC Tryz.prog 199 [.o (.d (.sl (d.map cO))), .o (.d (.sl (L.map pV))), .o (.d (.sl (names.map eT))), oi (w : Nat)] (oi (abv d L w names 0 : Nat)) := by
 refine ent Tryz.func199 rfl Tryz.call199 rfl (fun C => ?_); simp only [go_sem, st0, Tryz.ntmps199]
 refine aD ?_
 refine bC (α := Nat × Nat) (fun x => [(9, oi (x.2 : Nat)), (15, oi x.1)]) (fun _ => []) (fun x => x.1 ≤ names.length ∧ abv d L w names 0 = abv d L w (names.drop x.1) x.2 ∧ x.2 ≤ 1000001) (fun x => names.length - x.1) (0, 0) (fun _ => ?_) ?_ ?_ (fun x hx => ?_)
 ·simp only [go_sem]
 ·simp only [go_sem]; simp
 ·simp
 ·obtain ⟨k, m⟩ := x
  obtain ⟨hk, hq, hm⟩ := hx
  simp only at hk hq hm
  simp only [go_sem]
  refine aD ?_
  refine cnd rfl (fun h => ?_) (fun h => ?_)
  ·simp only [decide_eq_true_eq, Int.ofNat_lt] at h
   rw [a9Y d L w names k m h] at hq
   rcases placeD_cases d names[k] with hp | ⟨p, hp, hpl⟩
   ·rw [if_neg (by omega)] at hq
    have q0 := @h; have q1 := @hp; have q2 := @decide_true; have q3 := @decide_false; refine a1c (a5j d names[k] hd) ?_
    refine aF (k + 1, m) ?_ ?_ ?_
    ·simp only [go_sem]; simp
    ·exact ⟨by simp only; omega, hq, hm⟩
    ·simp only; omega
   ·have hpL : p < L.length := by omega
    have hb := hB p
    have hg := oN L p hpL
    have hge : (0 : Int) ≤ (p : Int) := by omega
    have hs : ((lv L p : Nat) : Int) + (w : Int) = ((lv L p + w : Nat) : Int) := by omega
    have hmx := a7r m (lv L p + w)
    rw [if_pos (by omega), hp, Int.toNat_natCast] at hq
    have q0 := @h; have q1 := @hp; have q2 := @hge; have q3 := @hpL; have q4 := @hg; have q5 := @hs; have q6 := @hmx; have q7 := @decide_true; have q8 := @decide_false; have q9 := @Int.toNat_natCast; refine a6X (a5j d names[k] hd) ?_
    refine aF (k + 1, mxN m (lv L p + w)) ?_ ?_ ?_
    ·simp only [go_sem]; simp
    ·exact ⟨by simp only; omega, hq, by simp only [mxN]; split <;> omega⟩
    ·simp only; omega
  ·simp only [decide_eq_false_iff_not] at h
   have e : k = names.length := by omega
   subst e
   rw [List.drop_length, abv] at hq
   refine aD ?_
   exact aA ⟨⟨_, rfl, by simp only [go_sem, hq]⟩, trivial⟩
theorem jY {d : List TDir} (h : dL d = true) (i : Nat) (hi : i < d.length) : okQ d[i].fQuery = true := by
 unfold dL at h
 simp only [Bool.and_eq_true, List.all_eq_true, List.mem_range] at h
 have := h.1 i hi
 unfold jE at this
 rw [List.getElem?_eq_getElem hi] at this
 simp only [Bool.and_eq_true] at this
 exact this.2.2
theorem iZ {d : List TDir} (h : dL d = true) : d.length ≤ 5 := by
 unfold dL at h
 simp only [Bool.and_eq_true, decide_eq_true_eq] at h
 omega
theorem a5h (q : List TNode) (hq : okQ q = true) (hw : dR q ≤ 4300000) : FnC Tryz.prog 200 [.o (.d (.sl (q.map bH)))] (.o (.d (.sl ((fQ (cB q false)).map eT)))) := (a6u q hq hw).pu (by simp only [go_sem, and_self])
theorem a5i (q : List TNode) (hq : okQ q = true) (hw : dR q ≤ 4300000) : FnC Tryz.prog 201 [.o (.d (.sl (q.map bH)))] (.o (.d (.sl ((fQ (cB q true)).map eT)))) := (a5m q hq hw).pu (by simp only [go_sem, and_self])
theorem a2H (d : List TDir) (L : List Nat) (names : List ByteArray) (hd : d.length ≤ 4300000) (hL : L.length = d.length) (hn : names.length ≤ 4300000) (hB : ∀ j, lv L j ≤ 1000000) : FnC Tryz.prog 199 [.o (.d (.sl (d.map cO))), .o (.d (.sl (L.map pV))), .o (.d (.sl (names.map eT))), oi 0] (oi (abv d L 0 names 0 : Nat)) := a5k d L 0 names hd hL hn hB (by omega)
theorem a2I (d : List TDir) (L : List Nat) (names : List ByteArray) (hd : d.length ≤ 4300000) (hL : L.length = d.length) (hn : names.length ≤ 4300000) (hB : ∀ j, lv L j ≤ 1000000) : FnC Tryz.prog 199 [.o (.d (.sl (d.map cO))), .o (.d (.sl (L.map pV))), .o (.d (.sl (names.map eT))), oi 1] (oi (abv d L 1 names 0 : Nat)) := a5k d L 1 names hd hL hn hB (by omega)
noncomputable def resL (d : List TDir) : List Nat := if dL d then a6z d.length (EE d) else []
noncomputable def nR (d : List TDir) : Bool := if dL d then a0f d.length (EE d) else false
theorem a9X (L : List Nat) (i v : Nat) : (L.map pV).set i [D.v (Value.int .i64 (v : Int))] = (L.set i v).map pV := by rw [List.map_set]; rfl
structure Pass (d : List TDir) (L : List Nat) (i : Nat) (M : List Nat) (ch : Bool) : Prop where
 low : Low d M
 no : ch = false → M = L ∧ ∀ j, (hj : j < d.length) → j < i → gG d L d[j] ≤ lv L j
 yes : ch = true → rJ L < rJ M
theorem Pass.start {d : List TDir} {L : List Nat} (h : Low d L) : Pass d L 0 L false := ⟨h, fun _ => ⟨rfl, fun j _ hj => by omega⟩, fun h => by cases h⟩
theorem Pass.keep {d : List TDir} {L M : List Nat} {i : Nat} {ch : Bool} (h : Pass d L i M ch) (hi : i < d.length) (hle : ¬ gG d M d[i] > lv M i) : Pass d L (i + 1) M ch := by
 refine ⟨h.low, fun hc => ⟨(h.no hc).1, fun j hj hlt => ?_⟩, h.yes⟩
 by_cases e : j = i
 ·subst e
  have := (h.no hc).1
  subst this
  omega
 ·exact (h.no hc).2 j hj (by omega)
theorem Pass.set {d : List TDir} {L M : List Nat} {i : Nat} {ch : Bool} (h : Pass d L i M ch) (hi : i < d.length) (ho : ¬ gG d M d[i] > d.length) (hgt : gG d M d[i] > lv M i) : Pass d L (i + 1) (M.set i (gG d M d[i])) true := by
 have hl : i < M.length := by rw [h.low.len]; exact hi
 have hs := a5s M i (gG d M d[i]) hl
 refine ⟨h.low.set hi ho, fun hc => (by cases hc), fun _ => ?_⟩
 cases ch with
 | false =>
  have := (h.no rfl).1
  subst this
  omega
 | true =>
  have := h.yes rfl
  omega
theorem iL (d : List TDir) (hd : gL d ≤ 4300000) : FnC Tryz.prog 147 [.o (.d (.sl (d.map cO)))] (.t [(false, [.w 3 1 ((resL d).map pV)]), (false, [.d (bv (nR d))])]) := by
 have hd0 : d.length + dN iU d ≤ 4300000 := hd
 refine ent Tryz.func147 rfl Tryz.call147 rfl (fun C => ?_); simp only [go_sem, st0, Tryz.ntmps147]
 cases hv : dL d
 ·have e1 : resL d = [] := by simp [resL, hv]
  have e2 : nR d = false := by simp [nR, hv]
  have q0 := @hv; refine lK (yE d hd) ?_
  exact aA ⟨⟨_, rfl, by simp only [go_sem, e1, e2]⟩, by simp [dQ]⟩
 have e1 : resL d = a6z d.length (EE d) := by simp [resL, hv]
 have e2 : nR d = a0f d.length (EE d) := by simp [nR, hv]
 have hl5 := iZ hv
 have q0 := @hv; refine lK (yE d hd) ?_
 refine bC (α := List Nat × Bool) (fun x => [(5, ob x.2)]) (fun x => [(0, .row 3 1 (x.1.map pV) true)]) (fun x => Low d x.1 ∧ (x.2 = false → ∀ i, (hi : i < d.length) → gG d x.1 d[i] ≤ lv x.1 i)) (fun x => if x.2 then d.length * d.length - rJ x.1 + 1 else 0) (List.replicate d.length 0, true) (fun _ => ?_) ?_ ?_ (fun x hx => ?_)
 ·simp only [go_sem]
 ·simp only [go_sem]; simp [pV]
 ·exact ⟨Low.start d, fun h => by cases h⟩
 ·obtain ⟨L, ch⟩ := x
  obtain ⟨hlow, hdone⟩ := hx
  simp only at hlow hdone
  simp only [go_sem]
  refine aD ?_
  refine cnd rfl (fun h => ?_) (fun h => ?_)
  ·subst h
   refine aD ?_
   refine bC (α := Nat × List Nat × Bool) (fun x => [(5, ob x.2.2), (18, oi x.1)]) (fun x => [(0, .row 3 1 (x.2.1.map pV) true)]) (fun x => x.1 ≤ d.length ∧ Pass d L x.1 x.2.1 x.2.2) (fun x => d.length - x.1) (0, L, false) (fun _ => ?_) ?_ ?_ (fun x hx => ?_)
   ·simp only [go_sem]
   ·simp only [go_sem]; simp
   ·exact ⟨by simp, Pass.start hlow⟩
   ·obtain ⟨i, M, c⟩ := x
    obtain ⟨hi, hp⟩ := hx
    simp only at hi hp
    simp only [go_sem]
    refine aD ?_
    refine cnd rfl (fun h => ?_) (fun h => ?_)
    ·simp only [decide_eq_true_eq, Int.ofNat_lt] at h
     have hq := jY hv i h
     have hq9 := lH hq
     have hwd := dI iU d h
     have hwq : dR d[i].fQuery ≤ iU d[i] := by unfold iU; omega
     have hML : M.length = d.length := hp.low.len
     have hiM : i < M.length := by omega
     have hB : ∀ j, lv M j ≤ 1000000 := fun j => by have := hp.low.small j; omega
     have ho1 := a2J (cB d[i].fQuery false)
     have ho2 := a2J (cB d[i].fQuery true)
     have ho3 := jG d[i].fQuery false d[i].fQuery.length
     have ho4 := jG d[i].fQuery true d[i].fQuery.length
     have hk1 : (fQ (cB d[i].fQuery false)).length ≤ 4300000 := by unfold cB at ho1 ⊢; omega
     have hk2 : (fQ (cB d[i].fQuery true)).length ≤ 4300000 := by unfold cB at ho2 ⊢; omega
     have hmx : mxI (abv d M 0 (fQ (cB d[i].fQuery false)) 0 : Nat) (abv d M 1 (fQ (cB d[i].fQuery true)) 0 : Nat) = ((gG d M d[i] : Nat) : Int) := by
      rw [a7r]; rfl
     have hg := oN M i hiM
     have qH := aI @h @hmx; repeat' (with_reducible first | refine nY ?_ | (refine mX ?_; try simp only [go_sem, qH]) | refine kD ?_ | refine rD ?_ | refine cP (a5h d[i].fQuery hq (by omega)) ?_ | refine cP (a5i d[i].fQuery hq (by omega)) ?_ | refine vO (a2H d M (fQ (cB d[i].fQuery false)) (by omega) hML hk1 hB) ?_ | refine vQ (a2H d M (fQ (cB d[i].fQuery false)) (by omega) hML hk1 hB) ?_ | refine vO (a2I d M (fQ (cB d[i].fQuery true)) (by omega) hML hk2 hB) ?_ | refine vQ (a2I d M (fQ (cB d[i].fQuery true)) (by omega) hML hk2 hB) ?_ | refine aO ?_ | fail)
     refine cnd rfl (fun ho => ?_) (fun ho => ?_)
     ·simp only [decide_eq_true_eq, Int.ofNat_lt] at ho
      have hno := hp.low.over h ho
      have f1 := a3R hno
      have f2 := a5r hno
      refine aD ?_
      exact aA ⟨⟨_, rfl, by simp only [go_sem, e1, e2, f1, f2]⟩, by simp [dQ]⟩
     ·simp only [decide_eq_false_iff_not, Int.ofNat_lt] at ho
      have q0 := @h; have q1 := @hiM; have q2 := @hg; refine kE ?_
      refine cnd rfl (fun hgt => ?_) (fun hgt => ?_)
      ·simp only [decide_eq_true_eq, Int.ofNat_lt] at hgt
       have q0 := @h; have q1 := @hiM; have q2 := @hg; refine kE ?_
       refine aF (i + 1, M.set i (gG d M d[i]), true) ?_ ?_ ?_
       ·simp only [go_sem, ← a9X]; simp
       ·exact ⟨by simp only; omega, hp.set h ho hgt⟩
       ·simp only; omega
      ·simp only [decide_eq_false_iff_not, Int.ofNat_lt] at hgt
       have q0 := @h; have q1 := @hiM; have q2 := @hg; refine kE ?_
       refine aF (i + 1, M, c) ?_ ?_ ?_
       ·simp only [go_sem]; simp
       ·exact ⟨by simp only; omega, hp.keep h hgt⟩
       ·simp only; omega
    ·simp only [decide_eq_false_iff_not] at h
     have e : i = d.length := by omega
     subst e
     refine aD ?_
     refine aF (M, c) ?_ ?_ ?_
     ·simp only [go_sem]; simp
     ·exact ⟨hp.low, fun hc i hi => by
       simp only at hc
       obtain ⟨h1, h2⟩ := hp.no hc
       subst h1
       exact h2 i hi hi⟩
     ·have hs := hp.low.sum
      simp only
      cases c with
      | false => simp
      | true =>
       have := hp.yes rfl
       simp only [if_true]
       omega
  ·subst h
   have hL := hlow.done (hdone rfl)
   have f1 := a3Q hL
   have f2 := zI hL.clo
   refine aD ?_
   exact aA ⟨⟨_, rfl, by simp only [go_sem, e1, e2, f1, f2]⟩, by simp [dQ]⟩
theorem a5f (q : List TNode) (hq : okQ q = true) (hw : dR q ≤ 4300000) : FnC Tryz.prog 210 [.o (.d (.sl (q.map bH)))] (.o (.d (.sl ((putL (cB q false)).map eT)))) := (a6v q hq hw).pu (by simp only [go_sem, and_self])
theorem a5g (q : List TNode) (hq : okQ q = true) (hw : dR q ≤ 4300000) : FnC Tryz.prog 212 [.o (.d (.sl (q.map bH)))] (.o (.d (.sl ((putL (cB q true)).map eT)))) := (a5n q hq hw).pu (by simp only [go_sem, and_self])
theorem a0b (d : List TDir) (i w : Nat) (names : List ByteArray) (k : Nat) (h : k < names.length) : dM d i w (names.take (k + 1)) = dM d i w (names.take k) ++ (if 0 ≤ placeD d names[k] then [(i, (placeD d names[k]).toNat, w)] else []) := by
 unfold dM
 rw [List.take_succ_eq_append_getElem h, List.flatMap_append]
 simp
theorem nJ (d : List TDir) (i w : Nat) (names : List ByteArray) : (dM d i w names).length ≤ names.length := by
 induction names with
 | nil => simp [dM]
 | cons x l ih =>
  have e : dM d i w (x :: l) = (if 0 ≤ placeD d x then [(i, (placeD d x).toNat, w)] else []) ++ dM d i w l := by simp [dM]
  rw [e, List.length_append, List.length_cons]
  split <;> simp <;> omega
theorem pU (d : List TDir) (i w : Nat) (hi : i < d.length) (hw : w ≤ 1) (names : List ByteArray) (x : Nat × Nat × Nat) (hx : x ∈ dM d i w names) : x.1 < d.length ∧ x.2.2 ≤ 1 := by
 obtain ⟨nm, _, k, _, rfl⟩ := (wL d i w names x).1 hx
 exact ⟨hi, hw⟩
def iY (d : List TDir) (k : Nat) : List (Nat × Nat × Nat) := (List.range k).flatMap (oO d)
theorem a0c (d : List TDir) (k : Nat) : iY d (k + 1) = iY d k ++ oO d k := by
 simp [iY, List.range_succ, List.flatMap_append]
theorem a8o (d : List TDir) (i : Nat) (h : i < d.length) : oO d i = dM d i 0 (putL (cB d[i].fQuery false)) ++ dM d i 1 (putL (cB d[i].fQuery true)) := by
 unfold oO; rw [List.getElem?_eq_getElem h]
theorem a6s (d : List TDir) (hv : dL d = true) (i : Nat) : (oO d i).length ≤ 18 := by
 unfold oO
 cases hx : d[i]? with
 | none => simp
 | some x =>
  have hi := (List.getElem?_eq_some_iff.1 hx).1
  have hxe : d[i] = x := (List.getElem?_eq_some_iff.1 hx).2
  have hq := (lH (jY hv i hi)).2
  rw [hxe] at hq
  have h1 := nJ d i 0 (putL (cB x.fQuery false))
  have h2 := nJ d i 1 (putL (cB x.fQuery true))
  have h3 := lT (cB x.fQuery false)
  have h4 := lT (cB x.fQuery true)
  have h5 : (cB x.fQuery false).length ≤ x.fQuery.length := jG _ _ _
  have h6 : (cB x.fQuery true).length ≤ x.fQuery.length := jG _ _ _
  simp only [List.length_append]
  omega
theorem a1u (d : List TDir) (hv : dL d = true) (k : Nat) : (iY d k).length ≤ 18 * k := by
 induction k with
 | zero => simp [iY]
 | succ k ih => rw [a0c, List.length_append]; have := a6s d hv k; omega
theorem a2G (d : List TDir) (k : Nat) (x : Nat × Nat × Nat) (hx : x ∈ iY d k) : x.1 < d.length ∧ x.2.2 ≤ 1 := by
 unfold iY at hx
 obtain ⟨i, _, h⟩ := List.mem_flatMap.1 hx
 unfold oO at h
 cases hd : d[i]? with
 | none => rw [hd] at h; simp at h
 | some y =>
  rw [hd] at h
  have hi := (List.getElem?_eq_some_iff.1 hd).1
  simp only [List.mem_append] at h
  rcases h with h | h
  ·exact pU d i 0 hi (by omega) _ x h
  ·exact pU d i 1 hi (by omega) _ x h
theorem a7q {i p w : Nat} {L : List Nat} (h : lv L p + w > lv L i) : up1 i p w L = L.set i (lv L p + w) := by unfold up1; rw [if_pos h]
theorem a9W {i p w : Nat} {L : List Nat} (h : ¬ lv L p + w > lv L i) : up1 i p w L = L := by unfold up1; rw [if_neg h]
theorem a1v (d : List TDir) (L : List Nat) (hv : dL d = true) (hd : gL d ≤ 4300000) (hL : L.length = d.length) (hB : ∀ j, lv L j ≤ 1000000) : FnC Tryz.prog 154 [.o (.d (.sl (d.map cO))), .o (.d (.sl (L.map pV)))] (.o (.w 3 1 ((ups (fU d) L).map pV))) := by
 have hd0 : d.length + dN iU d ≤ 4300000 := hd
 have hl5 := iZ hv
 refine ent Tryz.func154 rfl Tryz.call154 rfl (fun C => ?_); simp only [go_sem, st0, Tryz.ntmps154]
 refine aD ?_
 refine bC (α := Nat) (fun i => [(5, .o (.s 0)), (13, .o .u), (15, .o .u), (6, oi i)]) (fun i => [(0, .row 3 1 ((ups (iY d i) L).map pV) true)]) (fun i => i ≤ d.length) (fun i => d.length - i) 0 (fun _ => ?_) ?_ ?_ (fun i hi => ?_)
 ·simp only [go_sem]
 ·simp only [go_sem]; simp [iY, ups]
 ·simp
 ·simp only [go_sem]
  refine aD ?_
  refine cnd rfl (fun h => ?_) (fun h => ?_)
  ·simp only [decide_eq_true_eq, Int.ofNat_lt] at h
   have hq := jY hv i h
   have hwd := dI iU d h
   have hwq : dR d[i].fQuery ≤ iU d[i] := by unfold iU; omega
   have hsuc := a0c d i
   rw [a8o d i h] at hsuc
   have hML : (ups (iY d i) L).length = d.length := by rw [uN]; exact hL
   have hMB := mP (iY d i) L 1000000 (fun x hx => by rw [hL]; exact a2G d i x hx) hB
   have hKl := a1u d hv i
   have hfin : ups (iY d (i + 1)) L = ups (dM d i 1 (putL (cB d[i].fQuery true))) (ups (dM d i 0 (putL (cB d[i].fQuery false))) (ups (iY d i) L)) := by
    rw [hsuc, a0J, a0J]
   have hn1 := lT (cB d[i].fQuery false)
   have hn2 := lT (cB d[i].fQuery true)
   have hn3 : (cB d[i].fQuery false).length ≤ d[i].fQuery.length := jG _ _ _
   have hn4 : (cB d[i].fQuery true).length ≤ d[i].fQuery.length := jG _ _ _
   have hq9 := lH hq
   have hMB2 : ∀ j, lv (ups (iY d i) L) j ≤ 1000200 := fun j => by have := hMB j; omega
   generalize ups (iY d i) L = M at *
   have q0 := @h; refine lK (a5f d[i].fQuery hq (by omega)) ?_
   generalize putL (cB d[i].fQuery false) = P at *
   refine bC (α := Nat) (fun k => [(8, oi k)]) (fun k => [(0, .row 3 1 ((ups (dM d i 0 (P.take k)) M).map pV) true)]) (fun k => k ≤ P.length) (fun k => P.length - k) 0 (fun _ => ?_) ?_ ?_ (fun k hk => ?_)
   ·simp only [go_sem]
   ·simp only [go_sem]; simp [dM, ups]
   ·simp
   ·simp only [go_sem]
    refine aD ?_
    refine cnd rfl (fun h1 => ?_) (fun h1 => ?_)
    ·simp only [decide_eq_true_eq, Int.ofNat_lt] at h1
     have ht := a0b d i 0 P k h1
     have hXL : (ups (dM d i 0 (P.take k)) M).length = d.length := by rw [uN]; exact hML
     have hXB := mP (dM d i 0 (P.take k)) M 1000200 (fun x hx => by rw [hML]; exact pU d i 0 h (by omega) _ x hx) hMB2
     have hel := nJ d i 0 (P.take k)
     rw [List.length_take] at hel
     have hup : ups (dM d i 0 (P.take (k + 1))) M = ups (if 0 ≤ placeD d P[k] then [(i, (placeD d P[k]).toNat, 0)] else []) (ups (dM d i 0 (P.take k)) M) := by rw [ht, a0J]
     generalize ups (dM d i 0 (P.take k)) M = X at *
     have hiX : i < X.length := by omega
     have hg := oN X i hiX
     rcases placeD_cases d P[k] with hp | ⟨p, hp, hpl⟩
     ·rw [if_neg (by omega)] at hup
      have q0 := @h1; have q1 := @hp; have q2 := @decide_true; have q3 := @decide_false; refine a1c (jZ d P[k] (by omega)) ?_
      refine aF (k + 1) ?_ ?_ ?_
      ·simp only [go_sem, hup, ups]; simp
      ·omega
      ·omega
     ·have hpX : p < X.length := by omega
      have hge : (0 : Int) ≤ (p : Int) := by omega
      have hgp := oN X p hpX
      rw [if_pos (by omega), hp, Int.toNat_natCast] at hup
      simp only [ups] at hup
      by_cases hc : lv X p > lv X i
      ·have hcI : ((lv X i : Nat) : Int) < ((lv X p : Nat) : Int) := by omega
       rw [a7q (by omega), Nat.add_zero] at hup
       have qH := aI @h1 (aI @hp (aI @hge (aI @hpX (aI @hiX (aI @hg (aI @hgp (aI @hcI (aI @decide_true (aI @decide_false @Int.toNat_natCast))))))))); repeat' (with_reducible first | refine nY ?_ | (refine mX ?_; try simp only [go_sem, qH]) | refine kD ?_ | refine rD ?_ | refine cP (jZ d P[k] (by omega)) ?_ | refine aO ?_ | fail)
       refine aF (k + 1) ?_ ?_ ?_
       ·simp only [go_sem, hup, ← a9X]; simp
       ·omega
       ·omega
      ·have hcI : ¬ ((lv X i : Nat) : Int) < ((lv X p : Nat) : Int) := by omega
       rw [a9W (by omega)] at hup
       have qH := aI @h1 (aI @hp (aI @hge (aI @hpX (aI @hiX (aI @hg (aI @hgp (aI @hcI (aI @decide_true (aI @decide_false @Int.toNat_natCast))))))))); repeat' (with_reducible first | refine nY ?_ | (refine mX ?_; try simp only [go_sem, qH]) | refine kD ?_ | refine rD ?_ | refine cP (jZ d P[k] (by omega)) ?_ | refine aO ?_ | fail)
       refine aF (k + 1) ?_ ?_ ?_
       ·simp only [go_sem, hup]; simp
       ·omega
       ·omega
    ·simp only [decide_eq_false_iff_not] at h1
     have e : k = P.length := by omega
     subst e
     rw [List.take_length]
     have hXL : (ups (dM d i 0 P) M).length = d.length := by rw [uN]; exact hML
     have hXB := mP (dM d i 0 P) M 1000200 (fun x hx => by rw [hML]; exact pU d i 0 h (by omega) _ x hx) hMB2
     have hel := nJ d i 0 P
     have hXB2 : ∀ j, lv (ups (dM d i 0 P) M) j ≤ 1000400 := fun j => by have := hXB j; omega
     generalize ups (dM d i 0 P) M = Y at *
     have q0 := @h; refine lK (a5g d[i].fQuery hq (by omega)) ?_
     generalize putL (cB d[i].fQuery true) = N at *
     refine bC (α := Nat) (fun k => [(11, oi k)]) (fun k => [(0, .row 3 1 ((ups (dM d i 1 (N.take k)) Y).map pV) true)]) (fun k => k ≤ N.length) (fun k => N.length - k) 0 (fun _ => ?_) ?_ ?_ (fun k hk => ?_)
     ·simp only [go_sem]
     ·simp only [go_sem]; simp [dM, ups]
     ·simp
     ·simp only [go_sem]
      refine aD ?_
      refine cnd rfl (fun h1 => ?_) (fun h1 => ?_)
      ·simp only [decide_eq_true_eq, Int.ofNat_lt] at h1
       have ht := a0b d i 1 N k h1
       have hZL : (ups (dM d i 1 (N.take k)) Y).length = d.length := by rw [uN]; exact hXL
       have hZB := mP (dM d i 1 (N.take k)) Y 1000400 (fun x hx => by rw [hXL]; exact pU d i 1 h (by omega) _ x hx) hXB2
       have hel := nJ d i 1 (N.take k)
       rw [List.length_take] at hel
       have hup : ups (dM d i 1 (N.take (k + 1))) Y = ups (if 0 ≤ placeD d N[k] then [(i, (placeD d N[k]).toNat, 1)] else []) (ups (dM d i 1 (N.take k)) Y) := by rw [ht, a0J]
       generalize ups (dM d i 1 (N.take k)) Y = X at *
       have hiX : i < X.length := by omega
       have hg := oN X i hiX
       rcases placeD_cases d N[k] with hp | ⟨p, hp, hpl⟩
       ·rw [if_neg (by omega)] at hup
        have q0 := @h1; have q1 := @hp; have q2 := @decide_true; have q3 := @decide_false; refine a1c (jZ d N[k] (by omega)) ?_
        refine aF (k + 1) ?_ ?_ ?_
        ·simp only [go_sem, hup, ups]; simp
        ·omega
        ·omega
       ·have hpX : p < X.length := by omega
        have hge : (0 : Int) ≤ (p : Int) := by omega
        have hgp := oN X p hpX
        have hbp := hZB p
        have hs1 : ((lv X p : Nat) : Int) + 1 = ((lv X p + 1 : Nat) : Int) := by omega
        rw [if_pos (by omega), hp, Int.toNat_natCast] at hup
        simp only [ups] at hup
        by_cases hc : lv X p + 1 > lv X i
        ·have hcI : ((lv X i : Nat) : Int) < ((lv X p + 1 : Nat) : Int) := by omega
         rw [a7q hc] at hup
         have qH := aI @h1 (aI @hp (aI @hge (aI @hpX (aI @hiX (aI @hg (aI @hgp (aI @hs1 (aI @hcI (aI @decide_true (aI @decide_false @Int.toNat_natCast)))))))))); repeat' (with_reducible first | refine nY ?_ | (refine mX ?_; try simp only [go_sem, qH]) | refine kD ?_ | refine rD ?_ | refine cP (jZ d N[k] (by omega)) ?_ | refine aO ?_ | fail)
         refine aF (k + 1) ?_ ?_ ?_
         ·simp only [go_sem, hup, ← a9X]; simp
         ·omega
         ·omega
        ·have hcI : ¬ ((lv X i : Nat) : Int) < ((lv X p + 1 : Nat) : Int) := by omega
         rw [a9W hc] at hup
         have qH := aI @h1 (aI @hp (aI @hge (aI @hpX (aI @hiX (aI @hg (aI @hgp (aI @hs1 (aI @hcI (aI @decide_true (aI @decide_false @Int.toNat_natCast)))))))))); repeat' (with_reducible first | refine nY ?_ | (refine mX ?_; try simp only [go_sem, qH]) | refine kD ?_ | refine rD ?_ | refine cP (jZ d N[k] (by omega)) ?_ | refine aO ?_ | fail)
         refine aF (k + 1) ?_ ?_ ?_
         ·simp only [go_sem, hup]; simp
         ·omega
         ·omega
      ·simp only [decide_eq_false_iff_not] at h1
       have e : k = N.length := by omega
       subst e
       rw [List.take_length]
       refine aD ?_
       refine aF (i + 1) ?_ ?_ ?_
       ·simp only [go_sem, hfin]; simp
       ·omega
       ·omega
  ·simp only [decide_eq_false_iff_not] at h
   have e : i = d.length := by omega
   subst e
   refine aD ?_
   exact aA ⟨⟨_, rfl, by simp only [go_sem, iY, fU]⟩, trivial⟩
end Go.Proofs.YtolgdibgnndoaaaGreat
end
