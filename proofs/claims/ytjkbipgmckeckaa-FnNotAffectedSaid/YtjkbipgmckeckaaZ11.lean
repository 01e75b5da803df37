/- Joined texts. -/
import Derived.Test.YtjkbipgmckeckaaZ08
import Derived.Test.YtjkbipgmckeckaaZ10
import Derived.Test.YtjkbipgmckeckaaZ07
import Derived.Test.YtjkbipgmckeckaaZ04
import Derived.Test.YtjkbipgmckeckaaZ09
set_option linter.all false
section
set_option maxRecDepth 100000
set_option maxHeartbeats 4000000
namespace Go.Proofs.Ytjkbipgmckeckaa
open Go Go.Sx Go.RowKit Go.Proofs
theorem a5s {q : List TNode} {f : TFile} {r : List TResult} (h : okQ q = true) (k i : Nat) (b : Bool) (hk : k ≤ 9) : (wt q f r k i b).fSet.length ≤ 1048576 := by
 have h1 := a4h (wt q f r k i b)
 have h2 := a8d (f := f) (r := r) h k i b
 have h3 : 2 ^ k ≤ 2 ^ 9 := Nat.pow_le_pow_right (by omega) hk
 have h4 : (2 : Nat) ^ 9 = 512 := rfl
 omega
theorem iX {f : Nat} {args : List SV} {e : TEdit} (h : FnC Try.prog f args (a1F e)) (ha : args.map (dJ []) = args) (hf : args.all dF = true) : FnC Try.prog f args (xA e) := h.pure ha hf (by simp only [go_sem]) (by simp only [go_sem])
theorem pX (q : List TNode) (f : TFile) (r : List TResult) (hv : okQ q = true) (hf : bK f ≤ 1048576) (hr : bR r ≤ 1048576) : ∀ (k i : Nat) (b : Bool), i < k → k ≤ q.length → FnC Try.prog 41 [.o (.d (.sl (q.map bQ))), oi (i : Nat), cK f, .o (.d (.sl (r.map cO))), ob b] (a1F (wt q f r k i b)) := by
 intro k
 induction k with
 | zero => intro i b hi _; omega
 | succ k ih => ?_
 intro i b hi hk
 have hlt : i < q.length := by omega
 have hq9 := (sD hv).2
 have hn := List.getElem?_eq_getElem hlt
 have hok := a0H hv hn
 have hop := tO hok
 have hM := a0F q f r hv (by omega) (by omega) (k + 1) i hi hk
 by_cases hm : mt q f r (k + 1) i = b
 ·have e : wt q f r (k + 1) i b = ⟨true, []⟩ := by simp [wt, hn, hm]
  rw [e]
  refine ent Try.func41 rfl Try.call41 rfl (fun C => ?_); simp only [go_sem, st0, Try.ntmps41]
  rw [hm] at hM
  cases b
  all_goals
   have q0 := @Bool.true_beq; have q1 := @Bool.false_beq; have q2 := @hlt; refine a5f hM ?_
   exact aA ⟨⟨_, rfl, by simp only [go_sem]⟩, trivial⟩
 have hmb : mt q f r (k + 1) i = !b := by cases b <;> simp_all
 rw [hmb] at hM
 by_cases h3 : q[i].fOp = 3
 ·cases b
  ·have e : wt q f r (k + 1) i false = ⟨false, []⟩ := by simp [wt, hn, hm, h3]
   rw [e]
   simp only [Bool.not_false] at hM
   refine ent Try.func41 rfl Try.call41 rfl (fun C => ?_); simp only [go_sem, st0, Try.ntmps41]
   have q0 := @Bool.true_beq; have q1 := @Bool.false_beq; have q2 := @hlt; have q3 := @h3; have q4 := @decide_true; have q5 := @decide_false; refine a1A hM ?_
   exact aA ⟨⟨_, rfl, by simp only [go_sem]⟩, trivial⟩
  ·have e : wt q f r (k + 1) i true = ⟨true, [⟨q[i].fName, q[i].fValue⟩]⟩ := by simp [wt, hn, hm, h3]
   rw [e]
   simp only [Bool.not_true] at hM
   refine ent Try.func41 rfl Try.call41 rfl (fun C => ?_); simp only [go_sem, st0, Try.ntmps41]
   have q0 := @Bool.true_beq; have q1 := @Bool.false_beq; have q2 := @hlt; have q3 := @h3; have q4 := @decide_true; have q5 := @decide_false; refine a1A hM ?_
   exact aA ⟨⟨_, rfl, by simp only [go_sem]⟩, trivial⟩
 by_cases h2 : q[i].fOp = 2
 ·cases b
  ·have e : wt q f r (k + 1) i false = ⟨true, [⟨q[i].fName, ⟨0, 0, ⟨#[]⟩⟩⟩]⟩ := by simp [wt, hn, hm, h2]
   rw [e]
   simp only [Bool.not_false] at hM
   refine ent Try.func41 rfl Try.call41 rfl (fun C => ?_); simp only [go_sem, st0, Try.ntmps41]
   have q0 := @Bool.true_beq; have q1 := @Bool.false_beq; have q2 := @hlt; have q3 := @h2; have q4 := @h3; have q5 := @decide_true; have q6 := @decide_false; refine a7N hM ?_
   exact aA ⟨⟨_, rfl, by simp only [go_sem]⟩, trivial⟩
  ·have e : wt q f r (k + 1) i true = ⟨false, []⟩ := by simp [wt, hn, hm, h2]
   rw [e]
   simp only [Bool.not_true] at hM
   refine ent Try.func41 rfl Try.call41 rfl (fun C => ?_); simp only [go_sem, st0, Try.ntmps41]
   have q0 := @Bool.true_beq; have q1 := @Bool.false_beq; have q2 := @hlt; have q3 := @h2; have q4 := @h3; have q5 := @decide_true; have q6 := @decide_false; refine a7N hM ?_
   exact aA ⟨⟨_, rfl, by simp only [go_sem]⟩, trivial⟩
 by_cases h5 : q[i].fOp = 5
 ·obtain ⟨l, hl, hli⟩ := dX hok (.inl h5)
  have e : wt q f r (k + 1) i b = wt q f r k l (!b) := by simp [wt, hn, hm, h5, hl]
  rw [e]
  refine ent Try.func41 rfl Try.call41 rfl (fun C => ?_); simp only [go_sem, st0, Try.ntmps41]
  cases b
  ·simp only [Bool.not_true, Bool.not_false] at hM ⊢
   have q0 := @Bool.true_beq; have q1 := @Bool.false_beq; have q2 := @hlt; have q3 := @h2; have q4 := @h3; have q5 := @h5; have q6 := @decide_true; have q7 := @decide_false; have q8 := @hl; refine a2G hM (ih l true (by omega) (by omega)) ?_
   exact aA ⟨⟨_, rfl, by simp only [go_sem]⟩, trivial⟩
  ·simp only [Bool.not_true, Bool.not_false] at hM ⊢
   have q0 := @Bool.true_beq; have q1 := @Bool.false_beq; have q2 := @hlt; have q3 := @h2; have q4 := @h3; have q5 := @h5; have q6 := @decide_true; have q7 := @decide_false; have q8 := @hl; refine a2G hM (ih l false (by omega) (by omega)) ?_
   exact aA ⟨⟨_, rfl, by simp only [go_sem]⟩, trivial⟩
 by_cases h67 : q[i].fOp = 6 ∨ q[i].fOp = 7
 ·obtain ⟨l, hl, hli⟩ := dX hok (.inr h67)
  obtain ⟨m, hr2, hmi⟩ := gL hok h67
  have iL := ih l b (by omega) (by omega)
  have iR := ih m b (by omega) (by omega)
  have lL := a5s (f := f) (r := r) hv k l b (by omega)
  have lR := a5s (f := f) (r := r) hv k m b (by omega)
  by_cases h6 : q[i].fOp = 6
  ·have e : wt q f r (k + 1) i b = if b then jM (wt q f r k l b) (wt q f r k m b) else sH (wt q f r k l b) (wt q f r k m b) := by simp [wt, hn, hm, h6, hl, hr2]
   rw [e]
   generalize wt q f r k l b = A at *
   generalize wt q f r k m b = B at *
   have pL := iX iL (by simp only [go_sem]) (by simp only [go_sem])
   have pR := iX iR (by simp only [go_sem]) (by simp only [go_sem])
   cases b
   ·simp only [Bool.not_false, if_false, Bool.false_eq_true] at hM ⊢
    cases ha : A.fOK <;> cases hb : B.fOK
    ·refine ent Try.func41 rfl Try.call41 rfl (fun C => ?_); simp only [go_sem, st0, Try.ntmps41]
     have qH := aI @Bool.true_beq (aI @Bool.false_beq (aI @hlt (aI @h2 (aI @h3 (aI @h5 (aI @h6 (aI @decide_true (aI @decide_false (aI @hl (aI @hr2 (aI @ha @hb))))))))))); repeat' (with_reducible first | refine nY ?_ | (refine mX ?_; try simp only [go_sem, qH]) | refine kD ?_ | (apply rE [14,15,16,17] [] [0,1,2,3,4,5,6,7,8,9,10,11,12,13] [0,1,2,3,4,5,6,7,8,9,10,11,12,13] ((.c 14 [] [0,1,2,3,4,5,6,7,8,9,10,11,12,13] (.c 15 [] [0,1,2,3,4,5,6,7,8,9,10,11,12,13] (.c 16 [] [] (.c 17 [] [] .n .n) .n) .n) (.c 15 [] [0,1,2,3,4,5,6,7,8,9,10,11,12,13] (.c 14 [] [0,1,2,3,4,5,6,7,8,9,10,11,12,13] (.c 16 [] [] (.c 17 [] [] .n .n) .n) .n) .n))) (by simp only [go_sem]; rfl) (by simp only [go_sem]; rfl) (by simp only [go_sem]; rfl) (by decide +kernel); (focus simp only [go_sem]; done)) | exact fB | refine dM (uX ?_) ?_ | refine dN (aX ?_) ?_ | refine dO (aX ?_) ?_ | exact dL | (refine bI [(3, 4)] (by simp only [go_sem]; rfl) ?_; exact rfl) | exact oH | (refine uA ?_; simp only [go_sem, qH]; (repeat' first | omega | refine And.intro ?_ ?_ | refine cP hM ?_ | refine cP pL ?_ | refine cP pR ?_ | (refine mX ?_; simp only [go_sem, qH] <;> fail)); done) | refine rD ?_ | refine cP hM ?_ | refine cP pL ?_ | refine cP pR ?_ | refine aO ?_ | fail)
     exact aA ⟨⟨_, rfl, by simp only [go_sem, sH, ha, hb, if_true, if_false, Bool.false_eq_true]⟩, trivial⟩
    ·refine ent Try.func41 rfl Try.call41 rfl (fun C => ?_); simp only [go_sem, st0, Try.ntmps41]
     have qH := aI @Bool.true_beq (aI @Bool.false_beq (aI @hlt (aI @h2 (aI @h3 (aI @h5 (aI @h6 (aI @decide_true (aI @decide_false (aI @hl (aI @hr2 (aI @ha @hb))))))))))); repeat' (with_reducible first | refine nY ?_ | (refine mX ?_; try simp only [go_sem, qH]) | refine kD ?_ | (apply rE [13,14,15,16,17] [] [0,1,2,3,4,5,6,7,8,9,10,11,12] [0,1,2,3,4,5,6,7,8,9,10,11,12] ((.c 13 [] [] (.c 14 [] [] (.c 15 [] [] (.c 16 [] [] (.c 17 [] [] .n .n) .n) .n) (.c 15 [] [] (.c 14 [] [] (.c 16 [] [] (.c 17 [] [] .n .n) .n) .n) .n)) (.c 14 [] [0,1,2,3,4,5,6,7,8,9,10,11,12] (.c 13 [] [] (.c 15 [] [] (.c 16 [] [] (.c 17 [] [] .n .n) .n) .n) (.c 15 [] [0,1,2,3,4,5,6,7,8,9,10,11,12] (.c 13 [] [] (.c 16 [] [] (.c 17 [] [] .n .n) .n) .n) .n)) (.c 15 [] [0,1,2,3,4,5,6,7,8,9,10,11,12] (.c 13 [] [] (.c 14 [] [] (.c 16 [] [] (.c 17 [] [] .n .n) .n) .n) (.c 14 [] [0,1,2,3,4,5,6,7,8,9,10,11,12] (.c 13 [] [] (.c 16 [] [] (.c 17 [] [] .n .n) .n) .n) .n)) .n)))) (by simp only [go_sem]; rfl) (by simp only [go_sem]; rfl) (by simp only [go_sem]; rfl) (by decide +kernel); (focus simp only [go_sem]; done)) | exact fB | refine dM (uX ?_) ?_ | refine dN (aX ?_) ?_ | refine dO (aX ?_) ?_ | exact dL | (refine bI [(4, 5)] (by simp only [go_sem]; rfl) ?_; exact rfl) | (refine bI [(3, 4)] (by simp only [go_sem]; rfl) ?_; exact rfl) | (refine bI [(3, 5), (4, 5)] (by simp only [go_sem]; rfl) ?_; exact rfl) | (refine bI [(3, 4), (4, 5)] (by simp only [go_sem]; rfl) ?_; exact rfl) | (refine bI [(3, 5)] (by simp only [go_sem]; rfl) ?_; exact rfl) | exact oH | (refine uA ?_; simp only [go_sem, qH]; (repeat' first | omega | refine And.intro ?_ ?_ | refine cP hM ?_ | refine cP pL ?_ | refine cP iR ?_ | (refine mX ?_; simp only [go_sem, qH] <;> fail)); done) | refine rD ?_ | refine cP hM ?_ | refine cP pL ?_ | refine cP iR ?_ | refine aO ?_ | fail)
     exact aA ⟨⟨_, rfl, by simp only [go_sem, sH, ha, hb, if_true, if_false, Bool.false_eq_true]⟩, trivial⟩
    ·refine ent Try.func41 rfl Try.call41 rfl (fun C => ?_); simp only [go_sem, st0, Try.ntmps41]
     have qH := aI @Bool.true_beq (aI @Bool.false_beq (aI @hlt (aI @h2 (aI @h3 (aI @h5 (aI @h6 (aI @decide_true (aI @decide_false (aI @hl (aI @hr2 (aI @ha @hb))))))))))); repeat' (with_reducible first | refine nY ?_ | (refine mX ?_; try simp only [go_sem, qH]) | refine kD ?_ | (apply rE [6,14,15,16,17] [] [0,1,2,3,4,5,7,8,9,10,11,12] [0,1,2,3,4,5,7,8,9,10,11,12] ((.c 6 [13] [7,8,9,10,11,12,13] (.c 14 [] [7,8,9,10,11,12,13] (.c 15 [] [7,8,9,10,11,12,13] (.c 16 [] [] (.c 17 [] [] .n .n) .n) .n) (.c 15 [] [7,8,9,10,11,12,13] (.c 14 [] [7,8,9,10,11,12,13] (.c 16 [] [] (.c 17 [] [] .n .n) .n) .n) .n)) (.c 14 [] [0,1,2,3,4,5,7,8,9,10,11,12] (.c 6 [13] [7,8,9,10,11,12,13] (.c 15 [] [7,8,9,10,11,12,13] (.c 16 [] [] (.c 17 [] [] .n .n) .n) .n) (.c 15 [] [0,1,2,3,4,5,7,8,9,10,11,12] (.c 6 [13] [7,8,9,10,11,12,13] (.c 16 [] [] (.c 17 [] [] .n .n) .n) .n) .n)) (.c 15 [] [0,1,2,3,4,5,7,8,9,10,11,12] (.c 6 [13] [7,8,9,10,11,12,13] (.c 14 [] [7,8,9,10,11,12,13] (.c 16 [] [] (.c 17 [] [] .n .n) .n) .n) (.c 14 [] [0,1,2,3,4,5,7,8,9,10,11,12] (.c 6 [13] [7,8,9,10,11,12,13] (.c 16 [] [] (.c 17 [] [] .n .n) .n) .n) .n)) .n)))) (by simp only [go_sem]; rfl) (by simp only [go_sem]; rfl) (by simp only [go_sem]; rfl) (by decide +kernel); (focus simp only [go_sem]; done)) | exact fB | refine dM (uX ?_) ?_ | refine dN (aX ?_) ?_ | refine dO (aX ?_) ?_ | exact dL | (refine bI [(4, 5)] (by simp only [go_sem]; rfl) ?_; exact rfl) | (refine bI [(3, 4)] (by simp only [go_sem]; rfl) ?_; exact rfl) | (refine bI [(3, 5), (4, 5)] (by simp only [go_sem]; rfl) ?_; exact rfl) | (refine bI [(3, 4), (4, 5)] (by simp only [go_sem]; rfl) ?_; exact rfl) | (refine bI [(3, 5)] (by simp only [go_sem]; rfl) ?_; exact rfl) | exact oH | (refine uA ?_; simp only [go_sem, qH]; (repeat' first | omega | refine And.intro ?_ ?_ | refine cP hM ?_ | refine cP iL ?_ | refine cP pR ?_ | (refine mX ?_; simp only [go_sem, qH] <;> fail)); done) | refine rD ?_ | refine cP hM ?_ | refine cP iL ?_ | refine cP pR ?_ | refine aO ?_ | fail)
     exact aA ⟨⟨_, rfl, by simp only [go_sem, sH, ha, hb, if_true, if_false, Bool.false_eq_true]⟩, trivial⟩
    ·refine ent Try.func41 rfl Try.call41 rfl (fun C => ?_); simp only [go_sem, st0, Try.ntmps41]
     have qH := aI @Bool.true_beq (aI @Bool.false_beq (aI @hlt (aI @h2 (aI @h3 (aI @h5 (aI @h6 (aI @decide_true (aI @decide_false (aI @hl (aI @hr2 (aI @ha @hb))))))))))); repeat' (with_reducible first | refine nY ?_ | (refine mX ?_; try simp only [go_sem, qH]) | refine kD ?_ | (apply rE [14,15,16,17] [] [0,1,2,3,4,5,6,7,8,9,10,11,12,13] [0,1,2,3,4,5,6,7,8,9,10,11,12,13] ((.c 14 [] [0,1,2,3,4,5,6,7,8,9,10,11,12,13] (.c 15 [] [0,1,2,3,4,5,6,7,8,9,10,11,12,13] (.c 16 [] [] (.c 17 [] [] .n .n) .n) .n) (.c 15 [] [0,1,2,3,4,5,6,7,8,9,10,11,12,13] (.c 14 [] [0,1,2,3,4,5,6,7,8,9,10,11,12,13] (.c 16 [] [] (.c 17 [] [] .n .n) .n) .n) .n))) (by simp only [go_sem]; rfl) (by simp only [go_sem]; rfl) (by simp only [go_sem]; rfl) (by decide +kernel); (focus simp only [go_sem]; done)) | exact fB | refine dM (uX ?_) ?_ | refine dN (aX ?_) ?_ | refine dO (aX ?_) ?_ | exact dL | (refine bI [(3, 4)] (by simp only [go_sem]; rfl) ?_; exact rfl) | exact oH | (refine uA ?_; simp only [go_sem, qH]; (repeat' first | omega | refine And.intro ?_ ?_ | refine cP hM ?_ | refine cP pL ?_ | refine cP pR ?_ | (refine mX ?_; simp only [go_sem, qH] <;> fail)); done) | refine rD ?_ | refine cP hM ?_ | refine cP pL ?_ | refine cP pR ?_ | refine aO ?_ | fail)
     exact aA ⟨⟨_, rfl, by simp only [go_sem, sH, ha, hb, if_true, if_false, Bool.false_eq_true]⟩, trivial⟩
   ·simp only [Bool.not_true, if_true] at hM ⊢
    refine ent Try.func41 rfl Try.call41 rfl (fun C => ?_); simp only [go_sem, st0, Try.ntmps41]
    have qH := aI @Bool.true_beq (aI @Bool.false_beq (aI @hlt (aI @h2 (aI @h3 (aI @h5 (aI @h6 (aI @decide_true (aI @decide_false (aI @hl @hr2))))))))); repeat' (with_reducible first | refine nY ?_ | (refine mX ?_; try simp only [go_sem, qH]) | refine kD ?_ | (apply rE [14,15,16,17] [] [0,1,2,3,4,5,6,7,8,9,10,11,12,13] [0,1,2,3,4,5,6,7,8,9,10,11,12,13] ((.c 14 [] [0,1,2,3,4,5,6,7,8,9,10,11,12,13] (.c 15 [] [0,1,2,3,4,5,6,7,8,9,10,11,12,13] (.c 16 [] [] (.c 17 [] [] .n .n) .n) .n) (.c 15 [] [0,1,2,3,4,5,6,7,8,9,10,11,12,13] (.c 14 [] [0,1,2,3,4,5,6,7,8,9,10,11,12,13] (.c 16 [] [] (.c 17 [] [] .n .n) .n) .n) .n))) (by simp only [go_sem]; rfl) (by simp only [go_sem]; rfl) (by simp only [go_sem]; rfl) (by decide +kernel); (focus simp only [go_sem]; done)) | exact fB | refine dM (uX ?_) ?_ | refine dN (aX ?_) ?_ | refine dO (aX ?_) ?_ | exact dL | (refine bI [(3, 4)] (by simp only [go_sem]; rfl) ?_; exact rfl) | exact oH | (refine uA ?_; simp only [go_sem, qH]; (repeat' first | omega | refine And.intro ?_ ?_ | refine cP hM ?_ | refine cP pL ?_ | refine cP pR ?_ | refine cP (iT A B lL lR) ?_ | (refine mX ?_; simp only [go_sem, qH] <;> fail)); done) | refine rD ?_ | refine cP hM ?_ | refine cP pL ?_ | refine cP pR ?_ | refine cP (iT A B lL lR) ?_ | refine aO ?_ | fail)
    exact aA ⟨⟨_, rfl, by simp only [go_sem]⟩, trivial⟩
  ·have h7 : q[i].fOp = 7 := by omega
   have e : wt q f r (k + 1) i b = if b then sH (wt q f r k l b) (wt q f r k m b) else jM (wt q f r k l b) (wt q f r k m b) := by simp [wt, hn, hm, h7, hl, hr2]
   rw [e]
   generalize wt q f r k l b = A at *
   generalize wt q f r k m b = B at *
   have pL := iX iL (by simp only [go_sem]) (by simp only [go_sem])
   have pR := iX iR (by simp only [go_sem]) (by simp only [go_sem])
   cases b
   ·simp only [Bool.not_false, if_false, Bool.false_eq_true] at hM ⊢
    refine ent Try.func41 rfl Try.call41 rfl (fun C => ?_); simp only [go_sem, st0, Try.ntmps41]
    have qH := aI @Bool.true_beq (aI @Bool.false_beq (aI @hlt (aI @h2 (aI @h3 (aI @h5 (aI @h6 (aI @h7 (aI @decide_true (aI @decide_false (aI @hl @hr2)))))))))); repeat' (with_reducible first | refine nY ?_ | (refine mX ?_; try simp only [go_sem, qH]) | refine kD ?_ | (apply rE [14,15,16,17] [] [0,1,2,3,4,5,6,7,8,9,10,11,12,13] [0,1,2,3,4,5,6,7,8,9,10,11,12,13] ((.c 14 [] [0,1,2,3,4,5,6,7,8,9,10,11,12,13] (.c 15 [] [0,1,2,3,4,5,6,7,8,9,10,11,12,13] (.c 16 [] [] (.c 17 [] [] .n .n) .n) .n) (.c 15 [] [0,1,2,3,4,5,6,7,8,9,10,11,12,13] (.c 14 [] [0,1,2,3,4,5,6,7,8,9,10,11,12,13] (.c 16 [] [] (.c 17 [] [] .n .n) .n) .n) .n))) (by simp only [go_sem]; rfl) (by simp only [go_sem]; rfl) (by simp only [go_sem]; rfl) (by decide +kernel); (focus simp only [go_sem]; done)) | exact fB | refine dM (uX ?_) ?_ | refine dN (aX ?_) ?_ | refine dO (aX ?_) ?_ | exact dL | (refine bI [(3, 4)] (by simp only [go_sem]; rfl) ?_; exact rfl) | exact oH | (refine uA ?_; simp only [go_sem, qH]; (repeat' first | omega | refine And.intro ?_ ?_ | refine cP hM ?_ | refine cP pL ?_ | refine cP pR ?_ | refine cP (iT A B lL lR) ?_ | (refine mX ?_; simp only [go_sem, qH] <;> fail)); done) | refine rD ?_ | refine cP hM ?_ | refine cP pL ?_ | refine cP pR ?_ | refine cP (iT A B lL lR) ?_ | refine aO ?_ | fail)
    exact aA ⟨⟨_, rfl, by simp only [go_sem]⟩, trivial⟩
   ·simp only [Bool.not_true, if_true] at hM ⊢
    cases ha : A.fOK <;> cases hb : B.fOK
    ·refine ent Try.func41 rfl Try.call41 rfl (fun C => ?_); simp only [go_sem, st0, Try.ntmps41]
     have qH := aI @Bool.true_beq (aI @Bool.false_beq (aI @hlt (aI @h2 (aI @h3 (aI @h5 (aI @h6 (aI @h7 (aI @decide_true (aI @decide_false (aI @hl (aI @hr2 (aI @ha @hb)))))))))))); repeat' (with_reducible first | refine nY ?_ | (refine mX ?_; try simp only [go_sem, qH]) | refine kD ?_ | (apply rE [14,15,16,17] [] [0,1,2,3,4,5,6,7,8,9,10,11,12,13] [0,1,2,3,4,5,6,7,8,9,10,11,12,13] ((.c 14 [] [0,1,2,3,4,5,6,7,8,9,10,11,12,13] (.c 15 [] [0,1,2,3,4,5,6,7,8,9,10,11,12,13] (.c 16 [] [] (.c 17 [] [] .n .n) .n) .n) (.c 15 [] [0,1,2,3,4,5,6,7,8,9,10,11,12,13] (.c 14 [] [0,1,2,3,4,5,6,7,8,9,10,11,12,13] (.c 16 [] [] (.c 17 [] [] .n .n) .n) .n) .n))) (by simp only [go_sem]; rfl) (by simp only [go_sem]; rfl) (by simp only [go_sem]; rfl) (by decide +kernel); (focus simp only [go_sem]; done)) | exact fB | refine dM (uX ?_) ?_ | refine dN (aX ?_) ?_ | refine dO (aX ?_) ?_ | exact dL | (refine bI [(3, 4)] (by simp only [go_sem]; rfl) ?_; exact rfl) | exact oH | (refine uA ?_; simp only [go_sem, qH]; (repeat' first | omega | refine And.intro ?_ ?_ | refine cP hM ?_ | refine cP pL ?_ | refine cP pR ?_ | (refine mX ?_; simp only [go_sem, qH] <;> fail)); done) | refine rD ?_ | refine cP hM ?_ | refine cP pL ?_ | refine cP pR ?_ | refine aO ?_ | fail)
     exact aA ⟨⟨_, rfl, by simp only [go_sem, sH, ha, hb, if_true, if_false, Bool.false_eq_true]⟩, trivial⟩
    ·refine ent Try.func41 rfl Try.call41 rfl (fun C => ?_); simp only [go_sem, st0, Try.ntmps41]
     have qH := aI @Bool.true_beq (aI @Bool.false_beq (aI @hlt (aI @h2 (aI @h3 (aI @h5 (aI @h6 (aI @h7 (aI @decide_true (aI @decide_false (aI @hl (aI @hr2 (aI @ha @hb)))))))))))); repeat' (with_reducible first | refine nY ?_ | (refine mX ?_; try simp only [go_sem, qH]) | refine kD ?_ | (apply rE [13,14,15,16,17] [] [0,1,2,3,4,5,6,7,8,9,10,11,12] [0,1,2,3,4,5,6,7,8,9,10,11,12] ((.c 13 [] [] (.c 14 [] [] (.c 15 [] [] (.c 16 [] [] (.c 17 [] [] .n .n) .n) .n) (.c 15 [] [] (.c 14 [] [] (.c 16 [] [] (.c 17 [] [] .n .n) .n) .n) .n)) (.c 14 [] [0,1,2,3,4,5,6,7,8,9,10,11,12] (.c 13 [] [] (.c 15 [] [] (.c 16 [] [] (.c 17 [] [] .n .n) .n) .n) (.c 15 [] [0,1,2,3,4,5,6,7,8,9,10,11,12] (.c 13 [] [] (.c 16 [] [] (.c 17 [] [] .n .n) .n) .n) .n)) (.c 15 [] [0,1,2,3,4,5,6,7,8,9,10,11,12] (.c 13 [] [] (.c 14 [] [] (.c 16 [] [] (.c 17 [] [] .n .n) .n) .n) (.c 14 [] [0,1,2,3,4,5,6,7,8,9,10,11,12] (.c 13 [] [] (.c 16 [] [] (.c 17 [] [] .n .n) .n) .n) .n)) .n)))) (by simp only [go_sem]; rfl) (by simp only [go_sem]; rfl) (by simp only [go_sem]; rfl) (by decide +kernel); (focus simp only [go_sem]; done)) | exact fB | refine dM (uX ?_) ?_ | refine dN (aX ?_) ?_ | refine dO (aX ?_) ?_ | exact dL | (refine bI [(4, 5)] (by simp only [go_sem]; rfl) ?_; exact rfl) | (refine bI [(3, 4)] (by simp only [go_sem]; rfl) ?_; exact rfl) | (refine bI [(3, 5), (4, 5)] (by simp only [go_sem]; rfl) ?_; exact rfl) | (refine bI [(3, 4), (4, 5)] (by simp only [go_sem]; rfl) ?_; exact rfl) | (refine bI [(3, 5)] (by simp only [go_sem]; rfl) ?_; exact rfl) | exact oH | (refine uA ?_; simp only [go_sem, qH]; (repeat' first | omega | refine And.intro ?_ ?_ | refine cP hM ?_ | refine cP pL ?_ | refine cP iR ?_ | (refine mX ?_; simp only [go_sem, qH] <;> fail)); done) | refine rD ?_ | refine cP hM ?_ | refine cP pL ?_ | refine cP iR ?_ | refine aO ?_ | fail)
     exact aA ⟨⟨_, rfl, by simp only [go_sem, sH, ha, hb, if_true, if_false, Bool.false_eq_true]⟩, trivial⟩
    ·refine ent Try.func41 rfl Try.call41 rfl (fun C => ?_); simp only [go_sem, st0, Try.ntmps41]
     have qH := aI @Bool.true_beq (aI @Bool.false_beq (aI @hlt (aI @h2 (aI @h3 (aI @h5 (aI @h6 (aI @h7 (aI @decide_true (aI @decide_false (aI @hl (aI @hr2 (aI @ha @hb)))))))))))); repeat' (with_reducible first | refine nY ?_ | (refine mX ?_; try simp only [go_sem, qH]) | refine kD ?_ | (apply rE [6,14,15,16,17] [] [0,1,2,3,4,5,7,8,9,10,11,12] [0,1,2,3,4,5,7,8,9,10,11,12] ((.c 6 [13] [7,8,9,10,11,12,13] (.c 14 [] [7,8,9,10,11,12,13] (.c 15 [] [7,8,9,10,11,12,13] (.c 16 [] [] (.c 17 [] [] .n .n) .n) .n) (.c 15 [] [7,8,9,10,11,12,13] (.c 14 [] [7,8,9,10,11,12,13] (.c 16 [] [] (.c 17 [] [] .n .n) .n) .n) .n)) (.c 14 [] [0,1,2,3,4,5,7,8,9,10,11,12] (.c 6 [13] [7,8,9,10,11,12,13] (.c 15 [] [7,8,9,10,11,12,13] (.c 16 [] [] (.c 17 [] [] .n .n) .n) .n) (.c 15 [] [0,1,2,3,4,5,7,8,9,10,11,12] (.c 6 [13] [7,8,9,10,11,12,13] (.c 16 [] [] (.c 17 [] [] .n .n) .n) .n) .n)) (.c 15 [] [0,1,2,3,4,5,7,8,9,10,11,12] (.c 6 [13] [7,8,9,10,11,12,13] (.c 14 [] [7,8,9,10,11,12,13] (.c 16 [] [] (.c 17 [] [] .n .n) .n) .n) (.c 14 [] [0,1,2,3,4,5,7,8,9,10,11,12] (.c 6 [13] [7,8,9,10,11,12,13] (.c 16 [] [] (.c 17 [] [] .n .n) .n) .n) .n)) .n)))) (by simp only [go_sem]; rfl) (by simp only [go_sem]; rfl) (by simp only [go_sem]; rfl) (by decide +kernel); (focus simp only [go_sem]; done)) | exact fB | refine dM (uX ?_) ?_ | refine dN (aX ?_) ?_ | refine dO (aX ?_) ?_ | exact dL | (refine bI [(4, 5)] (by simp only [go_sem]; rfl) ?_; exact rfl) | (refine bI [(3, 4)] (by simp only [go_sem]; rfl) ?_; exact rfl) | (refine bI [(3, 5), (4, 5)] (by simp only [go_sem]; rfl) ?_; exact rfl) | (refine bI [(3, 4), (4, 5)] (by simp only [go_sem]; rfl) ?_; exact rfl) | (refine bI [(3, 5)] (by simp only [go_sem]; rfl) ?_; exact rfl) | exact oH | (refine uA ?_; simp only [go_sem, qH]; (repeat' first | omega | refine And.intro ?_ ?_ | refine cP hM ?_ | refine cP iL ?_ | refine cP pR ?_ | (refine mX ?_; simp only [go_sem, qH] <;> fail)); done) | refine rD ?_ | refine cP hM ?_ | refine cP iL ?_ | refine cP pR ?_ | refine aO ?_ | fail)
     exact aA ⟨⟨_, rfl, by simp only [go_sem, sH, ha, hb, if_true, if_false, Bool.false_eq_true]⟩, trivial⟩
    ·refine ent Try.func41 rfl Try.call41 rfl (fun C => ?_); simp only [go_sem, st0, Try.ntmps41]
     have qH := aI @Bool.true_beq (aI @Bool.false_beq (aI @hlt (aI @h2 (aI @h3 (aI @h5 (aI @h6 (aI @h7 (aI @decide_true (aI @decide_false (aI @hl (aI @hr2 (aI @ha @hb)))))))))))); repeat' (with_reducible first | refine nY ?_ | (refine mX ?_; try simp only [go_sem, qH]) | refine kD ?_ | (apply rE [14,15,16,17] [] [0,1,2,3,4,5,6,7,8,9,10,11,12,13] [0,1,2,3,4,5,6,7,8,9,10,11,12,13] ((.c 14 [] [0,1,2,3,4,5,6,7,8,9,10,11,12,13] (.c 15 [] [0,1,2,3,4,5,6,7,8,9,10,11,12,13] (.c 16 [] [] (.c 17 [] [] .n .n) .n) .n) (.c 15 [] [0,1,2,3,4,5,6,7,8,9,10,11,12,13] (.c 14 [] [0,1,2,3,4,5,6,7,8,9,10,11,12,13] (.c 16 [] [] (.c 17 [] [] .n .n) .n) .n) .n))) (by simp only [go_sem]; rfl) (by simp only [go_sem]; rfl) (by simp only [go_sem]; rfl) (by decide +kernel); (focus simp only [go_sem]; done)) | exact fB | refine dM (uX ?_) ?_ | refine dN (aX ?_) ?_ | refine dO (aX ?_) ?_ | exact dL | (refine bI [(3, 4)] (by simp only [go_sem]; rfl) ?_; exact rfl) | exact oH | (refine uA ?_; simp only [go_sem, qH]; (repeat' first | omega | refine And.intro ?_ ?_ | refine cP hM ?_ | refine cP pL ?_ | refine cP pR ?_ | (refine mX ?_; simp only [go_sem, qH] <;> fail)); done) | refine rD ?_ | refine cP hM ?_ | refine cP pL ?_ | refine cP pR ?_ | refine aO ?_ | fail)
     exact aA ⟨⟨_, rfl, by simp only [go_sem, sH, ha, hb, if_true, if_false, Bool.false_eq_true]⟩, trivial⟩
 have h6 : ¬ q[i].fOp = 6 := fun h => h67 (.inl h)
 have h7 : ¬ q[i].fOp = 7 := fun h => h67 (.inr h)
 have e : wt q f r (k + 1) i b = ⟨false, []⟩ := by simp [wt, hn, hm, h2, h3, h5, h6, h7]
 rw [e]
 refine ent Try.func41 rfl Try.call41 rfl (fun C => ?_); simp only [go_sem, st0, Try.ntmps41]
 cases b
 all_goals
  simp only [Bool.not_true, Bool.not_false] at hM
  have q0 := @Bool.true_beq; have q1 := @Bool.false_beq; have q2 := @hlt; have q3 := @h2; have q4 := @h3; have q5 := @h5; have q6 := @h6; have q7 := @h7; have q8 := @decide_false; refine a7O hM ?_
  exact aA ⟨⟨_, rfl, by simp only [go_sem]⟩, trivial⟩
theorem eF (n : TNode) (i : Nat) (hi : i ≤ 4300000) (hs : n.fValue.fStr.size ≤ 4300000) (hn : n.fName.size ≤ 4300000) : FnC Try.prog 60 [zN n, oi i] (ob (aQ n i)) := by
 refine ent Try.func60 rfl Try.call60 rfl (fun C => ?_); simp only [go_sem, st0, Try.ntmps60]
 repeat' (with_reducible first | refine nX ?_ | (refine mX ?_; try simp only [go_sem]) | refine kD ?_ | refine aO ?_ | fail)
 refine reg ?_
 repeat' (with_reducible first | refine nX ?_ | (refine mX ?_; try simp only [go_sem]) | refine kD ?_ | refine aO ?_ | fail)
 refine a5c [(5, ob (nD n i))] [] ?_ ?_
 ·cases hl : inB n.fLeft 0 ((i : Int) - 1) <;> by_cases hp : 0 < (i : Int)
  all_goals
   refine reg ?_
   have qH := aI @hl (aI @hp (aI @decide_true @decide_false)); repeat' (with_reducible first | refine nX ?_ | (refine mX ?_; try simp only [go_sem, qH]) | refine kD ?_ | refine cP (lD n.fLeft 0 ((i : Int) - 1)) ?_ | refine aO ?_ | fail)
   exact a1z (by simp only [go_sem, nD, hl, hp, decide_true, decide_false, Bool.and_true, Bool.and_false]; simp) (by simp only [go_sem])
 simp only [go_sem]
 repeat' (with_reducible first | refine nX ?_ | (refine mX ?_; try simp only [go_sem]) | refine kD ?_ | refine aO ?_ | fail)
 refine a5c [(6, ob (nD n i && wY n i))] [] ?_ ?_
 ·cases hl : nD n i <;> cases hq : wY n i
  all_goals
   refine reg ?_
   have qH := aI @hl @hq; repeat' (with_reducible first | refine nX ?_ | (refine mX ?_; try simp only [go_sem, qH]) | refine kD ?_ | refine cP ((lD n.fRight 0 ((i : Int) - 1) : FnC Try.prog _ _ (ob (wY n i)))) ?_ | refine aO ?_ | fail)
   exact a1z (by simp only [go_sem, hl, hq, Bool.and_true, Bool.and_false]; simp) (by simp only [go_sem])
 simp only [go_sem]
 by_cases h1 : n.fOp = 1
 ·have hr : aQ n i = (decide (n.fLeft = 0) && (decide (n.fRight = 0) && (decide (n.fName = ⟨#[]⟩) && (decide (n.fValue.fKind = 0) && (decide (n.fValue.fInt = 0) && decide (n.fValue.fStr = ⟨#[]⟩)))))) := by simp [aQ, h1, eY, iH, eV, Bool.and_assoc]
  have q0 := @h1; have q1 := @decide_true; have q2 := @decide_false; refine a0B ?_
  exact aA ⟨⟨_, rfl, by simp only [go_sem, hr, bT]⟩, trivial⟩
 by_cases h2 : n.fOp = 2
 ·have hr : aQ n i = (bC n.fName 1 && (decide (n.fLeft = 0) && (decide (n.fRight = 0) && (decide (n.fValue.fKind = 0) && (decide (n.fValue.fInt = 0) && decide (n.fValue.fStr = ⟨#[]⟩)))))) := by simp [aQ, h2, eY, iH, eV, Bool.and_assoc]
  have q0 := @h1; have q1 := @h2; have q2 := @decide_true; have q3 := @decide_false; refine a9I (aJ n.fName hn) ?_
  cases ht : bC n.fName 1
  ·rw [ht] at hr
   simp only [go_sem, ht]
   have q0 := @h1; have q1 := @h2; have q2 := @decide_true; have q3 := @decide_false; have q4 := @ht; refine a6D ?_
   exact aA ⟨⟨_, rfl, by simp only [go_sem, hr, bT]⟩, trivial⟩
  rw [ht] at hr
  simp only [go_sem, ht]
  have q0 := @h1; have q1 := @h2; have q2 := @decide_true; have q3 := @decide_false; have q4 := @ht; refine a2D (aJ n.fName hn) ?_
  exact aA ⟨⟨_, rfl, by simp only [go_sem, hr, bT]⟩, trivial⟩
 by_cases h3 : n.fOp = 3
 ·have hr : aQ n i = (bC n.fName 1 && (dY n.fValue && (!decide (n.fValue.fKind = 0) && (decide (n.fLeft = 0) && decide (n.fRight = 0))))) := by simp [aQ, h3, eY]
  have q0 := @h1; have q1 := @h2; have q2 := @h3; have q3 := @decide_true; have q4 := @decide_false; refine a7L (aJ n.fName hn) (aU n.fValue hs) ?_
  cases ht : bC n.fName 1
  ·rw [ht] at hr
   simp only [go_sem, ht]
   have q0 := @h1; have q1 := @h2; have q2 := @h3; have q3 := @decide_true; have q4 := @decide_false; have q5 := @ht; refine a7M ?_
   exact aA ⟨⟨_, rfl, by simp only [go_sem, hr, bT]⟩, trivial⟩
  rw [ht] at hr
  simp only [go_sem, ht]
  have q0 := @h1; have q1 := @h2; have q2 := @h3; have q3 := @decide_true; have q4 := @decide_false; have q5 := @ht; refine a3V (aJ n.fName hn) (aU n.fValue hs) ?_
  cases hv : dY n.fValue
  ·rw [hv] at hr
   simp only [go_sem, hv]
   have q0 := @h1; have q1 := @h2; have q2 := @h3; have q3 := @decide_true; have q4 := @decide_false; have q5 := @ht; have q6 := @hv; refine a6E ?_
   exact aA ⟨⟨_, rfl, by simp only [go_sem, hr, bT]⟩, trivial⟩
  rw [hv] at hr
  simp only [go_sem, hv]
  have q0 := @h1; have q1 := @h2; have q2 := @h3; have q3 := @decide_true; have q4 := @decide_false; have q5 := @ht; have q6 := @hv; refine a8I (aJ n.fName hn) (aU n.fValue hs) ?_
  by_cases hk : n.fValue.fKind = 0
  ·simp only [hk, decide_true] at hr
   simp only [go_sem, hk, decide_true]
   have q0 := @h1; have q1 := @h2; have q2 := @h3; have q3 := @decide_true; have q4 := @decide_false; have q5 := @ht; have q6 := @hv; have q7 := @hk; refine a2E ?_
   exact aA ⟨⟨_, rfl, by simp only [go_sem, hr, bT]⟩, trivial⟩
  simp only [hk, decide_false] at hr
  simp only [go_sem, hk, decide_false]
  have q0 := @h1; have q1 := @h2; have q2 := @h3; have q3 := @decide_true; have q4 := @decide_false; have q5 := @ht; have q6 := @hv; have q7 := @hk; refine a8J (aJ n.fName hn) (aU n.fValue hs) ?_
  by_cases hL : n.fLeft = 0
  rotate_left
  ·simp only [hL, decide_false] at hr
   simp only [go_sem, hL, decide_false]
   have q0 := @h1; have q1 := @h2; have q2 := @h3; have q3 := @decide_true; have q4 := @decide_false; have q5 := @ht; have q6 := @hv; have q7 := @hk; have q8 := @hL; refine a2F ?_
   exact aA ⟨⟨_, rfl, by simp only [go_sem, hr, bT]⟩, trivial⟩
  simp only [hL, decide_true] at hr
  simp only [go_sem, hL, decide_true]
  have q0 := @h1; have q1 := @h2; have q2 := @h3; have q3 := @decide_true; have q4 := @decide_false; have q5 := @ht; have q6 := @hv; have q7 := @hk; have q8 := @hL; refine a2G (aJ n.fName hn) (aU n.fValue hs) ?_
  exact aA ⟨⟨_, rfl, by simp only [go_sem, hr, bT]⟩, trivial⟩
 by_cases h4 : n.fOp = 4
 ·have hr : aQ n i = (bC n.fName 1 && (dY n.fValue && (decide (n.fValue.fKind = 1) && (decide (n.fLeft = 0) && decide (n.fRight = 0))))) := by simp [aQ, h4, eY]
  have q0 := @h1; have q1 := @h2; have q2 := @h3; have q3 := @h4; have q4 := @decide_true; have q5 := @decide_false; refine a3V (aJ n.fName hn) (aU n.fValue hs) ?_
  cases ht : bC n.fName 1
  ·rw [ht] at hr
   simp only [go_sem, ht]
   have q0 := @h1; have q1 := @h2; have q2 := @h3; have q3 := @h4; have q4 := @decide_true; have q5 := @decide_false; have q6 := @ht; refine a6E ?_
   exact aA ⟨⟨_, rfl, by simp only [go_sem, hr, bT]⟩, trivial⟩
  rw [ht] at hr
  simp only [go_sem, ht]
  have q0 := @h1; have q1 := @h2; have q2 := @h3; have q3 := @h4; have q4 := @decide_true; have q5 := @decide_false; have q6 := @ht; refine a8I (aJ n.fName hn) (aU n.fValue hs) ?_
  cases hv : dY n.fValue
  ·rw [hv] at hr
   simp only [go_sem, hv]
   have q0 := @h1; have q1 := @h2; have q2 := @h3; have q3 := @h4; have q4 := @decide_true; have q5 := @decide_false; have q6 := @ht; have q7 := @hv; refine a2E ?_
   exact aA ⟨⟨_, rfl, by simp only [go_sem, hr, bT]⟩, trivial⟩
  rw [hv] at hr
  simp only [go_sem, hv]
  have q0 := @h1; have q1 := @h2; have q2 := @h3; have q3 := @h4; have q4 := @decide_true; have q5 := @decide_false; have q6 := @ht; have q7 := @hv; refine a8J (aJ n.fName hn) (aU n.fValue hs) ?_
  by_cases hk : n.fValue.fKind = 1
  rotate_left
  ·simp only [hk, decide_false] at hr
   simp only [go_sem, hk, decide_false]
   have q0 := @h1; have q1 := @h2; have q2 := @h3; have q3 := @h4; have q4 := @decide_true; have q5 := @decide_false; have q6 := @ht; have q7 := @hv; have q8 := @hk; refine a2F ?_
   exact aA ⟨⟨_, rfl, by simp only [go_sem, hr, bT]⟩, trivial⟩
  simp only [hk, decide_true] at hr
  simp only [go_sem, hk, decide_true]
  have q0 := @h1; have q1 := @h2; have q2 := @h3; have q3 := @h4; have q4 := @decide_true; have q5 := @decide_false; have q6 := @ht; have q7 := @hv; have q8 := @hk; refine a2G (aJ n.fName hn) (aU n.fValue hs) ?_
  by_cases hL : n.fLeft = 0
  rotate_left
  ·simp only [hL, decide_false] at hr
   simp only [go_sem, hL, decide_false]
   have q0 := @h1; have q1 := @h2; have q2 := @h3; have q3 := @h4; have q4 := @decide_true; have q5 := @decide_false; have q6 := @ht; have q7 := @hv; have q8 := @hk; have q9 := @hL; refine uN ?_
   exact aA ⟨⟨_, rfl, by simp only [go_sem, hr, bT]⟩, trivial⟩
  simp only [hL, decide_true] at hr
  simp only [go_sem, hL, decide_true]
  have q0 := @h1; have q1 := @h2; have q2 := @h3; have q3 := @h4; have q4 := @decide_true; have q5 := @decide_false; have q6 := @ht; have q7 := @hv; have q8 := @hk; have q9 := @hL; refine zK (aJ n.fName hn) (aU n.fValue hs) ?_
  exact aA ⟨⟨_, rfl, by simp only [go_sem, hr, bT]⟩, trivial⟩
 by_cases h5 : n.fOp = 5
 ·have hr : aQ n i = (nD n i && (decide (n.fRight = 0) && (decide (n.fName = ⟨#[]⟩) && (decide (n.fValue.fKind = 0) && (decide (n.fValue.fInt = 0) && decide (n.fValue.fStr = ⟨#[]⟩)))))) := by simp [aQ, h5, iH, eV]
  have q0 := @h1; have q1 := @h2; have q2 := @h3; have q3 := @h4; have q4 := @h5; have q5 := @decide_true; have q6 := @decide_false; refine a6E ?_
  cases hk : nD n i
  ·rw [hk] at hr
   simp only [go_sem, hk]
   have q0 := @h1; have q1 := @h2; have q2 := @h3; have q3 := @h4; have q4 := @h5; have q5 := @decide_true; have q6 := @decide_false; have q7 := @hk; refine a2E ?_
   exact aA ⟨⟨_, rfl, by simp only [go_sem, hr, bT]⟩, trivial⟩
  rw [hk] at hr
  simp only [go_sem, hk]
  have q0 := @h1; have q1 := @h2; have q2 := @h3; have q3 := @h4; have q4 := @h5; have q5 := @decide_true; have q6 := @decide_false; have q7 := @hk; refine a2E ?_
  by_cases hR : n.fRight = 0
  rotate_left
  ·simp only [hR, decide_false] at hr
   simp only [go_sem, hR, decide_false]
   have q0 := @h1; have q1 := @h2; have q2 := @h3; have q3 := @h4; have q4 := @h5; have q5 := @decide_true; have q6 := @decide_false; have q7 := @hk; have q8 := @hR; refine a2F ?_
   exact aA ⟨⟨_, rfl, by simp only [go_sem, hr, bT]⟩, trivial⟩
  simp only [hR, decide_true] at hr
  simp only [go_sem, hR, decide_true]
  have q0 := @h1; have q1 := @h2; have q2 := @h3; have q3 := @h4; have q4 := @h5; have q5 := @decide_true; have q6 := @decide_false; have q7 := @hk; have q8 := @hR; refine a2F ?_
  by_cases hN : n.fName = ⟨#[]⟩
  rotate_left
  ·simp only [hN, decide_false] at hr
   simp only [go_sem, hN, decide_false]
   have q0 := @h1; have q1 := @h2; have q2 := @h3; have q3 := @h4; have q4 := @h5; have q5 := @decide_true; have q6 := @decide_false; have q7 := @hk; have q8 := @hR; have q9 := @hN; refine uN ?_
   exact aA ⟨⟨_, rfl, by simp only [go_sem, hr, bT]⟩, trivial⟩
  simp only [hN, decide_true] at hr
  simp only [go_sem, hN, decide_true]
  have q0 := @h1; have q1 := @h2; have q2 := @h3; have q3 := @h4; have q4 := @h5; have q5 := @decide_true; have q6 := @decide_false; have q7 := @hk; have q8 := @hR; have q9 := @hN; refine uN ?_
  exact aA ⟨⟨_, rfl, by simp only [go_sem, hr, bT]⟩, trivial⟩
 by_cases h6 : n.fOp = 6
 ·have hr : aQ n i = ((nD n i && wY n i) && (decide (n.fName = ⟨#[]⟩) && (decide (n.fValue.fKind = 0) && (decide (n.fValue.fInt = 0) && decide (n.fValue.fStr = ⟨#[]⟩))))) := by simp [aQ, h6, iH, eV, Bool.and_assoc]
  have q0 := @h1; have q1 := @h2; have q2 := @h3; have q3 := @h4; have q4 := @h5; have q5 := @h6; have q6 := @decide_true; have q7 := @decide_false; refine a2E ?_
  cases hk : (nD n i && wY n i)
  ·rw [hk] at hr
   simp only [go_sem, hk]
   have q0 := @h1; have q1 := @h2; have q2 := @h3; have q3 := @h4; have q4 := @h5; have q5 := @h6; have q6 := @decide_true; have q7 := @decide_false; have q8 := @hk; refine a2F ?_
   exact aA ⟨⟨_, rfl, by simp only [go_sem, hr, bT]⟩, trivial⟩
  rw [hk] at hr
  simp only [go_sem, hk]
  have q0 := @h1; have q1 := @h2; have q2 := @h3; have q3 := @h4; have q4 := @h5; have q5 := @h6; have q6 := @decide_true; have q7 := @decide_false; have q8 := @hk; refine a2F ?_
  by_cases hN : n.fName = ⟨#[]⟩
  rotate_left
  ·simp only [hN, decide_false] at hr
   simp only [go_sem, hN, decide_false]
   have q0 := @h1; have q1 := @h2; have q2 := @h3; have q3 := @h4; have q4 := @h5; have q5 := @h6; have q6 := @decide_true; have q7 := @decide_false; have q8 := @hk; have q9 := @hN; refine uN ?_
   exact aA ⟨⟨_, rfl, by simp only [go_sem, hr, bT]⟩, trivial⟩
  simp only [hN, decide_true] at hr
  simp only [go_sem, hN, decide_true]
  have q0 := @h1; have q1 := @h2; have q2 := @h3; have q3 := @h4; have q4 := @h5; have q5 := @h6; have q6 := @decide_true; have q7 := @decide_false; have q8 := @hk; have q9 := @hN; refine uN ?_
  exact aA ⟨⟨_, rfl, by simp only [go_sem, hr, bT]⟩, trivial⟩
 by_cases h7 : n.fOp = 7
 ·have hr : aQ n i = ((nD n i && wY n i) && (decide (n.fName = ⟨#[]⟩) && (decide (n.fValue.fKind = 0) && (decide (n.fValue.fInt = 0) && decide (n.fValue.fStr = ⟨#[]⟩))))) := by simp [aQ, h7, iH, eV, Bool.and_assoc]
  have q0 := @h1; have q1 := @h2; have q2 := @h3; have q3 := @h4; have q4 := @h5; have q5 := @h6; have q6 := @h7; have q7 := @decide_true; have q8 := @decide_false; refine a2F ?_
  cases hk : (nD n i && wY n i)
  ·rw [hk] at hr
   simp only [go_sem, hk]
   have q0 := @h1; have q1 := @h2; have q2 := @h3; have q3 := @h4; have q4 := @h5; have q5 := @h6; have q6 := @h7; have q7 := @decide_true; have q8 := @decide_false; have q9 := @hk; refine uN ?_
   exact aA ⟨⟨_, rfl, by simp only [go_sem, hr, bT]⟩, trivial⟩
  rw [hk] at hr
  simp only [go_sem, hk]
  have q0 := @h1; have q1 := @h2; have q2 := @h3; have q3 := @h4; have q4 := @h5; have q5 := @h6; have q6 := @h7; have q7 := @decide_true; have q8 := @decide_false; have q9 := @hk; refine uN ?_
  by_cases hN : n.fName = ⟨#[]⟩
  rotate_left
  ·simp only [hN, decide_false] at hr
   simp only [go_sem, hN, decide_false]
   have qH := aI @h1 (aI @h2 (aI @h3 (aI @h4 (aI @h5 (aI @h6 (aI @h7 (aI @decide_true (aI @decide_false (aI @hk @hN))))))))); repeat' (with_reducible first | refine nY ?_ | (refine mX ?_; try simp only [go_sem, qH]) | refine kD ?_ | refine aO ?_ | fail)
   exact aA ⟨⟨_, rfl, by simp only [go_sem, hr, bT]⟩, trivial⟩
  simp only [hN, decide_true] at hr
  simp only [go_sem, hN, decide_true]
  have qH := aI @h1 (aI @h2 (aI @h3 (aI @h4 (aI @h5 (aI @h6 (aI @h7 (aI @decide_true (aI @decide_false (aI @hk @hN))))))))); repeat' (with_reducible first | refine nY ?_ | (refine mX ?_; try simp only [go_sem, qH]) | refine kD ?_ | refine aO ?_ | fail)
  exact aA ⟨⟨_, rfl, by simp only [go_sem, hr, bT]⟩, trivial⟩
 by_cases h8 : n.fOp = 8
 ·have hr : aQ n i = (bC n.fName 6 && (decide (n.fLeft = 0) && (decide (n.fRight = 0) && (decide (n.fValue.fKind = 0) && (decide (n.fValue.fInt = 0) && decide (n.fValue.fStr = ⟨#[]⟩)))))) := by simp [aQ, h8, eY, eV, Bool.and_assoc]
  have q0 := @h1; have q1 := @h2; have q2 := @h3; have q3 := @h4; have q4 := @h5; have q5 := @h6; have q6 := @h7; have q7 := @h8; have q8 := @decide_true; have q9 := @decide_false; refine a7h (bP n.fName hn) ?_
  cases ht : bC n.fName 6
  ·rw [ht] at hr
   simp only [go_sem, ht]
   have qH := aI @h1 (aI @h2 (aI @h3 (aI @h4 (aI @h5 (aI @h6 (aI @h7 (aI @h8 (aI @decide_true (aI @decide_false @ht))))))))); repeat' (with_reducible first | refine nY ?_ | (refine mX ?_; try simp only [go_sem, qH]) | refine kD ?_ | refine aO ?_ | fail)
   exact aA ⟨⟨_, rfl, by simp only [go_sem, hr, bT]⟩, trivial⟩
  rw [ht] at hr
  simp only [go_sem, ht]
  have qH := aI @h1 (aI @h2 (aI @h3 (aI @h4 (aI @h5 (aI @h6 (aI @h7 (aI @h8 (aI @decide_true (aI @decide_false @ht))))))))); repeat' (with_reducible first | refine nY ?_ | (refine mX ?_; try simp only [go_sem, qH]) | refine kD ?_ | refine cP (bP n.fName hn) ?_ | refine aO ?_ | fail)
  exact aA ⟨⟨_, rfl, by simp only [go_sem, hr, bT]⟩, trivial⟩
 by_cases h9 : n.fOp = 9
 ·have hr : aQ n i = (bC n.fName 6 && (decide (n.fLeft = 0) && (decide (n.fRight = 0) && (decide (n.fValue.fKind = 0) && (decide (n.fValue.fInt = 0) && decide (n.fValue.fStr = ⟨#[]⟩)))))) := by simp [aQ, h9, eY, eV, Bool.and_assoc]
  have qH := aI @h1 (aI @h2 (aI @h3 (aI @h4 (aI @h5 (aI @h6 (aI @h7 (aI @h8 (aI @h9 (aI @decide_true @decide_false))))))))); repeat' (with_reducible first | refine nY ?_ | (refine mX ?_; try simp only [go_sem, qH]) | refine kD ?_ | refine cP (bP n.fName hn) ?_ | refine aO ?_ | fail)
  cases ht : bC n.fName 6
  ·rw [ht] at hr
   simp only [go_sem, ht]
   have qH := aI @h1 (aI @h2 (aI @h3 (aI @h4 (aI @h5 (aI @h6 (aI @h7 (aI @h8 (aI @h9 (aI @decide_true (aI @decide_false @ht)))))))))); repeat' (with_reducible first | refine nY ?_ | (refine mX ?_; try simp only [go_sem, qH]) | refine kD ?_ | refine aO ?_ | fail)
   exact aA ⟨⟨_, rfl, by simp only [go_sem, hr, bT]⟩, trivial⟩
  rw [ht] at hr
  simp only [go_sem, ht]
  have qH := aI @h1 (aI @h2 (aI @h3 (aI @h4 (aI @h5 (aI @h6 (aI @h7 (aI @h8 (aI @h9 (aI @decide_true (aI @decide_false @ht)))))))))); repeat' (with_reducible first | refine nY ?_ | (refine mX ?_; try simp only [go_sem, qH]) | refine kD ?_ | refine cP (bP n.fName hn) ?_ | refine aO ?_ | fail)
  exact aA ⟨⟨_, rfl, by simp only [go_sem, hr, bT]⟩, trivial⟩
 have hr : aQ n i = false := by simp [aQ, h1, h2, h3, h4, h5, h6, h7, h8, h9]
 have qH := aI @h1 (aI @h2 (aI @h3 (aI @h4 (aI @h5 (aI @h6 (aI @h7 (aI @h8 (aI @h9 (aI @decide_true @decide_false))))))))); repeat' (with_reducible first | refine nY ?_ | (refine mX ?_; try simp only [go_sem, qH]) | refine kD ?_ | refine aO ?_ | fail)
 exact aA ⟨⟨_, rfl, by simp only [go_sem, hr]⟩, trivial⟩
theorem a3x (q : List TNode) (i : Nat) (h : i < q.length) : yF q i = (aQ q[i] i && (decide (q.length ≤ i + 1) || decide (refs q i = 1))) := by
 unfold yF; rw [List.getElem?_eq_getElem h]
theorem dQ (q : List TNode) (hl : dB q ≤ 4300000) : FnC Try.prog 40 [.o (.d (.sl (q.map bQ)))] (ob (okQ q)) := by
 unfold dB at hl
 refine ent Try.func40 rfl Try.call40 rfl (fun C => ?_); simp only [go_sem, st0, Try.ntmps40]
 refine aP ?_
 refine dD (α := Nat) (fun k => [(7, oi k)]) (fun _ => []) (fun k => k ≤ q.length ∧ (List.range q.length).all (yF q) = ((List.range q.length).drop k).all (yF q)) (fun k => q.length - k) 0 (fun _ => ?_) ?_ ?_ (fun k hk => ?_)
 ·simp only [go_sem]
 ·simp only [go_sem]; simp
 ·simp
 ·obtain ⟨hk, hq⟩ := hk
  simp only [go_sem]
  refine aP ?_
  refine cnd rfl (fun h => ?_) (fun h => ?_)
  ·simp only [decide_eq_true_eq, Int.ofNat_lt] at h
   have h' : k < (List.range q.length).length := by simpa using h
   have hd := List.drop_eq_getElem_cons h'
   rw [hd, List.all_cons, List.getElem_range, a3x q k h] at hq
   have hw := kZ nS q h
   have hw1 : q[k].fName.size + q[k].fValue.fStr.size ≤ nS q[k] := by unfold nS fI; omega
   cases hn : aQ q[k] k
   ·rw [hn] at hq
    have hf : okQ q = false := by unfold okQ; rw [hq]; simp
    have q0 := @h; have q1 := @hn; refine a6C (eB q[k] k (by omega) (by omega) (by omega)) ?_
    exact aA ⟨⟨_, rfl, by simp only [go_sem, hf]⟩, trivial⟩
   by_cases he : (k : Int) < (q.length : Int) - 1
   ·have he2 : ¬ q.length ≤ k + 1 := by omega
    by_cases hc : (refs q k : Int) = 1
    ·have hc2 : refs q k = 1 := by omega
     have q0 := @h; have q1 := @hn; have q2 := @he; have q3 := @hc; have q4 := @decide_true; have q5 := @decide_false; refine a3V (eB q[k] k (by omega) (by omega) (by omega)) (mJ q k (by omega)) ?_
     refine aR (k + 1) ?_ ?_ ?_
     ·simp only [go_sem]; simp
     ·refine ⟨h, ?_⟩
      rw [hq, hn]; simp [hc2]
     ·omega
    ·have hc2 : ¬ refs q k = 1 := by omega
     have hf : okQ q = false := by unfold okQ; rw [hq, hn]; simp [hc2, he2]
     have q0 := @h; have q1 := @hn; have q2 := @he; have q3 := @hc; have q4 := @decide_true; have q5 := @decide_false; refine a3V (eB q[k] k (by omega) (by omega) (by omega)) (mJ q k (by omega)) ?_
     exact aA ⟨⟨_, rfl, by simp only [go_sem, hf]⟩, trivial⟩
   ·have he2 : q.length ≤ k + 1 := by omega
    have q0 := @h; have q1 := @hn; have q2 := @he; have q3 := @decide_true; have q4 := @decide_false; refine a7L (eB q[k] k (by omega) (by omega) (by omega)) (mJ q k (by omega)) ?_
    refine aR (k + 1) ?_ ?_ ?_
    ·simp only [go_sem]; simp
    ·refine ⟨h, ?_⟩
     rw [hq, hn]; simp [he2]
    ·omega
  ·simp only [decide_eq_false_iff_not] at h
   have e : k = q.length := by omega
   have hq' : (List.range q.length).all (yF q) = true := by
    rw [hq, List.drop_of_length_le (by simp [e])]; rfl
   refine kY (aG q.length 1 9) ?_
   exact aA ⟨⟨_, rfl, by simp only [go_sem, okQ, hq', Bool.true_and]⟩, trivial⟩
theorem iN (q : List TNode) (hl : dB q ≤ 4300000) : FnC Try.prog 31 [.o (.d (.sl (q.map bQ)))] (ob (okQ q)) := by
 unfold dB at hl
 refine ent Try.func31 rfl Try.call31 rfl (fun C => ?_); simp only [go_sem, st0, Try.ntmps31]
 refine aP ?_
 refine dD (α := Nat) (fun k => [(3, oi k)]) (fun _ => []) (fun k => k ≤ q.length ∧ (List.range q.length).all (yF q) = ((List.range q.length).drop k).all (yF q)) (fun k => q.length - k) 0 (fun _ => ?_) ?_ ?_ (fun k hk => ?_)
 ·simp only [go_sem]
 ·simp only [go_sem]; simp
 ·simp
 ·obtain ⟨hk, hq⟩ := hk
  simp only [go_sem]
  refine aP ?_
  refine cnd rfl (fun h => ?_) (fun h => ?_)
  ·simp only [decide_eq_true_eq, Int.ofNat_lt] at h
   have h' : k < (List.range q.length).length := by simpa using h
   have hd := List.drop_eq_getElem_cons h'
   rw [hd, List.all_cons, List.getElem_range, a3x q k h] at hq
   have hw := kZ nS q h
   have hw1 : q[k].fName.size + q[k].fValue.fStr.size ≤ nS q[k] := by unfold nS fI; omega
   cases hn : aQ q[k] k
   ·rw [hn] at hq
    have hf : okQ q = false := by unfold okQ; rw [hq]; simp
    have q0 := @h; have q1 := @hn; refine a6C (eF q[k] k (by omega) (by omega) (by omega)) ?_
    exact aA ⟨⟨_, rfl, by simp only [go_sem, hf]⟩, trivial⟩
   by_cases he : (k : Int) < (q.length : Int) - 1
   ·have he2 : ¬ q.length ≤ k + 1 := by omega
    by_cases hc : (refs q k : Int) = 1
    ·have hc2 : refs q k = 1 := by omega
     have q0 := @h; have q1 := @hn; have q2 := @he; have q3 := @hc; have q4 := @decide_true; have q5 := @decide_false; refine a3V (eF q[k] k (by omega) (by omega) (by omega)) (mK q k (by omega)) ?_
     refine aR (k + 1) ?_ ?_ ?_
     ·simp only [go_sem]; simp
     ·refine ⟨h, ?_⟩
      rw [hq, hn]; simp [hc2]
     ·omega
    ·have hc2 : ¬ refs q k = 1 := by omega
     have hf : okQ q = false := by unfold okQ; rw [hq, hn]; simp [hc2, he2]
     have q0 := @h; have q1 := @hn; have q2 := @he; have q3 := @hc; have q4 := @decide_true; have q5 := @decide_false; refine a3V (eF q[k] k (by omega) (by omega) (by omega)) (mK q k (by omega)) ?_
     exact aA ⟨⟨_, rfl, by simp only [go_sem, hf]⟩, trivial⟩
   ·have he2 : q.length ≤ k + 1 := by omega
    have q0 := @h; have q1 := @hn; have q2 := @he; have q3 := @decide_true; have q4 := @decide_false; refine a7L (eF q[k] k (by omega) (by omega) (by omega)) (mK q k (by omega)) ?_
    refine aR (k + 1) ?_ ?_ ?_
    ·simp only [go_sem]; simp
    ·refine ⟨h, ?_⟩
     rw [hq, hn]; simp [he2]
    ·omega
  ·simp only [decide_eq_false_iff_not] at h
   have e : k = q.length := by omega
   have hq' : (List.range q.length).all (yF q) = true := by
    rw [hq, List.drop_of_length_le (by simp [e])]; rfl
   refine kY (lD q.length 1 9) ?_
   exact aA ⟨⟨_, rfl, by simp only [go_sem, okQ, hq', Bool.true_and]⟩, trivial⟩
def editQ (q : List TNode) (f : TFile) (r : List TResult) (b : Bool) : TEdit := if okQ q then wt q f r q.length (q.length - 1) b else ⟨false, []⟩
theorem vR (q : List TNode) (f : TFile) (r : List TResult) (b : Bool) : eZ (editQ q f r b) ≤ 8192 := by
 unfold editQ
 split
 ·rename_i h
  have h2 := a8d (f := f) (r := r) h q.length (q.length - 1) b
  have h3 : 2 ^ q.length ≤ 2 ^ 9 := Nat.pow_le_pow_right (by omega) (sD h).2
  have h4 : (2 : Nat) ^ 9 = 512 := rfl
  omega
 ·have e0 : eZ ⟨false, []⟩ = 0 := rfl
  omega
theorem wW (q : List TNode) (f : TFile) (r : List TResult) (hq : dB q ≤ 1048576) (hf : bK f ≤ 1048576) (hr : bR r ≤ 1048576) : FnC Try.prog 14 [.o (.d (.sl (q.map bQ))), cK f, .o (.d (.sl (r.map cO)))] (a1F (editQ q f r true)) := by
 have hq1 : q.length ≤ dB q := by unfold dB; omega
 refine ent Try.func14 rfl Try.call14 rfl (fun C => ?_); simp only [go_sem, st0, Try.ntmps14]
 cases hv : okQ q
 ·have q0 := @hv; refine nR (dQ q (by omega)) ?_
  exact aA ⟨⟨_, rfl, by simp only [go_sem, editQ, hv, if_false, Bool.false_eq_true]⟩, trivial⟩
 ·have hl := sD hv
  have hx : (q.length : Int) - 1 = ((q.length - 1 : Nat) : Int) := by omega
  have q0 := @hv; have q1 := @hx; refine a7K (dQ q (by omega)) (pX q f r hv hf hr q.length (q.length - 1) true (by omega) (by omega)) ?_
  exact aA ⟨⟨_, rfl, by simp only [go_sem, editQ, hv, if_true]⟩, trivial⟩
theorem eG (q : List TNode) (f : TFile) (r : List TResult) (hq : dB q ≤ 1048576) (hf : bK f ≤ 1048576) (hr : bR r ≤ 1048576) : FnC Try.prog 14 [.o (.d (.sl (q.map bQ))), cK f, .o (.d (.sl (r.map cO)))] (xA (editQ q f r true)) := iX (wW q f r hq hf hr) (by simp only [go_sem]) (by simp only [go_sem])
theorem tL (q : List TNode) (f : TFile) (r : List TResult) (hq : dB q ≤ 1048576) (hf : bK f ≤ 1048576) (hr : bR r ≤ 1048576) : FnC Try.prog 15 [.o (.d (.sl (q.map bQ))), cK f, .o (.d (.sl (r.map cO)))] (a1F (editQ q f r false)) := by
 have hq1 : q.length ≤ dB q := by unfold dB; omega
 refine ent Try.func15 rfl Try.call15 rfl (fun C => ?_); simp only [go_sem, st0, Try.ntmps15]
 cases hv : okQ q
 ·have q0 := @hv; refine nR (dQ q (by omega)) ?_
  exact aA ⟨⟨_, rfl, by simp only [go_sem, editQ, hv, if_false, Bool.false_eq_true]⟩, trivial⟩
 ·have hl := sD hv
  have hx : (q.length : Int) - 1 = ((q.length - 1 : Nat) : Int) := by omega
  have q0 := @hv; have q1 := @hx; refine a7K (dQ q (by omega)) (pX q f r hv hf hr q.length (q.length - 1) false (by omega) (by omega)) ?_
  exact aA ⟨⟨_, rfl, by simp only [go_sem, editQ, hv, if_true]⟩, trivial⟩
theorem gK (q : List TNode) (f : TFile) (r : List TResult) (hq : dB q ≤ 1048576) (hf : bK f ≤ 1048576) (hr : bR r ≤ 1048576) : FnC Try.prog 15 [.o (.d (.sl (q.map bQ))), cK f, .o (.d (.sl (r.map cO)))] (xA (editQ q f r false)) := iX (tL q f r hq hf hr) (by simp only [go_sem]) (by simp only [go_sem])
end Go.Proofs.Ytjkbipgmckeckaa
end
section
set_option maxRecDepth 100000
namespace Go.Sx
open Go Go.RowKit
structure DelK (k : Nat) (xs : List (List Value × Bool)) (i j : Nat) (F : List Value) : Prop where
 un : ∀ x ∈ xs, x.1.length = k
 len : F.length = xs.length * k
 ij : i < j
 jn : j ≤ xs.length
 lo : F.take (i * k) = (((xs.take j).filter fun x => !x.2).map (·.1)).flatten
 hi : F.drop (j * k) = ((xs.drop j).map (·.1)).flatten
 il : i = ((xs.take j).filter fun x => !x.2).length
theorem a4k {k : Nat} {xs : List (List Value × Bool)} (h : ∀ x ∈ xs, x.1.length = k) : ((xs.map (·.1)).flatten).length = xs.length * k := by
 rw [xG (sz := k) fun r hr => by obtain ⟨x, hx, rfl⟩ := List.mem_map.1 hr; exact h x hx, List.length_map]
theorem DelK.at {k : Nat} {xs : List (List Value × Bool)} {i j : Nat} {F : List Value} (h : DelK k xs i j F) (hj : j < xs.length) {t : Nat} {v : Value} (ht : xs[j].1[t]? = some v) : F[j * k + t]? = some v := by
 have h0 : (F.drop (j * k))[t]? = ((xs.drop j).map (·.1)).flatten[t]? := by rw [h.hi]
 rw [List.getElem?_drop] at h0
 rw [h0, List.drop_eq_getElem_cons hj, List.map_cons, List.flatten_cons, List.getElem?_append_left (List.getElem?_eq_some_iff.1 ht).1]
 exact ht
theorem a5N (xs : List (List Value × Bool)) (k : Nat) (h : ∀ j (hj : j < xs.length), j < k → xs[j].2 = false) : (xs.take k).filter (fun x => !x.2) = xs.take k := by
 refine List.filter_eq_self.2 fun x hx => ?_
 obtain ⟨j, hj, rfl⟩ := List.mem_iff_getElem.1 hx
 simp only [List.length_take] at hj
 rw [List.getElem_take, h j (by omega) (by omega)]; rfl
theorem DelK.start {k n : Nat} {xs : List (List Value × Bool)} (hu : ∀ x ∈ xs, x.1.length = k) (hn : n < xs.length) (h : ∀ j (hj : j < xs.length), j < n → xs[j].2 = false) (hp : xs[n].2 = true) : DelK k xs n (n + 1) (xs.map (·.1)).flatten := by
 have e1 : (xs.take (n + 1)).filter (fun x => !x.2) = xs.take n := by
  rw [List.take_succ_eq_append_getElem hn, List.filter_append, a5N xs n h]
  simp [hp]
 have hu' : ∀ r ∈ xs.map (·.1), r.length = k := fun r hr => by obtain ⟨x, hx, rfl⟩ := List.mem_map.1 hr; exact hu x hx
 refine ⟨hu, a4k hu, by omega, by omega, ?_, ?_, ?_⟩
 ·rw [e1, List.map_take, tT n hu']
 ·rw [List.map_drop, iY (n + 1) hu']
 ·rw [e1]; simp; omega
theorem DelK.keep {k : Nat} {xs : List (List Value × Bool)} {i j : Nat} {F : List Value} (h : DelK k xs i j F) (hj : j < xs.length) (hp : xs[j].2 = false) : DelK k xs (i + 1) (j + 1) (F.take (i * k) ++ xs[j].1 ++ F.drop (i * k + xs[j].1.length)) := by
 have e1 : (xs.take (j + 1)).filter (fun x => !x.2) = (xs.take j).filter (fun x => !x.2) ++ [xs[j]] := by
  rw [List.take_succ_eq_append_getElem hj, List.filter_append]
  simp [hp]
 have hl := h.len
 have hij := h.ij
 have hu := h.un xs[j] (List.getElem_mem hj)
 have hle : (i + 1) * k ≤ j * k := Nat.mul_le_mul_right k hij
 have hle2 : (j + 1) * k ≤ xs.length * k := Nat.mul_le_mul_right k hj
 rw [Nat.add_mul] at hle hle2
 simp only [Nat.one_mul] at hle hle2
 have hFl : i * k + k ≤ F.length := by omega
 refine ⟨h.un, ?_, by omega, by omega, ?_, ?_, ?_⟩
 ·simp only [List.length_append, List.length_take, List.length_drop, hu]; omega
 ·rw [List.take_append_of_le_length (by simp [hu, Nat.add_mul]; omega), List.take_of_length_le (by simp [hu, Nat.add_mul]; omega), e1, List.map_append, List.flatten_append, h.lo]; simp
 ·rw [List.drop_append, List.drop_of_length_le (by simp [hu, Nat.add_mul]; omega), List.nil_append, List.drop_drop]
  have e2 : F.drop ((j + 1) * k) = ((xs.drop (j + 1)).map (·.1)).flatten := by
   have hu' : ∀ r ∈ (xs.drop j).map (·.1), r.length = k := fun r hr => by obtain ⟨x, hx, rfl⟩ := List.mem_map.1 hr; exact h.un x (List.mem_of_mem_drop hx)
   have := iY 1 hu'
   rw [Nat.add_mul, ← List.drop_drop, h.hi, ← this, ← List.map_drop, List.drop_drop]
  rw [← e2]
  congr 1
  simp only [List.length_append, List.length_take, hu, Nat.add_mul]
  omega
 ·rw [e1, List.length_append, ← h.il]; rfl
theorem DelK.skip {k : Nat} {xs : List (List Value × Bool)} {i j : Nat} {F : List Value} (h : DelK k xs i j F) (hj : j < xs.length) (hp : xs[j].2 = true) : DelK k xs i (j + 1) F := by
 have e1 : (xs.take (j + 1)).filter (fun x => !x.2) = (xs.take j).filter (fun x => !x.2) := by
  rw [List.take_succ_eq_append_getElem hj, List.filter_append]
  simp [hp]
 have hij := h.ij
 refine ⟨h.un, h.len, by omega, by omega, by rw [e1]; exact h.lo, ?_, by rw [e1]; exact h.il⟩
 have hu' : ∀ r ∈ (xs.drop j).map (·.1), r.length = k := fun r hr => by obtain ⟨x, hx, rfl⟩ := List.mem_map.1 hr; exact h.un x (List.mem_of_mem_drop hx)
 have := iY 1 hu'
 rw [Nat.add_mul, ← List.drop_drop, h.hi, ← this, ← List.map_drop, List.drop_drop]
theorem DelK.fin {k : Nat} {xs : List (List Value × Bool)} {i : Nat} {F : List Value} (h : DelK k xs i xs.length F) : F.take (i * k) = ((xs.filter fun x => !x.2).map (·.1)).flatten ∧ i = (xs.filter fun x => !x.2).length := by
 have h1 := h.lo
 have h2 := h.il
 rw [List.take_length] at h1 h2
 exact ⟨h1, h2⟩
theorem RowAt.other {w wr W : World} {b ty N : Nat} {F : List Value} (h : RowAt w wr b ty N F) (hb : Below wr.heap.size wr W) : RowAt w W b ty N F := h.behind hb
def fJ {τ : Type} (k : Nat) (p : τ → Bool) : List Value → List τ → List (List Value × Bool)
 | _, [] => []
 | ys, x :: l => (ys.take k, p x) :: fJ k p (ys.drop k) l
def a0Q {α τ : Type} (k : Nat) (p : τ → Bool) : List α → List τ → List α
 | _, [] => []
 | ys, x :: l => (if p x then [] else ys.take k) ++ a0Q k p (ys.drop k) l
theorem xR {τ : Type} (k : Nat) (p : τ → Bool) : ∀ (l : List τ) (ys : List Value), (fJ k p ys l).length = l.length
 | [], _ => rfl
 | x :: l, ys => by simp [fJ, xR k p l]
theorem zS {τ : Type} (k : Nat) (p : τ → Bool) : ∀ (l : List τ) (ys : List Value), ys.length = l.length * k → ∀ x ∈ fJ k p ys l, x.1.length = k
 | [], _, _, x, hx => by simp [fJ] at hx
 | y :: l, ys, h, x, hx => by
  rw [List.length_cons, Nat.add_mul] at h
  rcases List.mem_cons.1 hx with rfl | hx
  ·simp; omega
  ·exact zS k p l _ (by simp; omega) x hx
theorem xS {τ : Type} (k : Nat) (p : τ → Bool) : ∀ (l : List τ) (ys : List Value) (j : Nat) (hj : j < l.length) (hj' : j < (fJ k p ys l).length), (fJ k p ys l)[j] = ((ys.drop (j * k)).take k, p l[j])
 | y :: l, ys, 0, _, _ => by simp [fJ]
 | y :: l, ys, j + 1, hj, hj' => by
  simp only [fJ, List.getElem_cons_succ]
  rw [xS k p l (ys.drop k) j (by simpa using hj)]
  rw [List.drop_drop, Nat.add_mul, Nat.one_mul, Nat.add_comm]
theorem uT {τ : Type} (k : Nat) (p : τ → Bool) : ∀ (l : List τ) (ys : List Value), ys.length = l.length * k → ((fJ k p ys l).map (·.1)).flatten = ys
 | [], ys, h => by simp at h; subst h; rfl
 | x :: l, ys, h => by
  rw [List.length_cons, Nat.add_mul] at h
  simp only [fJ, List.map_cons, List.flatten_cons]
  rw [uT k p l _ (by simp; omega), List.take_append_drop]
theorem xU {τ : Type} (k : Nat) (p : τ → Bool) : ∀ (l : List τ) (ys : List Value), (((fJ k p ys l).filter fun x => !x.2).map (·.1)).flatten = a0Q k p ys l ∧ ((fJ k p ys l).filter fun x => !x.2).length = (l.filter fun x => !p x).length
 | [], ys => ⟨rfl, rfl⟩
 | x :: l, ys => by
  obtain ⟨h1, h2⟩ := xU k p l (ys.drop k)
  simp only [fJ, List.filter_cons, a0Q]
  cases p x
  ·simp [h1, h2]
  ·simp [h1, h2]
theorem a1R {τ : Type} (k : Nat) (p : τ → Bool) : ∀ (l : List τ) (Ss : List (List Nat)), (a0Q k p Ss l).Sublist Ss
 | [], _ => List.nil_sublist _
 | x :: l, Ss => by
  simp only [a0Q]
  conv => rhs; rw [← List.take_append_drop k Ss]
  refine List.Sublist.append ?_ (a1R k p l _)
  split
  ·exact List.nil_sublist _
  ·exact List.Sublist.refl _
theorem LayL.sel {τ : Type} {V : View} {k : Nat} (enc : τ → List D) (p : τ → Bool) (he : ∀ x, (enc x).length = k) : ∀ (l : List τ) (ys : List Value) (Ss : List (List Nat)), LayL V (l.map enc).flatten ys Ss → LayL V ((l.filter fun x => !p x).map enc).flatten (a0Q k p ys l) (a0Q k p Ss l)
 | [], ys, Ss, h => LayL.nil V
 | x :: l, ys, Ss, h => by
  have h1 := h.take k
  have h2 := h.drop k
  simp only [List.map_cons, List.flatten_cons] at h1 h2
  rw [List.take_left' (he x)] at h1
  rw [List.drop_left' (he x)] at h2
  have ih := LayL.sel enc p he l _ _ h2
  simp only [a0Q, List.filter_cons]
  cases p x
  ·simp only [Bool.not_false, if_true, Bool.false_eq_true, if_false, List.map_cons, List.flatten_cons]
   exact h1.append ih
  ·simp only [Bool.not_true, Bool.false_eq_true, if_false, if_true, List.nil_append]
   exact ih
theorem a8i {V : View} {ds : List D} {ys : List Value} {Ss : List (List Nat)} (h : LayL V ds ys Ss) : cL [] V (ds.map At.d) ys :=
 ⟨by simp [h.1], fun j a y h1 h2 => by
  rw [List.getElem?_map] at h1
  cases hd : ds[j]? with
  | none => rw [hd] at h1; cases h1
  | some d =>
   rw [hd] at h1
   cases h1
   have hj : j < Ss.length := by rw [h.2.1]; exact (List.getElem?_eq_some_iff.1 hd).1
   exact ⟨_, h.2.2 j d y _ hd h2 (List.getElem?_eq_getElem hj)⟩⟩
theorem LayL.chunk {τ : Type} {V : View} {k : Nat} {enc : τ → List D} (he : ∀ x, (enc x).length = k) {l : List τ} {ys : List Value} {Ss : List (List Nat)} (h : LayL V (l.map enc).flatten ys Ss) (j : Nat) (hj : j < l.length) : LayL V (enc l[j]) ((ys.drop (j * k)).take k) ((Ss.drop (j * k)).take k) := by
 have hu : ∀ r ∈ l.map enc, r.length = k := fun r hr => by obtain ⟨x, _, rfl⟩ := List.mem_map.1 hr; exact he x
 have h1 := (h.drop (j * k)).take k
 rw [← iY j hu, List.drop_eq_getElem_cons (by simpa using hj), List.flatten_cons, List.getElem_map, List.take_left' (he _)] at h1
 exact h1
theorem sP {w W : World} {c : Array Value} {ty : Nat} (h : Below (w.alloc (.cells c ty)).heap.size (w.alloc (.cells c ty)) W) {t : Nat} {v : Value} (hv : c.toList[t]? = some v) : W.cell? ⟨w.heap.size, t, none⟩ = some v := by
 have hh : (w.alloc (.cells c ty)).heap = w.heap.push (.cells c ty) := rfl
 have h1 : W.heap[w.heap.size]? = some (.cells c ty) := by
  rw [h.block w.heap.size (by rw [hh, Array.size_push]; omega), hh, Array.getElem?_push, if_pos rfl]
 simp only [World.cell?, h1, Option.isSome_none, Bool.false_eq_true, if_false]
 rw [← Array.getElem?_toList]; exact hv
theorem a1S {α : Type} {l m : List (List α)} (h : l.Sublist m) : l.flatten.Sublist m.flatten := by
 induction h with
 | slnil => exact List.Sublist.refl _
 | cons a _ ih => exact ih.trans (by simp)
 | cons_cons a _ ih => simp only [List.flatten_cons]; exact (List.Sublist.refl a).append ih
end Go.Sx
end
