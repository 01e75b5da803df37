/- Joined texts. -/
import Derived.Test.YtolgdibgnndoaaaGreatZ13
import Derived.Test.YtolgdibgnndoaaaGreatZ07
import Derived.Test.YtolgdibgnndoaaaGreatZ11
import Derived.Test.YtolgdibgnndoaaaGreatZ12
import Derived.Test.YtolgdibgnndoaaaGreatZ10
import Derived.Test.YtolgdibgnndoaaaGreatZ09
set_option linter.all false
section
set_option maxRecDepth 100000
set_option maxHeartbeats 4000000
namespace Go.Proofs.YtolgdibgnndoaaaGreat
open Go Go.Sx Go.RowKit Go.Proofs
theorem a3P (A B : List Nat) (k : Nat) (hA : k < A.length) (hB : k < B.length) (h : A.take k = B.take k) (e : A[k] = B[k]) : A.take (k + 1) = B.take (k + 1) := by
 rw [List.take_succ_eq_append_getElem hA, List.take_succ_eq_append_getElem hB, h, e]
theorem a7N (A B : List Nat) (hA : A.length ≤ 4300000) (hB : B.length ≤ 4300000) : FnC Tryz.prog 87 [.o (.d (.sl (A.map a0n))), .o (.d (.sl (B.map a0n)))] (ob (decide (A = B))) := by
 refine ent Tryz.func87 rfl Tryz.call87 rfl (fun C => ?_); simp only [go_sem, st0, Tryz.ntmps87]
 by_cases hl : A.length = B.length
 ·have hli : ((A.length : Nat) : Int) = ((B.length : Nat) : Int) := by omega
  have q0 := @hli; have q1 := @decide_true; refine gT ?_
  refine bB (α := Nat) (fun k => [(5, oi k)]) (fun _ => []) (fun k => k ≤ A.length ∧ A.take k = B.take k) (fun k => A.length - k) 0 (fun _ => ?_) ?_ ?_ (fun k hk => ?_)
  ·simp only [go_sem]
  ·simp only [go_sem]; simp
  ·simp
  ·obtain ⟨hk, hq⟩ := hk
   simp only [go_sem]
   refine aB ?_
   refine cnd rfl (fun h => ?_) (fun h => ?_)
   ·simp only [decide_eq_true_eq, Int.ofNat_lt] at h
    have h2 : k < B.length := by omega
    by_cases he : A[k] = B[k]
    ·have hei : ((A[k] : Nat) : Int) = ((B[k] : Nat) : Int) := by omega
     have q0 := @h; have q1 := @h2; have q2 := @hei; have q3 := @decide_true; refine mE ?_
     refine aD (k + 1) ?_ ?_ ?_
     ·simp only [go_sem]; simp
     ·exact ⟨by omega, a3P A B k h h2 hq he⟩
     ·omega
    ·have hei : ¬ ((A[k] : Nat) : Int) = ((B[k] : Nat) : Int) := by omega
     have hne : decide (A = B) = false := decide_eq_false fun e => he (by subst e; rfl)
     have q0 := @h; have q1 := @h2; have q2 := @hei; have q3 := @decide_false; refine mE ?_
     exact aA ⟨⟨_, rfl, by simp only [go_sem, hne]⟩, trivial⟩
   ·simp only [decide_eq_false_iff_not] at h
    have e : k = A.length := by omega
    subst e
    rw [List.take_length, hl, List.take_length] at hq
    have hy : decide (A = B) = true := decide_eq_true hq
    refine aB ?_
    exact aA ⟨⟨_, rfl, by simp only [go_sem, hy]⟩, trivial⟩
 ·have hli : ¬ ((A.length : Nat) : Int) = ((B.length : Nat) : Int) := by omega
  have hne : decide (A = B) = false := decide_eq_false fun e => hl (by rw [e])
  have q0 := @hli; have q1 := @decide_false; refine gT ?_
  exact aA ⟨⟨_, rfl, by simp only [go_sem, hne]⟩, trivial⟩
theorem iX (d : List TDir) (hd : dK d ≤ 4300000) : FnC Tryz.prog 84 [.o (.d (.sl (d.map bD)))] (.t [(false, [.d (.sl ((resL d).map a0n))]), (false, [.d (bv (sS d))])]) := by
 have hd0 : d.length + dD mG d ≤ 4300000 := hd
 refine ent Tryz.func84 rfl Tryz.call84 rfl (fun C => ?_); simp only [go_sem, st0, Tryz.ntmps84]
 cases hv : fE d
 ·have e1 : resL d = [] := by simp [resL, hv]
  have e2 : sS d = false := by simp [sS, hv]
  have q0 := @hv; refine jB (xR d hd) ?_
  refine tL (Sees.frz 0 rfl) ?_
  simp only [go_sem]
  exact aA ⟨⟨_, rfl, by simp only [go_sem, e1, e2, List.map_nil]⟩, by simp [dF]⟩
 have e1 : resL d = a9d d.length (EE d) := by simp [resL, hv]
 have e2 : sS d = a1z d.length (EE d) := by simp [sS, hv]
 have hl5 := mP hv
 have hsq : d.length * d.length ≤ 25 := Nat.mul_le_mul hl5 hl5
 have hmul : ((d.length : Nat) : Int) * ((d.length : Nat) : Int) = ((d.length * d.length : Nat) : Int) := by rw [Int.natCast_mul]
 have hends := a2P (sU d) (fJ d) (fun x => Iff.rfl) (d.length * d.length + 2) (by omega)
 have hEl := a1p d hv d.length
 have hEok : ∀ x ∈ fJ d, x.1 < (List.replicate d.length 0).length ∧ x.2.2 ≤ 1 := fun x hx => by rw [List.length_replicate]; exact a2I d d.length x hx
 have hEl2 : (fJ d).length ≤ 90 := by have : fJ d = iH d d.length := rfl; rw [this]; omega
 have hbd := a1C (fJ d) (List.replicate d.length 0) hEok (fun j => a3V _ j)
 have hlen : ∀ r, (upsN (fJ d) r (List.replicate d.length 0)).length = d.length := fun r => by rw [a1B]; simp
 generalize hN2 : d.length * d.length = N2 at *
 have hB : ∀ r, r ≤ N2 + 2 → ∀ j, lv (upsN (fJ d) r (List.replicate d.length 0)) j ≤ 1000000 := fun r hr j => by
  have h1 := hbd r j
  have h2 : r * (fJ d).length ≤ 27 * 90 := Nat.mul_le_mul (by omega) hEl2
  omega
 have q0 := @hv; refine jB (xR d hd) ?_
 refine bB (α := Nat) (fun r => [(4, .o (.s 0)), (12, .o .u), (5, oi r)]) (fun r => [(0, .row 3 1 ((upsN (fJ d) r (List.replicate d.length 0)).map a0n) true)]) (fun r => r ≤ N2 + 2) (fun r => N2 + 2 - r) 0 (fun _ => ?_) ?_ ?_ (fun r hr => ?_)
 ·simp only [go_sem]
 ·simp only [go_sem]; simp [upsN, a0n]
 ·simp
 ·simp only [go_sem]
  have q0 := @hmul; refine dZ ?_
  refine cnd rfl (fun h => ?_) (fun h => ?_)
  ·simp only [decide_eq_true_eq] at h
   refine iV (a1q d (upsN (fJ d) r (List.replicate d.length 0)) hv hd (hlen r) (hB r hr)) ?_
   refine a3b [(0, 1)] (r + 1) (by simp only [go_sem]; rfl) ?_ ?_ ?_
   ·simp only [go_sem, upsN]; simp
   ·omega
   ·omega
  ·simp only [decide_eq_false_iff_not] at h
   have e : r = N2 + 2 := by omega
   subst e
   have hLl := hlen (N2 + 2)
   have hLB := hB (N2 + 2) (by omega)
   simp only at hends
   generalize upsN (fJ d) (N2 + 2) (List.replicate d.length 0) = L at *
   have hUl : (ups (fJ d) L).length = d.length := by rw [uE]; exact hLl
   by_cases hs : ups (fJ d) L = L
   ·rw [if_pos hs] at hends
    have f1 := a7R hends
    have f2 := a2N hends.clo
    have hy : decide (ups (fJ d) L = L) = true := decide_eq_true hs
    have q0 := @hy; refine a8A (a1q d L hv hd hLl hLB) (a7N (ups (fJ d) L) L (by omega) (by omega)) ?_
    exact aA ⟨⟨_, rfl, by simp only [go_sem, e1, e2, f1, f2]⟩, by simp [dF]⟩
   ·rw [if_neg hs] at hends
    have f1 := b2A hends
    have f2 := b0X hends
    have hy : decide (ups (fJ d) L = L) = false := decide_eq_false hs
    have q0 := @hy; refine a8A (a1q d L hv hd hLl hLB) (a7N (ups (fJ d) L) L (by omega) (by omega)) ?_
    refine tL (Sees.frz 2 rfl) ?_
    simp only [go_sem]
    exact aA ⟨⟨_, rfl, by simp only [go_sem, e1, e2, f1, f2, List.map_nil]⟩, by simp [dF]⟩
theorem xS (d : List TDir) (hd : dK d ≤ 4300000) : FnC Tryz.prog 159 [.o (.d (.sl (d.map bD)))] (ob (sS d)) := by
 refine ent Tryz.func159 rfl Tryz.call159 rfl (fun C => ?_); simp only [go_sem, st0, Tryz.ntmps159]
 refine iV (iX d hd) ?_
 exact aA ⟨⟨_, rfl, by simp only [go_sem]⟩, trivial⟩
structure dirsD (m : Nat) (d : List TDir) : Prop where
 hi : d.length ≤ m
 nm : ∀ x ∈ d, x.fName.size ≤ 7
 qy : ∀ x ∈ d, qryA x.fQuery
theorem yL (m : Nat) : dirsD m [] := ⟨Nat.zero_le _, fun x h => by simp at h, fun x h => by simp at h⟩
theorem kW {p m : Nat} {q : List TNode} (h : qryD p m q) (hm : m ≤ 8) : qryA q := ⟨by have := h.hi; omega, h.nd⟩
theorem gU {m n : Nat} {d : List TDir} {x : TDir} (h : dirsD m d) (hn : d.length + 1 ≤ n) (h1 : x.fName.size ≤ 7) (h2 : qryA x.fQuery) : dirsD n (d ++ [x]) := ⟨by simpa using hn, fun y hy => by
 rcases List.mem_append.1 hy with hy | hy
 ·exact h.nm y hy
 ·simp only [List.mem_singleton] at hy; subst hy; exact h1, fun y hy => by
 rcases List.mem_append.1 hy with hy | hy
 ·exact h.qy y hy
 ·simp only [List.mem_singleton] at hy; subst hy; exact h2⟩
theorem a2r {m : Nat} {d : List TDir} {x : TDir} (h : dirsD m d) (k : Nat) (h1 : x.fName.size ≤ 7) (h2 : qryA x.fQuery) : dirsD m (d.set k x) := ⟨by simpa using h.hi, fun y hy => by
 rcases List.mem_or_eq_of_mem_set hy with hy | rfl
 ·exact h.nm y hy
 ·exact h1, fun y hy => by
 rcases List.mem_or_eq_of_mem_set hy with hy | rfl
 ·exact h.qy y hy
 ·exact h2⟩
theorem a6y {m : Nat} {d : List TDir} (h : dirsD m d) (k : Nat) : dirsD m (d.take k) := ⟨by have := h.hi; simp; omega, fun y hy => h.nm y (List.mem_of_mem_take hy), fun y hy => h.qy y (List.mem_of_mem_take hy)⟩
theorem a4O {m n : Nat} {d : List TDir} (h : dirsD m d) (hn : m ≤ n) : dirsD n d := ⟨by have := h.hi; omega, h.nm, h.qy⟩
theorem xF {m : Nat} {d : List TDir} (h : dirsD m d) (hm : m ≤ 6) : dK d ≤ 900 := by
 have h1 := xG mG 140 d fun x hx => by
  have h2 := h.nm x hx
  have h3 := h.qy x hx
  have h4 := b4m h3.hi h3.nd
  unfold mG
  omega
 have h2 := h.hi
 unfold dK
 have : d.length * 140 ≤ 6 * 140 := Nat.mul_le_mul_right _ (by omega)
 omega
theorem qJ {l : List Int} (hl : fA l) : Drw l 158 [] (fun d : List TDir => dirsD 4 d ∧ 0 < d.length) (fun d => .o (.w 67 2 (d.map bD))) := by
 intro i h hi hh; refine kN Tryz.func158 rfl Tryz.call158 rfl (fun C b => ?_); simp only [go_sem, Tryz.ntmps158]
 refine aB ?_
 refine bB (α := Nat × List TDir × Nat × Int) (fun x => [(3, .o (.s 1)), (4, oi x.1), (5, .o .u)]) (fun x => [(0, .pin b 158 [.sl (l.map kM), iv x.2.2.1, iv x.2.2.2]), (1, .row 67 2 (x.2.1.map bD) true)]) (fun x => (x.1 ≤ 4 ∧ x.2.1.length = x.1 ∧ dirsD 4 x.2.1) ∧ (x.2.2.1 ≤ l.length ∧ inR .i64 x.2.2.2)) (fun x => 5 - x.1) (0, [], i, h) (fun _ => ?_) ?_ ?_ (fun x hx => ?_)
 ·simp only [go_sem]
 ·simp only [go_sem]; simp
 ·exact ⟨⟨Nat.zero_le _, rfl, yL 4⟩, hi, hh⟩
 ·clear hi hh
  obtain ⟨k, d, i, h⟩ := x
  obtain ⟨⟨k4, hk, hd⟩, hi, hh⟩ := hx
  simp only at k4 hk hd hi hh
  simp only [go_sem]
  refine aB ?_
  first | (refine aJ (aC hl 4 (by decide) (by decide) i h hi hh) ⟨rfl, rfl⟩ ?_ rfl ?_; (focus first | rfl | (simp only [go_sem]; done))) | (refine hZ (aC hl 4 (by decide) (by decide) i h hi hh) ⟨rfl, rfl⟩ ?_ rfl ?_; (focus first | rfl | (simp only [go_sem]; done)))
  clear hi hh; rintro ⟨x, i, h⟩ ⟨hx, hi, hh⟩; simp only at hx hi hh; simp only [go_sem]
  refine aB ?_
  refine cnd rfl (fun hlt => ?_) (fun hlt => ?_)
  ·simp only [decide_eq_true_eq] at hlt
   have h4 : k = 0 ∨ k = 1 ∨ k = 2 ∨ k = 3 := by omega
   have hq1 : d.length + 1 ≤ 140737488355328 := by omega
   have hq2 : (d.length + 1) * 40 ≤ 140737488355328 := by omega
   have r0 : ∀ (a b c e : List D), dU [a, b, c, e] 0 = a := fun _ _ _ _ => rfl
   have r1 : ∀ (a b c e : List D), dU [a, b, c, e] 1 = b := fun _ _ _ _ => rfl
   have r2 : ∀ (a b c e : List D), dU [a, b, c, e] 2 = c := fun _ _ _ _ => rfl
   have r3 : ∀ (a b c e : List D), dU [a, b, c, e] 3 = e := fun _ _ _ _ => rfl
   have rs : ∀ (a : D), sub [a] 0 1 = some [a] := fun _ => rfl
   clear hlt hx
   rcases h4 with rfl | rfl | rfl | rfl
   ·have qH := aI @hq1 (aI @hq2 (aI @r0 (aI @r1 (aI @r2 (aI @r3 @rs))))); repeat' (with_reducible first | refine nY ?_ | (refine mX ?_; try simp only [go_sem, qH]) | refine kD ?_ | (apply rF [1,6,8,9,10] [10] [0,2,5] [0,2,5] ((.c 1 [3,4] [0,2,3,4,5] (.c 6 [7] [0,2,3,4,7] (.c 8 [] [0] (.c 9 [] [] (.c 10 [] [] .n .n) .n) .n) .n) (.c 6 [] [0,2] (.c 1 [3,4,7] [0,2,3,4,7] (.c 8 [] [0] (.c 9 [] [] (.c 10 [] [] .n .n) .n) .n) .n) .n))) (by simp only [go_sem]; rfl) (by simp only [go_sem]; rfl) (by simp only [go_sem]; rfl) (by decide +kernel); (focus simp only [go_sem]; done)) | exact aQ | refine aK (uX ?_) ?_ | refine aL (aX ?_) ?_ | refine aM (aX ?_) ?_ | exact bE | exact oH | exact uB | refine rD ?_ | refine aO ?_ | fail)
    all_goals
     skip
     first | (refine aJ (aU hl i h hi hh) ⟨rfl, rfl⟩ ?_ rfl ?_; (focus first | rfl | (simp only [go_sem]; done))) | (refine hZ (aU hl i h hi hh) ⟨rfl, rfl⟩ ?_ rfl ?_; (focus first | rfl | (simp only [go_sem]; done)))
     clear hi hh; rintro ⟨q, i, h⟩ ⟨hq, hi, hh⟩; simp only at hq hi hh; simp only [go_sem]
     have qH := aI @hq1 (aI @hq2 (aI @r0 (aI @r1 (aI @r2 (aI @r3 @rs))))); repeat' (with_reducible first | refine nY ?_ | (refine mX ?_; try simp only [go_sem, qH]) | refine kD ?_ | exact aQ | refine aK (uX ?_) ?_ | refine aL (aX ?_) ?_ | refine aM (aX ?_) ?_ | exact uB | refine rD ?_ | refine aO ?_ | fail)
     refine aD (1, d ++ [⟨⟨#[100, 97]⟩, q⟩], i, h) ?_ ?_ ?_
     ·simp only [go_sem, List.map_append, List.map_cons, List.map_nil]; simp
     ·exact ⟨⟨by simp only; omega, by simp [hk], gU hd (by omega) (by simp only; decide) (kW hq (by decide))⟩, hi, hh⟩
     ·simp only; omega
   ·have qH := aI @hq1 (aI @hq2 (aI @r0 (aI @r1 (aI @r2 (aI @r3 @rs))))); repeat' (with_reducible first | refine nY ?_ | (refine mX ?_; try simp only [go_sem, qH]) | refine kD ?_ | (apply rF [1,6,8,9,10] [10] [0,2,5] [0,2,5] ((.c 1 [3,4] [0,2,3,4,5] (.c 6 [7] [0,2,3,4,7] (.c 8 [] [0] (.c 9 [] [] (.c 10 [] [] .n .n) .n) .n) .n) (.c 6 [] [0,2] (.c 1 [3,4,7] [0,2,3,4,7] (.c 8 [] [0] (.c 9 [] [] (.c 10 [] [] .n .n) .n) .n) .n) .n))) (by simp only [go_sem]; rfl) (by simp only [go_sem]; rfl) (by simp only [go_sem]; rfl) (by decide +kernel); (focus simp only [go_sem]; done)) | exact aQ | refine aK (uX ?_) ?_ | refine aL (aX ?_) ?_ | refine aM (aX ?_) ?_ | exact bE | exact oH | exact uB | refine rD ?_ | refine aO ?_ | fail)
    all_goals
     skip
     first | (refine aJ (aU hl i h hi hh) ⟨rfl, rfl⟩ ?_ rfl ?_; (focus first | rfl | (simp only [go_sem]; done))) | (refine hZ (aU hl i h hi hh) ⟨rfl, rfl⟩ ?_ rfl ?_; (focus first | rfl | (simp only [go_sem]; done)))
     clear hi hh; rintro ⟨q, i, h⟩ ⟨hq, hi, hh⟩; simp only at hq hi hh; simp only [go_sem]
     have qH := aI @hq1 (aI @hq2 (aI @r0 (aI @r1 (aI @r2 (aI @r3 @rs))))); repeat' (with_reducible first | refine nY ?_ | (refine mX ?_; try simp only [go_sem, qH]) | refine kD ?_ | exact aQ | refine aK (uX ?_) ?_ | refine aL (aX ?_) ?_ | refine aM (aX ?_) ?_ | exact uB | refine rD ?_ | refine aO ?_ | fail)
     refine aD (2, d ++ [⟨⟨#[100, 98]⟩, q⟩], i, h) ?_ ?_ ?_
     ·simp only [go_sem, List.map_append, List.map_cons, List.map_nil]; simp
     ·exact ⟨⟨by simp only; omega, by simp [hk], gU hd (by omega) (by simp only; decide) (kW hq (by decide))⟩, hi, hh⟩
     ·simp only; omega
   ·have qH := aI @hq1 (aI @hq2 (aI @r0 (aI @r1 (aI @r2 (aI @r3 @rs))))); repeat' (with_reducible first | refine nY ?_ | (refine mX ?_; try simp only [go_sem, qH]) | refine kD ?_ | (apply rF [1,6,8,9,10] [10] [0,2,5] [0,2,5] ((.c 1 [3,4] [0,2,3,4,5] (.c 6 [7] [0,2,3,4,7] (.c 8 [] [0] (.c 9 [] [] (.c 10 [] [] .n .n) .n) .n) .n) (.c 6 [] [0,2] (.c 1 [3,4,7] [0,2,3,4,7] (.c 8 [] [0] (.c 9 [] [] (.c 10 [] [] .n .n) .n) .n) .n) .n))) (by simp only [go_sem]; rfl) (by simp only [go_sem]; rfl) (by simp only [go_sem]; rfl) (by decide +kernel); (focus simp only [go_sem]; done)) | exact aQ | refine aK (uX ?_) ?_ | refine aL (aX ?_) ?_ | refine aM (aX ?_) ?_ | exact bE | exact oH | exact uB | refine rD ?_ | refine aO ?_ | fail)
    all_goals
     skip
     first | (refine aJ (aU hl i h hi hh) ⟨rfl, rfl⟩ ?_ rfl ?_; (focus first | rfl | (simp only [go_sem]; done))) | (refine hZ (aU hl i h hi hh) ⟨rfl, rfl⟩ ?_ rfl ?_; (focus first | rfl | (simp only [go_sem]; done)))
     clear hi hh; rintro ⟨q, i, h⟩ ⟨hq, hi, hh⟩; simp only at hq hi hh; simp only [go_sem]
     have qH := aI @hq1 (aI @hq2 (aI @r0 (aI @r1 (aI @r2 (aI @r3 @rs))))); repeat' (with_reducible first | refine nY ?_ | (refine mX ?_; try simp only [go_sem, qH]) | refine kD ?_ | exact aQ | refine aK (uX ?_) ?_ | refine aL (aX ?_) ?_ | refine aM (aX ?_) ?_ | exact uB | refine rD ?_ | refine aO ?_ | fail)
     refine aD (3, d ++ [⟨⟨#[100, 99]⟩, q⟩], i, h) ?_ ?_ ?_
     ·simp only [go_sem, List.map_append, List.map_cons, List.map_nil]; simp
     ·exact ⟨⟨by simp only; omega, by simp [hk], gU hd (by omega) (by simp only; decide) (kW hq (by decide))⟩, hi, hh⟩
     ·simp only; omega
   ·have qH := aI @hq1 (aI @hq2 (aI @r0 (aI @r1 (aI @r2 (aI @r3 @rs))))); repeat' (with_reducible first | refine nY ?_ | (refine mX ?_; try simp only [go_sem, qH]) | refine kD ?_ | (apply rF [1,6,8,9,10] [10] [0,2,5] [0,2,5] ((.c 1 [3,4] [0,2,3,4,5] (.c 6 [7] [0,2,3,4,7] (.c 8 [] [0] (.c 9 [] [] (.c 10 [] [] .n .n) .n) .n) .n) (.c 6 [] [0,2] (.c 1 [3,4,7] [0,2,3,4,7] (.c 8 [] [0] (.c 9 [] [] (.c 10 [] [] .n .n) .n) .n) .n) .n))) (by simp only [go_sem]; rfl) (by simp only [go_sem]; rfl) (by simp only [go_sem]; rfl) (by decide +kernel); (focus simp only [go_sem]; done)) | exact aQ | refine aK (uX ?_) ?_ | refine aL (aX ?_) ?_ | refine aM (aX ?_) ?_ | exact bE | exact oH | exact uB | refine rD ?_ | refine aO ?_ | fail)
    all_goals
     skip
     first | (refine aJ (aU hl i h hi hh) ⟨rfl, rfl⟩ ?_ rfl ?_; (focus first | rfl | (simp only [go_sem]; done))) | (refine hZ (aU hl i h hi hh) ⟨rfl, rfl⟩ ?_ rfl ?_; (focus first | rfl | (simp only [go_sem]; done)))
     clear hi hh; rintro ⟨q, i, h⟩ ⟨hq, hi, hh⟩; simp only at hq hi hh; simp only [go_sem]
     have qH := aI @hq1 (aI @hq2 (aI @r0 (aI @r1 (aI @r2 (aI @r3 @rs))))); repeat' (with_reducible first | refine nY ?_ | (refine mX ?_; try simp only [go_sem, qH]) | refine kD ?_ | exact aQ | refine aK (uX ?_) ?_ | refine aL (aX ?_) ?_ | refine aM (aX ?_) ?_ | exact uB | refine rD ?_ | refine aO ?_ | fail)
     refine aD (4, d ++ [⟨⟨#[100, 100]⟩, q⟩], i, h) ?_ ?_ ?_
     ·simp only [go_sem, List.map_append, List.map_cons, List.map_nil]; simp
     ·exact ⟨⟨by simp only; omega, by simp [hk], gU hd (by omega) (by simp only; decide) (kW hq (by decide))⟩, hi, hh⟩
     ·simp only; omega
  ·refine aB ?_
   exact aF (d, i, h) ⟨⟨_, rfl, by simp only [go_sem]⟩, trivial⟩ ⟨(show dirsD 4 d ∧ 0 < d.length from ⟨hd, by simp only [decide_eq_false_iff_not] at hlt; omega⟩), ⟨hi, hh⟩⟩ (by simp only [go_sem])
@[go_sem] def nmY : List ByteArray := [⟨#[]⟩, ⟨#[65]⟩, ⟨#[122, 122]⟩, ⟨#[97, 98, 99, 100, 101, 102, 103]⟩]
theorem fM {l : List Int} (hl : fA l) : Drw l 120 [] (fun d : List TDir => dirsD 6 d) (fun d => .o (.d (.sl (d.map bD)))) := by
 intro i h hi hh; refine kN Tryz.func120 rfl Tryz.call120 rfl (fun C b => ?_); simp only [go_sem, Tryz.ntmps120]
 refine aB ?_
 first | (refine aJ (qJ hl i h hi hh) ⟨rfl, rfl⟩ ?_ rfl ?_; (focus first | rfl | (simp only [go_sem]; done))) | (refine hZ (qJ hl i h hi hh) ⟨rfl, rfl⟩ ?_ rfl ?_; (focus first | rfl | (simp only [go_sem]; done)))
 clear hi hh; rintro ⟨d, i, h⟩ ⟨hd, hi, hh⟩; simp only at hd hi hh; simp only [go_sem]
 obtain ⟨hd, hpos⟩ := hd
 have hd6 := a4O (n := 6) hd (by decide)
 have hlen := hd.hi
 refine aB ?_
 first | (refine aJ (aC hl (d.length : Int) (by omega) (by omega) i h hi hh) ⟨rfl, rfl⟩ ?_ rfl ?_; (focus first | rfl | (simp only [go_sem]; done))) | (refine hZ (aC hl (d.length : Int) (by omega) (by omega) i h hi hh) ⟨rfl, rfl⟩ ?_ rfl ?_; (focus first | rfl | (simp only [go_sem]; done)))
 clear hi hh; rintro ⟨x, i, h⟩ ⟨hx, hi, hh⟩; simp only at hx hi hh; simp only [go_sem]
 obtain ⟨k, rfl⟩ := Int.eq_ofNat_of_zero_le hx.1
 have hk : k < d.length := by omega
 have hkn := hd.nm d[k] (List.getElem_mem hk)
 have hkq := hd.qy d[k] (List.getElem_mem hk)
 refine aB ?_
 first | (refine aJ (aC hl 10 (by decide) (by decide) i h hi hh) ⟨rfl, rfl⟩ ?_ rfl ?_; (focus first | rfl | (simp only [go_sem]; done))) | (refine hZ (aC hl 10 (by decide) (by decide) i h hi hh) ⟨rfl, rfl⟩ ?_ rfl ?_; (focus first | rfl | (simp only [go_sem]; done)))
 clear hi hh; rintro ⟨c, i, h⟩ ⟨hc, hi, hh⟩; simp only at hc hi hh; simp only [go_sem]
 have h5 : c = 0 ∨ c = 1 ∨ c = 2 ∨ c = 3 ∨ (¬ c = 0 ∧ ¬ c = 1 ∧ ¬ c = 2 ∧ ¬ c = 3) := by omega
 rcases h5 with rfl | rfl | rfl | rfl | ⟨k0, k1, k2, k3⟩
 ·have q0 := @hk; refine dZ ?_
  first | (refine aJ (bK hl nmY (by decide) (by decide) i h hi hh) ⟨rfl, rfl⟩ ?_ rfl ?_; (focus first | rfl | (simp only [go_sem]; done))) | (refine hZ (bK hl nmY (by decide) (by decide) i h hi hh) ⟨rfl, rfl⟩ ?_ rfl ?_; (focus first | rfl | (simp only [go_sem]; done)))
  clear hi hh; rintro ⟨y, i, h⟩ ⟨hy, hi, hh⟩; simp only at hy hi hh; simp only [go_sem]
  have hy2 := (by decide +kernel : ∀ n ∈ nmY, n.size ≤ 7) y hy
  have q0 := @hk; refine dZ ?_
  first | refine dL (Sees.frz 1 rfl) ?_
  simp only [go_sem]
  exact aF (d.set k ⟨y, d[k].fQuery⟩, i, h) ⟨⟨_, rfl, by simp only [go_sem, List.map_set, List.map_append, List.map_cons, List.map_nil]; try rfl⟩, trivial⟩ ⟨(show dirsD 6 _ from a2r hd6 k hy2 hkq), ⟨hi, hh⟩⟩ (by simp only [go_sem])
 ·have q0 := @hk; refine dZ ?_
  first | (refine aJ (a2H hl i h hi hh) ⟨rfl, rfl⟩ ?_ rfl ?_; (focus first | rfl | (simp only [go_sem]; done))) | (refine hZ (a2H hl i h hi hh) ⟨rfl, rfl⟩ ?_ rfl ?_; (focus first | rfl | (simp only [go_sem]; done)))
  clear hi hh; rintro ⟨y, i, h⟩ ⟨hy, hi, hh⟩; simp only at hy hi hh; simp only [go_sem]
  have q0 := @hk; refine dZ ?_
  first | refine dL (Sees.frz 1 rfl) ?_
  simp only [go_sem]
  exact aF (d.set k ⟨d[k].fName, y⟩, i, h) ⟨⟨_, rfl, by simp only [go_sem, List.map_set, List.map_append, List.map_cons, List.map_nil]; try rfl⟩, trivial⟩ ⟨(show dirsD 6 _ from a2r hd6 k hkn hy), ⟨hi, hh⟩⟩ (by simp only [go_sem])
 ·refine aB ?_
  refine bB (α := List TDir × Nat × Int) (fun x => [(3, .o (.s 1)), (5, .o .u), (6, .o .u), (8, .o .u)]) (fun x => [(0, .pin b 158 [.sl (l.map kM), iv x.2.1, iv x.2.2]), (1, .row 67 2 (x.1.map bD) true)]) (fun x => (dirsD 6 x.1 ∧ 0 < x.1.length) ∧ (x.2.1 ≤ l.length ∧ inR .i64 x.2.2)) (fun x => 7 - x.1.length) (d, i, h) (fun _ => ?_) ?_ ?_ (fun y hy => ?_)
  ·simp only [go_sem]
  ·simp only [go_sem]; simp
  ·exact ⟨⟨hd6, hpos⟩, hi, hh⟩
  ·clear hi hh hkn hkq hk hlen hpos hd hd6 hx hc
   obtain ⟨d, i, h⟩ := y
   obtain ⟨⟨hd, hpos⟩, hi, hh⟩ := hy
   simp only at hd hpos hi hh
   simp only [go_sem]
   refine aB ?_
   first | (refine aJ (aC hl 2 (by decide) (by decide) i h hi hh) ⟨rfl, rfl⟩ ?_ rfl ?_; (focus first | rfl | (simp only [go_sem]; done))) | (refine hZ (aC hl 2 (by decide) (by decide) i h hi hh) ⟨rfl, rfl⟩ ?_ rfl ?_; (focus first | rfl | (simp only [go_sem]; done)))
   clear hi hh; rintro ⟨z, i, h⟩ ⟨hz, hi, hh⟩; simp only at hz hi hh; simp only [go_sem]
   refine aB ?_
   refine cnd rfl (fun hlt => ?_) (fun hlt => ?_)
   ·simp only [decide_eq_true_eq] at hlt
    have hq1 : d.length + 1 ≤ 140737488355328 := by omega
    have hq2 : (d.length + 1) * 40 ≤ 140737488355328 := by omega
    have r1 : ∀ (a b c e f g : List D), dU [a, b, c, e, f, g] 1 = b := fun _ _ _ _ _ _ => rfl
    have r2 : ∀ (a b c e f g : List D), dU [a, b, c, e, f, g] 2 = c := fun _ _ _ _ _ _ => rfl
    have r3 : ∀ (a b c e f g : List D), dU [a, b, c, e, f, g] 3 = e := fun _ _ _ _ _ _ => rfl
    have r4 : ∀ (a b c e f g : List D), dU [a, b, c, e, f, g] 4 = f := fun _ _ _ _ _ _ => rfl
    have r5 : ∀ (a b c e f g : List D), dU [a, b, c, e, f, g] 5 = g := fun _ _ _ _ _ _ => rfl
    have rs : ∀ (a : D), sub [a] 0 1 = some [a] := fun _ => rfl
    have h15 : d.length = 1 ∨ d.length = 2 ∨ d.length = 3 ∨ d.length = 4 ∨ d.length = 5 := by omega
    clear hlt hz
    rcases h15 with hdl | hdl | hdl | hdl | hdl
    ·have qH := aI @hdl (aI @hq1 (aI @hq2 (aI @r1 @rs))); repeat' (with_reducible first | refine nY ?_ | (refine mX ?_; try simp only [go_sem, qH]) | refine kD ?_ | (apply rF [1,7,9,10,11] [11] [0,2,3,6] [0,2,3,6] ((.c 1 [4,5] [0,2,3,4,5,6] (.c 7 [8] [0,2,3,4,5,8] (.c 9 [] [0] (.c 10 [] [] (.c 11 [] [] .n .n) .n) .n) .n) (.c 7 [] [0,2,3] (.c 1 [4,5,8] [0,2,3,4,5,8] (.c 9 [] [0] (.c 10 [] [] (.c 11 [] [] .n .n) .n) .n) .n) .n))) (by simp only [go_sem]; rfl) (by simp only [go_sem]; rfl) (by simp only [go_sem]; rfl) (by decide +kernel); (focus simp only [go_sem]; done)) | exact aQ | refine aK (uX ?_) ?_ | refine aL (aX ?_) ?_ | refine aM (aX ?_) ?_ | exact bE | exact oH | exact uB | refine rD ?_ | refine aO ?_ | fail)
     all_goals
      skip
      first | (refine aJ (aU hl i h hi hh) ⟨rfl, rfl⟩ ?_ rfl ?_; (focus first | rfl | (simp only [go_sem]; done))) | (refine hZ (aU hl i h hi hh) ⟨rfl, rfl⟩ ?_ rfl ?_; (focus first | rfl | (simp only [go_sem]; done)))
      clear hi hh; rintro ⟨q, i, h⟩ ⟨hq, hi, hh⟩; simp only at hq hi hh; simp only [go_sem]
      have qH := aI @hdl (aI @hq1 (aI @hq2 (aI @r1 @rs))); repeat' (with_reducible first | refine nY ?_ | (refine mX ?_; try simp only [go_sem, qH]) | refine kD ?_ | exact aQ | refine aK (uX ?_) ?_ | refine aL (aX ?_) ?_ | refine aM (aX ?_) ?_ | exact uB | refine rD ?_ | refine aO ?_ | fail)
      refine aD (d ++ [⟨⟨#[100, 98]⟩, q⟩], i, h) ?_ ?_ ?_
      ·simp only [go_sem, List.map_append, List.map_cons, List.map_nil]; simp
      ·exact ⟨⟨gU hd (by omega) (by simp only; decide) (kW hq (by decide)), by simp⟩, hi, hh⟩
      ·simp only [List.length_append, List.length_cons, List.length_nil]; omega
    ·have qH := aI @hdl (aI @hq1 (aI @hq2 (aI @r2 @rs))); repeat' (with_reducible first | refine nY ?_ | (refine mX ?_; try simp only [go_sem, qH]) | refine kD ?_ | (apply rF [1,7,9,10,11] [11] [0,2,3,6] [0,2,3,6] ((.c 1 [4,5] [0,2,3,4,5,6] (.c 7 [8] [0,2,3,4,5,8] (.c 9 [] [0] (.c 10 [] [] (.c 11 [] [] .n .n) .n) .n) .n) (.c 7 [] [0,2,3] (.c 1 [4,5,8] [0,2,3,4,5,8] (.c 9 [] [0] (.c 10 [] [] (.c 11 [] [] .n .n) .n) .n) .n) .n))) (by simp only [go_sem]; rfl) (by simp only [go_sem]; rfl) (by simp only [go_sem]; rfl) (by decide +kernel); (focus simp only [go_sem]; done)) | exact aQ | refine aK (uX ?_) ?_ | refine aL (aX ?_) ?_ | refine aM (aX ?_) ?_ | exact bE | exact oH | exact uB | refine rD ?_ | refine aO ?_ | fail)
     all_goals
      skip
      first | (refine aJ (aU hl i h hi hh) ⟨rfl, rfl⟩ ?_ rfl ?_; (focus first | rfl | (simp only [go_sem]; done))) | (refine hZ (aU hl i h hi hh) ⟨rfl, rfl⟩ ?_ rfl ?_; (focus first | rfl | (simp only [go_sem]; done)))
      clear hi hh; rintro ⟨q, i, h⟩ ⟨hq, hi, hh⟩; simp only at hq hi hh; simp only [go_sem]
      have qH := aI @hdl (aI @hq1 (aI @hq2 (aI @r2 @rs))); repeat' (with_reducible first | refine nY ?_ | (refine mX ?_; try simp only [go_sem, qH]) | refine kD ?_ | exact aQ | refine aK (uX ?_) ?_ | refine aL (aX ?_) ?_ | refine aM (aX ?_) ?_ | exact uB | refine rD ?_ | refine aO ?_ | fail)
      refine aD (d ++ [⟨⟨#[100, 99]⟩, q⟩], i, h) ?_ ?_ ?_
      ·simp only [go_sem, List.map_append, List.map_cons, List.map_nil]; simp
      ·exact ⟨⟨gU hd (by omega) (by simp only; decide) (kW hq (by decide)), by simp⟩, hi, hh⟩
      ·simp only [List.length_append, List.length_cons, List.length_nil]; omega
    ·have qH := aI @hdl (aI @hq1 (aI @hq2 (aI @r3 @rs))); repeat' (with_reducible first | refine nY ?_ | (refine mX ?_; try simp only [go_sem, qH]) | refine kD ?_ | (apply rF [1,7,9,10,11] [11] [0,2,3,6] [0,2,3,6] ((.c 1 [4,5] [0,2,3,4,5,6] (.c 7 [8] [0,2,3,4,5,8] (.c 9 [] [0] (.c 10 [] [] (.c 11 [] [] .n .n) .n) .n) .n) (.c 7 [] [0,2,3] (.c 1 [4,5,8] [0,2,3,4,5,8] (.c 9 [] [0] (.c 10 [] [] (.c 11 [] [] .n .n) .n) .n) .n) .n))) (by simp only [go_sem]; rfl) (by simp only [go_sem]; rfl) (by simp only [go_sem]; rfl) (by decide +kernel); (focus simp only [go_sem]; done)) | exact aQ | refine aK (uX ?_) ?_ | refine aL (aX ?_) ?_ | refine aM (aX ?_) ?_ | exact bE | exact oH | exact uB | refine rD ?_ | refine aO ?_ | fail)
     all_goals
      skip
      first | (refine aJ (aU hl i h hi hh) ⟨rfl, rfl⟩ ?_ rfl ?_; (focus first | rfl | (simp only [go_sem]; done))) | (refine hZ (aU hl i h hi hh) ⟨rfl, rfl⟩ ?_ rfl ?_; (focus first | rfl | (simp only [go_sem]; done)))
      clear hi hh; rintro ⟨q, i, h⟩ ⟨hq, hi, hh⟩; simp only at hq hi hh; simp only [go_sem]
      have qH := aI @hdl (aI @hq1 (aI @hq2 (aI @r3 @rs))); repeat' (with_reducible first | refine nY ?_ | (refine mX ?_; try simp only [go_sem, qH]) | refine kD ?_ | exact aQ | refine aK (uX ?_) ?_ | refine aL (aX ?_) ?_ | refine aM (aX ?_) ?_ | exact uB | refine rD ?_ | refine aO ?_ | fail)
      refine aD (d ++ [⟨⟨#[100, 100]⟩, q⟩], i, h) ?_ ?_ ?_
      ·simp only [go_sem, List.map_append, List.map_cons, List.map_nil]; simp
      ·exact ⟨⟨gU hd (by omega) (by simp only; decide) (kW hq (by decide)), by simp⟩, hi, hh⟩
      ·simp only [List.length_append, List.length_cons, List.length_nil]; omega
    ·have qH := aI @hdl (aI @hq1 (aI @hq2 (aI @r4 @rs))); repeat' (with_reducible first | refine nY ?_ | (refine mX ?_; try simp only [go_sem, qH]) | refine kD ?_ | (apply rF [1,7,9,10,11] [11] [0,2,3,6] [0,2,3,6] ((.c 1 [4,5] [0,2,3,4,5,6] (.c 7 [8] [0,2,3,4,5,8] (.c 9 [] [0] (.c 10 [] [] (.c 11 [] [] .n .n) .n) .n) .n) (.c 7 [] [0,2,3] (.c 1 [4,5,8] [0,2,3,4,5,8] (.c 9 [] [0] (.c 10 [] [] (.c 11 [] [] .n .n) .n) .n) .n) .n))) (by simp only [go_sem]; rfl) (by simp only [go_sem]; rfl) (by simp only [go_sem]; rfl) (by decide +kernel); (focus simp only [go_sem]; done)) | exact aQ | refine aK (uX ?_) ?_ | refine aL (aX ?_) ?_ | refine aM (aX ?_) ?_ | exact bE | exact oH | exact uB | refine rD ?_ | refine aO ?_ | fail)
     all_goals
      skip
      first | (refine aJ (aU hl i h hi hh) ⟨rfl, rfl⟩ ?_ rfl ?_; (focus first | rfl | (simp only [go_sem]; done))) | (refine hZ (aU hl i h hi hh) ⟨rfl, rfl⟩ ?_ rfl ?_; (focus first | rfl | (simp only [go_sem]; done)))
      clear hi hh; rintro ⟨q, i, h⟩ ⟨hq, hi, hh⟩; simp only at hq hi hh; simp only [go_sem]
      have qH := aI @hdl (aI @hq1 (aI @hq2 (aI @r4 @rs))); repeat' (with_reducible first | refine nY ?_ | (refine mX ?_; try simp only [go_sem, qH]) | refine kD ?_ | exact aQ | refine aK (uX ?_) ?_ | refine aL (aX ?_) ?_ | refine aM (aX ?_) ?_ | exact uB | refine rD ?_ | refine aO ?_ | fail)
      refine aD (d ++ [⟨⟨#[100, 101]⟩, q⟩], i, h) ?_ ?_ ?_
      ·simp only [go_sem, List.map_append, List.map_cons, List.map_nil]; simp
      ·exact ⟨⟨gU hd (by omega) (by simp only; decide) (kW hq (by decide)), by simp⟩, hi, hh⟩
      ·simp only [List.length_append, List.length_cons, List.length_nil]; omega
    ·have qH := aI @hdl (aI @hq1 (aI @hq2 (aI @r5 @rs))); repeat' (with_reducible first | refine nY ?_ | (refine mX ?_; try simp only [go_sem, qH]) | refine kD ?_ | (apply rF [1,7,9,10,11] [11] [0,2,3,6] [0,2,3,6] ((.c 1 [4,5] [0,2,3,4,5,6] (.c 7 [8] [0,2,3,4,5,8] (.c 9 [] [0] (.c 10 [] [] (.c 11 [] [] .n .n) .n) .n) .n) (.c 7 [] [0,2,3] (.c 1 [4,5,8] [0,2,3,4,5,8] (.c 9 [] [0] (.c 10 [] [] (.c 11 [] [] .n .n) .n) .n) .n) .n))) (by simp only [go_sem]; rfl) (by simp only [go_sem]; rfl) (by simp only [go_sem]; rfl) (by decide +kernel); (focus simp only [go_sem]; done)) | exact aQ | refine aK (uX ?_) ?_ | refine aL (aX ?_) ?_ | refine aM (aX ?_) ?_ | exact bE | exact oH | exact uB | refine rD ?_ | refine aO ?_ | fail)
     all_goals
      skip
      first | (refine aJ (aU hl i h hi hh) ⟨rfl, rfl⟩ ?_ rfl ?_; (focus first | rfl | (simp only [go_sem]; done))) | (refine hZ (aU hl i h hi hh) ⟨rfl, rfl⟩ ?_ rfl ?_; (focus first | rfl | (simp only [go_sem]; done)))
      clear hi hh; rintro ⟨q, i, h⟩ ⟨hq, hi, hh⟩; simp only at hq hi hh; simp only [go_sem]
      have qH := aI @hdl (aI @hq1 (aI @hq2 (aI @r5 @rs))); repeat' (with_reducible first | refine nY ?_ | (refine mX ?_; try simp only [go_sem, qH]) | refine kD ?_ | exact aQ | refine aK (uX ?_) ?_ | refine aL (aX ?_) ?_ | refine aM (aX ?_) ?_ | exact uB | refine rD ?_ | refine aO ?_ | fail)
      refine aD (d ++ [⟨⟨#[100, 102]⟩, q⟩], i, h) ?_ ?_ ?_
      ·simp only [go_sem, List.map_append, List.map_cons, List.map_nil]; simp
      ·exact ⟨⟨gU hd (by omega) (by simp only; decide) (kW hq (by decide)), by simp⟩, hi, hh⟩
      ·simp only [List.length_append, List.length_cons, List.length_nil]; omega
   ·refine aB ?_
    first | refine dL (Sees.frz 1 rfl) ?_
    simp only [go_sem]
    exact aF (d, i, h) ⟨⟨_, rfl, by simp only [go_sem, List.map_set, List.map_append, List.map_cons, List.map_nil]; try rfl⟩, trivial⟩ ⟨(show dirsD 6 _ from hd), ⟨hi, hh⟩⟩ (by simp only [go_sem])
 ·refine aB ?_
  exact aF ([], i, h) ⟨⟨_, rfl, by simp only [go_sem, List.map_nil]⟩, trivial⟩ ⟨(show dirsD 6 _ from yL 6), ⟨hi, hh⟩⟩ (by simp only [go_sem])
 ·have q0 := @k0; have q1 := @k1; have q2 := @k2; have q3 := @k3; have q4 := @decide_false; refine xD ?_
  first | refine dL (Sees.frz 1 rfl) ?_
  simp only [go_sem]
  exact aF (d, i, h) ⟨⟨_, rfl, by simp only [go_sem, List.map_set, List.map_append, List.map_cons, List.map_nil]; try rfl⟩, trivial⟩ ⟨(show dirsD 6 _ from hd6), ⟨hi, hh⟩⟩ (by simp only [go_sem])
theorem b3F (l : List TDir) : ∀ r ∈ l.map bD, r.length = 2 := by intro r hr; obtain ⟨x, _, rfl⟩ := List.mem_map.1 hr; rfl
def b0k : List TDir := [⟨⟨#[100, 97]⟩, [⟨1, 0, 0, ⟨#[]⟩, ⟨0, 0, ⟨#[]⟩⟩⟩]⟩]
theorem b0l : sS b0k = true := by
 unfold sS
 rw [if_pos (by decide +kernel)]
 refine a2N (L := [0]) ⟨rfl, fun i k w h => ?_⟩
 obtain ⟨x, hx, h⟩ := (yX _ i k w).1 h
 have h1 : dS [(⟨1, 0, 0, ⟨#[]⟩, ⟨0, 0, ⟨#[]⟩⟩⟩ : TNode)] false = [] := by decide +kernel
 have h2 : dS [(⟨1, 0, 0, ⟨#[]⟩, ⟨0, 0, ⟨#[]⟩⟩⟩ : TNode)] true = [] := by decide +kernel
 have hq : x.fQuery = [⟨1, 0, 0, ⟨#[]⟩, ⟨0, 0, ⟨#[]⟩⟩⟩] := by
  cases i with
  | zero => simp [b0k] at hx; rw [← hx]
  | succ i => simp [b0k] at hx
 rw [hq, h1, h2] at h
 rcases h with ⟨_, nm, hm, _⟩ | ⟨_, nm, hm, _⟩ <;> simp at hm
theorem a1a {l : List Int} (hl : fA l) : Drw l 90 [] (fun d : List TDir => dirsD 6 d ∧ (0 < d.length ∧ sS d = true)) (fun d => .o (.d (.sl (d.map bD)))) := by
 intro i h hi hh; refine kN Tryz.func90 rfl Tryz.call90 rfl (fun C b => ?_); simp only [go_sem, Tryz.ntmps90]
 refine aB ?_
 first | (refine aJ (qJ hl i h hi hh) ⟨rfl, rfl⟩ ?_ rfl ?_; (focus first | rfl | (simp only [go_sem]; done))) | (refine hZ (qJ hl i h hi hh) ⟨rfl, rfl⟩ ?_ rfl ?_; (focus first | rfl | (simp only [go_sem]; done)))
 clear hi hh; rintro ⟨d, i, h⟩ ⟨hd, hi, hh⟩; simp only at hd hi hh; simp only [go_sem]
 have hd4 := hd.1
 clear hd
 refine aB ?_
 refine nM 3 1 rfl rfl ?_
 simp only [go_sem]
 refine bB (α := List TDir) (fun x => [(3, .o (.d (.sl (x.map bD)))), (5, .o .u)]) (fun _ => []) (fun x => dirsD 4 x) (fun x => x.length) d (fun _ => ?_) ?_ ?_ (fun x hx => ?_)
 ·simp only [go_sem]
 ·simp only [go_sem]; simp
 ·exact hd4
 ·clear hd4
  have hst := xS x (by have := xF hx (by decide); omega)
  by_cases h0 : x = []
  ·subst h0
   have z0 : decide ((0 : Int) < ((0 : Nat) : Int)) = false := rfl
   have z1 : decide (((0 : Nat) : Int) = 0) = true := rfl
   simp only [go_sem]
   repeat' (with_reducible first | refine nY ?_ | (refine mX ?_; try simp only [go_sem, List.map_nil, List.length_nil, z0, z1]) | refine kO ?_ (by decide) | refine b4Q (by kernel_rfl) ?_ | (refine And.intro ?_ ?_; focus omega))
   first | refine dL (Sees.frz 2 rfl) ?_ | refine dL (Sees.frz 3 rfl) ?_ | refine dL (Sees.frz 4 rfl) ?_
   simp only [go_sem]
   exact aF ([⟨⟨#[100, 97]⟩, [⟨1, 0, 0, ⟨#[]⟩, ⟨0, 0, ⟨#[]⟩⟩⟩]⟩], i, h) ⟨⟨_, rfl, by simp only [go_sem, List.map_set, List.map_append, List.map_cons, List.map_nil]; try rfl⟩, trivial⟩ ⟨(show dirsD 6 [⟨⟨#[100, 97]⟩, [⟨1, 0, 0, ⟨#[]⟩, ⟨0, 0, ⟨#[]⟩⟩⟩]⟩] ∧ (0 < ([⟨⟨#[100, 97]⟩, [⟨1, 0, 0, ⟨#[]⟩, ⟨0, 0, ⟨#[]⟩⟩⟩]⟩] : List TDir).length ∧ sS [⟨⟨#[100, 97]⟩, [⟨1, 0, 0, ⟨#[]⟩, ⟨0, 0, ⟨#[]⟩⟩⟩]⟩] = true) from ⟨gU (yL 6) (by decide) (by simp only; decide) ⟨by decide, fun n hn => by simp only [List.mem_singleton] at hn; subst hn; exact fQ (inS (by decide)) in0 in0 (Nat.zero_le _) in0 in0 (Nat.zero_le _)⟩, by decide, b0l⟩), ⟨hi, hh⟩⟩ (by simp only [go_sem])
  ·have hp : 0 < x.length := List.length_pos_iff.2 h0
   have hgi : ((0 : Int) < (x.length : Int)) = True := by simp; omega
   have hgz : ((x.length : Int) = 0) = False := by simp; omega
   cases hr : sS x
   ·rw [hr] at hst
    have hm1 : (x.length : Int) - 1 = ((x.length - 1 : Nat) : Int) := by omega
    have hm2 : x.length - 1 ≤ x.length := by omega
    have hx4 := hx.hi
    simp only [go_sem]
    have qH := aI @hgi (aI @hgz (aI @hm1 (aI @hm2 @decide_true))); repeat' (with_reducible first | refine nY ?_ | (refine mX ?_; try simp only [go_sem, qH]) | refine kD ?_ | refine rD ?_ | refine And.intro (b3F _) ?_ | refine cP hst ?_ | refine aO ?_ | fail)
    refine aD (x.take (x.length - 1)) ?_ ?_ ?_
    ·simp only [go_sem, List.map_take]; simp
    ·exact a6y hx _
    ·simp; omega
   ·rw [hr] at hst
    simp only [go_sem]
    have q0 := @hgi; have q1 := @hgz; have q2 := @decide_true; have q3 := @decide_false; refine a6t hst ?_
    exact aF (x, i, h) ⟨⟨_, rfl, by simp only [go_sem]⟩, trivial⟩ ⟨(show dirsD 6 x ∧ (0 < x.length ∧ sS x = true) from ⟨a4O hx (by decide), hp, hr⟩), ⟨hi, hh⟩⟩ (by simp only [go_sem])
theorem a9i (l : List Int) (s : Int) (k : Nat) (h : k < l.length) : hasI (l.drop k) s = (decide (l[k] = s) || hasI (l.drop (k + 1)) s) := by
 rw [List.drop_eq_getElem_cons h]; rfl
theorem jO (l : List Int) (s : Int) (hl : l.length ≤ 67108864) : FnC Tryz.prog 246 [.o (.d (.sl (l.map jH))), oi s] (ob (hasI l s)) := by
 refine ent Tryz.func246 rfl Tryz.call246 rfl (fun C => ?_); simp only [go_sem, st0, Tryz.ntmps246]
 refine aB ?_
 refine bB (α := Nat) (fun k => [(5, oi k)]) (fun k => []) (fun k => k ≤ l.length ∧ hasI (l.drop k) s = hasI l s) (fun k => l.length - k) 0 (fun _ => ?_) ?_ ?_ (fun k hk => ?_)
 ·simp only [go_sem]; try simp
 ·simp only [go_sem]; try simp
 ·simp
 ·simp only [go_sem]
  obtain ⟨hk, hg⟩ := hk
  refine aB ?_
  refine cnd rfl (fun h1 => ?_) (fun h1 => ?_)
  ·simp only [decide_eq_true_eq, Int.ofNat_lt] at h1
   have hd := a9i l s k h1
   rw [hg] at hd
   have q0 := @h1; refine dZ ?_
   refine cnd rfl (fun hv => ?_) (fun hv => ?_)
   ·rw [hv, Bool.true_or] at hd
    refine aB ?_
    exact aA ⟨⟨_, rfl, by simp only [go_sem, hd]⟩, trivial⟩
   ·rw [hv, Bool.false_or] at hd
    refine aB ?_
    refine aD (k + 1) ?_ ?_ ?_
    ·simp only [go_sem]; try simp
    ·exact ⟨by omega, hd.symm⟩
    ·omega
  ·simp only [decide_eq_false_iff_not] at h1
   have e : k = l.length := by omega
   subst e
   have hn : hasI l s = false := by rw [← hg, List.drop_length]; rfl
   refine aB ?_
   exact aA ⟨⟨_, rfl, by simp only [go_sem, hn]⟩, trivial⟩
theorem a5C (s : ByteArray) (l : List TResult) (k : Nat) (h : k < l.length) : bO s (l.drop k) = if l[k].fName = s then l[k].fIDs else bO s (l.drop (k + 1)) := by
 rw [List.drop_eq_getElem_cons h]; rfl
theorem a1V (l : List TResult) (s : ByteArray) (hl : aY l ≤ 67108864) : FnC Tryz.prog 24 [.o (.d (.sl (l.map bX))), os s] (.o (.w 3 1 ((bO s l).map jH))) := by
 unfold aY at hl
 generalize hg : bO s l = res
 refine ent Tryz.func24 rfl Tryz.call24 rfl (fun C => ?_); simp only [go_sem, st0, Tryz.ntmps24]
 refine aB ?_
 refine bB (α := Nat) (fun k => [(5, oi k)]) (fun k => []) (fun k => k ≤ l.length ∧ bO s (l.drop k) = res) (fun k => l.length - k) 0 (fun _ => ?_) ?_ ?_ (fun k hk => ?_)
 ·simp only [go_sem]; try simp
 ·simp only [go_sem]; try simp
 ·simp [hg]
 ·simp only [go_sem]
  obtain ⟨hk, hq⟩ := hk
  refine aB ?_
  refine cnd rfl (fun h1 => ?_) (fun h1 => ?_)
  ·simp only [decide_eq_true_eq, Int.ofNat_lt] at h1
   rw [a5C s l k h1] at hq
   by_cases hv : l[k].fName = s
   ·rw [if_pos hv] at hq
    have hw := eY iL l h1
    have hwl : l[k].fIDs.length ≤ iL l[k] := by unfold iL; omega
    have q0 := @h1; have q1 := @hv; refine gT ?_
    exact aA ⟨⟨_, rfl, by simp only [go_sem, hq]⟩, trivial⟩
   ·rw [if_neg hv] at hq
    have q0 := @h1; have q1 := @hv; refine gT ?_
    refine aD (k + 1) ?_ ?_ ?_
    ·simp only [go_sem]; try simp
    ·exact ⟨by omega, hq⟩
    ·omega
  ·simp only [decide_eq_false_iff_not] at h1
   have e : k = l.length := by omega
   subst e
   rw [List.drop_length] at hq
   have hn : res = [] := hq.symm
   subst hn
   refine aB ?_
   exact aA ⟨⟨_, rfl, by simp only [go_sem]⟩, trivial⟩
theorem qR (s : ByteArray) : ∀ l : List TResult, (bO s l).length ≤ aY l
 | [] => by simp [bO]
 | x :: l => by
  have := qR s l
  unfold bO
  simp only [aY, dD, List.length_cons] at this ⊢
  split
  ·unfold iL; omega
  ·omega
theorem iI (l : List TResult) (s : ByteArray) (hl : aY l ≤ 67108864) : FnC Tryz.prog 24 [.o (.d (.sl (l.map bX))), os s] (.o (.d (.sl ((bO s l).map jH)))) := (a1V l s hl).pu (by simp only [go_sem, and_self])
def b6Z (v : TValue) : Int := if v.fKind = 1 then v.fInt else 0
theorem a3X (q : List TNode) (f : TFile) (r : List TResult) (hv : okQ q = true) (hf : aW f ≤ 4300000) (hr : aY r ≤ 67108864) : ∀ k i, i < k → k ≤ q.length → FnC Tryz.prog 213 [.o (.d (.sl (q.map bC))), oi (i : Nat), dQ f, .o (.d (.sl (r.map bX)))] (ob (mt q f r k i)) := by
 intro k
 induction k with
 | zero => intro i hi _; omega
 | succ k ih => ?_
 intro i hi hk
 have hlt : i < q.length := by omega
 have hn := List.getElem?_eq_getElem hlt
 have hok := yQ hv hn
 have hop := yR hok
 refine ent Tryz.func213 rfl Tryz.call213 rfl (fun C => ?_); simp only [go_sem, st0, Tryz.ntmps213]
 by_cases h1 : q[i].fOp = 1
 ·have hm : mt q f r (k + 1) i = true := by simp [mt, hn, h1]
  have q0 := @hlt; have q1 := @h1; have q2 := @decide_true; refine b1V (bS f q[i].fName hf) ?_
  exact aA ⟨⟨_, rfl, by simp only [go_sem, hm]⟩, trivial⟩
 by_cases h2 : q[i].fOp = 2
 ·have hm : mt q f r (k + 1) i = !decide ((dB q[i].fName f.fAttrs).fKind = 0) := by simp [mt, hn, h2]
  have q0 := @hlt; have q1 := @h1; have q2 := @h2; have q3 := @decide_true; have q4 := @decide_false; refine a8C (bS f q[i].fName hf) ?_
  exact aA ⟨⟨_, rfl, by simp only [go_sem, hm, decide_not]⟩, trivial⟩
 by_cases h3 : q[i].fOp = 3
 ·have hm : mt q f r (k + 1) i = a7J (dB q[i].fName f.fAttrs) q[i].fValue := by simp [mt, hn, h3]
  have q0 := @hlt; have q1 := @h1; have q2 := @h2; have q3 := @h3; have q4 := @decide_true; have q5 := @decide_false; refine b1Y (bS f q[i].fName hf) ?_
  exact aA ⟨⟨_, rfl, by simp only [go_sem, hm, a7J]⟩, trivial⟩
 by_cases h4 : q[i].fOp = 4
 ·have hm : mt q f r (k + 1) i = a7K (dB q[i].fName f.fAttrs) q[i].fValue.fInt := by simp [mt, hn, h4]
  by_cases hj : (dB q[i].fName f.fAttrs).fKind = 1
  ·have hj' : decide ((dB q[i].fName f.fAttrs).fKind = 1) = true := decide_eq_true hj
   have q0 := @hlt; have q1 := @h1; have q2 := @h2; have q3 := @h3; have q4 := @h4; have q5 := @decide_true; have q6 := @decide_false; have q7 := @hj'; refine b1Z (bS f q[i].fName hf) ?_
   exact aA ⟨⟨_, rfl, by simp only [go_sem, hm, a7K, hj, decide_true, Bool.true_and]⟩, trivial⟩
  ·have hj' : decide ((dB q[i].fName f.fAttrs).fKind = 1) = false := decide_eq_false hj
   have q0 := @hlt; have q1 := @h1; have q2 := @h2; have q3 := @h3; have q4 := @h4; have q5 := @decide_true; have q6 := @decide_false; have q7 := @hj'; refine b1Z (bS f q[i].fName hf) ?_
   exact aA ⟨⟨_, rfl, by simp only [go_sem, hm, a7K, hj, decide_false, Bool.false_and]⟩, trivial⟩
 by_cases h5 : q[i].fOp = 5
 ·obtain ⟨l, hl, hli⟩ := fB hok (.inl h5)
  have hm : mt q f r (k + 1) i = !mt q f r k l := by simp [mt, hn, h5, hl]
  have q0 := @hlt; have q1 := @h1; have q2 := @h2; have q3 := @h3; have q4 := @h4; have q5 := @h5; have q6 := @decide_true; have q7 := @decide_false; have q8 := @hl; refine b0h (bS f q[i].fName hf) (ih l (by omega) (by omega)) ?_
  exact aA ⟨⟨_, rfl, by simp only [go_sem, hm]⟩, trivial⟩
 by_cases h6 : q[i].fOp = 6
 ·obtain ⟨l, hl, hli⟩ := fB hok (.inr (.inl h6))
  obtain ⟨m, hr2, hmi⟩ := iM hok (.inl h6)
  have hm : mt q f r (k + 1) i = (mt q f r k l && mt q f r k m) := by simp [mt, hn, h6, hl, hr2]
  cases hx : mt q f r k l
  all_goals
   have qH := aI @hlt (aI @h1 (aI @h2 (aI @h3 (aI @h4 (aI @h5 (aI @h6 (aI @decide_true (aI @decide_false (aI @hl (aI @hr2 @hx)))))))))); repeat' (with_reducible first | refine nY ?_ | (refine mX ?_; try simp only [go_sem, qH]) | refine kD ?_ | refine rD ?_ | refine cP (bS f q[i].fName hf) ?_ | refine cP (ih l (by omega) (by omega)) ?_ | refine cP (ih m (by omega) (by omega)) ?_ | refine aO ?_ | fail)
   exact aA ⟨⟨_, rfl, by simp only [go_sem, hm, hx, Bool.true_and, Bool.false_and]⟩, trivial⟩
 by_cases h7 : q[i].fOp = 7
 ·obtain ⟨l, hl, hli⟩ := fB hok (.inr (.inr h7))
  obtain ⟨m, hr2, hmi⟩ := iM hok (.inr h7)
  have hm : mt q f r (k + 1) i = (mt q f r k l || mt q f r k m) := by simp [mt, hn, h7, hl, hr2]
  cases hx : mt q f r k l
  all_goals
   have qH := aI @hlt (aI @h1 (aI @h2 (aI @h3 (aI @h4 (aI @h5 (aI @h6 (aI @h7 (aI @decide_true (aI @decide_false (aI @hl (aI @hr2 @hx))))))))))); repeat' (with_reducible first | refine nY ?_ | (refine mX ?_; try simp only [go_sem, qH]) | refine kD ?_ | refine rD ?_ | refine cP (bS f q[i].fName hf) ?_ | refine cP (ih l (by omega) (by omega)) ?_ | refine cP (ih m (by omega) (by omega)) ?_ | refine aO ?_ | fail)
   exact aA ⟨⟨_, rfl, by simp only [go_sem, hm, hx, Bool.true_or, Bool.false_or]⟩, trivial⟩
 have hrl := qR q[i].fName r
 by_cases h8 : q[i].fOp = 8
 ·have hm : mt q f r (k + 1) i = hasI (bO q[i].fName r) f.fID := by simp [mt, hn, h8]
  have qH := aI @hlt (aI @h1 (aI @h2 (aI @h3 (aI @h4 (aI @h5 (aI @h6 (aI @h7 (aI @h8 (aI @decide_true @decide_false))))))))); repeat' (with_reducible first | refine nY ?_ | (refine mX ?_; try simp only [go_sem, qH]) | refine kD ?_ | refine rD ?_ | refine cP (bS f q[i].fName hf) ?_ | refine cP (iI r q[i].fName hr) ?_ | refine cP (jO (bO q[i].fName r) f.fID (by omega)) ?_ | refine aO ?_ | fail)
  exact aA ⟨⟨_, rfl, by simp only [go_sem, hm]⟩, trivial⟩
 have h9 : q[i].fOp = 9 := by omega
 have hm : mt q f r (k + 1) i = (!decide (f.fLink = 0) && hasI (bO q[i].fName r) f.fLink) := by simp [mt, hn, h9]
 by_cases hz : f.fLink = 0
 ·have hz1 : decide (f.fLink = 0) = true := decide_eq_true hz
  have hz2 : decide (¬ f.fLink = 0) = false := decide_eq_false (fun h => h hz)
  have qH := aI @hlt (aI @h1 (aI @h2 (aI @h3 (aI @h4 (aI @h5 (aI @h6 (aI @h7 (aI @h8 (aI @decide_true (aI @decide_false (aI @hz1 @hz2))))))))))); repeat' (with_reducible first | refine nY ?_ | (refine mX ?_; try simp only [go_sem, qH]) | refine kD ?_ | refine rD ?_ | refine cP (bS f q[i].fName hf) ?_ | refine cP (iI r q[i].fName hr) ?_ | refine cP (jO (bO q[i].fName r) f.fLink (by omega)) ?_ | refine aO ?_ | fail)
  exact aA ⟨⟨_, rfl, by simp only [go_sem, hm, hz, decide_true, Bool.not_true, Bool.false_and]⟩, trivial⟩
 ·have hz1 : decide (f.fLink = 0) = false := decide_eq_false hz
  have hz2 : decide (¬ f.fLink = 0) = true := decide_eq_true hz
  have qH := aI @hlt (aI @h1 (aI @h2 (aI @h3 (aI @h4 (aI @h5 (aI @h6 (aI @h7 (aI @h8 (aI @decide_true (aI @decide_false (aI @hz1 @hz2))))))))))); repeat' (with_reducible first | refine nY ?_ | (refine mX ?_; try simp only [go_sem, qH]) | refine kD ?_ | refine rD ?_ | refine cP (bS f q[i].fName hf) ?_ | refine cP (iI r q[i].fName hr) ?_ | refine cP (jO (bO q[i].fName r) f.fLink (by omega)) ?_ | refine aO ?_ | fail)
  exact aA ⟨⟨_, rfl, by simp only [go_sem, hm, hz, decide_false, Bool.not_false, Bool.true_and]⟩, trivial⟩
end Go.Proofs.YtolgdibgnndoaaaGreat
end
section
set_option maxRecDepth 100000
set_option maxHeartbeats 4000000
namespace Go.Proofs.YtolgdibgnndoaaaGreat
theorem b1c (q : List TNode) (x : Int) (i j : Nat) (hi : i < q.length) (hj : j < q.length) (hne : i ≠ j) : rO q[i] x + rO q[j] x ≤ refs q x := by
 induction q generalizing i j with
 | nil => simp at hi
 | cons n q ih =>
  have one : ∀ (q : List TNode) (m : Nat) (h : m < q.length), rO q[m] x ≤ refs q x := by
   intro q
   induction q with
   | nil => intro m h; simp at h
   | cons n q ih =>
    intro m h
    cases m with
    | zero => simp only [List.getElem_cons_zero, refs]; omega
    | succ m => have := ih m (by simpa using h); simp only [List.getElem_cons_succ, refs]; omega
  cases i with
  | zero =>
   cases j with
   | zero => exact (hne rfl).elim
   | succ j => have := one q j (by simpa using hj); simp only [List.getElem_cons_zero, List.getElem_cons_succ, refs]; omega
  | succ i =>
   cases j with
   | zero => have := one q i (by simpa using hi); simp only [List.getElem_cons_zero, List.getElem_cons_succ, refs]; omega
   | succ j =>
    have := ih i j (by simpa using hi) (by simpa using hj) (by omega)
    simp only [List.getElem_cons_succ, refs]; omega
theorem b1d {q : List TNode} (h : okQ q = true) (l : Nat) (hl : l + 1 < q.length) : refs q l = 1 := by
 unfold okQ at h
 simp only [Bool.and_eq_true, List.all_eq_true, List.mem_range] at h
 have := h.1 l (by omega)
 unfold a5j at this
 rw [List.getElem?_eq_getElem (by omega)] at this
 simp only [Bool.and_eq_true, Bool.or_eq_true, decide_eq_true_eq] at this
 rcases this.2 with h | h
 ·omega
 ·exact h
def nb (L : List Bool) (i : Nat) : Bool := L.getD i false
theorem vV (L : List Bool) (l : Nat) (v : Bool) (x : Nat) (h : l < L.length) : nb (L.set l v) x = if x = l then v else nb L x := by
 unfold nb
 simp only [List.getD_eq_getElem?_getD, List.getElem?_set]
 by_cases e : l = x
 ·subst e; simp [h]
 ·rw [if_neg e, if_neg (fun e' => e e'.symm)]
theorem a1W {q : List TNode} (hq : okQ q = true) {i : Nat} (hi : i < q.length) {L : List Bool} (hL : L.length = q.length) {x : Nat} (hx : rO q[i] x = 0) : nb (iN q i L) x = nb L x := by
 have hok := yQ hq (List.getElem?_eq_getElem hi)
 by_cases h5 : q[i].fOp = 5
 ·obtain ⟨l, hl, hli⟩ := fB hok (.inl h5)
  rw [a1v hi L h5 hl, vV _ _ _ _ (by omega)]
  split
  ·rename_i e; subst e; simp [rO, two, h5, hl] at hx
  ·rfl
 by_cases h67 : q[i].fOp = 6 ∨ q[i].fOp = 7
 ·obtain ⟨l, hl, hli⟩ := fB hok (.inr h67)
  obtain ⟨m, hm, hmi⟩ := iM hok h67
  have ht : two q[i] = true := by unfold two; rcases h67 with h | h <;> simp [h]
  rw [yY hi L (by omega) h5 h67 hl hm, vV _ _ _ _ (by simp; omega), vV _ _ _ _ (by omega)]
  split
  ·rename_i e; subst e; simp [rO, ht, hm] at hx
  ·split
   ·rename_i e; subst e; simp [rO, ht, hl] at hx
   ·rfl
 ·rw [a2K hi L h5 h67]
def a3Y (q : List TNode) (m : Nat) : List Bool := negJ q (q.length - m)
theorem a1D (q : List TNode) (m : Nat) : (a3Y q m).length = q.length := a1t q _
theorem a2S (q : List TNode) (i : Nat) (h : i < q.length) : a3Y q i = iN q i (a3Y q (i + 1)) := a2J q i h
theorem b2H {q : List TNode} (hq : okQ q = true) {i : Nat} (hi : i < q.length) {x : Nat} (hx : i ≤ x) : rO q[i] x = 0 := by
 have hok := yQ hq (List.getElem?_eq_getElem hi)
 unfold rO
 have a : (if (two q[i] || decide (q[i].fOp = 5)) && decide (q[i].fLeft = (x : Int)) then 1 else 0) = 0 := by
  split
  ·rename_i h
   simp only [Bool.and_eq_true, Bool.or_eq_true, decide_eq_true_eq] at h
   obtain ⟨l, hl, hli⟩ := fB hok (by unfold two at h; simp only [Bool.or_eq_true, decide_eq_true_eq] at h; omega)
   omega
  ·rfl
 have b : (if two q[i] && decide (q[i].fRight = (x : Int)) then 1 else 0) = 0 := by
  split
  ·rename_i h
   simp only [Bool.and_eq_true, decide_eq_true_eq] at h
   obtain ⟨l, hl, hli⟩ := iM hok (by unfold two at h; simp only [Bool.or_eq_true, decide_eq_true_eq] at h; omega)
   omega
  ·rfl
 omega
theorem zG {q : List TNode} (hq : okQ q = true) {x : Nat} : ∀ (k m : Nat), m + k ≤ q.length → (∀ j, (hj : j < q.length) → m ≤ j → j < m + k → rO q[j] x = 0) → nb (a3Y q m) x = nb (a3Y q (m + k)) x
 | 0, m, _, _ => rfl
 | k + 1, m, h, hr => by
  have hm : m < q.length := by omega
  rw [a2S q m hm, a1W hq hm (a1D q (m + 1)) (hr m hm (by omega) (by omega)), zG hq k (m + 1) (by omega) (fun j hj h1 h2 => hr j hj (by omega) (by omega))]
  congr 2; omega
theorem a7U {q : List TNode} (hq : okQ q = true) (x : Nat) (hx : x < q.length) : nb (kP q) x = nb (a3Y q (x + 1)) x := by
 have := zG hq (x := x) (x + 1) 0 (by omega) (fun j hj _ h2 => b2H hq hj (by omega))
 simpa [a3Y, kP] using this
theorem vW {q : List TNode} (hq : okQ q = true) {i l : Nat} (hi : i < q.length) (hl : l < i) (hr : 1 ≤ rO q[i] l) : nb (kP q) l = nb (iN q i (a3Y q (i + 1))) l := by
 rw [a7U hq l (by omega), ← a2S q i hi]
 have h1 := b1d hq l (by omega)
 have := zG hq (x := l) (i - (l + 1)) (l + 1) (by omega) (fun j hj h1' h2 => by
  have := b1c q l i j hi hj (by omega)
  omega)
 rw [this]
 congr 2; omega
theorem b1e {q : List TNode} (hq : okQ q = true) {i l : Nat} (hi : i < q.length) (h5 : q[i].fOp = 5) (hl : q[i].fLeft = (l : Int)) (hli : l < i) : nb (kP q) l = true := by
 rw [vW hq hi hli (by simp [rO, h5, hl]), a1v hi _ h5 hl, vV _ _ _ _ (by rw [a1D]; omega), if_pos rfl]
theorem b1f {q : List TNode} (hq : okQ q = true) {i l m : Nat} (hi : i < q.length) (h67 : q[i].fOp = 6 ∨ q[i].fOp = 7) (hl : q[i].fLeft = (l : Int)) (hm : q[i].fRight = (m : Int)) (hli : l < i) (hmi : m < i) : nb (kP q) l = nb (kP q) i ∧ nb (kP q) m = nb (kP q) i := by
 have ht : two q[i] = true := by unfold two; rcases h67 with h | h <;> simp [h]
 have h5 : ¬ q[i].fOp = 5 := by omega
 have hL := a1D q (i + 1)
 have e := a7U hq i hi
 have g : (a3Y q (i + 1))[i]'(by omega) = nb (kP q) i := by
  rw [e]; simp [nb, List.getD_eq_getElem?_getD, hL, hi]
 rw [vW hq hi hli (by simp [rO, ht, hl]), vW hq hi hmi (by simp [rO, ht, hm]), yY hi _ (by omega) h5 h67 hl hm]
 rw [vV _ m _ l (by rw [List.length_set]; omega), vV _ l _ l (by omega), vV _ m _ m (by rw [List.length_set]; omega), g]
 simp
theorem a7V {q : List TNode} (hq : okQ q = true) {f : TFile} {r r' : List TResult}
    (hP : ∀ i, (hi : i < q.length) → (q[i].fOp = 8 ∨ q[i].fOp = 9) → nb (kP q) i = false → ∀ x, hasI (bO q[i].fName r) x = true → hasI (bO q[i].fName r') x = true)
    (hN : ∀ i, (hi : i < q.length) → (q[i].fOp = 8 ∨ q[i].fOp = 9) → nb (kP q) i = true → ∀ x, hasI (bO q[i].fName r) x = hasI (bO q[i].fName r') x) :
    ∀ (k i : Nat), i < k → i < q.length → (nb (kP q) i = true → mt q f r k i = mt q f r' k i) ∧ (nb (kP q) i = false → mt q f r k i = true → mt q f r' k i = true)
 | 0, i, h, _ => by omega
 | k + 1, i, h, hi => by
  have hn := List.getElem?_eq_getElem hi
  have hok := yQ hq hn
  have ih := a7V hq (f := f) hP hN k
  by_cases h1 : q[i].fOp = 1
  ·simp [mt, hn, h1]
  by_cases h2 : q[i].fOp = 2
  ·simp [mt, hn, h2]
  by_cases h3 : q[i].fOp = 3
  ·simp [mt, hn, h3]
  by_cases h4 : q[i].fOp = 4
  ·simp [mt, hn, h4]
  by_cases h5 : q[i].fOp = 5
  ·obtain ⟨l, hl, hli⟩ := fB hok (.inl h5)
   have := (ih l (by omega) (by omega)).1 (b1e hq hi h5 hl hli)
   have e : mt q f r (k + 1) i = mt q f r' (k + 1) i := by simp [mt, hn, h5, hl, this]
   exact ⟨fun _ => e, fun _ h => by rw [← e]; exact h⟩
  by_cases h67 : q[i].fOp = 6 ∨ q[i].fOp = 7
  ·obtain ⟨l, hl, hli⟩ := fB hok (.inr h67)
   obtain ⟨m, hm, hmi⟩ := iM hok h67
   obtain ⟨n1, n2⟩ := b1f hq hi h67 hl hm hli hmi
   have a := ih l (by omega) (by omega)
   have b := ih m (by omega) (by omega)
   rw [n1] at a
   rw [n2] at b
   refine ⟨fun hx => ?_, fun hx hm2 => ?_⟩
   ·have a1 := a.1 hx
    have b1 := b.1 hx
    rcases h67 with h6 | h7
    ·simp [mt, hn, h6, hl, hm, a1, b1]
    ·simp [mt, hn, h7, hl, hm, a1, b1]
   ·have a1 := a.2 hx
    have b1 := b.2 hx
    rcases h67 with h6 | h7
    ·simp [mt, hn, h6, hl, hm] at hm2 ⊢
     exact ⟨a1 hm2.1, b1 hm2.2⟩
    ·simp [mt, hn, h7, hl, hm] at hm2 ⊢
     exact hm2.imp a1 b1
  have h6 : ¬ q[i].fOp = 6 := fun h => h67 (.inl h)
  have h7 : ¬ q[i].fOp = 7 := fun h => h67 (.inr h)
  have hop := yR hok
  have h89 : q[i].fOp = 8 ∨ q[i].fOp = 9 := by omega
  refine ⟨fun hx => ?_, fun hx hm2 => ?_⟩
  ·have e := hN i hi h89 hx
   rcases h89 with h8 | h9
   ·simp [mt, hn, h8, e]
   ·simp [mt, hn, h9, e]
  ·have e := hP i hi h89 hx
   rcases h89 with h8 | h9
   ·simp [mt, hn, h8] at hm2 ⊢
    exact e _ hm2
   ·simp [mt, hn, h9] at hm2 ⊢
    exact ⟨hm2.1, e _ hm2.2⟩
def pr (q : List TNode) (R : List TResult) (f : TFile) : Bool := okQ q && mt q f R q.length (q.length - 1)
def iO (l : List TFile) : List Int := l.map TFile.fID
def mY (fs : List TFile) (q : List TNode) (R : List TResult) : List Int := iO (fs.filter (pr q R))
theorem a5E (fs : List TFile) (q : List TNode) (R : List TResult) : (mY fs q R).length ≤ fs.length := by
 unfold mY iO; rw [List.length_map]; exact List.length_filter_le _ _
theorem xX (nm : ByteArray) : ∀ (d : List TDir) (R : List TResult) (k : Nat), R.map TResult.fName = d.map TDir.fName → bO nm R = (if 0 ≤ eU (fun x : TDir => decide (x.fName = nm)) d k then (R.getD (eU (fun x : TDir => decide (x.fName = nm)) d k - k).toNat ⟨⟨#[]⟩, []⟩).fIDs else [])
 | [], [], k, _ => by simp [bO, eU]
 | [], _ :: _, _, h => by simp at h
 | _ :: _, [], _, h => by simp at h
 | x :: d, y :: R, k, h => by
  simp only [List.map_cons, List.cons.injEq] at h
  have ih := xX nm d R (k + 1) h.2
  by_cases hx : x.fName = nm
  ·simp [bO, eU, h.1, hx]
  ·have e0 : eU (fun x : TDir => decide (x.fName = nm)) (x :: d) k = eU (fun x : TDir => decide (x.fName = nm)) d (k + 1) := by simp [eU, hx]
   have e1 : bO nm (y :: R) = bO nm R := by simp [bO, h.1, hx]
   rw [e0, e1, ih]
   have hge : eU (fun x : TDir => decide (x.fName = nm)) d (k + 1) < 0 ∨ ((k + 1 : Nat) : Int) ≤ eU (fun x : TDir => decide (x.fName = nm)) d (k + 1) := by
    rcases idxP_fst (fun x : TDir => decide (x.fName = nm)) d (k + 1) with ⟨h, _, _⟩ | ⟨h, _⟩ <;> omega
   by_cases h0 : 0 ≤ eU (fun x : TDir => decide (x.fName = nm)) d (k + 1)
   ·rw [if_pos h0, if_pos h0]
    have e : (eU (fun x : TDir => decide (x.fName = nm)) d (k + 1) - (k : Int)).toNat = (eU (fun x : TDir => decide (x.fName = nm)) d (k + 1) - ((k + 1 : Nat) : Int)).toNat + 1 := by omega
    rw [e, List.getD_cons_succ]
   ·rw [if_neg h0, if_neg h0]
def eQ (R : List TResult) (p : Nat) : List Int := (R.getD p ⟨⟨#[]⟩, []⟩).fIDs
theorem resIDs_at {d : List TDir} {R : List TResult} (h : R.map TResult.fName = d.map TDir.fName) (nm : ByteArray) : (placeD d nm = -1 ∧ bO nm R = []) ∨ ∃ p : Nat, placeD d nm = (p : Int) ∧ p < d.length ∧ bO nm R = eQ R p := by
 have := xX nm d R 0 h
 rcases placeD_cases d nm with hp | ⟨p, hp, hl⟩
 ·left
  refine ⟨hp, ?_⟩
  unfold placeD at hp
  rw [this, hp]; simp
 ·right
  refine ⟨p, hp, hl, ?_⟩
  unfold placeD at hp
  rw [this, hp]
  rw [if_pos (by omega)]
  simp [eQ]
theorem jY (R : List TResult) (i j : Nat) (x : TResult) (h : i < R.length) : eQ (R.set i x) j = if j = i then x.fIDs else eQ R j := by
 unfold eQ
 simp only [List.getD_eq_getElem?_getD, List.getElem?_set]
 by_cases e : i = j
 ·subst e; simp [h]
 ·rw [if_neg e, if_neg (fun e' => e e'.symm)]
theorem uG (R : List TResult) (i : Nat) (x : TResult) (d : List TDir) (h : R.map TResult.fName = d.map TDir.fName) (hi : i < d.length) (hx : x.fName = d[i].fName) : (R.set i x).map TResult.fName = d.map TDir.fName := by
 rw [List.map_set, h, hx]
 apply List.ext_getElem?
 intro j
 rw [List.getElem?_set]
 split
 ·rename_i e; subst e; simp [hi]
 ·rfl
theorem a5F {q : List TNode} {i : Nat} (hi : i < q.length) (h89 : q[i].fOp = 8 ∨ q[i].fOp = 9) (b : Bool) (hb : nb (kP q) i = b) : q[i].fName ∈ dS q b := by
 have hn : i < (kP q).length := by rw [a5t]; exact hi
 have hg : (kP q)[i] = b := by rw [← hb]; simp [nb, List.getD_eq_getElem?_getD, hn]
 have hd : qP q[i] = true := by unfold qP inB; rcases h89 with h | h <;> simp [h]
 unfold dS rG
 refine List.mem_flatMap.2 ⟨i, List.mem_range.2 hi, ?_⟩
 unfold sel
 rw [List.getElem?_eq_getElem hi, List.getElem?_eq_getElem hn]
 simp [hd, hg]
theorem a7S (x : Int) (l : List TFile) : hasI (iO l) x = true ↔ ∃ f ∈ l, f.fID = x := by
 unfold hasI iO
 rw [List.any_eq_true]
 constructor
 ·rintro ⟨y, hy, h⟩
  obtain ⟨f, hf, rfl⟩ := List.mem_map.1 hy
  exact ⟨f, hf, of_decide_eq_true h⟩
 ·rintro ⟨f, hf, rfl⟩
  exact ⟨_, List.mem_map.2 ⟨f, hf, rfl⟩, by simp⟩
structure Ev (fs : List TFile) (d : List TDir) (L : List Nat) (ns : List ByteArray) (c : Nat) (k : Nat) (R : List TResult) : Prop where
 nm : R.map TResult.fName = d.map TDir.fName
 cur : ∀ i, (hi : i < d.length) → hasS ns d[i].fName = true → lv L i = k → ∃ p : TFile → Bool, eQ R i = iO (fs.filter p) ∧ ∀ f, p f = true → pr d[i].fQuery R f = true
 top : ∀ i, (hi : i < d.length) → hasS ns d[i].fName = true → k < lv L i → eQ R i = []
 bd : ∀ i, (eQ R i).length ≤ c
 cap : fs.length ≤ c
theorem Ev.len {fs : List TFile} {d : List TDir} {L : List Nat} {ns : List ByteArray} {c k : Nat} {R : List TResult} (h : Ev fs d L ns c k R) : R.length = d.length := by
 have := congrArg List.length h.nm
 simpa using this
def rP (fs : List TFile) (d : List TDir) (i : Nat) (R : List TResult) (x : TDir) : List TResult := R.set i ⟨x.fName, mY fs x.fQuery R⟩
theorem a7T {fs : List TFile} {d : List TDir} {L : List Nat} {ns : List ByteArray} {c k : Nat} {R : List TResult} (h : Ev fs d L ns c k R) (hv : ∀ i, (hi : i < d.length) → okQ d[i].fQuery = true) (hc : Clo d.length (EE d) L) {i j : Nat} (hi : i < d.length) (hin : hasS ns d[i].fName = true) (hik : lv L i = k) (hj : j < d.length) (hjk : lv L j = k) (f : TFile) (hp : pr d[j].fQuery R f = true) : pr d[j].fQuery (rP fs d i R d[i]) f = true := by
 have hq := hv j hj
 have hlen := h.len
 have hl9 := tZ hq
 have hnm2 := uG R i ⟨d[i].fName, mY fs d[i].fQuery R⟩ d h.nm hi rfl
 have grow : ∀ x, hasI (eQ R i) x = true → hasI (mY fs d[i].fQuery R) x = true := fun x hx => by
  obtain ⟨p, e, hpp⟩ := h.cur i hi hin hik
  rw [e, a7S] at hx
  obtain ⟨g, hg, rfl⟩ := hx
  rw [List.mem_filter] at hg
  unfold mY
  rw [a7S]
  exact ⟨g, List.mem_filter.2 ⟨hg.1, hpp g hg.2⟩, rfl⟩
 unfold pr at hp ⊢
 rw [hq, Bool.true_and] at hp ⊢
 have key := a7V hq (f := f) (r := R) (r' := rP fs d i R d[i]) (fun m hm h89 hb x hx => by
  have hmem := a5F hm h89 false hb
  rcases resIDs_at h.nm d[j].fQuery[m].fName with ⟨_, e⟩ | ⟨p, hp1, hp2, e⟩
  ·rw [e] at hx; simp [hasI] at hx
  ·rcases resIDs_at hnm2 d[j].fQuery[m].fName with ⟨e3, _⟩ | ⟨p', hp1', _, e'⟩
   ·omega
   ·have : p' = p := by omega
    subst this
    show hasI (bO _ (R.set i _)) x = true
    rw [e', jY R i p' _ (by omega)]
    rw [e] at hx
    split
    ·rename_i e4; subst e4; exact grow x hx
    ·exact hx) (fun m hm h89 hb x => by
  have hmem := a5F hm h89 true hb
  rcases resIDs_at h.nm d[j].fQuery[m].fName with ⟨e1, e⟩ | ⟨p, hp1, hp2, e⟩
  ·rcases resIDs_at hnm2 d[j].fQuery[m].fName with ⟨_, e'⟩ | ⟨p', hp1', _, _⟩
   ·show _ = hasI (bO _ (R.set i _)) x
    rw [e, e']
   ·omega
  ·rcases resIDs_at hnm2 d[j].fQuery[m].fName with ⟨e3, _⟩ | ⟨p', hp1', _, e'⟩
   ·omega
   ·have : p' = p := by omega
    subst this
    have hee := hc.le j p' 1 ((yX d j p' 1).2 ⟨d[j], List.getElem?_eq_getElem hj, .inr ⟨rfl, _, hmem, hp1⟩⟩)
    have hne : p' ≠ i := fun e => by subst e; omega
    show _ = hasI (bO _ (R.set i _)) x
    rw [e, e', jY R i p' _ (by omega), if_neg hne]) d[j].fQuery.length (d[j].fQuery.length - 1) (by omega) (by omega)
 cases hb : nb (kP d[j].fQuery) (d[j].fQuery.length - 1) with
 | true => rw [← key.1 hb]; exact hp
 | false => exact key.2 hb hp
theorem Ev.step {fs : List TFile} {d : List TDir} {L : List Nat} {ns : List ByteArray} {c k : Nat} {R : List TResult} (h : Ev fs d L ns c k R) (hv : ∀ i, (hi : i < d.length) → okQ d[i].fQuery = true) (hc : Clo d.length (EE d) L) {i : Nat} (hi : i < d.length) (hin : hasS ns d[i].fName = true) (hik : lv L i = k) : Ev fs d L ns c k (rP fs d i R d[i]) := by
 have hlen := h.len
 refine ⟨uG R i _ d h.nm hi rfl, fun j hj hjn hjk => ?_, fun j hj hjn hjk => ?_, fun j => ?_, h.cap⟩
 ·unfold rP
  rw [jY R i j _ (by omega)]
  split
  ·rename_i e; subst e
   exact ⟨pr d[j].fQuery R, rfl, fun f hf => a7T h hv hc hi hin hik hj hjk f hf⟩
  ·obtain ⟨p, e, hp⟩ := h.cur j hj hjn hjk
   exact ⟨p, e, fun f hf => a7T h hv hc hi hin hik hj hjk f (hp f hf)⟩
 ·unfold rP
  rw [jY R i j _ (by omega), if_neg (fun e => by subst e; omega)]
  exact h.top j hj hjn hjk
 ·unfold rP
  rw [jY R i j _ (by omega)]
  split
  ·exact Nat.le_trans (a5E fs _ _) h.cap
  ·exact h.bd j
theorem filter_same {α : Type} (p q : α → Bool) (l : List α) (h : ∀ x ∈ l, p x = true → q x = true) : l.filter p = l.filter q ∨ (l.filter p).length < (l.filter q).length := by
 have le : ∀ l : List α, (∀ x ∈ l, p x = true → q x = true) → (l.filter p).length ≤ (l.filter q).length := by
  intro l
  induction l with
  | nil => intro _; simp
  | cons x l ih =>
   intro h
   have := ih fun y hy => h y (List.mem_cons_of_mem _ hy)
   simp only [List.filter_cons]
   cases hp : p x
   ·cases hq : q x <;> simp <;> omega
   ·rw [h x (by simp) hp]; simpa using this
 induction l with
 | nil => exact .inl rfl
 | cons x l ih =>
  have hl := fun y hy => h y (List.mem_cons_of_mem x hy)
  simp only [List.filter_cons]
  cases hp : p x
  ·cases hq : q x
   ·simpa using ih hl
   ·have := le l hl
    right; simp; omega
  ·rw [h x (by simp) hp]
   rcases ih hl with e | e
   ·left; simp [e]
   ·right; simpa using e
def jC : List TResult → Nat
 | [] => 0
 | x :: l => x.fIDs.length + jC l
theorem b1b (R : List TResult) (i : Nat) (x : TResult) (h : i < R.length) : jC (R.set i x) + (eQ R i).length = jC R + x.fIDs.length := by
 induction R generalizing i with
 | nil => simp at h
 | cons y l ih =>
  cases i with
  | zero => simp [jC, eQ]; omega
  | succ i =>
   have := ih i (by simpa using h)
   simp only [List.set_cons_succ, jC, eQ, List.getD_cons_succ] at this ⊢
   omega
theorem b2G (R : List TResult) (c : Nat) (h : ∀ i, (eQ R i).length ≤ c) : jC R ≤ R.length * c := by
 induction R with
 | nil => simp [jC]
 | cons x l ih =>
  have h0 := h 0
  have h1 := ih fun i => by simpa [eQ] using h (i + 1)
  simp only [eQ, List.getD_cons_zero] at h0
  simp only [jC, List.length_cons, Nat.succ_mul]
  omega
theorem Ev.grow {fs : List TFile} {d : List TDir} {L : List Nat} {ns : List ByteArray} {c k : Nat} {R : List TResult} (h : Ev fs d L ns c k R) {i : Nat} (hi : i < d.length) (hin : hasS ns d[i].fName = true) (hik : lv L i = k) (hne : mY fs d[i].fQuery R ≠ eQ R i) : jC R < jC (rP fs d i R d[i]) := by
 obtain ⟨p, e, hp⟩ := h.cur i hi hin hik
 have hlen := h.len
 have hs := b1b R i ⟨d[i].fName, mY fs d[i].fQuery R⟩ (by omega)
 rcases filter_same p (pr d[i].fQuery R) fs (fun f _ hf => hp f hf) with e2 | e2
 ·exact (hne (by rw [e]; unfold mY; rw [e2])).elim
 ·have h1 : (eQ R i).length < (mY fs d[i].fQuery R).length := by
   rw [e]; unfold mY iO; simpa using e2
  unfold rP
  simp only at hs
  omega
theorem Ev.tot {fs : List TFile} {d : List TDir} {L : List Nat} {ns : List ByteArray} {c k : Nat} {R : List TResult} (h : Ev fs d L ns c k R) : jC R ≤ d.length * c := by
 have := b2G R c h.bd
 rwa [h.len] at this
theorem Ev.next {fs : List TFile} {d : List TDir} {L : List Nat} {ns : List ByteArray} {c k : Nat} {R : List TResult} (h : Ev fs d L ns c k R) : Ev fs d L ns c (k + 1) R :=
 ⟨h.nm, fun i hi hn hk => ⟨fun _ => false, by rw [h.top i hi hn (by omega)]; simp [iO], fun f hf => by cases hf⟩, fun i hi hn hk => h.top i hi hn (by omega), h.bd, h.cap⟩
end Go.Proofs.YtolgdibgnndoaaaGreat
end
