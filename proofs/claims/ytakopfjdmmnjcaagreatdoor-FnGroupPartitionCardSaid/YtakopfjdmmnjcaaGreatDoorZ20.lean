/- Joined texts. -/
import Derived.Test.YtakopfjdmmnjcaaGreatDoorZ17
import Derived.Test.YtakopfjdmmnjcaaGreatDoorZ18
import Derived.Test.YtakopfjdmmnjcaaGreatDoorZ19
import Derived.Test.YtakopfjdmmnjcaaGreatDoorZ15
import Derived.Test.YtakopfjdmmnjcaaGreatDoorZ10
import Derived.Test.YtakopfjdmmnjcaaGreatDoorZ14
import Derived.Test.YtakopfjdmmnjcaaGreatDoorZ11
import Derived.Test.YtakopfjdmmnjcaaGreatDoorZ07
set_option linter.all false
section
set_option maxRecDepth 100000
set_option maxHeartbeats 4000000
namespace Go.Proofs.YtakopfjdmmnjcaaGreatDoor
open Go Go.Sx Go.RowKit Go.Proofs
structure dirsD (m : Nat) (d : List TDir) : Prop where
 hi : d.length ≤ m
 nm : ∀ x ∈ d, x.fName.size ≤ 7
 qy : ∀ x ∈ d, qryA x.fQuery
theorem a1f (m : Nat) : dirsD m [] := ⟨Nat.zero_le _, fun x h => by simp at h, fun x h => by simp at h⟩
theorem nL {p m : Nat} {q : List TNode} (h : qryD p m q) (hm : m ≤ 8) : qryA q := ⟨by have := h.hi; omega, h.nd⟩
theorem iR {m n : Nat} {d : List TDir} {x : TDir} (h : dirsD m d) (hn : d.length + 1 ≤ n) (h1 : x.fName.size ≤ 7) (h2 : qryA x.fQuery) : dirsD n (d ++ [x]) := ⟨by simpa using hn, fun y hy => by
 rcases List.mem_append.1 hy with hy | hy
 ·exact h.nm y hy
 ·simp only [List.mem_singleton] at hy; subst hy; exact h1, fun y hy => by
 rcases List.mem_append.1 hy with hy | hy
 ·exact h.qy y hy
 ·simp only [List.mem_singleton] at hy; subst hy; exact h2⟩
theorem a5c {m : Nat} {d : List TDir} {x : TDir} (h : dirsD m d) (k : Nat) (h1 : x.fName.size ≤ 7) (h2 : qryA x.fQuery) : dirsD m (d.set k x) := ⟨by simpa using h.hi, fun y hy => by
 rcases List.mem_or_eq_of_mem_set hy with hy | rfl
 ·exact h.nm y hy
 ·exact h1, fun y hy => by
 rcases List.mem_or_eq_of_mem_set hy with hy | rfl
 ·exact h.qy y hy
 ·exact h2⟩
theorem a9w {m : Nat} {d : List TDir} (h : dirsD m d) (k : Nat) : dirsD m (d.take k) := ⟨by have := h.hi; simp; omega, fun y hy => h.nm y (List.mem_of_mem_take hy), fun y hy => h.qy y (List.mem_of_mem_take hy)⟩
theorem a7X {m n : Nat} {d : List TDir} (h : dirsD m d) (hn : m ≤ n) : dirsD n d := ⟨by have := h.hi; omega, h.nm, h.qy⟩
theorem b0J {m : Nat} {d : List TDir} (h : dirsD m d) (hm : m ≤ 6) : gN d ≤ 900 := by
 have h1 := zZ lN 140 d fun x hx => by
  have h2 := h.nm x hx
  have h3 := h.qy x hx
  have h4 := b7d h3.hi h3.nd
  unfold lN
  omega
 have h2 := h.hi
 unfold gN
 have : d.length * 140 ≤ 6 * 140 := Nat.mul_le_mul_right _ (by omega)
 omega
theorem uH {l : List Int} (hl : fP l) : Drw l 122 [] (fun d : List TDir => dirsD 4 d ∧ 0 < d.length) (fun d => .o (.w 143 2 (d.map bY))) := by
 intro i h hi hh; refine nI Tryz.func122 rfl Tryz.call122 rfl (fun C b => ?_); simp only [go_sem, Tryz.ntmps122]
 refine aD ?_
 refine aY (α := Nat × List TDir × Nat × Int) (fun x => [(3, .o (.s 1)), (4, oi x.1), (5, .o .u)]) (fun x => [(0, .pin b 77 [.sl (l.map nH), iv x.2.2.1, iv x.2.2.2]), (1, .row 143 2 (x.2.1.map bY) true)]) (fun x => (x.1 ≤ 4 ∧ x.2.1.length = x.1 ∧ dirsD 4 x.2.1) ∧ (x.2.2.1 ≤ l.length ∧ inR .i64 x.2.2.2)) (fun x => 5 - x.1) (0, [], i, h) (fun _ => ?_) ?_ ?_ (fun x hx => ?_)
 ·simp only [go_sem]
 ·simp only [go_sem]; simp
 ·exact ⟨⟨Nat.zero_le _, rfl, a1f 4⟩, hi, hh⟩
 ·clear hi hh
  obtain ⟨k, d, i, h⟩ := x
  obtain ⟨⟨k4, hk, hd⟩, hi, hh⟩ := hx
  simp only at k4 hk hd hi hh
  simp only [go_sem]
  refine aD ?_
  first | (refine aR (aH hl 4 (by decide) (by decide) i h hi hh) ⟨rfl, rfl⟩ ?_ rfl ?_; (focus first | rfl | (simp only [go_sem]; done))) | (refine hZ (aH hl 4 (by decide) (by decide) i h hi hh) ⟨rfl, rfl⟩ ?_ rfl ?_; (focus first | rfl | (simp only [go_sem]; done)))
  clear hi hh; rintro ⟨x, i, h⟩ ⟨hx, hi, hh⟩; simp only at hx hi hh; simp only [go_sem]
  refine aD ?_
  refine cnd rfl (fun hlt => ?_) (fun hlt => ?_)
  ·simp only [decide_eq_true_eq] at hlt
   have h4 : k = 0 ∨ k = 1 ∨ k = 2 ∨ k = 3 := by omega
   have hq1 : d.length + 1 ≤ 140737488355328 := by omega
   have hq2 : (d.length + 1) * 40 ≤ 140737488355328 := by omega
   have r0 : ∀ (a b c e : List D), eQ [a, b, c, e] 0 = a := fun _ _ _ _ => rfl
   have r1 : ∀ (a b c e : List D), eQ [a, b, c, e] 1 = b := fun _ _ _ _ => rfl
   have r2 : ∀ (a b c e : List D), eQ [a, b, c, e] 2 = c := fun _ _ _ _ => rfl
   have r3 : ∀ (a b c e : List D), eQ [a, b, c, e] 3 = e := fun _ _ _ _ => rfl
   have rs : ∀ (a : D), sub [a] 0 1 = some [a] := fun _ => rfl
   clear hlt hx
   rcases h4 with rfl | rfl | rfl | rfl
   ·have qH := aI @hq1 (aI @hq2 (aI @r0 (aI @r1 (aI @r2 (aI @r3 @rs))))); repeat' (with_reducible first | refine nY ?_ | (refine mX ?_; try simp only [go_sem, qH]) | refine kD ?_ | (apply rF [1,6,8,9,10] [10] [0,2,5] [0,2,5] ((.c 1 [3,4] [0,2,3,4,5] (.c 6 [7] [0,2,3,4,7] (.c 8 [] [0] (.c 9 [] [] (.c 10 [] [] .n .n) .n) .n) .n) (.c 6 [] [0,2] (.c 1 [3,4,7] [0,2,3,4,7] (.c 8 [] [0] (.c 9 [] [] (.c 10 [] [] .n .n) .n) .n) .n) .n))) (by simp only [go_sem]; rfl) (by simp only [go_sem]; rfl) (by simp only [go_sem]; rfl) (by decide +kernel); (focus simp only [go_sem]; done)) | exact aT | refine aK (uX ?_) ?_ | refine aL (aX ?_) ?_ | refine aM (aX ?_) ?_ | exact bH | exact oH | exact uB | refine rD ?_ | refine aO ?_ | fail)
    all_goals
     skip
     first | (refine aR (bF hl i h hi hh) ⟨rfl, rfl⟩ ?_ rfl ?_; (focus first | rfl | (simp only [go_sem]; done))) | (refine hZ (bF hl i h hi hh) ⟨rfl, rfl⟩ ?_ rfl ?_; (focus first | rfl | (simp only [go_sem]; done)))
     clear hi hh; rintro ⟨q, i, h⟩ ⟨hq, hi, hh⟩; simp only at hq hi hh; simp only [go_sem]
     have qH := aI @hq1 (aI @hq2 (aI @r0 (aI @r1 (aI @r2 (aI @r3 @rs))))); repeat' (with_reducible first | refine nY ?_ | (refine mX ?_; try simp only [go_sem, qH]) | refine kD ?_ | exact aT | refine aK (uX ?_) ?_ | refine aL (aX ?_) ?_ | refine aM (aX ?_) ?_ | exact uB | refine rD ?_ | refine aO ?_ | fail)
     refine aF (1, d ++ [⟨⟨#[100, 97]⟩, q⟩], i, h) ?_ ?_ ?_
     ·simp only [go_sem, List.map_append, List.map_cons, List.map_nil]; simp
     ·exact ⟨⟨by simp only; omega, by simp [hk], iR hd (by omega) (by simp only; decide) (nL hq (by decide))⟩, hi, hh⟩
     ·simp only; omega
   ·have qH := aI @hq1 (aI @hq2 (aI @r0 (aI @r1 (aI @r2 (aI @r3 @rs))))); repeat' (with_reducible first | refine nY ?_ | (refine mX ?_; try simp only [go_sem, qH]) | refine kD ?_ | (apply rF [1,6,8,9,10] [10] [0,2,5] [0,2,5] ((.c 1 [3,4] [0,2,3,4,5] (.c 6 [7] [0,2,3,4,7] (.c 8 [] [0] (.c 9 [] [] (.c 10 [] [] .n .n) .n) .n) .n) (.c 6 [] [0,2] (.c 1 [3,4,7] [0,2,3,4,7] (.c 8 [] [0] (.c 9 [] [] (.c 10 [] [] .n .n) .n) .n) .n) .n))) (by simp only [go_sem]; rfl) (by simp only [go_sem]; rfl) (by simp only [go_sem]; rfl) (by decide +kernel); (focus simp only [go_sem]; done)) | exact aT | refine aK (uX ?_) ?_ | refine aL (aX ?_) ?_ | refine aM (aX ?_) ?_ | exact bH | exact oH | exact uB | refine rD ?_ | refine aO ?_ | fail)
    all_goals
     skip
     first | (refine aR (bF hl i h hi hh) ⟨rfl, rfl⟩ ?_ rfl ?_; (focus first | rfl | (simp only [go_sem]; done))) | (refine hZ (bF hl i h hi hh) ⟨rfl, rfl⟩ ?_ rfl ?_; (focus first | rfl | (simp only [go_sem]; done)))
     clear hi hh; rintro ⟨q, i, h⟩ ⟨hq, hi, hh⟩; simp only at hq hi hh; simp only [go_sem]
     have qH := aI @hq1 (aI @hq2 (aI @r0 (aI @r1 (aI @r2 (aI @r3 @rs))))); repeat' (with_reducible first | refine nY ?_ | (refine mX ?_; try simp only [go_sem, qH]) | refine kD ?_ | exact aT | refine aK (uX ?_) ?_ | refine aL (aX ?_) ?_ | refine aM (aX ?_) ?_ | exact uB | refine rD ?_ | refine aO ?_ | fail)
     refine aF (2, d ++ [⟨⟨#[100, 98]⟩, q⟩], i, h) ?_ ?_ ?_
     ·simp only [go_sem, List.map_append, List.map_cons, List.map_nil]; simp
     ·exact ⟨⟨by simp only; omega, by simp [hk], iR hd (by omega) (by simp only; decide) (nL hq (by decide))⟩, hi, hh⟩
     ·simp only; omega
   ·have qH := aI @hq1 (aI @hq2 (aI @r0 (aI @r1 (aI @r2 (aI @r3 @rs))))); repeat' (with_reducible first | refine nY ?_ | (refine mX ?_; try simp only [go_sem, qH]) | refine kD ?_ | (apply rF [1,6,8,9,10] [10] [0,2,5] [0,2,5] ((.c 1 [3,4] [0,2,3,4,5] (.c 6 [7] [0,2,3,4,7] (.c 8 [] [0] (.c 9 [] [] (.c 10 [] [] .n .n) .n) .n) .n) (.c 6 [] [0,2] (.c 1 [3,4,7] [0,2,3,4,7] (.c 8 [] [0] (.c 9 [] [] (.c 10 [] [] .n .n) .n) .n) .n) .n))) (by simp only [go_sem]; rfl) (by simp only [go_sem]; rfl) (by simp only [go_sem]; rfl) (by decide +kernel); (focus simp only [go_sem]; done)) | exact aT | refine aK (uX ?_) ?_ | refine aL (aX ?_) ?_ | refine aM (aX ?_) ?_ | exact bH | exact oH | exact uB | refine rD ?_ | refine aO ?_ | fail)
    all_goals
     skip
     first | (refine aR (bF hl i h hi hh) ⟨rfl, rfl⟩ ?_ rfl ?_; (focus first | rfl | (simp only [go_sem]; done))) | (refine hZ (bF hl i h hi hh) ⟨rfl, rfl⟩ ?_ rfl ?_; (focus first | rfl | (simp only [go_sem]; done)))
     clear hi hh; rintro ⟨q, i, h⟩ ⟨hq, hi, hh⟩; simp only at hq hi hh; simp only [go_sem]
     have qH := aI @hq1 (aI @hq2 (aI @r0 (aI @r1 (aI @r2 (aI @r3 @rs))))); repeat' (with_reducible first | refine nY ?_ | (refine mX ?_; try simp only [go_sem, qH]) | refine kD ?_ | exact aT | refine aK (uX ?_) ?_ | refine aL (aX ?_) ?_ | refine aM (aX ?_) ?_ | exact uB | refine rD ?_ | refine aO ?_ | fail)
     refine aF (3, d ++ [⟨⟨#[100, 99]⟩, q⟩], i, h) ?_ ?_ ?_
     ·simp only [go_sem, List.map_append, List.map_cons, List.map_nil]; simp
     ·exact ⟨⟨by simp only; omega, by simp [hk], iR hd (by omega) (by simp only; decide) (nL hq (by decide))⟩, hi, hh⟩
     ·simp only; omega
   ·have qH := aI @hq1 (aI @hq2 (aI @r0 (aI @r1 (aI @r2 (aI @r3 @rs))))); repeat' (with_reducible first | refine nY ?_ | (refine mX ?_; try simp only [go_sem, qH]) | refine kD ?_ | (apply rF [1,6,8,9,10] [10] [0,2,5] [0,2,5] ((.c 1 [3,4] [0,2,3,4,5] (.c 6 [7] [0,2,3,4,7] (.c 8 [] [0] (.c 9 [] [] (.c 10 [] [] .n .n) .n) .n) .n) (.c 6 [] [0,2] (.c 1 [3,4,7] [0,2,3,4,7] (.c 8 [] [0] (.c 9 [] [] (.c 10 [] [] .n .n) .n) .n) .n) .n))) (by simp only [go_sem]; rfl) (by simp only [go_sem]; rfl) (by simp only [go_sem]; rfl) (by decide +kernel); (focus simp only [go_sem]; done)) | exact aT | refine aK (uX ?_) ?_ | refine aL (aX ?_) ?_ | refine aM (aX ?_) ?_ | exact bH | exact oH | exact uB | refine rD ?_ | refine aO ?_ | fail)
    all_goals
     skip
     first | (refine aR (bF hl i h hi hh) ⟨rfl, rfl⟩ ?_ rfl ?_; (focus first | rfl | (simp only [go_sem]; done))) | (refine hZ (bF hl i h hi hh) ⟨rfl, rfl⟩ ?_ rfl ?_; (focus first | rfl | (simp only [go_sem]; done)))
     clear hi hh; rintro ⟨q, i, h⟩ ⟨hq, hi, hh⟩; simp only at hq hi hh; simp only [go_sem]
     have qH := aI @hq1 (aI @hq2 (aI @r0 (aI @r1 (aI @r2 (aI @r3 @rs))))); repeat' (with_reducible first | refine nY ?_ | (refine mX ?_; try simp only [go_sem, qH]) | refine kD ?_ | exact aT | refine aK (uX ?_) ?_ | refine aL (aX ?_) ?_ | refine aM (aX ?_) ?_ | exact uB | refine rD ?_ | refine aO ?_ | fail)
     refine aF (4, d ++ [⟨⟨#[100, 100]⟩, q⟩], i, h) ?_ ?_ ?_
     ·simp only [go_sem, List.map_append, List.map_cons, List.map_nil]; simp
     ·exact ⟨⟨by simp only; omega, by simp [hk], iR hd (by omega) (by simp only; decide) (nL hq (by decide))⟩, hi, hh⟩
     ·simp only; omega
  ·refine aD ?_
   exact aJ (d, i, h) ⟨⟨_, rfl, by simp only [go_sem]⟩, trivial⟩ ⟨(show dirsD 4 d ∧ 0 < d.length from ⟨hd, by simp only [decide_eq_false_iff_not] at hlt; omega⟩), ⟨hi, hh⟩⟩ (by simp only [go_sem])
@[go_sem] def nmY : List ByteArray := [⟨#[]⟩, ⟨#[65]⟩, ⟨#[122, 122]⟩, ⟨#[97, 98, 99, 100, 101, 102, 103]⟩]
theorem xC {l : List Int} (hl : fP l) : Drw l 108 [] (fun d : List TDir => dirsD 6 d) (fun d => .o (.d (.sl (d.map bY)))) := by
 intro i h hi hh; refine nI Tryz.func108 rfl Tryz.call108 rfl (fun C b => ?_); simp only [go_sem, Tryz.ntmps108]
 refine aD ?_
 first | (refine aR (uH hl i h hi hh) ⟨rfl, rfl⟩ ?_ rfl ?_; (focus first | rfl | (simp only [go_sem]; done))) | (refine hZ (uH hl i h hi hh) ⟨rfl, rfl⟩ ?_ rfl ?_; (focus first | rfl | (simp only [go_sem]; done)))
 clear hi hh; rintro ⟨d, i, h⟩ ⟨hd, hi, hh⟩; simp only at hd hi hh; simp only [go_sem]
 obtain ⟨hd, hpos⟩ := hd
 have hd6 := a7X (n := 6) hd (by decide)
 have hlen := hd.hi
 refine aD ?_
 first | (refine aR (aH hl (d.length : Int) (by omega) (by omega) i h hi hh) ⟨rfl, rfl⟩ ?_ rfl ?_; (focus first | rfl | (simp only [go_sem]; done))) | (refine hZ (aH hl (d.length : Int) (by omega) (by omega) i h hi hh) ⟨rfl, rfl⟩ ?_ rfl ?_; (focus first | rfl | (simp only [go_sem]; done)))
 clear hi hh; rintro ⟨x, i, h⟩ ⟨hx, hi, hh⟩; simp only at hx hi hh; simp only [go_sem]
 obtain ⟨k, rfl⟩ := Int.eq_ofNat_of_zero_le hx.1
 have hk : k < d.length := by omega
 have hkn := hd.nm d[k] (List.getElem_mem hk)
 have hkq := hd.qy d[k] (List.getElem_mem hk)
 refine aD ?_
 first | (refine aR (aH hl 10 (by decide) (by decide) i h hi hh) ⟨rfl, rfl⟩ ?_ rfl ?_; (focus first | rfl | (simp only [go_sem]; done))) | (refine hZ (aH hl 10 (by decide) (by decide) i h hi hh) ⟨rfl, rfl⟩ ?_ rfl ?_; (focus first | rfl | (simp only [go_sem]; done)))
 clear hi hh; rintro ⟨c, i, h⟩ ⟨hc, hi, hh⟩; simp only at hc hi hh; simp only [go_sem]
 have h5 : c = 0 ∨ c = 1 ∨ c = 2 ∨ c = 3 ∨ (¬ c = 0 ∧ ¬ c = 1 ∧ ¬ c = 2 ∧ ¬ c = 3) := by omega
 rcases h5 with rfl | rfl | rfl | rfl | ⟨k0, k1, k2, k3⟩
 ·have q0 := @hk; refine fF ?_
  first | (refine aR (dG hl nmY (by decide) (by decide) i h hi hh) ⟨rfl, rfl⟩ ?_ rfl ?_; (focus first | rfl | (simp only [go_sem]; done))) | (refine hZ (dG hl nmY (by decide) (by decide) i h hi hh) ⟨rfl, rfl⟩ ?_ rfl ?_; (focus first | rfl | (simp only [go_sem]; done)))
  clear hi hh; rintro ⟨y, i, h⟩ ⟨hy, hi, hh⟩; simp only at hy hi hh; simp only [go_sem]
  have hy2 := (by decide +kernel : ∀ n ∈ nmY, n.size ≤ 7) y hy
  have q0 := @hk; refine fF ?_
  first | refine eY (Sees.frz 1 rfl) ?_
  simp only [go_sem]
  exact aJ (d.set k ⟨y, d[k].fQuery⟩, i, h) ⟨⟨_, rfl, by simp only [go_sem, List.map_set, List.map_append, List.map_cons, List.map_nil]; try rfl⟩, trivial⟩ ⟨(show dirsD 6 _ from a5c hd6 k hy2 hkq), ⟨hi, hh⟩⟩ (by simp only [go_sem])
 ·have q0 := @hk; refine fF ?_
  first | (refine aR (a5g hl i h hi hh) ⟨rfl, rfl⟩ ?_ rfl ?_; (focus first | rfl | (simp only [go_sem]; done))) | (refine hZ (a5g hl i h hi hh) ⟨rfl, rfl⟩ ?_ rfl ?_; (focus first | rfl | (simp only [go_sem]; done)))
  clear hi hh; rintro ⟨y, i, h⟩ ⟨hy, hi, hh⟩; simp only at hy hi hh; simp only [go_sem]
  have q0 := @hk; refine fF ?_
  first | refine eY (Sees.frz 1 rfl) ?_
  simp only [go_sem]
  exact aJ (d.set k ⟨d[k].fName, y⟩, i, h) ⟨⟨_, rfl, by simp only [go_sem, List.map_set, List.map_append, List.map_cons, List.map_nil]; try rfl⟩, trivial⟩ ⟨(show dirsD 6 _ from a5c hd6 k hkn hy), ⟨hi, hh⟩⟩ (by simp only [go_sem])
 ·refine aD ?_
  refine aY (α := List TDir × Nat × Int) (fun x => [(3, .o (.s 1)), (5, .o .u), (6, .o .u), (8, .o .u)]) (fun x => [(0, .pin b 77 [.sl (l.map nH), iv x.2.1, iv x.2.2]), (1, .row 143 2 (x.1.map bY) true)]) (fun x => (dirsD 6 x.1 ∧ 0 < x.1.length) ∧ (x.2.1 ≤ l.length ∧ inR .i64 x.2.2)) (fun x => 7 - x.1.length) (d, i, h) (fun _ => ?_) ?_ ?_ (fun y hy => ?_)
  ·simp only [go_sem]
  ·simp only [go_sem]; simp
  ·exact ⟨⟨hd6, hpos⟩, hi, hh⟩
  ·clear hi hh hkn hkq hk hlen hpos hd hd6 hx hc
   obtain ⟨d, i, h⟩ := y
   obtain ⟨⟨hd, hpos⟩, hi, hh⟩ := hy
   simp only at hd hpos hi hh
   simp only [go_sem]
   refine aD ?_
   first | (refine aR (aH hl 2 (by decide) (by decide) i h hi hh) ⟨rfl, rfl⟩ ?_ rfl ?_; (focus first | rfl | (simp only [go_sem]; done))) | (refine hZ (aH hl 2 (by decide) (by decide) i h hi hh) ⟨rfl, rfl⟩ ?_ rfl ?_; (focus first | rfl | (simp only [go_sem]; done)))
   clear hi hh; rintro ⟨z, i, h⟩ ⟨hz, hi, hh⟩; simp only at hz hi hh; simp only [go_sem]
   refine aD ?_
   refine cnd rfl (fun hlt => ?_) (fun hlt => ?_)
   ·simp only [decide_eq_true_eq] at hlt
    have hq1 : d.length + 1 ≤ 140737488355328 := by omega
    have hq2 : (d.length + 1) * 40 ≤ 140737488355328 := by omega
    have r1 : ∀ (a b c e f g : List D), eQ [a, b, c, e, f, g] 1 = b := fun _ _ _ _ _ _ => rfl
    have r2 : ∀ (a b c e f g : List D), eQ [a, b, c, e, f, g] 2 = c := fun _ _ _ _ _ _ => rfl
    have r3 : ∀ (a b c e f g : List D), eQ [a, b, c, e, f, g] 3 = e := fun _ _ _ _ _ _ => rfl
    have r4 : ∀ (a b c e f g : List D), eQ [a, b, c, e, f, g] 4 = f := fun _ _ _ _ _ _ => rfl
    have r5 : ∀ (a b c e f g : List D), eQ [a, b, c, e, f, g] 5 = g := fun _ _ _ _ _ _ => rfl
    have rs : ∀ (a : D), sub [a] 0 1 = some [a] := fun _ => rfl
    have h15 : d.length = 1 ∨ d.length = 2 ∨ d.length = 3 ∨ d.length = 4 ∨ d.length = 5 := by omega
    clear hlt hz
    rcases h15 with hdl | hdl | hdl | hdl | hdl
    ·have qH := aI @hdl (aI @hq1 (aI @hq2 (aI @r1 @rs))); repeat' (with_reducible first | refine nY ?_ | (refine mX ?_; try simp only [go_sem, qH]) | refine kD ?_ | (apply rF [1,7,9,10,11] [11] [0,2,3,6] [0,2,3,6] ((.c 1 [4,5] [0,2,3,4,5,6] (.c 7 [8] [0,2,3,4,5,8] (.c 9 [] [0] (.c 10 [] [] (.c 11 [] [] .n .n) .n) .n) .n) (.c 7 [] [0,2,3] (.c 1 [4,5,8] [0,2,3,4,5,8] (.c 9 [] [0] (.c 10 [] [] (.c 11 [] [] .n .n) .n) .n) .n) .n))) (by simp only [go_sem]; rfl) (by simp only [go_sem]; rfl) (by simp only [go_sem]; rfl) (by decide +kernel); (focus simp only [go_sem]; done)) | exact aT | refine aK (uX ?_) ?_ | refine aL (aX ?_) ?_ | refine aM (aX ?_) ?_ | exact bH | exact oH | exact uB | refine rD ?_ | refine aO ?_ | fail)
     all_goals
      skip
      first | (refine aR (bF hl i h hi hh) ⟨rfl, rfl⟩ ?_ rfl ?_; (focus first | rfl | (simp only [go_sem]; done))) | (refine hZ (bF hl i h hi hh) ⟨rfl, rfl⟩ ?_ rfl ?_; (focus first | rfl | (simp only [go_sem]; done)))
      clear hi hh; rintro ⟨q, i, h⟩ ⟨hq, hi, hh⟩; simp only at hq hi hh; simp only [go_sem]
      have qH := aI @hdl (aI @hq1 (aI @hq2 (aI @r1 @rs))); repeat' (with_reducible first | refine nY ?_ | (refine mX ?_; try simp only [go_sem, qH]) | refine kD ?_ | exact aT | refine aK (uX ?_) ?_ | refine aL (aX ?_) ?_ | refine aM (aX ?_) ?_ | exact uB | refine rD ?_ | refine aO ?_ | fail)
      refine aF (d ++ [⟨⟨#[100, 98]⟩, q⟩], i, h) ?_ ?_ ?_
      ·simp only [go_sem, List.map_append, List.map_cons, List.map_nil]; simp
      ·exact ⟨⟨iR hd (by omega) (by simp only; decide) (nL hq (by decide)), by simp⟩, hi, hh⟩
      ·simp only [List.length_append, List.length_cons, List.length_nil]; omega
    ·have qH := aI @hdl (aI @hq1 (aI @hq2 (aI @r2 @rs))); repeat' (with_reducible first | refine nY ?_ | (refine mX ?_; try simp only [go_sem, qH]) | refine kD ?_ | (apply rF [1,7,9,10,11] [11] [0,2,3,6] [0,2,3,6] ((.c 1 [4,5] [0,2,3,4,5,6] (.c 7 [8] [0,2,3,4,5,8] (.c 9 [] [0] (.c 10 [] [] (.c 11 [] [] .n .n) .n) .n) .n) (.c 7 [] [0,2,3] (.c 1 [4,5,8] [0,2,3,4,5,8] (.c 9 [] [0] (.c 10 [] [] (.c 11 [] [] .n .n) .n) .n) .n) .n))) (by simp only [go_sem]; rfl) (by simp only [go_sem]; rfl) (by simp only [go_sem]; rfl) (by decide +kernel); (focus simp only [go_sem]; done)) | exact aT | refine aK (uX ?_) ?_ | refine aL (aX ?_) ?_ | refine aM (aX ?_) ?_ | exact bH | exact oH | exact uB | refine rD ?_ | refine aO ?_ | fail)
     all_goals
      skip
      first | (refine aR (bF hl i h hi hh) ⟨rfl, rfl⟩ ?_ rfl ?_; (focus first | rfl | (simp only [go_sem]; done))) | (refine hZ (bF hl i h hi hh) ⟨rfl, rfl⟩ ?_ rfl ?_; (focus first | rfl | (simp only [go_sem]; done)))
      clear hi hh; rintro ⟨q, i, h⟩ ⟨hq, hi, hh⟩; simp only at hq hi hh; simp only [go_sem]
      have qH := aI @hdl (aI @hq1 (aI @hq2 (aI @r2 @rs))); repeat' (with_reducible first | refine nY ?_ | (refine mX ?_; try simp only [go_sem, qH]) | refine kD ?_ | exact aT | refine aK (uX ?_) ?_ | refine aL (aX ?_) ?_ | refine aM (aX ?_) ?_ | exact uB | refine rD ?_ | refine aO ?_ | fail)
      refine aF (d ++ [⟨⟨#[100, 99]⟩, q⟩], i, h) ?_ ?_ ?_
      ·simp only [go_sem, List.map_append, List.map_cons, List.map_nil]; simp
      ·exact ⟨⟨iR hd (by omega) (by simp only; decide) (nL hq (by decide)), by simp⟩, hi, hh⟩
      ·simp only [List.length_append, List.length_cons, List.length_nil]; omega
    ·have qH := aI @hdl (aI @hq1 (aI @hq2 (aI @r3 @rs))); repeat' (with_reducible first | refine nY ?_ | (refine mX ?_; try simp only [go_sem, qH]) | refine kD ?_ | (apply rF [1,7,9,10,11] [11] [0,2,3,6] [0,2,3,6] ((.c 1 [4,5] [0,2,3,4,5,6] (.c 7 [8] [0,2,3,4,5,8] (.c 9 [] [0] (.c 10 [] [] (.c 11 [] [] .n .n) .n) .n) .n) (.c 7 [] [0,2,3] (.c 1 [4,5,8] [0,2,3,4,5,8] (.c 9 [] [0] (.c 10 [] [] (.c 11 [] [] .n .n) .n) .n) .n) .n))) (by simp only [go_sem]; rfl) (by simp only [go_sem]; rfl) (by simp only [go_sem]; rfl) (by decide +kernel); (focus simp only [go_sem]; done)) | exact aT | refine aK (uX ?_) ?_ | refine aL (aX ?_) ?_ | refine aM (aX ?_) ?_ | exact bH | exact oH | exact uB | refine rD ?_ | refine aO ?_ | fail)
     all_goals
      skip
      first | (refine aR (bF hl i h hi hh) ⟨rfl, rfl⟩ ?_ rfl ?_; (focus first | rfl | (simp only [go_sem]; done))) | (refine hZ (bF hl i h hi hh) ⟨rfl, rfl⟩ ?_ rfl ?_; (focus first | rfl | (simp only [go_sem]; done)))
      clear hi hh; rintro ⟨q, i, h⟩ ⟨hq, hi, hh⟩; simp only at hq hi hh; simp only [go_sem]
      have qH := aI @hdl (aI @hq1 (aI @hq2 (aI @r3 @rs))); repeat' (with_reducible first | refine nY ?_ | (refine mX ?_; try simp only [go_sem, qH]) | refine kD ?_ | exact aT | refine aK (uX ?_) ?_ | refine aL (aX ?_) ?_ | refine aM (aX ?_) ?_ | exact uB | refine rD ?_ | refine aO ?_ | fail)
      refine aF (d ++ [⟨⟨#[100, 100]⟩, q⟩], i, h) ?_ ?_ ?_
      ·simp only [go_sem, List.map_append, List.map_cons, List.map_nil]; simp
      ·exact ⟨⟨iR hd (by omega) (by simp only; decide) (nL hq (by decide)), by simp⟩, hi, hh⟩
      ·simp only [List.length_append, List.length_cons, List.length_nil]; omega
    ·have qH := aI @hdl (aI @hq1 (aI @hq2 (aI @r4 @rs))); repeat' (with_reducible first | refine nY ?_ | (refine mX ?_; try simp only [go_sem, qH]) | refine kD ?_ | (apply rF [1,7,9,10,11] [11] [0,2,3,6] [0,2,3,6] ((.c 1 [4,5] [0,2,3,4,5,6] (.c 7 [8] [0,2,3,4,5,8] (.c 9 [] [0] (.c 10 [] [] (.c 11 [] [] .n .n) .n) .n) .n) (.c 7 [] [0,2,3] (.c 1 [4,5,8] [0,2,3,4,5,8] (.c 9 [] [0] (.c 10 [] [] (.c 11 [] [] .n .n) .n) .n) .n) .n))) (by simp only [go_sem]; rfl) (by simp only [go_sem]; rfl) (by simp only [go_sem]; rfl) (by decide +kernel); (focus simp only [go_sem]; done)) | exact aT | refine aK (uX ?_) ?_ | refine aL (aX ?_) ?_ | refine aM (aX ?_) ?_ | exact bH | exact oH | exact uB | refine rD ?_ | refine aO ?_ | fail)
     all_goals
      skip
      first | (refine aR (bF hl i h hi hh) ⟨rfl, rfl⟩ ?_ rfl ?_; (focus first | rfl | (simp only [go_sem]; done))) | (refine hZ (bF hl i h hi hh) ⟨rfl, rfl⟩ ?_ rfl ?_; (focus first | rfl | (simp only [go_sem]; done)))
      clear hi hh; rintro ⟨q, i, h⟩ ⟨hq, hi, hh⟩; simp only at hq hi hh; simp only [go_sem]
      have qH := aI @hdl (aI @hq1 (aI @hq2 (aI @r4 @rs))); repeat' (with_reducible first | refine nY ?_ | (refine mX ?_; try simp only [go_sem, qH]) | refine kD ?_ | exact aT | refine aK (uX ?_) ?_ | refine aL (aX ?_) ?_ | refine aM (aX ?_) ?_ | exact uB | refine rD ?_ | refine aO ?_ | fail)
      refine aF (d ++ [⟨⟨#[100, 101]⟩, q⟩], i, h) ?_ ?_ ?_
      ·simp only [go_sem, List.map_append, List.map_cons, List.map_nil]; simp
      ·exact ⟨⟨iR hd (by omega) (by simp only; decide) (nL hq (by decide)), by simp⟩, hi, hh⟩
      ·simp only [List.length_append, List.length_cons, List.length_nil]; omega
    ·have qH := aI @hdl (aI @hq1 (aI @hq2 (aI @r5 @rs))); repeat' (with_reducible first | refine nY ?_ | (refine mX ?_; try simp only [go_sem, qH]) | refine kD ?_ | (apply rF [1,7,9,10,11] [11] [0,2,3,6] [0,2,3,6] ((.c 1 [4,5] [0,2,3,4,5,6] (.c 7 [8] [0,2,3,4,5,8] (.c 9 [] [0] (.c 10 [] [] (.c 11 [] [] .n .n) .n) .n) .n) (.c 7 [] [0,2,3] (.c 1 [4,5,8] [0,2,3,4,5,8] (.c 9 [] [0] (.c 10 [] [] (.c 11 [] [] .n .n) .n) .n) .n) .n))) (by simp only [go_sem]; rfl) (by simp only [go_sem]; rfl) (by simp only [go_sem]; rfl) (by decide +kernel); (focus simp only [go_sem]; done)) | exact aT | refine aK (uX ?_) ?_ | refine aL (aX ?_) ?_ | refine aM (aX ?_) ?_ | exact bH | exact oH | exact uB | refine rD ?_ | refine aO ?_ | fail)
     all_goals
      skip
      first | (refine aR (bF hl i h hi hh) ⟨rfl, rfl⟩ ?_ rfl ?_; (focus first | rfl | (simp only [go_sem]; done))) | (refine hZ (bF hl i h hi hh) ⟨rfl, rfl⟩ ?_ rfl ?_; (focus first | rfl | (simp only [go_sem]; done)))
      clear hi hh; rintro ⟨q, i, h⟩ ⟨hq, hi, hh⟩; simp only at hq hi hh; simp only [go_sem]
      have qH := aI @hdl (aI @hq1 (aI @hq2 (aI @r5 @rs))); repeat' (with_reducible first | refine nY ?_ | (refine mX ?_; try simp only [go_sem, qH]) | refine kD ?_ | exact aT | refine aK (uX ?_) ?_ | refine aL (aX ?_) ?_ | refine aM (aX ?_) ?_ | exact uB | refine rD ?_ | refine aO ?_ | fail)
      refine aF (d ++ [⟨⟨#[100, 102]⟩, q⟩], i, h) ?_ ?_ ?_
      ·simp only [go_sem, List.map_append, List.map_cons, List.map_nil]; simp
      ·exact ⟨⟨iR hd (by omega) (by simp only; decide) (nL hq (by decide)), by simp⟩, hi, hh⟩
      ·simp only [List.length_append, List.length_cons, List.length_nil]; omega
   ·refine aD ?_
    first | refine eY (Sees.frz 1 rfl) ?_
    simp only [go_sem]
    exact aJ (d, i, h) ⟨⟨_, rfl, by simp only [go_sem, List.map_set, List.map_append, List.map_cons, List.map_nil]; try rfl⟩, trivial⟩ ⟨(show dirsD 6 _ from hd), ⟨hi, hh⟩⟩ (by simp only [go_sem])
 ·refine aD ?_
  exact aJ ([], i, h) ⟨⟨_, rfl, by simp only [go_sem, List.map_nil]⟩, trivial⟩ ⟨(show dirsD 6 _ from a1f 6), ⟨hi, hh⟩⟩ (by simp only [go_sem])
 ·have q0 := @k0; have q1 := @k1; have q2 := @k2; have q3 := @k3; have q4 := @decide_false; refine uY ?_
  first | refine eY (Sees.frz 1 rfl) ?_
  simp only [go_sem]
  exact aJ (d, i, h) ⟨⟨_, rfl, by simp only [go_sem, List.map_set, List.map_append, List.map_cons, List.map_nil]; try rfl⟩, trivial⟩ ⟨(show dirsD 6 _ from hd6), ⟨hi, hh⟩⟩ (by simp only [go_sem])
theorem b7a (l : List TDir) : ∀ r ∈ l.map bY, r.length = 2 := by intro r hr; obtain ⟨x, _, rfl⟩ := List.mem_map.1 hr; rfl
def b3J : List TDir := [⟨⟨#[100, 97]⟩, [⟨1, 0, 0, ⟨#[]⟩, ⟨0, 0, ⟨#[]⟩⟩⟩]⟩]
theorem b3K : mP b3J = true := by
 unfold mP
 rw [if_pos (by decide +kernel)]
 refine xE (L := [0]) ⟨rfl, fun i k w h => ?_⟩
 obtain ⟨x, hx, h⟩ := (a1h _ i k w).1 h
 have h1 : dH [(⟨1, 0, 0, ⟨#[]⟩, ⟨0, 0, ⟨#[]⟩⟩⟩ : TNode)] false = [] := by decide +kernel
 have h2 : dH [(⟨1, 0, 0, ⟨#[]⟩, ⟨0, 0, ⟨#[]⟩⟩⟩ : TNode)] true = [] := by decide +kernel
 have hq : x.fQuery = [⟨1, 0, 0, ⟨#[]⟩, ⟨0, 0, ⟨#[]⟩⟩⟩] := by
  cases i with
  | zero => simp [b3J] at hx; rw [← hx]
  | succ i => simp [b3J] at hx
 rw [hq, h1, h2] at h
 rcases h with ⟨_, nm, hm, _⟩ | ⟨_, nm, hm, _⟩ <;> simp at hm
theorem uI {l : List Int} (hl : fP l) : Drw l 109 [] (fun d : List TDir => dirsD 6 d ∧ (0 < d.length ∧ mP d = true)) (fun d => .o (.d (.sl (d.map bY)))) := by
 intro i h hi hh; refine nI Tryz.func109 rfl Tryz.call109 rfl (fun C b => ?_); simp only [go_sem, Tryz.ntmps109]
 refine aD ?_
 first | (refine aR (uH hl i h hi hh) ⟨rfl, rfl⟩ ?_ rfl ?_; (focus first | rfl | (simp only [go_sem]; done))) | (refine hZ (uH hl i h hi hh) ⟨rfl, rfl⟩ ?_ rfl ?_; (focus first | rfl | (simp only [go_sem]; done)))
 clear hi hh; rintro ⟨d, i, h⟩ ⟨hd, hi, hh⟩; simp only at hd hi hh; simp only [go_sem]
 have hd4 := hd.1
 clear hd
 refine aD ?_
 refine b0H 3 1 rfl rfl ?_
 simp only [go_sem]
 refine aY (α := List TDir) (fun x => [(3, .o (.d (.sl (x.map bY)))), (5, .o .u)]) (fun _ => []) (fun x => dirsD 4 x) (fun x => x.length) d (fun _ => ?_) ?_ ?_ (fun x hx => ?_)
 ·simp only [go_sem]
 ·simp only [go_sem]; simp
 ·exact hd4
 ·clear hd4
  have hst := a0t x (by have := b0J hx (by decide); omega)
  by_cases h0 : x = []
  ·subst h0
   have z0 : decide ((0 : Int) < ((0 : Nat) : Int)) = false := rfl
   have z1 : decide (((0 : Nat) : Int) = 0) = true := rfl
   simp only [go_sem]
   repeat' (with_reducible first | refine nY ?_ | (refine mX ?_; try simp only [go_sem, List.map_nil, List.length_nil, z0, z1]) | refine kO ?_ (by decide) | refine regd (by kernel_rfl) ?_ | (refine And.intro ?_ ?_; focus omega))
   first | refine eY (Sees.frz 2 rfl) ?_ | refine eY (Sees.frz 3 rfl) ?_ | refine eY (Sees.frz 4 rfl) ?_
   simp only [go_sem]
   exact aJ ([⟨⟨#[100, 97]⟩, [⟨1, 0, 0, ⟨#[]⟩, ⟨0, 0, ⟨#[]⟩⟩⟩]⟩], i, h) ⟨⟨_, rfl, by simp only [go_sem, List.map_set, List.map_append, List.map_cons, List.map_nil]; try rfl⟩, trivial⟩ ⟨(show dirsD 6 [⟨⟨#[100, 97]⟩, [⟨1, 0, 0, ⟨#[]⟩, ⟨0, 0, ⟨#[]⟩⟩⟩]⟩] ∧ (0 < ([⟨⟨#[100, 97]⟩, [⟨1, 0, 0, ⟨#[]⟩, ⟨0, 0, ⟨#[]⟩⟩⟩]⟩] : List TDir).length ∧ mP [⟨⟨#[100, 97]⟩, [⟨1, 0, 0, ⟨#[]⟩, ⟨0, 0, ⟨#[]⟩⟩⟩]⟩] = true) from ⟨iR (a1f 6) (by decide) (by simp only; decide) ⟨by decide, fun n hn => by simp only [List.mem_singleton] at hn; subst hn; exact gV (inS (by decide)) in0 in0 (Nat.zero_le _) in0 in0 (Nat.zero_le _)⟩, by decide, b3K⟩), ⟨hi, hh⟩⟩ (by simp only [go_sem])
  ·have hp : 0 < x.length := List.length_pos_iff.2 h0
   have hgi : ((0 : Int) < (x.length : Int)) = True := by simp; omega
   have hgz : ((x.length : Int) = 0) = False := by simp; omega
   cases hr : mP x
   ·rw [hr] at hst
    have hm1 : (x.length : Int) - 1 = ((x.length - 1 : Nat) : Int) := by omega
    have hm2 : x.length - 1 ≤ x.length := by omega
    have hx4 := hx.hi
    simp only [go_sem]
    have qH := aI @hgi (aI @hgz (aI @hm1 (aI @hm2 @decide_true))); repeat' (with_reducible first | refine nY ?_ | (refine mX ?_; try simp only [go_sem, qH]) | refine kD ?_ | refine rD ?_ | refine And.intro (b7a _) ?_ | refine cP hst ?_ | refine aO ?_ | fail)
    refine aF (x.take (x.length - 1)) ?_ ?_ ?_
    ·simp only [go_sem, List.map_take]; simp
    ·exact a9w hx _
    ·simp; omega
   ·rw [hr] at hst
    simp only [go_sem]
    have q0 := @hgi; have q1 := @hgz; have q2 := @decide_true; have q3 := @decide_false; refine a2X hst ?_
    exact aJ (x, i, h) ⟨⟨_, rfl, by simp only [go_sem]⟩, trivial⟩ ⟨(show dirsD 6 x ∧ (0 < x.length ∧ mP x = true) from ⟨a7X hx (by decide), hp, hr⟩), ⟨hi, hh⟩⟩ (by simp only [go_sem])
theorem a3C {l : List Int} (hl : fP l) : Drw l 92 [] (fun x : TStore × List TDir => storeA x.1 ∧ dirsD 6 x.2) (fun x => .t [(true, (bX x.1).cells), (false, [.d (.sl (x.2.map bY))])]) := by
 intro i h hi hh; refine nI Tryz.func92 rfl Tryz.call92 rfl (fun C b => ?_); simp only [go_sem, Tryz.ntmps92]
 refine aD ?_
 first | (refine aR (kH hl i h hi hh) ⟨rfl, rfl⟩ ?_ rfl ?_; (focus first | rfl | (simp only [go_sem]; done))) | (refine hZ (kH hl i h hi hh) ⟨rfl, rfl⟩ ?_ rfl ?_; (focus first | rfl | (simp only [go_sem]; done)))
 clear hi hh; rintro ⟨s, i, h⟩ ⟨hs, hi, hh⟩; simp only at hs hi hh; simp only [go_sem]
 have hsA := a1g hs
 clear hs
 refine aD ?_
 first | (refine aR (dQ hl 12 (by decide) (by decide) i h hi hh) ⟨rfl, rfl⟩ ?_ rfl ?_; (focus first | rfl | (simp only [go_sem]; done))) | (refine hZ (dQ hl 12 (by decide) (by decide) i h hi hh) ⟨rfl, rfl⟩ ?_ rfl ?_; (focus first | rfl | (simp only [go_sem]; done)))
 clear hi hh; rintro ⟨c1, i, h⟩ ⟨q1, hi, hh⟩; simp only at q1 hi hh; simp only [go_sem]
 cases c1
 ·skip
  refine aD ?_
  first | (refine aR (dQ hl 5 (by decide) (by decide) i h hi hh) ⟨rfl, rfl⟩ ?_ rfl ?_; (focus first | rfl | (simp only [go_sem]; done))) | (refine hZ (dQ hl 5 (by decide) (by decide) i h hi hh) ⟨rfl, rfl⟩ ?_ rfl ?_; (focus first | rfl | (simp only [go_sem]; done)))
  clear hi hh; rintro ⟨c2, i, h⟩ ⟨q2, hi, hh⟩; simp only at q2 hi hh; simp only [go_sem]
  cases c2
  ·have qH := trivial; repeat' (with_reducible first | refine nY ?_ | (refine mX ?_; try simp only [go_sem]) | refine kD ?_ | (apply rF [2,3] [] [0,1] [0,1] ((.c 2 [] [0] (.c 3 [4] [4] .n .n) .n)) (by simp only [go_sem]; rfl) (by simp only [go_sem]; rfl) (by simp only [go_sem]; rfl) (by decide +kernel); (focus simp only [go_sem]; done)) | exact aT | refine aK (uX ?_) ?_ | refine aL (aX ?_) ?_ | refine aM (aX ?_) ?_ | exact bH | exact oH | (refine uA ?_; simp only [go_sem]; (repeat' first | omega | refine And.intro ?_ ?_); done) | refine rD ?_ | refine aO ?_ | fail)
   first | (refine aR (uI hl i h hi hh) ⟨rfl, rfl⟩ ?_ rfl ?_; (focus first | rfl | (simp only [go_sem]; done))) | (refine hZ (uI hl i h hi hh) ⟨rfl, rfl⟩ ?_ rfl ?_; (focus first | rfl | (simp only [go_sem]; done)))
   clear hi hh; rintro ⟨d, i, h⟩ ⟨hd, hi, hh⟩; simp only at hd hi hh; simp only [go_sem]
   have qH := trivial; repeat' (with_reducible first | refine nY ?_ | (refine mX ?_; try simp only [go_sem]) | refine kD ?_ | exact aT | refine aK (uX ?_) ?_ | refine aL (aX ?_) ?_ | refine aM (aX ?_) ?_ | (refine uA ?_; simp only [go_sem]; (repeat' first | omega | refine And.intro ?_ ?_); done) | refine rD ?_ | refine aO ?_ | fail)
   first | refine eY (Sees.frz 2 rfl) ?_
   simp only [go_sem]
   exact aJ ((s, d), i, h) ⟨⟨_, rfl, by simp only [go_sem]⟩, by simp [cO]⟩ ⟨(show storeA s ∧ dirsD 6 d from ⟨hsA, hd.1⟩), ⟨hi, hh⟩⟩ (by simp only [go_sem])
  ·have qH := trivial; repeat' (with_reducible first | refine nY ?_ | (refine mX ?_; try simp only [go_sem]) | refine kD ?_ | (apply rF [2,3] [] [0,1] [0,1] ((.c 2 [] [0] (.c 3 [4] [4] .n .n) .n)) (by simp only [go_sem]; rfl) (by simp only [go_sem]; rfl) (by simp only [go_sem]; rfl) (by decide +kernel); (focus simp only [go_sem]; done)) | exact aT | refine aK (uX ?_) ?_ | refine aL (aX ?_) ?_ | refine aM (aX ?_) ?_ | exact bH | exact oH | (refine uA ?_; simp only [go_sem]; (repeat' first | omega | refine And.intro ?_ ?_); done) | refine rD ?_ | refine aO ?_ | fail)
   first | (refine aR (xC hl i h hi hh) ⟨rfl, rfl⟩ ?_ rfl ?_; (focus first | rfl | (simp only [go_sem]; done))) | (refine hZ (xC hl i h hi hh) ⟨rfl, rfl⟩ ?_ rfl ?_; (focus first | rfl | (simp only [go_sem]; done)))
   clear hi hh; rintro ⟨d, i, h⟩ ⟨hd, hi, hh⟩; simp only at hd hi hh; simp only [go_sem]
   have qH := trivial; repeat' (with_reducible first | refine nY ?_ | (refine mX ?_; try simp only [go_sem]) | refine kD ?_ | exact aT | refine aK (uX ?_) ?_ | refine aL (aX ?_) ?_ | refine aM (aX ?_) ?_ | (refine uA ?_; simp only [go_sem]; (repeat' first | omega | refine And.intro ?_ ?_); done) | refine rD ?_ | refine aO ?_ | fail)
   first | refine eY (Sees.frz 2 rfl) ?_
   simp only [go_sem]
   exact aJ ((s, d), i, h) ⟨⟨_, rfl, by simp only [go_sem]⟩, by simp [cO]⟩ ⟨(show storeA s ∧ dirsD 6 d from ⟨hsA, hd⟩), ⟨hi, hh⟩⟩ (by simp only [go_sem])
 ·clear hsA
  refine aD ?_
  first | (refine aR (a5e hl i h hi hh) ⟨rfl, rfl⟩ ?_ rfl ?_; (focus first | rfl | (simp only [go_sem]; done))) | (refine hZ (a5e hl i h hi hh) ⟨rfl, rfl⟩ ?_ rfl ?_; (focus first | rfl | (simp only [go_sem]; done)))
  clear hi hh; rintro ⟨s, i, h⟩ ⟨hsA, hi, hh⟩; simp only at hsA hi hh; simp only [go_sem]
  refine aD ?_
  first | (refine aR (dQ hl 5 (by decide) (by decide) i h hi hh) ⟨rfl, rfl⟩ ?_ rfl ?_; (focus first | rfl | (simp only [go_sem]; done))) | (refine hZ (dQ hl 5 (by decide) (by decide) i h hi hh) ⟨rfl, rfl⟩ ?_ rfl ?_; (focus first | rfl | (simp only [go_sem]; done)))
  clear hi hh; rintro ⟨c2, i, h⟩ ⟨q2, hi, hh⟩; simp only at q2 hi hh; simp only [go_sem]
  cases c2
  ·have qH := trivial; repeat' (with_reducible first | refine nY ?_ | (refine mX ?_; try simp only [go_sem]) | refine kD ?_ | (apply rF [2,3] [] [0,1] [0,1] ((.c 2 [] [0] (.c 3 [4] [4] .n .n) .n)) (by simp only [go_sem]; rfl) (by simp only [go_sem]; rfl) (by simp only [go_sem]; rfl) (by decide +kernel); (focus simp only [go_sem]; done)) | exact aT | refine aK (uX ?_) ?_ | refine aL (aX ?_) ?_ | refine aM (aX ?_) ?_ | exact bH | exact oH | (refine uA ?_; simp only [go_sem]; (repeat' first | omega | refine And.intro ?_ ?_); done) | refine rD ?_ | refine aO ?_ | fail)
   first | (refine aR (uI hl i h hi hh) ⟨rfl, rfl⟩ ?_ rfl ?_; (focus first | rfl | (simp only [go_sem]; done))) | (refine hZ (uI hl i h hi hh) ⟨rfl, rfl⟩ ?_ rfl ?_; (focus first | rfl | (simp only [go_sem]; done)))
   clear hi hh; rintro ⟨d, i, h⟩ ⟨hd, hi, hh⟩; simp only at hd hi hh; simp only [go_sem]
   have qH := trivial; repeat' (with_reducible first | refine nY ?_ | (refine mX ?_; try simp only [go_sem]) | refine kD ?_ | exact aT | refine aK (uX ?_) ?_ | refine aL (aX ?_) ?_ | refine aM (aX ?_) ?_ | (refine uA ?_; simp only [go_sem]; (repeat' first | omega | refine And.intro ?_ ?_); done) | refine rD ?_ | refine aO ?_ | fail)
   first | refine eY (Sees.frz 4 rfl) ?_
   simp only [go_sem]
   exact aJ ((s, d), i, h) ⟨⟨_, rfl, by simp only [go_sem]⟩, by simp [cO]⟩ ⟨(show storeA s ∧ dirsD 6 d from ⟨hsA, hd.1⟩), ⟨hi, hh⟩⟩ (by simp only [go_sem])
  ·have qH := trivial; repeat' (with_reducible first | refine nY ?_ | (refine mX ?_; try simp only [go_sem]) | refine kD ?_ | (apply rF [2,3] [] [0,1] [0,1] ((.c 2 [] [0] (.c 3 [4] [4] .n .n) .n)) (by simp only [go_sem]; rfl) (by simp only [go_sem]; rfl) (by simp only [go_sem]; rfl) (by decide +kernel); (focus simp only [go_sem]; done)) | exact aT | refine aK (uX ?_) ?_ | refine aL (aX ?_) ?_ | refine aM (aX ?_) ?_ | exact bH | exact oH | (refine uA ?_; simp only [go_sem]; (repeat' first | omega | refine And.intro ?_ ?_); done) | refine rD ?_ | refine aO ?_ | fail)
   first | (refine aR (xC hl i h hi hh) ⟨rfl, rfl⟩ ?_ rfl ?_; (focus first | rfl | (simp only [go_sem]; done))) | (refine hZ (xC hl i h hi hh) ⟨rfl, rfl⟩ ?_ rfl ?_; (focus first | rfl | (simp only [go_sem]; done)))
   clear hi hh; rintro ⟨d, i, h⟩ ⟨hd, hi, hh⟩; simp only at hd hi hh; simp only [go_sem]
   have qH := trivial; repeat' (with_reducible first | refine nY ?_ | (refine mX ?_; try simp only [go_sem]) | refine kD ?_ | exact aT | refine aK (uX ?_) ?_ | refine aL (aX ?_) ?_ | refine aM (aX ?_) ?_ | (refine uA ?_; simp only [go_sem]; (repeat' first | omega | refine And.intro ?_ ?_); done) | refine rD ?_ | refine aO ?_ | fail)
   first | refine eY (Sees.frz 4 rfl) ?_
   simp only [go_sem]
   exact aJ ((s, d), i, h) ⟨⟨_, rfl, by simp only [go_sem]⟩, by simp [cO]⟩ ⟨(show storeA s ∧ dirsD 6 d from ⟨hsA, hd⟩), ⟨hi, hh⟩⟩ (by simp only [go_sem])
theorem hN {C : Ctx} {f ty : Nat} {args args' : List SV} {α : Type} {Q : α → Prop} {ds' : α → List D} {h : List HB} {k : List HB → SV → Prop} (c : FnN Tryz.prog f ty args' Q ds') (he : args.map (eB h) = args') (hfree : args'.all bI = true)
    (k2 : ∀ a, Q a → k (h ++ [.box ty ((ds' a).map At.d)]) (.o (.p h.length 0))) : CallH (EV C) f args h k ⟨⟩ :=
 ⟨α, Q, _, _, fun T => CallS.newBlk (E := EV C) (st := ⟨T, h⟩) c he hfree fun a ha => ⟨a, ha, rfl, rfl⟩, k2⟩
theorem b4W {l : List Int} (hl : fP l) : FnX Tryz.prog 35 [.o (.d (.sl (l.map nH)))] (fun G : List TGroup => fD G ≤ 5000) (fun G => .o (.d (.sl (G.map dO)))) := by
 refine a9m Tryz.func35 rfl Tryz.call35 rfl (fun C => ?_); simp only [go_sem, st0, Tryz.ntmps35]
 refine aD ?_
 refine a1z (a4L hl) rfl rfl ?_
 rintro ⟨s, ids, nm⟩ ⟨hs, hi, hn⟩
 simp only at hs hi hn
 simp only [go_sem]
 have hsw := rX hs
 have hil := hi.len
 have hb := a9s 600 s ids nm hsw
 have hb2 : ids.length * (600 + 3) ≤ 7 * (600 + 3) := Nat.mul_le_mul_right _ (by omega)
 have c2 : FnC Tryz.prog 11 [bX s, .o (.d (.sl (ids.map eZ))), os nm] (.o (.d (.sl (((dW s ids nm).foldl fO []).map dO)))) := (Opq.specGroup_ok s ids nm (by omega) (by omega)).pu (by simp only [go_sem, and_self])
 refine iE c2 ?_
 exact pI ((dW s ids nm).foldl fO []) ⟨⟨_, rfl, by simp only [go_sem]; try simp⟩, trivial⟩ (by omega)
theorem b1C {l : List Int} (hl : fP l) : FnX Tryz.prog 7 [.o (.d (.sl (l.map nH)))] (fun p : List TGroup × TValue => fD p.1 ≤ 5000 ∧ valD p.2) (fun p => .t [(false, [.d (.sl (p.1.map dO))]), (true, (fM p.2).cells)]) := by
 refine a9m Tryz.func7 rfl Tryz.call7 rfl (fun C => ?_); simp only [go_sem, st0, Tryz.ntmps7]
 refine aD ?_
 refine a1z (b4W hl) rfl rfl ?_
 intro G hG
 simp only [go_sem]
 refine aD ?_
 refine b0n (nT l hl.1 hl.2) rfl rfl ?_
 intro h hh
 simp only [go_sem]
 refine aD ?_
 first | (refine aR (qM hl 0 h (Nat.zero_le _) hh) ⟨rfl, rfl⟩ ?_ rfl ?_; (focus first | rfl | (simp only [go_sem]; done))) | (refine hZ (qM hl 0 h (Nat.zero_le _) hh) ⟨rfl, rfl⟩ ?_ rfl ?_; (focus first | rfl | (simp only [go_sem]; done)))
 clear hh; rintro ⟨v, i, h⟩ ⟨hv, hi, hh⟩; simp only at hv hi hh; simp only [go_sem]
 refine aD ?_
 exact pI (G, v) ⟨⟨_, rfl, by simp only [go_sem]; try simp⟩, by simp [cO]⟩ ⟨hG, hv⟩
theorem b1D {l : List Int} (hl : fP l) : FnX Tryz.prog 9 [.o (.d (.sl (l.map nH)))] (fun v : TValue => valD v) (fun v => fM v) := by
 refine a9m Tryz.func9 rfl Tryz.call9 rfl (fun C => ?_); simp only [go_sem, st0, Tryz.ntmps9]
 refine aD ?_
 refine b0n (nT l hl.1 hl.2) rfl rfl ?_
 intro h hh
 simp only [go_sem]
 refine aD ?_
 first | (refine aR (nV hl 0 h (Nat.zero_le _) hh) ⟨rfl, rfl⟩ ?_ rfl ?_; (focus first | rfl | (simp only [go_sem]; done))) | (refine hZ (nV hl 0 h (Nat.zero_le _) hh) ⟨rfl, rfl⟩ ?_ rfl ?_; (focus first | rfl | (simp only [go_sem]; done)))
 clear hh; rintro ⟨v, i, h⟩ ⟨hv, hi, hh⟩; simp only at hv hi hh; simp only [go_sem]
 refine aD ?_
 exact pI v ⟨⟨_, rfl, by simp only [go_sem]; try simp⟩, trivial⟩ hv
theorem b1E {l : List Int} (hl : fP l) : FnX Tryz.prog 64 [.o (.d (.sl (l.map nH)))] (fun p : TStore × List TDir × Int => storeA p.1 ∧ dirsD 6 p.2.1) (fun p => .t [(true, (bX p.1).cells), (false, [.d (.sl (p.2.1.map bY))]), (false, [.d (iv p.2.2)])]) := by
 refine a9m Tryz.func64 rfl Tryz.call64 rfl (fun C => ?_); simp only [go_sem, st0, Tryz.ntmps64]
 refine aD ?_
 refine b0n (nT l hl.1 hl.2) rfl rfl ?_
 intro h hh
 simp only [go_sem]
 refine aD ?_
 first | (refine aR (a3C hl 0 h (Nat.zero_le _) hh) ⟨rfl, rfl⟩ ?_ rfl ?_; (focus first | rfl | (simp only [go_sem]; done))) | (refine hZ (a3C hl 0 h (Nat.zero_le _) hh) ⟨rfl, rfl⟩ ?_ rfl ?_; (focus first | rfl | (simp only [go_sem]; done)))
 clear hh; rintro ⟨⟨s, d⟩, i, h⟩ ⟨⟨hsA, hd⟩, hi, hh⟩; simp only at hsA hd hi hh; simp only [go_sem]
 have qH := trivial; repeat' (with_reducible first | refine nY ?_ | (refine mX ?_; try simp only [go_sem]) | refine kD ?_ | (apply rF [3,4] [] [0,1,2] [0,1,2] ((.c 3 [] [0,1] (.c 4 [5,6] [1,5,6] .n .n) .n)) (by simp only [go_sem]; rfl) (by simp only [go_sem]; rfl) (by simp only [go_sem]; rfl) (by decide +kernel); (focus simp only [go_sem]; done)) | exact aT | refine aK (uX ?_) ?_ | refine aL (aX ?_) ?_ | refine aM (aX ?_) ?_ | exact bH | exact oH | (refine uA ?_; simp only [go_sem]; (repeat' first | omega | refine And.intro ?_ ?_); done) | refine rD ?_ | refine aO ?_ | fail)
 first | (refine aR (a3h hl i h hi hh) ⟨rfl, rfl⟩ ?_ rfl ?_; (focus first | rfl | (simp only [go_sem]; done))) | (refine hZ (a3h hl i h hi hh) ⟨rfl, rfl⟩ ?_ rfl ?_; (focus first | rfl | (simp only [go_sem]; done)))
 clear hi hh; rintro ⟨u, i, h⟩ ⟨hu, hi, hh⟩; simp only at hu hi hh; simp only [go_sem]
 have qH := trivial; repeat' (with_reducible first | refine nY ?_ | (refine mX ?_; try simp only [go_sem]) | refine kD ?_ | exact aT | refine aK (uX ?_) ?_ | refine aL (aX ?_) ?_ | refine aM (aX ?_) ?_ | (refine uA ?_; simp only [go_sem]; (repeat' first | omega | refine And.intro ?_ ?_); done) | refine rD ?_ | refine aO ?_ | fail)
 exact pI (s, d, u) ⟨⟨_, rfl, by simp only [go_sem]; try simp⟩, by simp [cO]⟩ ⟨hsA, hd⟩
theorem b1F {l : List Int} (hl : fP l) : FnX Tryz.prog 37 [.o (.d (.sl (l.map nH)))] (fun p : TStore × List TDir × Int × ByteArray => storeA p.1 ∧ dirsD 6 p.2.1 ∧ w1 p.2.2.2) (fun p => .t [(true, (bX p.1).cells), (false, [.d (.sl (p.2.1.map bY))]), (false, [.d (iv p.2.2.1)]), (false, [.d (sv p.2.2.2)])]) := by
 refine a9m Tryz.func37 rfl Tryz.call37 rfl (fun C => ?_); simp only [go_sem, st0, Tryz.ntmps37]
 refine aD ?_
 refine a1z (b1E hl) rfl rfl ?_
 rintro ⟨s, d, u⟩ ⟨hsA, hd⟩
 simp only at hsA hd
 simp only [go_sem]
 have qH := trivial; repeat' (with_reducible first | refine nY ?_ | (refine mX ?_; try simp only [go_sem]) | refine kD ?_ | (apply rF [4,5,6] [] [0,1,2,3] [0,1,2,3] ((.c 4 [] [0,1,2] (.c 5 [] [0,1,2] (.c 6 [7,8,9] [1,2,7,8,9] .n .n) .n) .n)) (by simp only [go_sem]; rfl) (by simp only [go_sem]; rfl) (by simp only [go_sem]; rfl) (by decide +kernel); (focus simp only [go_sem]; done)) | exact aT | refine aK (uX ?_) ?_ | refine aL (aX ?_) ?_ | refine aM (aX ?_) ?_ | exact bH | exact oH | (refine uA ?_; simp only [go_sem]; (repeat' first | omega | refine And.intro ?_ ?_); done) | refine rD ?_ | refine aO ?_ | fail)
 refine hN (nT l hl.1 hl.2) rfl rfl ?_
 intro h hh
 simp only [go_sem]
 have qH := trivial; repeat' (with_reducible first | refine nY ?_ | (refine mX ?_; try simp only [go_sem]) | refine kD ?_ | exact aT | refine aK (uX ?_) ?_ | refine aL (aX ?_) ?_ | refine aM (aX ?_) ?_ | (refine uA ?_; simp only [go_sem]; (repeat' first | omega | refine And.intro ?_ ?_); done) | refine rD ?_ | refine aO ?_ | fail)
 first | (refine aR (a3g hl 0 h (Nat.zero_le _) hh) ⟨rfl, rfl⟩ ?_ rfl ?_; (focus first | rfl | (simp only [go_sem]; done))) | (refine hZ (a3g hl 0 h (Nat.zero_le _) hh) ⟨rfl, rfl⟩ ?_ rfl ?_; (focus first | rfl | (simp only [go_sem]; done)))
 clear hh; rintro ⟨nm, i, h⟩ ⟨hnm, hi, hh⟩; simp only at hnm hi hh; simp only [go_sem]
 have qH := trivial; repeat' (with_reducible first | refine nY ?_ | (refine mX ?_; try simp only [go_sem]) | refine kD ?_ | exact aT | refine aK (uX ?_) ?_ | refine aL (aX ?_) ?_ | refine aM (aX ?_) ?_ | (refine uA ?_; simp only [go_sem]; (repeat' first | omega | refine And.intro ?_ ?_); done) | refine rD ?_ | refine aO ?_ | fail)
 exact pI (s, d, u, nm) ⟨⟨_, rfl, by simp only [go_sem]; try simp⟩, by simp [cO]⟩ ⟨hsA, hd, hnm⟩
theorem b1G {l : List Int} (hl : fP l) : FnX Tryz.prog 8 [.o (.d (.sl (l.map nH)))] (fun p : TStore × List TDir × Int × ByteArray × ByteArray => storeA p.1 ∧ dirsD 6 p.2.1 ∧ w1 p.2.2.2.1 ∧ w1 p.2.2.2.2) (fun p => .t [(true, (bX p.1).cells), (false, [.d (.sl (p.2.1.map bY))]), (false, [.d (iv p.2.2.1)]), (false, [.d (sv p.2.2.2.1)]), (false, [.d (sv p.2.2.2.2)])]) := by
 refine a9m Tryz.func8 rfl Tryz.call8 rfl (fun C => ?_); simp only [go_sem, st0, Tryz.ntmps8]
 refine aD ?_
 refine a1z (b1F hl) rfl rfl ?_
 rintro ⟨s, d, u, dn⟩ ⟨hsA, hd, hdn⟩
 simp only at hsA hd hdn
 simp only [go_sem]
 have qH := trivial; repeat' (with_reducible first | refine nY ?_ | (refine mX ?_; try simp only [go_sem]) | refine kD ?_ | (apply rF [5,6,7] [] [0,1,2,3,4] [0,1,2,3,4] ((.c 5 [] [0,1,2,3] (.c 6 [] [0,1,2,3] (.c 7 [8,9,10,11] [1,2,3,8,9,10,11] .n .n) .n) .n)) (by simp only [go_sem]; rfl) (by simp only [go_sem]; rfl) (by simp only [go_sem]; rfl) (by decide +kernel); (focus simp only [go_sem]; done)) | exact aT | refine aK (uX ?_) ?_ | refine aL (aX ?_) ?_ | refine aM (aX ?_) ?_ | exact bH | exact oH | (refine uA ?_; simp only [go_sem]; (repeat' first | omega | refine And.intro ?_ ?_); done) | refine rD ?_ | refine aO ?_ | fail)
 refine hN (nT l hl.1 hl.2) rfl rfl ?_
 intro h hh
 simp only [go_sem]
 have qH := trivial; repeat' (with_reducible first | refine nY ?_ | (refine mX ?_; try simp only [go_sem]) | refine kD ?_ | exact aT | refine aK (uX ?_) ?_ | refine aL (aX ?_) ?_ | refine aM (aX ?_) ?_ | (refine uA ?_; simp only [go_sem]; (repeat' first | omega | refine And.intro ?_ ?_); done) | refine rD ?_ | refine aO ?_ | fail)
 first | (refine aR (jB hl 0 h (Nat.zero_le _) hh) ⟨rfl, rfl⟩ ?_ rfl ?_; (focus first | rfl | (simp only [go_sem]; done))) | (refine hZ (jB hl 0 h (Nat.zero_le _) hh) ⟨rfl, rfl⟩ ?_ rfl ?_; (focus first | rfl | (simp only [go_sem]; done)))
 clear hh; rintro ⟨nm, i, h⟩ ⟨hnm, hi, hh⟩; simp only at hnm hi hh; simp only [go_sem]
 have qH := trivial; repeat' (with_reducible first | refine nY ?_ | (refine mX ?_; try simp only [go_sem]) | refine kD ?_ | exact aT | refine aK (uX ?_) ?_ | refine aL (aX ?_) ?_ | refine aM (aX ?_) ?_ | (refine uA ?_; simp only [go_sem]; (repeat' first | omega | refine And.intro ?_ ?_); done) | refine rD ?_ | refine aO ?_ | fail)
 exact pI (s, d, u, dn, nm) ⟨⟨_, rfl, by simp only [go_sem]; try simp⟩, by simp [cO]⟩ ⟨hsA, hd, hdn, hnm⟩
def inG (P : Int → TValue → Prop) (l : List TGroup) : Prop := ∀ g ∈ l, ∀ id ∈ g.fIDs, P id g.fValue
theorem b4X {P : Int → TValue → Prop} {l : List TGroup} {x : TValue × Int} (h : inG P l) (hx : P x.2 x.1) (hs : l.Pairwise ltG) : inG P (fO l x) := fun g hg id hid => by
 have hu := (a7Q x hs g).1 hg
 unfold upd at hu
 rcases hu with ⟨h1, _⟩ | ⟨g', h1, h2, rfl⟩ | ⟨_, rfl⟩
 ·exact h g h1 id hid
 ·rcases List.mem_append.1 hid with hid | hid
  ·have := h g' h1 id hid
   rw [h2] at this
   exact this
  ·simp only [List.mem_singleton] at hid
   rw [hid]; exact hx
 ·simp only [List.mem_singleton] at hid
  rw [hid]; exact hx
theorem b4Y {P : Int → TValue → Prop} (xs : List (TValue × Int)) : ∀ l : List TGroup, l.Pairwise ltG → inG P l → (∀ x ∈ xs, P x.2 x.1) → inG P (xs.foldl fO l) := by
 induction xs with
 | nil => intro l _ h _; exact h
 | cons x xs ih => intro l hs h hx; exact ih _ (wH x hs) (b4X h (hx x List.mem_cons_self) hs) fun y hy => hx y (List.mem_cons_of_mem _ hy)
theorem b6A (s : TStore) (ids : List Int) (n : ByteArray) : inG (fun id v => getAttr n (gU id s.fFiles).fAttrs = v) ((dW s ids n).foldl fO []) := b4Y _ [] List.Pairwise.nil (fun g hg => by simp at hg) fun x hx => by
 obtain ⟨id, _, rfl⟩ := List.mem_map.1 hx
 rfl
theorem a3e (s : TStore) (id : Int) (h : aW s ≤ 4300000) : FnC Tryz.prog 23 [bX s, oi id] (jQ (gU id s.fFiles)) := by
 have hf := (a1C s id h).pu (res' := .t [(true, (jQ (gU id s.fFiles)).cells), (false, [.d (bv (decide (0 ≤ ixF id s.fFiles)))])]) (by simp only [go_sem, and_self])
 refine ent Tryz.func23 rfl Tryz.call23 rfl (fun C => ?_); simp only [go_sem, st0, Tryz.ntmps23]
 refine iE hf ?_
 exact aA ⟨⟨_, rfl, by simp only [go_sem]⟩, trivial⟩
end Go.Proofs.YtakopfjdmmnjcaaGreatDoor
end
section
set_option maxRecDepth 100000
set_option maxHeartbeats 4000000
namespace Go.Proofs.YtakopfjdmmnjcaaGreatDoor
open Go Go.Sx Go.RowKit Go.Proofs Go.Lib
end Go.Proofs.YtakopfjdmmnjcaaGreatDoor
end
section
set_option maxRecDepth 100000
set_option maxHeartbeats 4000000
namespace Go.Proofs.YtakopfjdmmnjcaaGreatDoor
open Go Go.Sx Go.RowKit Go.Proofs
theorem b2f (l : List Int) (s : Int) (k : Nat) (h : k < l.length) : hasI (l.drop k) s = (decide (l[k] = s) || hasI (l.drop (k + 1)) s) := by
 rw [List.drop_eq_getElem_cons h]; rfl
theorem b2g (l : List Int) (s : Int) (hl : l.length ≤ 67108864) : FnC Tryz.prog 193 [.o (.d (.sl (l.map eZ))), oi s] (oi (idxP (fun x => decide (s = x)) l 0)) := by
 refine ent Tryz.func193 rfl Tryz.call193 rfl (fun C => ?_); simp only [go_sem, st0, Tryz.ntmps193]
 refine aD ?_
 refine aY (α := Nat) (fun k => [(8, oi k)]) (fun _ => []) (fun k => k ≤ l.length ∧ idxP (fun x => decide (s = x)) l 0 = idxP (fun x => decide (s = x)) (l.drop k) k) (fun k => l.length - k) 0 (fun _ => ?_) ?_ ?_ (fun k hk => ?_)
 ·simp only [go_sem]
 ·simp only [go_sem]; simp
 ·simp
 ·obtain ⟨hk, hq⟩ := hk
  simp only [go_sem]
  refine aD ?_
  refine cnd rfl (fun h => ?_) (fun h => ?_)
  ·simp only [decide_eq_true_eq, Int.ofNat_lt] at h
   have hd := List.drop_eq_getElem_cons h
   rw [hd, idxP] at hq
   have q0 := @h; refine fF ?_
   refine cnd (b := decide (s = l[k])) rfl (fun h2 => ?_) (fun h2 => ?_)
   ·rw [if_pos h2] at hq
    refine aD ?_
    exact aA ⟨⟨_, rfl, by simp only [go_sem, hq]⟩, trivial⟩
   ·rw [if_neg (by simp [h2])] at hq
    refine aD ?_
    refine aF (k + 1) ?_ ?_ ?_
    ·simp only [go_sem]; simp
    ·rw [hq]; exact ⟨h, by simp⟩
    ·omega
  ·simp only [decide_eq_false_iff_not] at h
   have e : k = l.length := by omega
   subst e
   simp only [List.drop_length, idxP] at hq
   refine aD ?_
   exact aA ⟨⟨_, rfl, by simp only [go_sem, hq]⟩, trivial⟩
theorem b3T (l : List Int) (s : Int) : decide (0 ≤ idxP (fun x => decide (s = x)) l 0) = hasI l s := by
 rw [a3A]; unfold hasI
 congr 1; funext x; congr 1; exact propext eq_comm
theorem a6y (l : List Int) (s : Int) (hl : l.length ≤ 67108864) : FnC Tryz.prog 188 [.o (.d (.sl (l.map eZ))), oi s] (ob (hasI l s)) := by
 refine ent Tryz.func188 rfl Tryz.call188 rfl (fun C => ?_); simp only [go_sem, st0, Tryz.ntmps188]
 refine iE (b2g l s hl) ?_
 exact aA ⟨⟨_, rfl, by simp only [go_sem, b3T]⟩, trivial⟩
theorem kY (l : List Int) (s : Int) (hl : l.length ≤ 67108864) : FnC Tryz.prog 178 [.o (.d (.sl (l.map eZ))), oi s] (ob (hasI l s)) := by
 refine ent Tryz.func178 rfl Tryz.call178 rfl (fun C => ?_); simp only [go_sem, st0, Tryz.ntmps178]
 refine iE (a6y l s hl) ?_
 exact aA ⟨⟨_, rfl, by simp only [go_sem]⟩, trivial⟩
theorem kZ (l : List Int) (s : Int) (hl : l.length ≤ 67108864) : FnC Tryz.prog 182 [.o (.d (.sl (l.map eZ))), oi s] (ob (hasI l s)) := by
 refine ent Tryz.func182 rfl Tryz.call182 rfl (fun C => ?_); simp only [go_sem, st0, Tryz.ntmps182]
 refine aD ?_
 refine aY (α := Nat) (fun k => [(5, oi k)]) (fun k => []) (fun k => k ≤ l.length ∧ hasI (l.drop k) s = hasI l s) (fun k => l.length - k) 0 (fun _ => ?_) ?_ ?_ (fun k hk => ?_)
 ·simp only [go_sem]; try simp
 ·simp only [go_sem]; try simp
 ·simp
 ·simp only [go_sem]
  obtain ⟨hk, hg⟩ := hk
  refine aD ?_
  refine cnd rfl (fun h1 => ?_) (fun h1 => ?_)
  ·simp only [decide_eq_true_eq, Int.ofNat_lt] at h1
   have hd := b2f l s k h1
   rw [hg] at hd
   have q0 := @h1; refine fF ?_
   refine cnd rfl (fun hv => ?_) (fun hv => ?_)
   ·rw [hv, Bool.true_or] at hd
    refine aD ?_
    exact aA ⟨⟨_, rfl, by simp only [go_sem, hd]⟩, trivial⟩
   ·rw [hv, Bool.false_or] at hd
    refine aD ?_
    refine aF (k + 1) ?_ ?_ ?_
    ·simp only [go_sem]; try simp
    ·exact ⟨by omega, hd.symm⟩
    ·omega
  ·simp only [decide_eq_false_iff_not] at h1
   have e : k = l.length := by omega
   subst e
   have hn : hasI l s = false := by rw [← hg, List.drop_length]; rfl
   refine aD ?_
   exact aA ⟨⟨_, rfl, by simp only [go_sem, hn]⟩, trivial⟩
theorem a1S (s : ByteArray) (l : List TResult) (k : Nat) (h : k < l.length) : bP s (l.drop k) = if l[k].fName = s then l[k].fIDs else bP s (l.drop (k + 1)) := by
 rw [List.drop_eq_getElem_cons h]; rfl
theorem xX (l : List TResult) (s : ByteArray) (hl : bL l ≤ 67108864) : FnC Tryz.prog 72 [.o (.d (.sl (l.map bD))), os s] (.o (.w 3 1 ((bP s l).map eZ))) := by
 unfold bL at hl
 generalize hg : bP s l = res
 refine ent Tryz.func72 rfl Tryz.call72 rfl (fun C => ?_); simp only [go_sem, st0, Tryz.ntmps72]
 refine aD ?_
 refine aY (α := Nat) (fun k => [(9, oi k)]) (fun k => []) (fun k => k ≤ l.length ∧ bP s (l.drop k) = res) (fun k => l.length - k) 0 (fun _ => ?_) ?_ ?_ (fun k hk => ?_)
 ·simp only [go_sem]; try simp
 ·simp only [go_sem]; try simp
 ·simp [hg]
 ·simp only [go_sem]
  obtain ⟨hk, hq⟩ := hk
  refine aD ?_
  refine cnd rfl (fun h1 => ?_) (fun h1 => ?_)
  ·simp only [decide_eq_true_eq, Int.ofNat_lt] at h1
   rw [a1S s l k h1] at hq
   by_cases hv : l[k].fName = s
   ·rw [if_pos hv] at hq
    have hw := dF jY l h1
    have hwl : l[k].fIDs.length ≤ jY l[k] := by unfold jY; omega
    have q0 := @h1; have q1 := @hv; refine a2W (a1A l[k].fIDs (by omega)) ?_
    exact aA ⟨⟨_, rfl, by simp only [go_sem, hq]⟩, trivial⟩
   ·rw [if_neg hv] at hq
    have q0 := @h1; have q1 := @hv; refine gG ?_
    refine aF (k + 1) ?_ ?_ ?_
    ·simp only [go_sem]; try simp
    ·exact ⟨by omega, hq⟩
    ·omega
  ·simp only [decide_eq_false_iff_not] at h1
   have e : k = l.length := by omega
   subst e
   rw [List.drop_length] at hq
   have hn : res = [] := hq.symm
   subst hn
   refine aD ?_
   exact aA ⟨⟨_, rfl, by simp only [go_sem]⟩, trivial⟩
theorem a4h (l : List TResult) (s : ByteArray) (hl : bL l ≤ 67108864) : FnC Tryz.prog 75 [.o (.d (.sl (l.map bD))), os s] (.o (.w 3 1 ((bP s l).map eZ))) := by
 unfold bL at hl
 generalize hg : bP s l = res
 refine ent Tryz.func75 rfl Tryz.call75 rfl (fun C => ?_); simp only [go_sem, st0, Tryz.ntmps75]
 refine aD ?_
 refine aY (α := Nat) (fun k => [(5, oi k)]) (fun k => []) (fun k => k ≤ l.length ∧ bP s (l.drop k) = res) (fun k => l.length - k) 0 (fun _ => ?_) ?_ ?_ (fun k hk => ?_)
 ·simp only [go_sem]; try simp
 ·simp only [go_sem]; try simp
 ·simp [hg]
 ·simp only [go_sem]
  obtain ⟨hk, hq⟩ := hk
  refine aD ?_
  refine cnd rfl (fun h1 => ?_) (fun h1 => ?_)
  ·simp only [decide_eq_true_eq, Int.ofNat_lt] at h1
   rw [a1S s l k h1] at hq
   by_cases hv : l[k].fName = s
   ·rw [if_pos hv] at hq
    have hw := dF jY l h1
    have hwl : l[k].fIDs.length ≤ jY l[k] := by unfold jY; omega
    have q0 := @h1; have q1 := @hv; refine gG ?_
    exact aA ⟨⟨_, rfl, by simp only [go_sem, hq]⟩, trivial⟩
   ·rw [if_neg hv] at hq
    have q0 := @h1; have q1 := @hv; refine gG ?_
    refine aF (k + 1) ?_ ?_ ?_
    ·simp only [go_sem]; try simp
    ·exact ⟨by omega, hq⟩
    ·omega
  ·simp only [decide_eq_false_iff_not] at h1
   have e : k = l.length := by omega
   subst e
   rw [List.drop_length] at hq
   have hn : res = [] := hq.symm
   subst hn
   refine aD ?_
   exact aA ⟨⟨_, rfl, by simp only [go_sem]⟩, trivial⟩
end Go.Proofs.YtakopfjdmmnjcaaGreatDoor
end
section
namespace Go.Proofs.YtakopfjdmmnjcaaGreatDoor
open Go Go.Sx Go.RowKit Go.Proofs
def b5u (a b : List Int) : List Int := a.filter fun x => !hasI b x
def b8p (a : List TResult) (x : TResult) : List TDiff :=
 if 0 < (b5u x.fIDs (bP x.fName a)).length + (b5u (bP x.fName a) x.fIDs).length then [⟨x.fName, b5u x.fIDs (bP x.fName a), b5u (bP x.fName a) x.fIDs⟩] else []
def b5N (a b : List TResult) : List TDiff := b.flatMap (b8p a)
end Go.Proofs.YtakopfjdmmnjcaaGreatDoor
end
