/- Joined texts. -/
import Derived.Test.YtolgdibgnndoaaaGreatZ15
import Derived.Test.YtolgdibgnndoaaaGreatZ16
import Derived.Test.YtolgdibgnndoaaaGreatZ14
import Derived.Test.YtolgdibgnndoaaaGreatZ12
import Derived.Test.YtolgdibgnndoaaaGreatZ07
import Derived.Test.YtolgdibgnndoaaaGreatZ08
set_option linter.all false
section
set_option maxRecDepth 100000
set_option maxHeartbeats 4000000
namespace Go.Proofs.YtolgdibgnndoaaaGreat
open Go Go.Sx Go.RowKit Go.Proofs
structure dirsD (m : Nat) (d : List TDir) : Prop where
 hi : d.length ≤ m
 nm : ∀ x ∈ d, x.fName.size ≤ 7
 qy : ∀ x ∈ d, qryA x.fQuery
theorem yY (m : Nat) : dirsD m [] := ⟨Nat.zero_le _, fun x h => by simp at h, fun x h => by simp at h⟩
theorem mE {p m : Nat} {q : List TNode} (h : qryD p m q) (hm : m ≤ 8) : qryA q := ⟨by have := h.hi; omega, h.nd⟩
theorem iJ {m n : Nat} {d : List TDir} {x : TDir} (h : dirsD m d) (hn : d.length + 1 ≤ n) (h1 : x.fName.size ≤ 7) (h2 : qryA x.fQuery) : dirsD n (d ++ [x]) := ⟨by simpa using hn, fun y hy => by
 rcases List.mem_append.1 hy with hy | hy
 ·exact h.nm y hy
 ·simp only [List.mem_singleton] at hy; subst hy; exact h1, fun y hy => by
 rcases List.mem_append.1 hy with hy | hy
 ·exact h.qy y hy
 ·simp only [List.mem_singleton] at hy; subst hy; exact h2⟩
theorem a2r {m : Nat} {d : List TDir} {x : TDir} (h : dirsD m d) (k : Nat) (h1 : x.fName.size ≤ 7) (h2 : qryA x.fQuery) : dirsD m (d.set k x) := ⟨by simpa using h.hi, fun y hy => by
 rcases List.mem_or_eq_of_mem_set hy with hy | rfl
 ·exact h.nm y hy
 ·exact h1, fun y hy => by
 rcases List.mem_or_eq_of_mem_set hy with hy | rfl
 ·exact h.qy y hy
 ·exact h2⟩
theorem a6e {m : Nat} {d : List TDir} (h : dirsD m d) (k : Nat) : dirsD m (d.take k) := ⟨by have := h.hi; simp; omega, fun y hy => h.nm y (List.mem_of_mem_take hy), fun y hy => h.qy y (List.mem_of_mem_take hy)⟩
theorem a4J {m n : Nat} {d : List TDir} (h : dirsD m d) (hn : m ≤ n) : dirsD n d := ⟨by have := h.hi; omega, h.nm, h.qy⟩
theorem a3D {m : Nat} {d : List TDir} (h : dirsD m d) (hm : m ≤ 6) : gL d ≤ 900 := by
 have h1 := xQ iU 140 d fun x hx => by
  have h2 := h.nm x hx
  have h3 := h.qy x hx
  have h4 := b3b h3.hi h3.nd
  unfold iU
  omega
 have h2 := h.hi
 unfold gL
 have : d.length * 140 ≤ 6 * 140 := Nat.mul_le_mul_right _ (by omega)
 omega
theorem qU {l : List Int} (hl : iI l) : Drw l 158 [] (fun d : List TDir => dirsD 4 d ∧ 0 < d.length) (fun d => .o (.w 67 2 (d.map cO))) := by
 intro i h hi hh; refine nQ Tryz.func158 rfl Tryz.call158 rfl (fun C b => ?_); simp only [go_sem, Tryz.ntmps158]
 refine aD ?_
 refine bC (α := Nat × List TDir × Nat × Int) (fun x => [(3, .o (.s 1)), (4, oi x.1), (5, .o .u)]) (fun x => [(0, .pin b 158 [.sl (l.map oK), iv x.2.2.1, iv x.2.2.2]), (1, .row 67 2 (x.2.1.map cO) true)]) (fun x => (x.1 ≤ 4 ∧ x.2.1.length = x.1 ∧ dirsD 4 x.2.1) ∧ (x.2.2.1 ≤ l.length ∧ inR .i64 x.2.2.2)) (fun x => 5 - x.1) (0, [], i, h) (fun _ => ?_) ?_ ?_ (fun x hx => ?_)
 ·simp only [go_sem]
 ·simp only [go_sem]; simp
 ·exact ⟨⟨Nat.zero_le _, rfl, yY 4⟩, hi, hh⟩
 ·clear hi hh
  obtain ⟨k, d, i, h⟩ := x
  obtain ⟨⟨k4, hk, hd⟩, hi, hh⟩ := hx
  simp only at k4 hk hd hi hh
  simp only [go_sem]
  refine aD ?_
  first | (refine aP (aG hl 4 (by decide) (by decide) i h hi hh) ⟨rfl, rfl⟩ ?_ rfl ?_; (focus first | rfl | (simp only [go_sem]; done))) | (refine hZ (aG hl 4 (by decide) (by decide) i h hi hh) ⟨rfl, rfl⟩ ?_ rfl ?_; (focus first | rfl | (simp only [go_sem]; done)))
  clear hi hh; rintro ⟨x, i, h⟩ ⟨hx, hi, hh⟩; simp only at hx hi hh; simp only [go_sem]
  refine aD ?_
  refine cnd rfl (fun hlt => ?_) (fun hlt => ?_)
  ·simp only [decide_eq_true_eq] at hlt
   have h4 : k = 0 ∨ k = 1 ∨ k = 2 ∨ k = 3 := by omega
   have hq1 : d.length + 1 ≤ 140737488355328 := by omega
   have hq2 : (d.length + 1) * 40 ≤ 140737488355328 := by omega
   have r0 : ∀ (a b c e : List D), eQ [a, b, c, e] 0 = a := fun _ _ _ _ => rfl
   have r1 : ∀ (a b c e : List D), eQ [a, b, c, e] 1 = b := fun _ _ _ _ => rfl
   have r2 : ∀ (a b c e : List D), eQ [a, b, c, e] 2 = c := fun _ _ _ _ => rfl
   have r3 : ∀ (a b c e : List D), eQ [a, b, c, e] 3 = e := fun _ _ _ _ => rfl
   have rs : ∀ (a : D), sub [a] 0 1 = some [a] := fun _ => rfl
   clear hlt hx
   rcases h4 with rfl | rfl | rfl | rfl
   ·have qH := aI @hq1 (aI @hq2 (aI @r0 (aI @r1 (aI @r2 (aI @r3 @rs))))); repeat' (with_reducible first | refine nY ?_ | (refine mX ?_; try simp only [go_sem, qH]) | refine kD ?_ | (apply rF [1,6,8,9,10] [10] [0,2,5] [0,2,5] ((.c 1 [3,4] [0,2,3,4,5] (.c 6 [7] [0,2,3,4,7] (.c 8 [] [0] (.c 9 [] [] (.c 10 [] [] .n .n) .n) .n) .n) (.c 6 [] [0,2] (.c 1 [3,4,7] [0,2,3,4,7] (.c 8 [] [0] (.c 9 [] [] (.c 10 [] [] .n .n) .n) .n) .n) .n))) (by simp only [go_sem]; rfl) (by simp only [go_sem]; rfl) (by simp only [go_sem]; rfl) (by decide +kernel); (focus simp only [go_sem]; done)) | exact bF | refine aQ (uX ?_) ?_ | refine aR (aX ?_) ?_ | refine aT (aX ?_) ?_ | exact bR | exact oH | exact uB | refine rD ?_ | refine aO ?_ | fail)
    all_goals
     skip
     first | (refine aP (bA hl i h hi hh) ⟨rfl, rfl⟩ ?_ rfl ?_; (focus first | rfl | (simp only [go_sem]; done))) | (refine hZ (bA hl i h hi hh) ⟨rfl, rfl⟩ ?_ rfl ?_; (focus first | rfl | (simp only [go_sem]; done)))
     clear hi hh; rintro ⟨q, i, h⟩ ⟨hq, hi, hh⟩; simp only at hq hi hh; simp only [go_sem]
     have qH := aI @hq1 (aI @hq2 (aI @r0 (aI @r1 (aI @r2 (aI @r3 @rs))))); repeat' (with_reducible first | refine nY ?_ | (refine mX ?_; try simp only [go_sem, qH]) | refine kD ?_ | exact bF | refine aQ (uX ?_) ?_ | refine aR (aX ?_) ?_ | refine aT (aX ?_) ?_ | exact uB | refine rD ?_ | refine aO ?_ | fail)
     refine aF (1, d ++ [⟨⟨#[100, 97]⟩, q⟩], i, h) ?_ ?_ ?_
     ·simp only [go_sem, List.map_append, List.map_cons, List.map_nil]; simp
     ·exact ⟨⟨by simp only; omega, by simp [hk], iJ hd (by omega) (by simp only; decide) (mE hq (by decide))⟩, hi, hh⟩
     ·simp only; omega
   ·have qH := aI @hq1 (aI @hq2 (aI @r0 (aI @r1 (aI @r2 (aI @r3 @rs))))); repeat' (with_reducible first | refine nY ?_ | (refine mX ?_; try simp only [go_sem, qH]) | refine kD ?_ | (apply rF [1,6,8,9,10] [10] [0,2,5] [0,2,5] ((.c 1 [3,4] [0,2,3,4,5] (.c 6 [7] [0,2,3,4,7] (.c 8 [] [0] (.c 9 [] [] (.c 10 [] [] .n .n) .n) .n) .n) (.c 6 [] [0,2] (.c 1 [3,4,7] [0,2,3,4,7] (.c 8 [] [0] (.c 9 [] [] (.c 10 [] [] .n .n) .n) .n) .n) .n))) (by simp only [go_sem]; rfl) (by simp only [go_sem]; rfl) (by simp only [go_sem]; rfl) (by decide +kernel); (focus simp only [go_sem]; done)) | exact bF | refine aQ (uX ?_) ?_ | refine aR (aX ?_) ?_ | refine aT (aX ?_) ?_ | exact bR | exact oH | exact uB | refine rD ?_ | refine aO ?_ | fail)
    all_goals
     skip
     first | (refine aP (bA hl i h hi hh) ⟨rfl, rfl⟩ ?_ rfl ?_; (focus first | rfl | (simp only [go_sem]; done))) | (refine hZ (bA hl i h hi hh) ⟨rfl, rfl⟩ ?_ rfl ?_; (focus first | rfl | (simp only [go_sem]; done)))
     clear hi hh; rintro ⟨q, i, h⟩ ⟨hq, hi, hh⟩; simp only at hq hi hh; simp only [go_sem]
     have qH := aI @hq1 (aI @hq2 (aI @r0 (aI @r1 (aI @r2 (aI @r3 @rs))))); repeat' (with_reducible first | refine nY ?_ | (refine mX ?_; try simp only [go_sem, qH]) | refine kD ?_ | exact bF | refine aQ (uX ?_) ?_ | refine aR (aX ?_) ?_ | refine aT (aX ?_) ?_ | exact uB | refine rD ?_ | refine aO ?_ | fail)
     refine aF (2, d ++ [⟨⟨#[100, 98]⟩, q⟩], i, h) ?_ ?_ ?_
     ·simp only [go_sem, List.map_append, List.map_cons, List.map_nil]; simp
     ·exact ⟨⟨by simp only; omega, by simp [hk], iJ hd (by omega) (by simp only; decide) (mE hq (by decide))⟩, hi, hh⟩
     ·simp only; omega
   ·have qH := aI @hq1 (aI @hq2 (aI @r0 (aI @r1 (aI @r2 (aI @r3 @rs))))); repeat' (with_reducible first | refine nY ?_ | (refine mX ?_; try simp only [go_sem, qH]) | refine kD ?_ | (apply rF [1,6,8,9,10] [10] [0,2,5] [0,2,5] ((.c 1 [3,4] [0,2,3,4,5] (.c 6 [7] [0,2,3,4,7] (.c 8 [] [0] (.c 9 [] [] (.c 10 [] [] .n .n) .n) .n) .n) (.c 6 [] [0,2] (.c 1 [3,4,7] [0,2,3,4,7] (.c 8 [] [0] (.c 9 [] [] (.c 10 [] [] .n .n) .n) .n) .n) .n))) (by simp only [go_sem]; rfl) (by simp only [go_sem]; rfl) (by simp only [go_sem]; rfl) (by decide +kernel); (focus simp only [go_sem]; done)) | exact bF | refine aQ (uX ?_) ?_ | refine aR (aX ?_) ?_ | refine aT (aX ?_) ?_ | exact bR | exact oH | exact uB | refine rD ?_ | refine aO ?_ | fail)
    all_goals
     skip
     first | (refine aP (bA hl i h hi hh) ⟨rfl, rfl⟩ ?_ rfl ?_; (focus first | rfl | (simp only [go_sem]; done))) | (refine hZ (bA hl i h hi hh) ⟨rfl, rfl⟩ ?_ rfl ?_; (focus first | rfl | (simp only [go_sem]; done)))
     clear hi hh; rintro ⟨q, i, h⟩ ⟨hq, hi, hh⟩; simp only at hq hi hh; simp only [go_sem]
     have qH := aI @hq1 (aI @hq2 (aI @r0 (aI @r1 (aI @r2 (aI @r3 @rs))))); repeat' (with_reducible first | refine nY ?_ | (refine mX ?_; try simp only [go_sem, qH]) | refine kD ?_ | exact bF | refine aQ (uX ?_) ?_ | refine aR (aX ?_) ?_ | refine aT (aX ?_) ?_ | exact uB | refine rD ?_ | refine aO ?_ | fail)
     refine aF (3, d ++ [⟨⟨#[100, 99]⟩, q⟩], i, h) ?_ ?_ ?_
     ·simp only [go_sem, List.map_append, List.map_cons, List.map_nil]; simp
     ·exact ⟨⟨by simp only; omega, by simp [hk], iJ hd (by omega) (by simp only; decide) (mE hq (by decide))⟩, hi, hh⟩
     ·simp only; omega
   ·have qH := aI @hq1 (aI @hq2 (aI @r0 (aI @r1 (aI @r2 (aI @r3 @rs))))); repeat' (with_reducible first | refine nY ?_ | (refine mX ?_; try simp only [go_sem, qH]) | refine kD ?_ | (apply rF [1,6,8,9,10] [10] [0,2,5] [0,2,5] ((.c 1 [3,4] [0,2,3,4,5] (.c 6 [7] [0,2,3,4,7] (.c 8 [] [0] (.c 9 [] [] (.c 10 [] [] .n .n) .n) .n) .n) (.c 6 [] [0,2] (.c 1 [3,4,7] [0,2,3,4,7] (.c 8 [] [0] (.c 9 [] [] (.c 10 [] [] .n .n) .n) .n) .n) .n))) (by simp only [go_sem]; rfl) (by simp only [go_sem]; rfl) (by simp only [go_sem]; rfl) (by decide +kernel); (focus simp only [go_sem]; done)) | exact bF | refine aQ (uX ?_) ?_ | refine aR (aX ?_) ?_ | refine aT (aX ?_) ?_ | exact bR | exact oH | exact uB | refine rD ?_ | refine aO ?_ | fail)
    all_goals
     skip
     first | (refine aP (bA hl i h hi hh) ⟨rfl, rfl⟩ ?_ rfl ?_; (focus first | rfl | (simp only [go_sem]; done))) | (refine hZ (bA hl i h hi hh) ⟨rfl, rfl⟩ ?_ rfl ?_; (focus first | rfl | (simp only [go_sem]; done)))
     clear hi hh; rintro ⟨q, i, h⟩ ⟨hq, hi, hh⟩; simp only at hq hi hh; simp only [go_sem]
     have qH := aI @hq1 (aI @hq2 (aI @r0 (aI @r1 (aI @r2 (aI @r3 @rs))))); repeat' (with_reducible first | refine nY ?_ | (refine mX ?_; try simp only [go_sem, qH]) | refine kD ?_ | exact bF | refine aQ (uX ?_) ?_ | refine aR (aX ?_) ?_ | refine aT (aX ?_) ?_ | exact uB | refine rD ?_ | refine aO ?_ | fail)
     refine aF (4, d ++ [⟨⟨#[100, 100]⟩, q⟩], i, h) ?_ ?_ ?_
     ·simp only [go_sem, List.map_append, List.map_cons, List.map_nil]; simp
     ·exact ⟨⟨by simp only; omega, by simp [hk], iJ hd (by omega) (by simp only; decide) (mE hq (by decide))⟩, hi, hh⟩
     ·simp only; omega
  ·refine aD ?_
   exact aH (d, i, h) ⟨⟨_, rfl, by simp only [go_sem]⟩, trivial⟩ ⟨(show dirsD 4 d ∧ 0 < d.length from ⟨hd, by simp only [decide_eq_false_iff_not] at hlt; omega⟩), ⟨hi, hh⟩⟩ (by simp only [go_sem])
@[go_sem] def nmY : List ByteArray := [⟨#[]⟩, ⟨#[65]⟩, ⟨#[122, 122]⟩, ⟨#[97, 98, 99, 100, 101, 102, 103]⟩]
theorem uF {l : List Int} (hl : iI l) : Drw l 120 [] (fun d : List TDir => dirsD 6 d) (fun d => .o (.d (.sl (d.map cO)))) := by
 intro i h hi hh; refine nQ Tryz.func120 rfl Tryz.call120 rfl (fun C b => ?_); simp only [go_sem, Tryz.ntmps120]
 refine aD ?_
 first | (refine aP (qU hl i h hi hh) ⟨rfl, rfl⟩ ?_ rfl ?_; (focus first | rfl | (simp only [go_sem]; done))) | (refine hZ (qU hl i h hi hh) ⟨rfl, rfl⟩ ?_ rfl ?_; (focus first | rfl | (simp only [go_sem]; done)))
 clear hi hh; rintro ⟨d, i, h⟩ ⟨hd, hi, hh⟩; simp only at hd hi hh; simp only [go_sem]
 obtain ⟨hd, hpos⟩ := hd
 have hd6 := a4J (n := 6) hd (by decide)
 have hlen := hd.hi
 refine aD ?_
 first | (refine aP (aG hl (d.length : Int) (by omega) (by omega) i h hi hh) ⟨rfl, rfl⟩ ?_ rfl ?_; (focus first | rfl | (simp only [go_sem]; done))) | (refine hZ (aG hl (d.length : Int) (by omega) (by omega) i h hi hh) ⟨rfl, rfl⟩ ?_ rfl ?_; (focus first | rfl | (simp only [go_sem]; done)))
 clear hi hh; rintro ⟨x, i, h⟩ ⟨hx, hi, hh⟩; simp only at hx hi hh; simp only [go_sem]
 obtain ⟨k, rfl⟩ := Int.eq_ofNat_of_zero_le hx.1
 have hk : k < d.length := by omega
 have hkn := hd.nm d[k] (List.getElem_mem hk)
 have hkq := hd.qy d[k] (List.getElem_mem hk)
 refine aD ?_
 first | (refine aP (aG hl 10 (by decide) (by decide) i h hi hh) ⟨rfl, rfl⟩ ?_ rfl ?_; (focus first | rfl | (simp only [go_sem]; done))) | (refine hZ (aG hl 10 (by decide) (by decide) i h hi hh) ⟨rfl, rfl⟩ ?_ rfl ?_; (focus first | rfl | (simp only [go_sem]; done)))
 clear hi hh; rintro ⟨c, i, h⟩ ⟨hc, hi, hh⟩; simp only at hc hi hh; simp only [go_sem]
 have h5 : c = 0 ∨ c = 1 ∨ c = 2 ∨ c = 3 ∨ (¬ c = 0 ∧ ¬ c = 1 ∧ ¬ c = 2 ∧ ¬ c = 3) := by omega
 rcases h5 with rfl | rfl | rfl | rfl | ⟨k0, k1, k2, k3⟩
 ·have q0 := @hk; refine iH ?_
  first | (refine aP (bW hl nmY (by decide) (by decide) i h hi hh) ⟨rfl, rfl⟩ ?_ rfl ?_; (focus first | rfl | (simp only [go_sem]; done))) | (refine hZ (bW hl nmY (by decide) (by decide) i h hi hh) ⟨rfl, rfl⟩ ?_ rfl ?_; (focus first | rfl | (simp only [go_sem]; done)))
  clear hi hh; rintro ⟨y, i, h⟩ ⟨hy, hi, hh⟩; simp only at hy hi hh; simp only [go_sem]
  have hy2 := (by decide +kernel : ∀ n ∈ nmY, n.size ≤ 7) y hy
  have q0 := @hk; refine iH ?_
  first | refine eG (Sees.frz 1 rfl) ?_
  simp only [go_sem]
  exact aH (d.set k ⟨y, d[k].fQuery⟩, i, h) ⟨⟨_, rfl, by simp only [go_sem, List.map_set, List.map_append, List.map_cons, List.map_nil]; try rfl⟩, trivial⟩ ⟨(show dirsD 6 _ from a2r hd6 k hy2 hkq), ⟨hi, hh⟩⟩ (by simp only [go_sem])
 ·have q0 := @hk; refine iH ?_
  first | (refine aP (a2T hl i h hi hh) ⟨rfl, rfl⟩ ?_ rfl ?_; (focus first | rfl | (simp only [go_sem]; done))) | (refine hZ (a2T hl i h hi hh) ⟨rfl, rfl⟩ ?_ rfl ?_; (focus first | rfl | (simp only [go_sem]; done)))
  clear hi hh; rintro ⟨y, i, h⟩ ⟨hy, hi, hh⟩; simp only at hy hi hh; simp only [go_sem]
  have q0 := @hk; refine iH ?_
  first | refine eG (Sees.frz 1 rfl) ?_
  simp only [go_sem]
  exact aH (d.set k ⟨d[k].fName, y⟩, i, h) ⟨⟨_, rfl, by simp only [go_sem, List.map_set, List.map_append, List.map_cons, List.map_nil]; try rfl⟩, trivial⟩ ⟨(show dirsD 6 _ from a2r hd6 k hkn hy), ⟨hi, hh⟩⟩ (by simp only [go_sem])
 ·refine aD ?_
  refine bC (α := List TDir × Nat × Int) (fun x => [(3, .o (.s 1)), (5, .o .u), (6, .o .u), (8, .o .u)]) (fun x => [(0, .pin b 158 [.sl (l.map oK), iv x.2.1, iv x.2.2]), (1, .row 67 2 (x.1.map cO) true)]) (fun x => (dirsD 6 x.1 ∧ 0 < x.1.length) ∧ (x.2.1 ≤ l.length ∧ inR .i64 x.2.2)) (fun x => 7 - x.1.length) (d, i, h) (fun _ => ?_) ?_ ?_ (fun y hy => ?_)
  ·simp only [go_sem]
  ·simp only [go_sem]; simp
  ·exact ⟨⟨hd6, hpos⟩, hi, hh⟩
  ·clear hi hh hkn hkq hk hlen hpos hd hd6 hx hc
   obtain ⟨d, i, h⟩ := y
   obtain ⟨⟨hd, hpos⟩, hi, hh⟩ := hy
   simp only at hd hpos hi hh
   simp only [go_sem]
   refine aD ?_
   first | (refine aP (aG hl 2 (by decide) (by decide) i h hi hh) ⟨rfl, rfl⟩ ?_ rfl ?_; (focus first | rfl | (simp only [go_sem]; done))) | (refine hZ (aG hl 2 (by decide) (by decide) i h hi hh) ⟨rfl, rfl⟩ ?_ rfl ?_; (focus first | rfl | (simp only [go_sem]; done)))
   clear hi hh; rintro ⟨z, i, h⟩ ⟨hz, hi, hh⟩; simp only at hz hi hh; simp only [go_sem]
   refine aD ?_
   refine cnd rfl (fun hlt => ?_) (fun hlt => ?_)
   ·simp only [decide_eq_true_eq] at hlt
    have hq1 : d.length + 1 ≤ 140737488355328 := by omega
    have hq2 : (d.length + 1) * 40 ≤ 140737488355328 := by omega
    have r1 : ∀ (a b c e f g : List D), eQ [a, b, c, e, f, g] 1 = b := fun _ _ _ _ _ _ => rfl
    have r2 : ∀ (a b c e f g : List D), eQ [a, b, c, e, f, g] 2 = c := fun _ _ _ _ _ _ => rfl
    have r3 : ∀ (a b c e f g : List D), eQ [a, b, c, e, f, g] 3 = e := fun _ _ _ _ _ _ => rfl
    have r4 : ∀ (a b c e f g : List D), eQ [a, b, c, e, f, g] 4 = f := fun _ _ _ _ _ _ => rfl
    have r5 : ∀ (a b c e f g : List D), eQ [a, b, c, e, f, g] 5 = g := fun _ _ _ _ _ _ => rfl
    have rs : ∀ (a : D), sub [a] 0 1 = some [a] := fun _ => rfl
    have h15 : d.length = 1 ∨ d.length = 2 ∨ d.length = 3 ∨ d.length = 4 ∨ d.length = 5 := by omega
    clear hlt hz
    rcases h15 with hdl | hdl | hdl | hdl | hdl
    ·have qH := aI @hdl (aI @hq1 (aI @hq2 (aI @r1 @rs))); repeat' (with_reducible first | refine nY ?_ | (refine mX ?_; try simp only [go_sem, qH]) | refine kD ?_ | (apply rF [1,7,9,10,11] [11] [0,2,3,6] [0,2,3,6] ((.c 1 [4,5] [0,2,3,4,5,6] (.c 7 [8] [0,2,3,4,5,8] (.c 9 [] [0] (.c 10 [] [] (.c 11 [] [] .n .n) .n) .n) .n) (.c 7 [] [0,2,3] (.c 1 [4,5,8] [0,2,3,4,5,8] (.c 9 [] [0] (.c 10 [] [] (.c 11 [] [] .n .n) .n) .n) .n) .n))) (by simp only [go_sem]; rfl) (by simp only [go_sem]; rfl) (by simp only [go_sem]; rfl) (by decide +kernel); (focus simp only [go_sem]; done)) | exact bF | refine aQ (uX ?_) ?_ | refine aR (aX ?_) ?_ | refine aT (aX ?_) ?_ | exact bR | exact oH | exact uB | refine rD ?_ | refine aO ?_ | fail)
     all_goals
      skip
      first | (refine aP (bA hl i h hi hh) ⟨rfl, rfl⟩ ?_ rfl ?_; (focus first | rfl | (simp only [go_sem]; done))) | (refine hZ (bA hl i h hi hh) ⟨rfl, rfl⟩ ?_ rfl ?_; (focus first | rfl | (simp only [go_sem]; done)))
      clear hi hh; rintro ⟨q, i, h⟩ ⟨hq, hi, hh⟩; simp only at hq hi hh; simp only [go_sem]
      have qH := aI @hdl (aI @hq1 (aI @hq2 (aI @r1 @rs))); repeat' (with_reducible first | refine nY ?_ | (refine mX ?_; try simp only [go_sem, qH]) | refine kD ?_ | exact bF | refine aQ (uX ?_) ?_ | refine aR (aX ?_) ?_ | refine aT (aX ?_) ?_ | exact uB | refine rD ?_ | refine aO ?_ | fail)
      refine aF (d ++ [⟨⟨#[100, 98]⟩, q⟩], i, h) ?_ ?_ ?_
      ·simp only [go_sem, List.map_append, List.map_cons, List.map_nil]; simp
      ·exact ⟨⟨iJ hd (by omega) (by simp only; decide) (mE hq (by decide)), by simp⟩, hi, hh⟩
      ·simp only [List.length_append, List.length_cons, List.length_nil]; omega
    ·have qH := aI @hdl (aI @hq1 (aI @hq2 (aI @r2 @rs))); repeat' (with_reducible first | refine nY ?_ | (refine mX ?_; try simp only [go_sem, qH]) | refine kD ?_ | (apply rF [1,7,9,10,11] [11] [0,2,3,6] [0,2,3,6] ((.c 1 [4,5] [0,2,3,4,5,6] (.c 7 [8] [0,2,3,4,5,8] (.c 9 [] [0] (.c 10 [] [] (.c 11 [] [] .n .n) .n) .n) .n) (.c 7 [] [0,2,3] (.c 1 [4,5,8] [0,2,3,4,5,8] (.c 9 [] [0] (.c 10 [] [] (.c 11 [] [] .n .n) .n) .n) .n) .n))) (by simp only [go_sem]; rfl) (by simp only [go_sem]; rfl) (by simp only [go_sem]; rfl) (by decide +kernel); (focus simp only [go_sem]; done)) | exact bF | refine aQ (uX ?_) ?_ | refine aR (aX ?_) ?_ | refine aT (aX ?_) ?_ | exact bR | exact oH | exact uB | refine rD ?_ | refine aO ?_ | fail)
     all_goals
      skip
      first | (refine aP (bA hl i h hi hh) ⟨rfl, rfl⟩ ?_ rfl ?_; (focus first | rfl | (simp only [go_sem]; done))) | (refine hZ (bA hl i h hi hh) ⟨rfl, rfl⟩ ?_ rfl ?_; (focus first | rfl | (simp only [go_sem]; done)))
      clear hi hh; rintro ⟨q, i, h⟩ ⟨hq, hi, hh⟩; simp only at hq hi hh; simp only [go_sem]
      have qH := aI @hdl (aI @hq1 (aI @hq2 (aI @r2 @rs))); repeat' (with_reducible first | refine nY ?_ | (refine mX ?_; try simp only [go_sem, qH]) | refine kD ?_ | exact bF | refine aQ (uX ?_) ?_ | refine aR (aX ?_) ?_ | refine aT (aX ?_) ?_ | exact uB | refine rD ?_ | refine aO ?_ | fail)
      refine aF (d ++ [⟨⟨#[100, 99]⟩, q⟩], i, h) ?_ ?_ ?_
      ·simp only [go_sem, List.map_append, List.map_cons, List.map_nil]; simp
      ·exact ⟨⟨iJ hd (by omega) (by simp only; decide) (mE hq (by decide)), by simp⟩, hi, hh⟩
      ·simp only [List.length_append, List.length_cons, List.length_nil]; omega
    ·have qH := aI @hdl (aI @hq1 (aI @hq2 (aI @r3 @rs))); repeat' (with_reducible first | refine nY ?_ | (refine mX ?_; try simp only [go_sem, qH]) | refine kD ?_ | (apply rF [1,7,9,10,11] [11] [0,2,3,6] [0,2,3,6] ((.c 1 [4,5] [0,2,3,4,5,6] (.c 7 [8] [0,2,3,4,5,8] (.c 9 [] [0] (.c 10 [] [] (.c 11 [] [] .n .n) .n) .n) .n) (.c 7 [] [0,2,3] (.c 1 [4,5,8] [0,2,3,4,5,8] (.c 9 [] [0] (.c 10 [] [] (.c 11 [] [] .n .n) .n) .n) .n) .n))) (by simp only [go_sem]; rfl) (by simp only [go_sem]; rfl) (by simp only [go_sem]; rfl) (by decide +kernel); (focus simp only [go_sem]; done)) | exact bF | refine aQ (uX ?_) ?_ | refine aR (aX ?_) ?_ | refine aT (aX ?_) ?_ | exact bR | exact oH | exact uB | refine rD ?_ | refine aO ?_ | fail)
     all_goals
      skip
      first | (refine aP (bA hl i h hi hh) ⟨rfl, rfl⟩ ?_ rfl ?_; (focus first | rfl | (simp only [go_sem]; done))) | (refine hZ (bA hl i h hi hh) ⟨rfl, rfl⟩ ?_ rfl ?_; (focus first | rfl | (simp only [go_sem]; done)))
      clear hi hh; rintro ⟨q, i, h⟩ ⟨hq, hi, hh⟩; simp only at hq hi hh; simp only [go_sem]
      have qH := aI @hdl (aI @hq1 (aI @hq2 (aI @r3 @rs))); repeat' (with_reducible first | refine nY ?_ | (refine mX ?_; try simp only [go_sem, qH]) | refine kD ?_ | exact bF | refine aQ (uX ?_) ?_ | refine aR (aX ?_) ?_ | refine aT (aX ?_) ?_ | exact uB | refine rD ?_ | refine aO ?_ | fail)
      refine aF (d ++ [⟨⟨#[100, 100]⟩, q⟩], i, h) ?_ ?_ ?_
      ·simp only [go_sem, List.map_append, List.map_cons, List.map_nil]; simp
      ·exact ⟨⟨iJ hd (by omega) (by simp only; decide) (mE hq (by decide)), by simp⟩, hi, hh⟩
      ·simp only [List.length_append, List.length_cons, List.length_nil]; omega
    ·have qH := aI @hdl (aI @hq1 (aI @hq2 (aI @r4 @rs))); repeat' (with_reducible first | refine nY ?_ | (refine mX ?_; try simp only [go_sem, qH]) | refine kD ?_ | (apply rF [1,7,9,10,11] [11] [0,2,3,6] [0,2,3,6] ((.c 1 [4,5] [0,2,3,4,5,6] (.c 7 [8] [0,2,3,4,5,8] (.c 9 [] [0] (.c 10 [] [] (.c 11 [] [] .n .n) .n) .n) .n) (.c 7 [] [0,2,3] (.c 1 [4,5,8] [0,2,3,4,5,8] (.c 9 [] [0] (.c 10 [] [] (.c 11 [] [] .n .n) .n) .n) .n) .n))) (by simp only [go_sem]; rfl) (by simp only [go_sem]; rfl) (by simp only [go_sem]; rfl) (by decide +kernel); (focus simp only [go_sem]; done)) | exact bF | refine aQ (uX ?_) ?_ | refine aR (aX ?_) ?_ | refine aT (aX ?_) ?_ | exact bR | exact oH | exact uB | refine rD ?_ | refine aO ?_ | fail)
     all_goals
      skip
      first | (refine aP (bA hl i h hi hh) ⟨rfl, rfl⟩ ?_ rfl ?_; (focus first | rfl | (simp only [go_sem]; done))) | (refine hZ (bA hl i h hi hh) ⟨rfl, rfl⟩ ?_ rfl ?_; (focus first | rfl | (simp only [go_sem]; done)))
      clear hi hh; rintro ⟨q, i, h⟩ ⟨hq, hi, hh⟩; simp only at hq hi hh; simp only [go_sem]
      have qH := aI @hdl (aI @hq1 (aI @hq2 (aI @r4 @rs))); repeat' (with_reducible first | refine nY ?_ | (refine mX ?_; try simp only [go_sem, qH]) | refine kD ?_ | exact bF | refine aQ (uX ?_) ?_ | refine aR (aX ?_) ?_ | refine aT (aX ?_) ?_ | exact uB | refine rD ?_ | refine aO ?_ | fail)
      refine aF (d ++ [⟨⟨#[100, 101]⟩, q⟩], i, h) ?_ ?_ ?_
      ·simp only [go_sem, List.map_append, List.map_cons, List.map_nil]; simp
      ·exact ⟨⟨iJ hd (by omega) (by simp only; decide) (mE hq (by decide)), by simp⟩, hi, hh⟩
      ·simp only [List.length_append, List.length_cons, List.length_nil]; omega
    ·have qH := aI @hdl (aI @hq1 (aI @hq2 (aI @r5 @rs))); repeat' (with_reducible first | refine nY ?_ | (refine mX ?_; try simp only [go_sem, qH]) | refine kD ?_ | (apply rF [1,7,9,10,11] [11] [0,2,3,6] [0,2,3,6] ((.c 1 [4,5] [0,2,3,4,5,6] (.c 7 [8] [0,2,3,4,5,8] (.c 9 [] [0] (.c 10 [] [] (.c 11 [] [] .n .n) .n) .n) .n) (.c 7 [] [0,2,3] (.c 1 [4,5,8] [0,2,3,4,5,8] (.c 9 [] [0] (.c 10 [] [] (.c 11 [] [] .n .n) .n) .n) .n) .n))) (by simp only [go_sem]; rfl) (by simp only [go_sem]; rfl) (by simp only [go_sem]; rfl) (by decide +kernel); (focus simp only [go_sem]; done)) | exact bF | refine aQ (uX ?_) ?_ | refine aR (aX ?_) ?_ | refine aT (aX ?_) ?_ | exact bR | exact oH | exact uB | refine rD ?_ | refine aO ?_ | fail)
     all_goals
      skip
      first | (refine aP (bA hl i h hi hh) ⟨rfl, rfl⟩ ?_ rfl ?_; (focus first | rfl | (simp only [go_sem]; done))) | (refine hZ (bA hl i h hi hh) ⟨rfl, rfl⟩ ?_ rfl ?_; (focus first | rfl | (simp only [go_sem]; done)))
      clear hi hh; rintro ⟨q, i, h⟩ ⟨hq, hi, hh⟩; simp only at hq hi hh; simp only [go_sem]
      have qH := aI @hdl (aI @hq1 (aI @hq2 (aI @r5 @rs))); repeat' (with_reducible first | refine nY ?_ | (refine mX ?_; try simp only [go_sem, qH]) | refine kD ?_ | exact bF | refine aQ (uX ?_) ?_ | refine aR (aX ?_) ?_ | refine aT (aX ?_) ?_ | exact uB | refine rD ?_ | refine aO ?_ | fail)
      refine aF (d ++ [⟨⟨#[100, 102]⟩, q⟩], i, h) ?_ ?_ ?_
      ·simp only [go_sem, List.map_append, List.map_cons, List.map_nil]; simp
      ·exact ⟨⟨iJ hd (by omega) (by simp only; decide) (mE hq (by decide)), by simp⟩, hi, hh⟩
      ·simp only [List.length_append, List.length_cons, List.length_nil]; omega
   ·refine aD ?_
    first | refine eG (Sees.frz 1 rfl) ?_
    simp only [go_sem]
    exact aH (d, i, h) ⟨⟨_, rfl, by simp only [go_sem, List.map_set, List.map_append, List.map_cons, List.map_nil]; try rfl⟩, trivial⟩ ⟨(show dirsD 6 _ from hd), ⟨hi, hh⟩⟩ (by simp only [go_sem])
 ·refine aD ?_
  exact aH ([], i, h) ⟨⟨_, rfl, by simp only [go_sem, List.map_nil]⟩, trivial⟩ ⟨(show dirsD 6 _ from yY 6), ⟨hi, hh⟩⟩ (by simp only [go_sem])
 ·have q0 := @k0; have q1 := @k1; have q2 := @k2; have q3 := @k3; have q4 := @decide_false; refine sN ?_
  first | refine eG (Sees.frz 1 rfl) ?_
  simp only [go_sem]
  exact aH (d, i, h) ⟨⟨_, rfl, by simp only [go_sem, List.map_set, List.map_append, List.map_cons, List.map_nil]; try rfl⟩, trivial⟩ ⟨(show dirsD 6 _ from hd6), ⟨hi, hh⟩⟩ (by simp only [go_sem])
theorem b2t (l : List TDir) : ∀ r ∈ l.map cO, r.length = 2 := by intro r hr; obtain ⟨x, _, rfl⟩ := List.mem_map.1 hr; rfl
theorem qV {l : List Int} (hl : iI l) : Drw l 90 [] (fun d : List TDir => dirsD 6 d) (fun d => .o (.d (.sl (d.map cO)))) := by
 intro i h hi hh; refine nQ Tryz.func90 rfl Tryz.call90 rfl (fun C b => ?_); simp only [go_sem, Tryz.ntmps90]
 refine aD ?_
 first | (refine aP (qU hl i h hi hh) ⟨rfl, rfl⟩ ?_ rfl ?_; (focus first | rfl | (simp only [go_sem]; done))) | (refine hZ (qU hl i h hi hh) ⟨rfl, rfl⟩ ?_ rfl ?_; (focus first | rfl | (simp only [go_sem]; done)))
 clear hi hh; rintro ⟨d, i, h⟩ ⟨hd, hi, hh⟩; simp only at hd hi hh; simp only [go_sem]
 have hd4 := hd.1
 clear hd
 refine aD ?_
 refine uM 3 1 rfl rfl ?_
 simp only [go_sem]
 refine bC (α := List TDir) (fun x => [(3, .o (.d (.sl (x.map cO)))), (5, .o .u)]) (fun _ => []) (fun x => dirsD 4 x) (fun x => x.length) d (fun _ => ?_) ?_ ?_ (fun x hx => ?_)
 ·simp only [go_sem]
 ·simp only [go_sem]; simp
 ·exact hd4
 ·clear hd4
  have hst := yJ x (by have := a3D hx (by decide); omega)
  by_cases h0 : x = []
  ·subst h0
   have z0 : decide ((0 : Int) < ((0 : Nat) : Int)) = false := rfl
   have z1 : decide (((0 : Nat) : Int) = 0) = true := rfl
   simp only [go_sem]
   repeat' (with_reducible first | refine nY ?_ | (refine mX ?_; try simp only [go_sem, List.map_nil, List.length_nil, z0, z1]) | refine kO ?_ (by decide) | refine b0W (by kernel_rfl) ?_ | (refine And.intro ?_ ?_; focus omega))
   first | refine eG (Sees.frz 2 rfl) ?_ | refine eG (Sees.frz 3 rfl) ?_ | refine eG (Sees.frz 4 rfl) ?_
   simp only [go_sem]
   exact aH ([⟨⟨#[100, 97]⟩, [⟨1, 0, 0, ⟨#[]⟩, ⟨0, 0, ⟨#[]⟩⟩⟩]⟩], i, h) ⟨⟨_, rfl, by simp only [go_sem, List.map_set, List.map_append, List.map_cons, List.map_nil]; try rfl⟩, trivial⟩ ⟨(show dirsD 6 _ from iJ (yY 6) (by decide) (by simp only; decide) ⟨by decide, fun n hn => by simp only [List.mem_singleton] at hn; subst hn; exact gH (inS (by decide)) in0 in0 (Nat.zero_le _) in0 in0 (Nat.zero_le _)⟩), ⟨hi, hh⟩⟩ (by simp only [go_sem])
  ·have hp : 0 < x.length := List.length_pos_iff.2 h0
   have hgi : ((0 : Int) < (x.length : Int)) = True := by simp; omega
   have hgz : ((x.length : Int) = 0) = False := by simp; omega
   cases hr : nR x
   ·rw [hr] at hst
    have hm1 : (x.length : Int) - 1 = ((x.length - 1 : Nat) : Int) := by omega
    have hm2 : x.length - 1 ≤ x.length := by omega
    have hx4 := hx.hi
    simp only [go_sem]
    have qH := aI @hgi (aI @hgz (aI @hm1 (aI @hm2 @decide_true))); repeat' (with_reducible first | refine nY ?_ | (refine mX ?_; try simp only [go_sem, qH]) | refine kD ?_ | refine rD ?_ | refine And.intro (b2t _) ?_ | refine cP hst ?_ | refine aO ?_ | fail)
    refine aF (x.take (x.length - 1)) ?_ ?_ ?_
    ·simp only [go_sem, List.map_take]; simp
    ·exact a6e hx _
    ·simp; omega
   ·rw [hr] at hst
    simp only [go_sem]
    have q0 := @hgi; have q1 := @hgz; have q2 := @decide_true; have q3 := @decide_false; refine a1c hst ?_
    exact aH (x, i, h) ⟨⟨_, rfl, by simp only [go_sem]⟩, trivial⟩ ⟨(show dirsD 6 _ from a4J hx (by decide)), ⟨hi, hh⟩⟩ (by simp only [go_sem])
theorem a1f {l : List Int} (hl : iI l) : Drw l 80 [] (fun x : TStore × List TDir => storeA x.1 ∧ dirsD 6 x.2) (fun x => .t [(true, (gZ x.1).cells), (false, [.d (.sl (x.2.map cO))])]) := by
 intro i h hi hh; refine nQ Tryz.func80 rfl Tryz.call80 rfl (fun C b => ?_); simp only [go_sem, Tryz.ntmps80]
 refine aD ?_
 first | (refine aP (jT hl i h hi hh) ⟨rfl, rfl⟩ ?_ rfl ?_; (focus first | rfl | (simp only [go_sem]; done))) | (refine hZ (jT hl i h hi hh) ⟨rfl, rfl⟩ ?_ rfl ?_; (focus first | rfl | (simp only [go_sem]; done)))
 clear hi hh; rintro ⟨s, i, h⟩ ⟨hs, hi, hh⟩; simp only at hs hi hh; simp only [go_sem]
 have hsA := yZ hs
 clear hs
 refine aD ?_
 first | (refine aP (dD hl 12 (by decide) (by decide) i h hi hh) ⟨rfl, rfl⟩ ?_ rfl ?_; (focus first | rfl | (simp only [go_sem]; done))) | (refine hZ (dD hl 12 (by decide) (by decide) i h hi hh) ⟨rfl, rfl⟩ ?_ rfl ?_; (focus first | rfl | (simp only [go_sem]; done)))
 clear hi hh; rintro ⟨c1, i, h⟩ ⟨q1, hi, hh⟩; simp only at q1 hi hh; simp only [go_sem]
 cases c1
 ·skip
  refine aD ?_
  first | (refine aP (dD hl 5 (by decide) (by decide) i h hi hh) ⟨rfl, rfl⟩ ?_ rfl ?_; (focus first | rfl | (simp only [go_sem]; done))) | (refine hZ (dD hl 5 (by decide) (by decide) i h hi hh) ⟨rfl, rfl⟩ ?_ rfl ?_; (focus first | rfl | (simp only [go_sem]; done)))
  clear hi hh; rintro ⟨c2, i, h⟩ ⟨q2, hi, hh⟩; simp only at q2 hi hh; simp only [go_sem]
  cases c2
  ·have qH := trivial; repeat' (with_reducible first | refine nY ?_ | (refine mX ?_; try simp only [go_sem]) | refine kD ?_ | (apply rF [2,3] [] [0,1] [0,1] ((.c 2 [] [0] (.c 3 [4] [4] .n .n) .n)) (by simp only [go_sem]; rfl) (by simp only [go_sem]; rfl) (by simp only [go_sem]; rfl) (by decide +kernel); (focus simp only [go_sem]; done)) | exact bF | refine aQ (uX ?_) ?_ | refine aR (aX ?_) ?_ | refine aT (aX ?_) ?_ | exact bR | exact oH | (refine uA ?_; simp only [go_sem]; (repeat' first | omega | refine And.intro ?_ ?_); done) | refine rD ?_ | refine aO ?_ | fail)
   first | (refine aP (qV hl i h hi hh) ⟨rfl, rfl⟩ ?_ rfl ?_; (focus first | rfl | (simp only [go_sem]; done))) | (refine hZ (qV hl i h hi hh) ⟨rfl, rfl⟩ ?_ rfl ?_; (focus first | rfl | (simp only [go_sem]; done)))
   clear hi hh; rintro ⟨d, i, h⟩ ⟨hd, hi, hh⟩; simp only at hd hi hh; simp only [go_sem]
   have qH := trivial; repeat' (with_reducible first | refine nY ?_ | (refine mX ?_; try simp only [go_sem]) | refine kD ?_ | exact bF | refine aQ (uX ?_) ?_ | refine aR (aX ?_) ?_ | refine aT (aX ?_) ?_ | (refine uA ?_; simp only [go_sem]; (repeat' first | omega | refine And.intro ?_ ?_); done) | refine rD ?_ | refine aO ?_ | fail)
   first | refine eG (Sees.frz 2 rfl) ?_
   simp only [go_sem]
   exact aH ((s, d), i, h) ⟨⟨_, rfl, by simp only [go_sem]⟩, by simp [dQ]⟩ ⟨(show storeA s ∧ dirsD 6 d from ⟨hsA, hd⟩), ⟨hi, hh⟩⟩ (by simp only [go_sem])
  ·have qH := trivial; repeat' (with_reducible first | refine nY ?_ | (refine mX ?_; try simp only [go_sem]) | refine kD ?_ | (apply rF [2,3] [] [0,1] [0,1] ((.c 2 [] [0] (.c 3 [4] [4] .n .n) .n)) (by simp only [go_sem]; rfl) (by simp only [go_sem]; rfl) (by simp only [go_sem]; rfl) (by decide +kernel); (focus simp only [go_sem]; done)) | exact bF | refine aQ (uX ?_) ?_ | refine aR (aX ?_) ?_ | refine aT (aX ?_) ?_ | exact bR | exact oH | (refine uA ?_; simp only [go_sem]; (repeat' first | omega | refine And.intro ?_ ?_); done) | refine rD ?_ | refine aO ?_ | fail)
   first | (refine aP (uF hl i h hi hh) ⟨rfl, rfl⟩ ?_ rfl ?_; (focus first | rfl | (simp only [go_sem]; done))) | (refine hZ (uF hl i h hi hh) ⟨rfl, rfl⟩ ?_ rfl ?_; (focus first | rfl | (simp only [go_sem]; done)))
   clear hi hh; rintro ⟨d, i, h⟩ ⟨hd, hi, hh⟩; simp only at hd hi hh; simp only [go_sem]
   have qH := trivial; repeat' (with_reducible first | refine nY ?_ | (refine mX ?_; try simp only [go_sem]) | refine kD ?_ | exact bF | refine aQ (uX ?_) ?_ | refine aR (aX ?_) ?_ | refine aT (aX ?_) ?_ | (refine uA ?_; simp only [go_sem]; (repeat' first | omega | refine And.intro ?_ ?_); done) | refine rD ?_ | refine aO ?_ | fail)
   first | refine eG (Sees.frz 2 rfl) ?_
   simp only [go_sem]
   exact aH ((s, d), i, h) ⟨⟨_, rfl, by simp only [go_sem]⟩, by simp [dQ]⟩ ⟨(show storeA s ∧ dirsD 6 d from ⟨hsA, hd⟩), ⟨hi, hh⟩⟩ (by simp only [go_sem])
 ·clear hsA
  refine aD ?_
  first | (refine aP (a2t hl i h hi hh) ⟨rfl, rfl⟩ ?_ rfl ?_; (focus first | rfl | (simp only [go_sem]; done))) | (refine hZ (a2t hl i h hi hh) ⟨rfl, rfl⟩ ?_ rfl ?_; (focus first | rfl | (simp only [go_sem]; done)))
  clear hi hh; rintro ⟨s, i, h⟩ ⟨hsA, hi, hh⟩; simp only at hsA hi hh; simp only [go_sem]
  refine aD ?_
  first | (refine aP (dD hl 5 (by decide) (by decide) i h hi hh) ⟨rfl, rfl⟩ ?_ rfl ?_; (focus first | rfl | (simp only [go_sem]; done))) | (refine hZ (dD hl 5 (by decide) (by decide) i h hi hh) ⟨rfl, rfl⟩ ?_ rfl ?_; (focus first | rfl | (simp only [go_sem]; done)))
  clear hi hh; rintro ⟨c2, i, h⟩ ⟨q2, hi, hh⟩; simp only at q2 hi hh; simp only [go_sem]
  cases c2
  ·have qH := trivial; repeat' (with_reducible first | refine nY ?_ | (refine mX ?_; try simp only [go_sem]) | refine kD ?_ | (apply rF [2,3] [] [0,1] [0,1] ((.c 2 [] [0] (.c 3 [4] [4] .n .n) .n)) (by simp only [go_sem]; rfl) (by simp only [go_sem]; rfl) (by simp only [go_sem]; rfl) (by decide +kernel); (focus simp only [go_sem]; done)) | exact bF | refine aQ (uX ?_) ?_ | refine aR (aX ?_) ?_ | refine aT (aX ?_) ?_ | exact bR | exact oH | (refine uA ?_; simp only [go_sem]; (repeat' first | omega | refine And.intro ?_ ?_); done) | refine rD ?_ | refine aO ?_ | fail)
   first | (refine aP (qV hl i h hi hh) ⟨rfl, rfl⟩ ?_ rfl ?_; (focus first | rfl | (simp only [go_sem]; done))) | (refine hZ (qV hl i h hi hh) ⟨rfl, rfl⟩ ?_ rfl ?_; (focus first | rfl | (simp only [go_sem]; done)))
   clear hi hh; rintro ⟨d, i, h⟩ ⟨hd, hi, hh⟩; simp only at hd hi hh; simp only [go_sem]
   have qH := trivial; repeat' (with_reducible first | refine nY ?_ | (refine mX ?_; try simp only [go_sem]) | refine kD ?_ | exact bF | refine aQ (uX ?_) ?_ | refine aR (aX ?_) ?_ | refine aT (aX ?_) ?_ | (refine uA ?_; simp only [go_sem]; (repeat' first | omega | refine And.intro ?_ ?_); done) | refine rD ?_ | refine aO ?_ | fail)
   first | refine eG (Sees.frz 4 rfl) ?_
   simp only [go_sem]
   exact aH ((s, d), i, h) ⟨⟨_, rfl, by simp only [go_sem]⟩, by simp [dQ]⟩ ⟨(show storeA s ∧ dirsD 6 d from ⟨hsA, hd⟩), ⟨hi, hh⟩⟩ (by simp only [go_sem])
  ·have qH := trivial; repeat' (with_reducible first | refine nY ?_ | (refine mX ?_; try simp only [go_sem]) | refine kD ?_ | (apply rF [2,3] [] [0,1] [0,1] ((.c 2 [] [0] (.c 3 [4] [4] .n .n) .n)) (by simp only [go_sem]; rfl) (by simp only [go_sem]; rfl) (by simp only [go_sem]; rfl) (by decide +kernel); (focus simp only [go_sem]; done)) | exact bF | refine aQ (uX ?_) ?_ | refine aR (aX ?_) ?_ | refine aT (aX ?_) ?_ | exact bR | exact oH | (refine uA ?_; simp only [go_sem]; (repeat' first | omega | refine And.intro ?_ ?_); done) | refine rD ?_ | refine aO ?_ | fail)
   first | (refine aP (uF hl i h hi hh) ⟨rfl, rfl⟩ ?_ rfl ?_; (focus first | rfl | (simp only [go_sem]; done))) | (refine hZ (uF hl i h hi hh) ⟨rfl, rfl⟩ ?_ rfl ?_; (focus first | rfl | (simp only [go_sem]; done)))
   clear hi hh; rintro ⟨d, i, h⟩ ⟨hd, hi, hh⟩; simp only at hd hi hh; simp only [go_sem]
   have qH := trivial; repeat' (with_reducible first | refine nY ?_ | (refine mX ?_; try simp only [go_sem]) | refine kD ?_ | exact bF | refine aQ (uX ?_) ?_ | refine aR (aX ?_) ?_ | refine aT (aX ?_) ?_ | (refine uA ?_; simp only [go_sem]; (repeat' first | omega | refine And.intro ?_ ?_); done) | refine rD ?_ | refine aO ?_ | fail)
   first | refine eG (Sees.frz 4 rfl) ?_
   simp only [go_sem]
   exact aH ((s, d), i, h) ⟨⟨_, rfl, by simp only [go_sem]⟩, by simp [dQ]⟩ ⟨(show storeA s ∧ dirsD 6 d from ⟨hsA, hd⟩), ⟨hi, hh⟩⟩ (by simp only [go_sem])
theorem a5x (s : TStore) (d : List TDir) (r : List TResult) (ns : List ByteArray) (hs : dV s ≤ 4300000) (hd : gL d ≤ 4300000) (hr : aW r ≤ 4300000) (hns : ns.length ≤ 4300000) : FnC Tryz.prog 27 [gZ s, .o (.d (.sl (d.map cO))), .o (.d (.sl (r.map aN))), .o (.d (.sl (ns.map eT)))] (.t [(false, [.d (.sl ((evX s d r ns).1.map aN))]), (false, [.d (bv (evB s d))])]) := by
 have hd0 : d.length + dN iU d ≤ 4300000 := hd
 have hs0 : bG s.fSchema + (s.fFiles.length + dN eF s.fFiles) ≤ 4300000 := hs
 refine ent Tryz.func27 rfl Tryz.call27 rfl (fun C => ?_); simp only [go_sem, st0, Tryz.ntmps27]
 cases hb : nR d
 ·have e1 : evX s d r ns = ([], 0) := by simp [evX, hb]
  have e2 : evB s d = false := by simp [evB, hb]
  have q0 := @hb; refine lK (fJ d hd) ?_
  refine kS (Sees.frz 1 rfl) ?_
  simp only [go_sem]
  exact aA ⟨⟨_, rfl, by simp only [go_sem, e1, e2, List.map_nil]; try simp⟩, by simp [dQ]⟩
 cases hst : bL s
 ·have e1 : evX s d r ns = ([], 0) := by simp [evX, hst]
  have e2 : evB s d = false := by simp [evB, hst]
  have q0 := @hb; have q1 := @hst; refine a0p (fJ d hd) (dO s hs) ?_
  refine kS (Sees.frz 1 rfl) ?_
  simp only [go_sem]
  exact aA ⟨⟨_, rfl, by simp only [go_sem, e1, e2, List.map_nil]; try simp⟩, by simp [dQ]⟩
 obtain ⟨hv, hleast⟩ := tH hb
 have hclo := hleast.clo
 have hvq := fun i (hi : i < d.length) => jY hv i hi
 have h5 := iZ hv
 have h12 := jX hst
 have hLl := hclo.len
 obtain ⟨CC, hCC⟩ : ∃ c, s.fFiles.length + aW r = c := ⟨_, rfl⟩
 have hC2 : CC ≤ 4300012 := by omega
 have e1 : evX s d r ns = allE s.fFiles d (resL d) ns CC r (oM d (resL d)) := by simp [evX, hb, hst, hCC]
 have e2 : evB s d = true := by simp [evB, hb, hst]
 have q0 := @hb; have q1 := @hst; refine a0p (fJ d hd) (dO s hs) ?_
 refine b2r 1 rfl ?_
 simp only [go_sem]
 refine bC (α := Nat) (fun k => [(12, .o (.s 1)), (32, .o .u), (13, oi k)]) (fun k => [(1, .row 115 2 ((fI ns r (d.take k)).map aN) false)]) (fun k => k ≤ d.length) (fun k => d.length - k) 0 (fun _ => ?_) ?_ ?_ (fun k hk => ?_)
 ·simp only [go_sem]
 ·simp only [go_sem]; simp [fI]
 ·simp
 ·simp only [go_sem]
  refine aD ?_
  refine cnd rfl (fun h => ?_) (fun h => ?_)
  ·simp only [decide_eq_true_eq, Int.ofNat_lt] at h
   have hsl := wK ns r d k
   have hl1 : (fI ns r (d.take k)).length + 1 ≤ 140737488355328 := by omega
   have hl2 : ((fI ns r (d.take k)).length + 1) * 40 ≤ 140737488355328 := by omega
   have hsu := tJ ns r d k h
   cases hn : jN ns d[k].fName
   ·rw [hn] at hsu
    have qH := aI @h (aI @hn (aI @hl1 @hl2)); repeat' (with_reducible first | refine nY ?_ | (refine mX ?_; try simp only [go_sem, qH]) | refine kD ?_ | (apply rE [11,13,14] [] [0,1,2,3,4,5,6,7,8,9,10] [0,1,2,3,4,5,6,7,8,9,10] ((.c 11 [12] [0,1,2,3,4,12] (.c 13 [] [0,1,2,3,4,12] (.c 14 [] [] .n .n) .n) (.c 13 [] [0,1,2,3,4,5,6,7,8,9,10] (.c 11 [12] [0,1,2,3,4,12] (.c 14 [] [] .n .n) .n) .n))) (by simp only [go_sem]; rfl) (by simp only [go_sem]; rfl) (by simp only [go_sem]; rfl) (by decide +kernel); (focus simp only [go_sem]; done)) | exact bF | refine aQ (uX ?_) ?_ | refine aR (aX ?_) ?_ | refine aT (aX ?_) ?_ | exact bR | exact oH | exact uB | refine rD ?_ | refine cP (kC ns d[k].fName hns) ?_ | refine cP (jA r d[k].fName (by omega)) ?_ | refine aO ?_ | fail)
    refine aF (k + 1) ?_ ?_ ?_
    ·simp only [go_sem, hsu, List.map_append]; simp [aN]
    ·omega
    ·omega
   ·rw [hn] at hsu
    have qH := aI @h (aI @hn (aI @hl1 @hl2)); repeat' (with_reducible first | refine nY ?_ | (refine mX ?_; try simp only [go_sem, qH]) | refine kD ?_ | (apply rE [11,13,14] [] [0,1,2,3,4,5,6,7,8,9,10] [0,1,2,3,4,5,6,7,8,9,10] ((.c 11 [12] [0,1,2,3,4,12] (.c 13 [] [0,1,2,3,4,12] (.c 14 [] [] .n .n) .n) (.c 13 [] [0,1,2,3,4,5,6,7,8,9,10] (.c 11 [12] [0,1,2,3,4,12] (.c 14 [] [] .n .n) .n) .n))) (by simp only [go_sem]; rfl) (by simp only [go_sem]; rfl) (by simp only [go_sem]; rfl) (by decide +kernel); (focus simp only [go_sem]; done)) | exact bF | refine aQ (uX ?_) ?_ | refine aR (aX ?_) ?_ | refine aT (aX ?_) ?_ | exact bR | exact oH | exact uB | refine rD ?_ | refine cP (kC ns d[k].fName hns) ?_ | refine cP (jA r d[k].fName (by omega)) ?_ | refine aO ?_ | fail)
    refine aF (k + 1) ?_ ?_ ?_
    ·simp only [go_sem, hsu, List.map_append]; simp [aN]
    ·omega
    ·omega
  ·simp only [decide_eq_false_iff_not] at h
   have e : k = d.length := by omega
   subst e
   rw [List.take_length]
   generalize hL : resL d = L at *
   refine aD ?_
   refine bC (α := Nat) (fun k => [(15, oi k)]) (fun k => [(1, .row 115 2 ((allE s.fFiles d L ns CC r k).1.map aN) false)]) (fun k => k ≤ oM d L) (fun k => oM d L - k) 0 (fun _ => ?_) ?_ ?_ (fun k hk => ?_)
   ·simp only [go_sem]
   ·simp only [go_sem]; simp [allE]
   ·simp
   ·simp only [go_sem]
    have q0 := @hL; refine lK (a1t d hd (by rw [hL]; omega)) ?_
    refine cnd rfl (fun hlev => ?_) (fun hlev => ?_)
    ·simp only [decide_eq_true_eq] at hlev
     have hkK := (pR d L k).1 hlev
     have hev := uP (fs := s.fFiles) (ns := ns) (r := r) hvq hclo k
     rw [hCC] at hev
     have htop := a6q hleast
     have hcnt := yG s.fFiles d L ns CC r k
     have hnm : d.length * CC ≤ 5 * 4300012 := Nat.mul_le_mul h5 hC2
     have hcnt2 : k * (d.length * CC + 1) ≤ 5 * 21500061 := Nat.mul_le_mul (by omega) (by omega)
     have hround : Round s.fFiles d L ns CC k (allE s.fFiles d L ns CC r (k + 1)) ((allE s.fFiles d L ns CC r k).1, (allE s.fFiles d L ns CC r k).2, true) := Round.start hev
     generalize hT : allE s.fFiles d L ns CC r (k + 1) = T at *
     generalize allE s.fFiles d L ns CC r k = X at *
     refine aD ?_
     refine bC (α := List TResult × Nat × Bool) (fun x => [(16, ob x.2.2)]) (fun x => [(1, .row 115 2 (x.1.map aN) false)]) (fun x => Round s.fFiles d L ns CC k T (x.1, x.2.1, x.2.2) ∧ x.2.1 ≤ X.2 + gW x.1 + (if x.2.2 then 0 else 1)) (fun x => if x.2.2 then d.length * CC + 1 - gW x.1 else 0) (X.1, X.2, true) (fun _ => ?_) ?_ ?_ (fun x hx => ?_)
     ·simp only [go_sem]
     ·simp only [go_sem]; simp
     ·exact ⟨hround, by simp⟩
     ·obtain ⟨R, c, b⟩ := x
      obtain ⟨hx, hcb⟩ := hx
      simp only at hcb
      simp only [go_sem]
      refine aD ?_
      refine cnd rfl (fun hbt => ?_) (fun hbt => ?_)
      ·subst hbt
       have hRe : Ev s.fFiles d L ns CC k R := hx.ev
       have hRt := hRe.tot
       simp only [if_true, Nat.add_zero] at hcb
       have hcI : c ≤ 1000000000 := by omega
       have hpass := hx.pass hvq hclo
       refine aD ?_
       refine bC (α := Nat) (fun i => [(16, ob (chB s.fFiles d L ns k i R)), (17, oi i)]) (fun i => [(1, .row 115 2 ((passT s.fFiles d L ns k i R).map aN) false)]) (fun i => i ≤ d.length) (fun i => d.length - i) 0 (fun _ => ?_) ?_ ?_ (fun i hi => ?_)
       ·simp only [go_sem]
       ·simp only [go_sem]; simp [chB, passT]
       ·simp
       ·simp only [go_sem]
        refine aD ?_
        refine cnd rfl (fun h => ?_) (fun h => ?_)
        ·simp only [decide_eq_true_eq, Int.ofNat_lt] at h
         have hEv := jO hvq hclo i R (by omega) hRe
         have hcs := jB hvq hclo i R (by omega) hRe
         have hsu := nM s.fFiles d L ns k i R h
         have hchk : passT s.fFiles d L ns k (i + 1) R = passT s.fFiles d L ns k i R → chB s.fFiles d L ns k (i + 1) R = chB s.fFiles d L ns k i R := a1s
         have hchn : gW R < gW (passT s.fFiles d L ns k (i + 1) R) → chB s.fFiles d L ns k (i + 1) R = true := fun hx => by unfold chB; exact decide_eq_true hx
         have hw := hEv.w hv hC2
         obtain ⟨g1, g2⟩ := hEv.get i h
         have hPl := hEv.len
         have hbd := hEv.bd i
         have hwd := dI iU d h
         have hwq : dR d[i].fQuery ≤ iU d[i] := by unfold iU; omega
         have hgrow := fun hin hik hne => hEv.grow h hin hik hne
         have hsame := fun he => uO hEv h he
         generalize passT s.fFiles d L ns k i R = P at *
         generalize hP2 : passT s.fFiles d L ns k (i + 1) R = P2 at *
         have hiP : i < P.length := by omega
         have hiL : i < L.length := by omega
         have hg := oN L i hiL
         have hsl := yM s.fFiles d[i].fQuery P
         by_cases hik : lv L i = k
         ·have hkI : ((lv L i : Nat) : Int) = ((k : Nat) : Int) := by omega
          cases hn : jN ns d[i].fName
          ·rw [if_neg (fun h => by rw [hn] at h; cases h.2)] at hsu
           have q0 := @h; have q1 := @hiP; have q2 := @hiL; have q3 := @hg; have q4 := @hkI; have q5 := @hn; have q6 := @decide_true; have q7 := @decide_false; refine a0t (kC ns d[i].fName hns) ?_
           refine aF (i + 1) ?_ ?_ ?_
           ·simp only [go_sem, hP2, hchk hsu, hsu]; simp
           ·omega
           ·omega
          ·rw [if_pos ⟨hik, hn⟩] at hsu
           by_cases he : jP s.fFiles d[i].fQuery P = dU P i
           ·have hE : eqL iE (jP s.fFiles d[i].fQuery P) (dU P i) = true := by rw [uJ]; exact decide_eq_true he
            have hPP : P2 = P := by rw [hsu, hsame he]
            have qH := aI @h (aI @hiP (aI @hiL (aI @hg (aI @hkI (aI @g1 (aI @g2 (aI @hE (aI @hn (aI @decide_true @decide_false))))))))); repeat' (with_reducible first | refine nY ?_ | (refine mX ?_; try simp only [go_sem, qH]) | refine kD ?_ | refine rT [7] [98] ?_ | refine dA (aX ?_) (uX ?_) | refine dZ (aX ?_) ?_ | (refine uA ?_; simp only [go_sem, qH]; (repeat' first | omega | refine And.intro ?_ ?_ | refine cP (kC ns d[i].fName hns) ?_ | (refine mX ?_; simp only [go_sem, qH] <;> fail)); done) | refine rD ?_ | refine cP (kC ns d[i].fName hns) ?_ | refine vR (lQ s d[i].fQuery P hs (by omega) hw) ?_ | refine vG (lQ s d[i].fQuery P hs (by omega) hw) ?_ | refine vL (oC (jP s.fFiles d[i].fQuery P) (dU P i) (by omega)) ?_ | refine aO ?_ | fail)
            refine aF (i + 1) ?_ ?_ ?_
            ·simp only [go_sem, hP2, hchk hPP, hPP]; simp
            ·omega
            ·omega
           ·have hE : eqL iE (jP s.fFiles d[i].fQuery P) (dU P i) = false := by rw [uJ]; exact decide_eq_false he
            have hlt := hgrow hn hik he
            have hch2 : chB s.fFiles d L ns k (i + 1) R = true := hchn (by
             rw [hsu]
             rcases hcs with e | e
             ·rw [← e]; exact hlt
             ·omega)
            have qH := aI @h (aI @hiP (aI @hiL (aI @hg (aI @hkI (aI @g1 (aI @g2 (aI @hE (aI @hn (aI @decide_true @decide_false))))))))); repeat' (with_reducible first | refine nY ?_ | (refine mX ?_; try simp only [go_sem, qH]) | refine kD ?_ | refine rT [7] [98] ?_ | refine dA (aX ?_) (uX ?_) | refine dZ (aX ?_) ?_ | (refine uA ?_; simp only [go_sem, qH]; (repeat' first | omega | refine And.intro ?_ ?_ | refine cP (kC ns d[i].fName hns) ?_ | (refine mX ?_; simp only [go_sem, qH] <;> fail)); done) | refine rD ?_ | refine cP (kC ns d[i].fName hns) ?_ | refine vR (lQ s d[i].fQuery P hs (by omega) hw) ?_ | refine vG (lQ s d[i].fQuery P hs (by omega) hw) ?_ | refine vL (oC (jP s.fFiles d[i].fQuery P) (dU P i) (by omega)) ?_ | refine aO ?_ | fail)
            refine aF (i + 1) ?_ ?_ ?_
            ·simp only [go_sem, hP2, hch2, hsu, tQ, ← a9U]; simp
            ·omega
            ·omega
         ·rw [if_neg (fun h => hik h.1)] at hsu
          have hkI : ¬ ((lv L i : Nat) : Int) = ((k : Nat) : Int) := by omega
          have q0 := @h; have q1 := @hiP; have q2 := @hiL; have q3 := @hg; have q4 := @hkI; have q5 := @decide_true; have q6 := @decide_false; refine a3B ?_
          refine aF (i + 1) ?_ ?_ ?_
          ·simp only [go_sem, hP2, hchk hsu, hsu]; simp
          ·omega
          ·omega
        ·simp only [decide_eq_false_iff_not] at h
         have e : i = d.length := by omega
         subst e
         have hPe := jO hvq hclo d.length R (Nat.le_refl _) hRe
         have hPt := hPe.tot
         refine aD ?_
         refine aF (passT s.fFiles d L ns k d.length R, c + 1, chB s.fFiles d L ns k d.length R) ?_ ?_ ?_
         ·simp only [go_sem]; simp
         ·refine ⟨hpass, ?_⟩
          simp only
          have hpc := jB hvq hclo d.length R (Nat.le_refl _) hRe
          cases hcb2 : chB s.fFiles d L ns k d.length R with
          | false =>
           have h9 : gW R ≤ gW (passT s.fFiles d L ns k d.length R) := by
            rcases hpc with e | e
            ·rw [e]; exact Nat.le_refl _
            ·omega
           simp only [Bool.false_eq_true, if_false]; omega
          | true =>
           have := of_decide_eq_true hcb2
           simp only [if_true]; omega
         ·simp only [if_true]
          cases hcb3 : chB s.fFiles d L ns k d.length R with
          | false => simp only [Bool.false_eq_true, if_false]; omega
          | true =>
           have := of_decide_eq_true hcb3
           simp only [if_true]; omega
      ·subst hbt
       have hTe := hx.fin rfl
       simp only at hTe
       refine aD ?_
       refine aF (k + 1) ?_ ?_ ?_
       ·simp only [go_sem, hT, hTe]; simp
       ·omega
       ·omega
    ·simp only [decide_eq_false_iff_not] at hlev
     have hkK : ¬ k < oM d L := fun h => hlev ((pR d L k).2 h)
     have e : k = oM d L := by omega
     subst e
     refine aD ?_
     refine kS (Sees.frz 1 rfl) ?_
     simp only [go_sem]
     exact aA ⟨⟨_, rfl, by simp only [go_sem, e1, e2]; try simp⟩, by simp [dQ]⟩
theorem b3e (s : TStore) (d : List TDir) (r : List TResult) (ns : List ByteArray) (hr : aW r ≤ 4300000) : aW (evX s d r ns).1 ≤ 67108864 := by
 unfold evX
 split
 ·rename_i hb
  rw [Bool.and_eq_true] at hb
  obtain ⟨hv, hleast⟩ := tH hb.1
  have h12 := jX hb.2
  have hev := uP (fs := s.fFiles) (ns := ns) (r := r) (fun i (hi : i < d.length) => jY hv i hi) hleast.clo (oM d (resL d))
  exact hev.w hv (by omega)
 ·simp [aW, dN]
theorem a0h (s : TStore) (d : List TDir) (r : List TResult) (ns : List ByteArray) (hs : dV s ≤ 4300000) (hd : gL d ≤ 4300000) (hr : aW r ≤ 4300000) (hns : ns.length ≤ 4300000) : FnC Tryz.prog 26 [gZ s, .o (.d (.sl (d.map cO))), .o (.d (.sl (r.map aN))), .o (.d (.sl (ns.map eT)))] (.t [(false, [.w 115 2 ((evX s d r ns).1.map aN)]), (false, [.d (bv (evB s d))])]) := by
 refine ent Tryz.func26 rfl Tryz.call26 rfl (fun C => ?_); simp only [go_sem, st0, Tryz.ntmps26]
 refine jH (a8n s d r ns hs hd hr hns) ?_
 exact aA ⟨⟨_, rfl, by simp only [go_sem]⟩, by simp [dQ]⟩
theorem a8A (s : TStore) (d : List TDir) (hs : dV s ≤ 4300000) (hd : gL d ≤ 4300000) : FnC Tryz.prog 79 [gZ s, .o (.d (.sl (d.map cO)))] (.t [(false, [.w 115 2 ((evX s d [] (dirNs d)).1.map aN)]), (false, [.d (iv ((evX s d [] (dirNs d)).2 : Nat))]), (false, [.d (bv (evB s d))])]) := by
 have hd0 : d.length + dN iU d ≤ 4300000 := hd
 have hs0 : bG s.fSchema + (s.fFiles.length + dN eF s.fFiles) ≤ 4300000 := hs
 refine ent Tryz.func79 rfl Tryz.call79 rfl (fun C => ?_); simp only [go_sem, st0, Tryz.ntmps79]
 have hr : aW [] ≤ 4300000 := by simp [aW, dN]
 generalize hrr : ([] : List TResult) = r at *
 have hns : (dirNs d).length ≤ 4300000 := by rw [a2L]; omega
 have hhas : ∀ i, (hi : i < d.length) → jN (dirNs d) d[i].fName = true := b1t d
 generalize dirNs d = ns at *
 cases hb : nR d
 ·have e1 : evX s d r ns = ([], 0) := by simp [evX, hb]
  have e2 : evB s d = false := by simp [evB, hb]
  have q0 := @hb; refine lK (fJ d hd) ?_
  exact aA ⟨⟨_, rfl, by simp only [go_sem, e1, e2, List.map_nil]; simp⟩, by simp [dQ]⟩
 cases hst : bL s
 ·have e1 : evX s d r ns = ([], 0) := by simp [evX, hst]
  have e2 : evB s d = false := by simp [evB, hst]
  have q0 := @hb; have q1 := @hst; refine a0p (fJ d hd) (dO s hs) ?_
  exact aA ⟨⟨_, rfl, by simp only [go_sem, e1, e2, List.map_nil]; simp⟩, by simp [dQ]⟩
 obtain ⟨hv, hleast⟩ := tH hb
 have hclo := hleast.clo
 have hvq := fun i (hi : i < d.length) => jY hv i hi
 have h5 := iZ hv
 have h12 := jX hst
 have hLl := hclo.len
 obtain ⟨CC, hCC⟩ : ∃ c, s.fFiles.length + aW r = c := ⟨_, rfl⟩
 have hC2 : CC ≤ 4300012 := by omega
 have e1 : evX s d r ns = allE s.fFiles d (resL d) ns CC r (oM d (resL d)) := by simp [evX, hb, hst, hCC]
 have e2 : evB s d = true := by simp [evB, hb, hst]
 have q0 := @hb; have q1 := @hst; refine a0p (fJ d hd) (dO s hs) ?_
 refine bC (α := Nat) (fun k => [(9, .o (.s 1)), (29, .o .u), (10, oi k)]) (fun k => [(1, .row 115 2 ((fI ns r (d.take k)).map aN) true)]) (fun k => k ≤ d.length) (fun k => d.length - k) 0 (fun _ => ?_) ?_ ?_ (fun k hk => ?_)
 ·simp only [go_sem]
 ·simp only [go_sem]; simp [fI]
 ·simp
 ·simp only [go_sem]
  refine aD ?_
  refine cnd rfl (fun h => ?_) (fun h => ?_)
  ·simp only [decide_eq_true_eq, Int.ofNat_lt] at h
   have hsl := wK ns r d k
   have hl1 : (fI ns r (d.take k)).length + 1 ≤ 140737488355328 := by omega
   have hl2 : ((fI ns r (d.take k)).length + 1) * 40 ≤ 140737488355328 := by omega
   have hsu := tJ ns r d k h
   rw [hhas k h] at hsu
   have q0 := @h; have q1 := @hl1; have q2 := @hl2; refine kE ?_
   refine aF (k + 1) ?_ ?_ ?_
   ·simp only [go_sem, hsu, List.map_append]; simp [aN]
   ·omega
   ·omega
  ·simp only [decide_eq_false_iff_not] at h
   have e : k = d.length := by omega
   subst e
   rw [List.take_length]
   generalize hL : resL d = L at *
   refine aD ?_
   refine bC (α := Nat) (fun k => [(11, oi ((allE s.fFiles d L ns CC r k).2 : Nat)), (12, oi k)]) (fun k => [(1, .row 115 2 ((allE s.fFiles d L ns CC r k).1.map aN) true)]) (fun k => k ≤ oM d L) (fun k => oM d L - k) 0 (fun _ => ?_) ?_ ?_ (fun k hk => ?_)
   ·simp only [go_sem]
   ·simp only [go_sem]; simp [allE]
   ·simp
   ·simp only [go_sem]
    have q0 := @hL; refine lK (a1t d hd (by rw [hL]; omega)) ?_
    refine cnd rfl (fun hlev => ?_) (fun hlev => ?_)
    ·simp only [decide_eq_true_eq] at hlev
     have hkK := (pR d L k).1 hlev
     have hev := uP (fs := s.fFiles) (ns := ns) (r := r) hvq hclo k
     rw [hCC] at hev
     have htop := a6q hleast
     have hcnt := yG s.fFiles d L ns CC r k
     have hnm : d.length * CC ≤ 5 * 4300012 := Nat.mul_le_mul h5 hC2
     have hcnt2 : k * (d.length * CC + 1) ≤ 5 * 21500061 := Nat.mul_le_mul (by omega) (by omega)
     have hround : Round s.fFiles d L ns CC k (allE s.fFiles d L ns CC r (k + 1)) ((allE s.fFiles d L ns CC r k).1, (allE s.fFiles d L ns CC r k).2, true) := Round.start hev
     generalize hT : allE s.fFiles d L ns CC r (k + 1) = T at *
     generalize allE s.fFiles d L ns CC r k = X at *
     refine aD ?_
     refine bC (α := List TResult × Nat × Bool) (fun x => [(11, oi (x.2.1 : Nat)), (13, ob x.2.2)]) (fun x => [(1, .row 115 2 (x.1.map aN) true)]) (fun x => Round s.fFiles d L ns CC k T (x.1, x.2.1, x.2.2) ∧ x.2.1 ≤ X.2 + gW x.1 + (if x.2.2 then 0 else 1)) (fun x => if x.2.2 then d.length * CC + 1 - gW x.1 else 0) (X.1, X.2, true) (fun _ => ?_) ?_ ?_ (fun x hx => ?_)
     ·simp only [go_sem]
     ·simp only [go_sem]; simp
     ·exact ⟨hround, by simp⟩
     ·obtain ⟨R, c, b⟩ := x
      obtain ⟨hx, hcb⟩ := hx
      simp only at hcb
      simp only [go_sem]
      refine aD ?_
      refine cnd rfl (fun hbt => ?_) (fun hbt => ?_)
      ·subst hbt
       have hRe : Ev s.fFiles d L ns CC k R := hx.ev
       have hRt := hRe.tot
       simp only [if_true, Nat.add_zero] at hcb
       have hcI : c ≤ 1000000000 := by omega
       have hpass := hx.pass hvq hclo
       refine aD ?_
       refine bC (α := Nat) (fun i => [(13, ob (chB s.fFiles d L ns k i R)), (14, oi i)]) (fun i => [(1, .row 115 2 ((passT s.fFiles d L ns k i R).map aN) true)]) (fun i => i ≤ d.length) (fun i => d.length - i) 0 (fun _ => ?_) ?_ ?_ (fun i hi => ?_)
       ·simp only [go_sem]
       ·simp only [go_sem]; simp [chB, passT]
       ·simp
       ·simp only [go_sem]
        refine aD ?_
        refine cnd rfl (fun h => ?_) (fun h => ?_)
        ·simp only [decide_eq_true_eq, Int.ofNat_lt] at h
         have hEv := jO hvq hclo i R (by omega) hRe
         have hcs := jB hvq hclo i R (by omega) hRe
         have hsu := nM s.fFiles d L ns k i R h
         have hchk : passT s.fFiles d L ns k (i + 1) R = passT s.fFiles d L ns k i R → chB s.fFiles d L ns k (i + 1) R = chB s.fFiles d L ns k i R := a1s
         have hchn : gW R < gW (passT s.fFiles d L ns k (i + 1) R) → chB s.fFiles d L ns k (i + 1) R = true := fun hx => by unfold chB; exact decide_eq_true hx
         have hw := hEv.w hv hC2
         obtain ⟨g1, g2⟩ := hEv.get i h
         have hPl := hEv.len
         have hbd := hEv.bd i
         have hwd := dI iU d h
         have hwq : dR d[i].fQuery ≤ iU d[i] := by unfold iU; omega
         have hgrow := fun hin hik hne => hEv.grow h hin hik hne
         have hsame := fun he => uO hEv h he
         generalize passT s.fFiles d L ns k i R = P at *
         generalize hP2 : passT s.fFiles d L ns k (i + 1) R = P2 at *
         have hiP : i < P.length := by omega
         have hiL : i < L.length := by omega
         have hg := oN L i hiL
         have hsl := yM s.fFiles d[i].fQuery P
         by_cases hik : lv L i = k
         ·have hkI : ((lv L i : Nat) : Int) = ((k : Nat) : Int) := by omega
          have hn := hhas i h
          ·rw [if_pos ⟨hik, hn⟩] at hsu
           by_cases he : jP s.fFiles d[i].fQuery P = dU P i
           ·have hE : eqL iE (jP s.fFiles d[i].fQuery P) (dU P i) = true := by rw [uJ]; exact decide_eq_true he
            have hPP : P2 = P := by rw [hsu, hsame he]
            have qH := aI @h (aI @hiP (aI @hiL (aI @hg (aI @hkI (aI @g1 (aI @g2 (aI @hE (aI @hn (aI @decide_true @decide_false))))))))); repeat' (with_reducible first | refine nY ?_ | (refine mX ?_; try simp only [go_sem, qH]) | refine kD ?_ | refine rT [7] [74] ?_ | refine dA (aX ?_) (uX ?_) | refine dZ (aX ?_) ?_ | (refine uA ?_; simp only [go_sem, qH]; (repeat' first | omega | refine And.intro ?_ ?_ | refine cP (fH ns d[i].fName hns) ?_ | (refine mX ?_; simp only [go_sem, qH] <;> fail)); done) | refine rD ?_ | refine cP (fH ns d[i].fName hns) ?_ | refine vR (lQ s d[i].fQuery P hs (by omega) hw) ?_ | refine vG (lQ s d[i].fQuery P hs (by omega) hw) ?_ | refine vL (oC (jP s.fFiles d[i].fQuery P) (dU P i) (by omega)) ?_ | refine aO ?_ | fail)
            refine aF (i + 1) ?_ ?_ ?_
            ·simp only [go_sem, hP2, hchk hPP, hPP]; simp
            ·omega
            ·omega
           ·have hE : eqL iE (jP s.fFiles d[i].fQuery P) (dU P i) = false := by rw [uJ]; exact decide_eq_false he
            have hlt := hgrow hn hik he
            have hch2 : chB s.fFiles d L ns k (i + 1) R = true := hchn (by
             rw [hsu]
             rcases hcs with e | e
             ·rw [← e]; exact hlt
             ·omega)
            have qH := aI @h (aI @hiP (aI @hiL (aI @hg (aI @hkI (aI @g1 (aI @g2 (aI @hE (aI @hn (aI @decide_true @decide_false))))))))); repeat' (with_reducible first | refine nY ?_ | (refine mX ?_; try simp only [go_sem, qH]) | refine kD ?_ | refine rT [7] [74] ?_ | refine dA (aX ?_) (uX ?_) | refine dZ (aX ?_) ?_ | (refine uA ?_; simp only [go_sem, qH]; (repeat' first | omega | refine And.intro ?_ ?_ | refine cP (fH ns d[i].fName hns) ?_ | (refine mX ?_; simp only [go_sem, qH] <;> fail)); done) | refine rD ?_ | refine cP (fH ns d[i].fName hns) ?_ | refine vR (lQ s d[i].fQuery P hs (by omega) hw) ?_ | refine vG (lQ s d[i].fQuery P hs (by omega) hw) ?_ | refine vL (oC (jP s.fFiles d[i].fQuery P) (dU P i) (by omega)) ?_ | refine aO ?_ | fail)
            refine aF (i + 1) ?_ ?_ ?_
            ·simp only [go_sem, hP2, hch2, hsu, tQ, ← a9U]; simp
            ·omega
            ·omega
         ·rw [if_neg (fun h => hik h.1)] at hsu
          have hkI : ¬ ((lv L i : Nat) : Int) = ((k : Nat) : Int) := by omega
          have q0 := @h; have q1 := @hiP; have q2 := @hiL; have q3 := @hg; have q4 := @hkI; have q5 := @decide_true; have q6 := @decide_false; refine a3B ?_
          refine aF (i + 1) ?_ ?_ ?_
          ·simp only [go_sem, hP2, hchk hsu, hsu]; simp
          ·omega
          ·omega
        ·simp only [decide_eq_false_iff_not] at h
         have e : i = d.length := by omega
         subst e
         have hPe := jO hvq hclo d.length R (Nat.le_refl _) hRe
         have hPt := hPe.tot
         refine aD ?_
         refine aF (passT s.fFiles d L ns k d.length R, c + 1, chB s.fFiles d L ns k d.length R) ?_ ?_ ?_
         ·simp only [go_sem]; simp
         ·refine ⟨hpass, ?_⟩
          simp only
          have hpc := jB hvq hclo d.length R (Nat.le_refl _) hRe
          cases hcb2 : chB s.fFiles d L ns k d.length R with
          | false =>
           have h9 : gW R ≤ gW (passT s.fFiles d L ns k d.length R) := by
            rcases hpc with e | e
            ·rw [e]; exact Nat.le_refl _
            ·omega
           simp only [Bool.false_eq_true, if_false]; omega
          | true =>
           have := of_decide_eq_true hcb2
           simp only [if_true]; omega
         ·simp only [if_true]
          cases hcb3 : chB s.fFiles d L ns k d.length R with
          | false => simp only [Bool.false_eq_true, if_false]; omega
          | true =>
           have := of_decide_eq_true hcb3
           simp only [if_true]; omega
      ·subst hbt
       have hTe := hx.fin rfl
       simp only at hTe
       refine aD ?_
       refine aF (k + 1) ?_ ?_ ?_
       ·simp only [go_sem, hT, hTe]; simp
       ·omega
       ·omega
    ·simp only [decide_eq_false_iff_not] at hlev
     have hkK : ¬ k < oM d L := fun h => hlev ((pR d L k).2 h)
     have e : k = oM d L := by omega
     subst e
     refine aD ?_
     exact aA ⟨⟨_, rfl, by simp only [go_sem, e1, e2]; try simp⟩, by simp [dQ]⟩
theorem a5y (s : TStore) (d : List TDir) (hs : dV s ≤ 4300000) (hd : gL d ≤ 4300000) : FnC Tryz.prog 22 [gZ s, .o (.d (.sl (d.map cO)))] (.t [(false, [.w 115 2 ((evX s d [] (dirNs d)).1.map aN)]), (false, [.d (bv (evB s d))])]) := by
 refine ent Tryz.func22 rfl Tryz.call22 rfl (fun C => ?_); simp only [go_sem, st0, Tryz.ntmps22]
 refine jH (a8A s d hs hd) ?_
 exact aA ⟨⟨_, rfl, by simp only [go_sem]⟩, by simp [dQ]⟩
theorem a6B (s : TStore) (d : List TDir) : aW (evX s d [] (dirNs d)).1 ≤ 95 := by
 unfold evX
 split
 ·rename_i hb
  rw [Bool.and_eq_true] at hb
  obtain ⟨hv, hleast⟩ := tH hb.1
  have h5 := iZ hv
  have h12 := jX hb.2
  have hev := uP (fs := s.fFiles) (ns := dirNs d) (r := []) (fun i (hi : i < d.length) => jY hv i hi) hleast.clo (oM d (resL d))
  have h0 : aW [] = 0 := by simp [aW, dN]
  revert hev
  generalize (allE s.fFiles d (resL d) (dirNs d) (s.fFiles.length + aW []) [] (oM d (resL d))).1 = X
  rw [h0]
  intro hev
  have hlen := hev.len
  have hb2 := wJ iO 18 X fun i hi => by
   obtain ⟨e1, e2⟩ := hev.get i (by omega)
   have h1 := zY hv i (by omega)
   have h2 := hev.bd i
   unfold iO
   rw [e1, e2]
   omega
  unfold aW
  have := Nat.mul_le_mul_right 18 h5
  rw [hlen] at hb2 ⊢
  omega
 ·simp [aW, dN]
theorem b4o (s : TStore) (d : List TDir) : aW (evX s d [] (dirNs d)).1 ≤ 4300000 := Nat.le_trans (a6B s d) (by decide)
noncomputable def b5Q (c : TCatalog) : Bool := evB c.fStore c.fDirs && eqL a2Q (evX c.fStore c.fDirs [] (dirNs c.fDirs)).1 c.fResults
end Go.Proofs.YtolgdibgnndoaaaGreat
end
