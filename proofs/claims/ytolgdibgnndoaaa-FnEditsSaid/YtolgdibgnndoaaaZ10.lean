/- Joined texts. -/
import Derived.Test.YtolgdibgnndoaaaZ08
import Derived.Test.YtolgdibgnndoaaaZ09
import Derived.Test.YtolgdibgnndoaaaZ07
import Derived.Shelf.RegionOpenPlain
import Derived.WalkKit
import Derived.Deep.LoopGhost
import Derived.Deep.Draws
import Derived.Lib.Walk
import Derived.Lib.SliceRun
import Derived.Shelf.SlicesE.Kit
import Derived.Shelf.SlicesE.DeleteFunc
set_option linter.all false
section
set_option maxRecDepth 100000
set_option maxHeartbeats 4000000
namespace Go.Proofs.Ytolgdibgnndoaaa
open Go Go.Sx Go.RowKit Go.Proofs
def bY (s : ByteArray) (y : TAttr) : Bool := !fU y.fName s
def dY (a : List TAttr) (x : TAttr) : Bool := a.any fun y => decide (y.fName = x.fName) && !lX y.fValue x.fValue
def fO (a : List TAttr) (x : TAttr) : Bool := a.any fun y => decide (y.fName = x.fName)
def mergeL (a : List TAttr) : List TAttr → List TAttr → Option (List TAttr)
 | l, [] => some l
 | l, x :: b => if dY a x then none else if fO a x then mergeL a l b else mergeL a (dI (bM (bY x.fName) l) x l) b
def dG (a b : TEdit) : TEdit := if a.fOK && b.fOK then (match mergeL a.fSet a.fSet b.fSet with | none => ⟨false, []⟩ | some l => ⟨true, l⟩) else ⟨false, []⟩
theorem uR (a l b : List TAttr) (k : Nat) (h : k < b.length) : mergeL a l (b.drop k) = if dY a b[k] then none else if fO a b[k] then mergeL a l (b.drop (k + 1)) else mergeL a (dI (bM (bY b[k].fName) l) b[k] l) (b.drop (k + 1)) := by
 rw [List.drop_eq_getElem_cons h, mergeL]
theorem uS (a : List TAttr) (x : TAttr) (k : Nat) (h : k < a.length) : dY (a.drop k) x = ((decide (a[k].fName = x.fName) && !lX a[k].fValue x.fValue) || dY (a.drop (k + 1)) x) := by
 rw [List.drop_eq_getElem_cons h]; rfl
theorem uT (a : List TAttr) (x : TAttr) (k : Nat) (h : k < a.length) : fO (a.take (k + 1)) x = (fO (a.take k) x || decide (a[k].fName = x.fName)) := by
 unfold fO; rw [List.take_succ_eq_append_getElem h, List.any_append]; simp
theorem a4c (s : ByteArray) (x y : TAttr) (h : x.fName = s) : FnC Try.prog 64 [a1A y, .o (.q [sv x.fName, iv x.fValue.fKind, iv x.fValue.fInt, sv x.fValue.fStr])] (ob (bY s y)) := by
 subst h
 refine ent Try.func64 rfl Try.call64 rfl (fun C => ?_); simp only [go_sem, st0, Try.ntmps64]
 refine aF ?_
 exact aA ⟨⟨_, rfl, by simp only [go_sem, bY]⟩, trivial⟩
theorem iE (a b : TEdit) (ha : a.fSet.length ≤ 1048576) (hb : b.fSet.length ≤ 1048576) : FnC Try.prog 26 [gN a, gN b] (pY (dG a b)) := by
 refine ent Try.func26 rfl Try.call26 rfl (fun C => ?_); simp only [go_sem, st0, Try.ntmps26]
 cases ha0 : a.fOK
 case false =>
  have q0 := @ha0; refine gU ?_
  exact aA ⟨⟨_, rfl, by simp only [go_sem, dG, ha0, Bool.false_and]⟩, trivial⟩
 cases hb0 : b.fOK
 case false =>
  have q0 := @ha0; have q1 := @hb0; refine jH ?_
  exact aA ⟨⟨_, rfl, by simp only [go_sem, dG, ha0, hb0, Bool.and_false]⟩, trivial⟩
 have hm : dG a b = (match mergeL a.fSet a.fSet b.fSet with | none => ⟨false, []⟩ | some l => ⟨true, l⟩) := by simp [dG, ha0, hb0]
 rw [hm]
 clear hm
 have q0 := @ha0; have q1 := @hb0; refine a2r (sN a.fSet (by omega)) ?_
 generalize a.fSet = a at *
 generalize b.fSet = b at *
 refine eY (α := Nat × List TAttr) (fun x => [(23, .o .u), (24, .o .u), (28, oi x.1)]) (fun x => [(3, .row 95 4 (x.2.map aM) true)]) (fun x => x.1 ≤ b.length ∧ mergeL a a b = mergeL a x.2 (b.drop x.1) ∧ x.2.length ≤ a.length + x.1) (fun x => b.length - x.1) (0, a) (fun _ => ?_) ?_ ?_ (fun x hx => ?_)
 ·simp only [go_sem]
 ·simp only [go_sem]; simp
 ·simp
 ·obtain ⟨i, l⟩ := x
  obtain ⟨hi, hq, hl⟩ := hx
  simp only at hi hq hl
  simp only [go_sem]
  refine aF ?_
  refine cnd rfl (fun h => ?_) (fun h => ?_)
  ·simp only [decide_eq_true_eq, Int.ofNat_lt] at h
   rw [uR a l b i h] at hq
   have q0 := @h; refine gU ?_
   refine eY (α := Nat) (fun k => [(8, ob (fO (a.take k) b[i])), (35, oi k)]) (fun _ => []) (fun k => k ≤ a.length ∧ dY a b[i] = dY (a.drop k) b[i]) (fun k => a.length - k) 0 (fun _ => ?_) ?_ ?_ (fun k hk => ?_)
   ·simp only [go_sem]
   ·simp only [go_sem]; simp [fO]
   ·simp
   ·obtain ⟨hk, hc⟩ := hk
    simp only [go_sem]
    refine aF ?_
    refine cnd rfl (fun h2 => ?_) (fun h2 => ?_)
    ·simp only [decide_eq_true_eq, Int.ofNat_lt] at h2
     rw [uS a b[i] k h2] at hc
     have hkn := uT a b[i] k h2
     by_cases h3 : a[k].fName = b[i].fName
     case neg =>
      have hc' : dY a b[i] = dY (a.drop (k + 1)) b[i] := by simpa [h3] using hc
      cases hkk : fO (a.take k) b[i]
      ·have q0 := @h2; have q1 := @h3; have q2 := @hkk; have q3 := @decide_false; refine kW ?_
       refine bE (k + 1) ?_ ?_ ?_
       ·simp only [go_sem]; simp [hkn, hkk, h3]
       ·exact ⟨by omega, hc'⟩
       ·omega
      ·have q0 := @h2; have q1 := @h3; have q2 := @hkk; have q3 := @decide_false; refine kW ?_
       refine bE (k + 1) ?_ ?_ ?_
       ·simp only [go_sem]; simp [hkn, hkk, h3]
       ·exact ⟨by omega, hc'⟩
       ·omega
     have q0 := @h2; have q1 := @h3; have q2 := @decide_true; refine pO ?_
     refine cnd (b := !(lX a[k].fValue b[i].fValue)) rfl (fun h4 => ?_) (fun h4 => ?_)
     ·have hn : mergeL a a b = none := by rw [hq, if_pos (by rw [hc, h4]; simp [h3])]
      refine aF ?_
      exact aA ⟨⟨_, rfl, by simp only [go_sem, hn]⟩, trivial⟩
     ·have hc' : dY a b[i] = dY (a.drop (k + 1)) b[i] := by rw [hc, h4]; simp
      cases hkk : fO (a.take k) b[i]
      ·have q0 := @h2; have q1 := @h3; have q2 := @hkk; have q3 := @decide_true; refine kW ?_
       refine bE (k + 1) ?_ ?_ ?_
       ·simp only [go_sem]; simp [hkn, hkk, h3]
       ·exact ⟨by omega, hc'⟩
       ·omega
      ·have q0 := @h2; have q1 := @h3; have q2 := @hkk; have q3 := @decide_true; refine kW ?_
       refine bE (k + 1) ?_ ?_ ?_
       ·simp only [go_sem]; simp [hkn, hkk, h3]
       ·exact ⟨by omega, hc'⟩
       ·omega
    ·simp only [decide_eq_false_iff_not] at h2
     have e : k = a.length := by omega
     subst e
     have hcl : dY a b[i] = false := by rw [hc, List.drop_length]; rfl
     rw [hcl, if_neg (by simp)] at hq
     have htl : a.take a.length = a := List.take_length
     have q0 := @htl; refine gU ?_
     refine cnd (b := fO a b[i]) rfl (fun h4 => ?_) (fun h4 => ?_)
     ·rw [if_pos h4] at hq
      refine aF ?_
      refine bE (i + 1, l) ?_ ?_ ?_
      ·simp only [go_sem]; simp
      ·exact ⟨by omega, hq, by simp only; omega⟩
      ·simp only; omega
     ·rw [if_neg (by simp [h4])] at hq
      have hx := idxP_fst (bY b[i].fName) l 0
      have hle := lW (bY b[i].fName) l
      have qH := trivial; repeat' (with_reducible first | refine nY ?_ | (refine mX ?_; try simp only [go_sem]) | refine kD ?_ | refine rD ?_ | refine vL (iU _ _ (bY b[i].fName) l (fun y _ => a4c _ b[i] y rfl) (by omega)) ?_ | refine aO ?_ | fail)
      refine cnd (b := decide (gY (bY b[i].fName) l 0 < 0)) rfl (fun h5 => ?_) (fun h5 => ?_)
      ·have h5' := of_decide_eq_true h5
       have e5 : bM (bY b[i].fName) l = l.length := by
        rcases hx with hx | hx
        ·exact hx.2.2
        ·omega
       rw [e5] at hq
       have qH := trivial; repeat' (with_reducible first | refine nY ?_ | (refine mX ?_; try simp only [go_sem]) | refine kD ?_ | refine rD ?_ | refine vK (iY (l.map aM) (aM b[i]) l.length (by simp) (by simp; omega)) ?_ | refine aO ?_ | fail)
       refine bE (i + 1, dI l.length b[i] l) ?_ ?_ ?_
       ·simp only [go_sem]; simp [dI, aM, ← List.map_take, ← List.map_drop]
       ·exact ⟨by omega, hq, by simp only; rw [jR _ _ _ (Nat.le_refl _)]; omega⟩
       ·simp only; omega
      ·have h5' := of_decide_eq_false h5
       have e5 : gY (bY b[i].fName) l 0 = ((bM (bY b[i].fName) l : Nat) : Int) := by
        rcases hx with hx | hx
        ·omega
        ·simpa using hx.1
       have qH := @e5; repeat' (with_reducible first | refine nY ?_ | (refine mX ?_; try simp only [go_sem, qH]) | refine kD ?_ | refine rD ?_ | refine vK (iY (l.map aM) (aM b[i]) (bM (bY b[i].fName) l) (by simpa using hle) (by simp; omega)) ?_ | refine aO ?_ | fail)
       refine bE (i + 1, dI (bM (bY b[i].fName) l) b[i] l) ?_ ?_ ?_
       ·simp only [go_sem]; simp [dI, aM, ← List.map_take, ← List.map_drop]
       ·exact ⟨by omega, hq, by simp only; rw [jR _ _ _ hle]; omega⟩
       ·simp only; omega
  ·simp only [decide_eq_false_iff_not] at h
   have e : i = b.length := by omega
   subst e
   rw [List.drop_length, mergeL] at hq
   refine aF ?_
   exact aA ⟨⟨_, rfl, by simp only [go_sem, hq]⟩, trivial⟩
theorem jO {α β : Type} (f : α → β) (l : List α) (n : Nat) : (l.map f).take n = (l.take n).map f := List.map_take.symm
theorem jP {α β : Type} (f : α → β) (l : List α) (n : Nat) : (l.map f).drop n = (l.drop n).map f := List.map_drop.symm
theorem a1G (p : TAttr → Bool) (l : List TAttr) (k : Nat) (h : k < l.length) (hk : bM p l = k + bM p (l.drop k)) : bM p l = if p l[k] then k else k + 1 + bM p (l.drop (k + 1)) := by
 rw [hk, a2I p l k h]
 split <;> omega
theorem a0A (a b : TEdit) (ha : a.fSet.length ≤ 1048576) (hb : b.fSet.length ≤ 1048576) : FnC Try.prog 27 [gN a, gN b] (pY (dG a b)) := by
 refine ent Try.func27 rfl Try.call27 rfl (fun C => ?_); simp only [go_sem, st0, Try.ntmps27]
 cases ha0 : a.fOK
 case false =>
  have q0 := @ha0; refine gU ?_
  exact aA ⟨⟨_, rfl, by simp only [go_sem, dG, ha0, Bool.false_and]⟩, trivial⟩
 cases hb0 : b.fOK
 case false =>
  have q0 := @ha0; have q1 := @hb0; refine jH ?_
  exact aA ⟨⟨_, rfl, by simp only [go_sem, dG, ha0, hb0, Bool.and_false]⟩, trivial⟩
 have hm : dG a b = (match mergeL a.fSet a.fSet b.fSet with | none => ⟨false, []⟩ | some l => ⟨true, l⟩) := by simp [dG, ha0, hb0]
 rw [hm]
 clear hm
 have q0 := @ha0; have q1 := @hb0; refine jH ?_
 generalize a.fSet = a at *
 generalize b.fSet = b at *
 refine eY (α := Nat × List TAttr) (fun x => [(6, .o (.s 5)), (7, oi x.1), (30, .o .u)]) (fun x => [(5, .row 95 4 (x.2.map aM) true)]) (fun x => x.1 ≤ b.length ∧ mergeL a a b = mergeL a x.2 (b.drop x.1) ∧ x.2.length ≤ a.length + x.1) (fun x => b.length - x.1) (0, a) (fun _ => ?_) ?_ ?_ (fun x hx => ?_)
 ·simp only [go_sem]
 ·simp only [go_sem]; simp
 ·simp
 ·obtain ⟨i, l⟩ := x
  obtain ⟨hi, hq, hl⟩ := hx
  simp only at hi hq hl
  simp only [go_sem]
  refine aF ?_
  refine cnd rfl (fun h => ?_) (fun h => ?_)
  ·simp only [decide_eq_true_eq, Int.ofNat_lt] at h
   rw [uR a l b i h] at hq
   have q0 := @h; refine gU ?_
   refine eY (α := Nat) (fun k => [(9, ob (fO (a.take k) b[i])), (10, oi k)]) (fun _ => []) (fun k => k ≤ a.length ∧ dY a b[i] = dY (a.drop k) b[i]) (fun k => a.length - k) 0 (fun _ => ?_) ?_ ?_ (fun k hk => ?_)
   ·simp only [go_sem]
   ·simp only [go_sem]; simp [fO]
   ·simp
   ·obtain ⟨hk, hc⟩ := hk
    simp only [go_sem]
    refine aF ?_
    refine cnd rfl (fun h2 => ?_) (fun h2 => ?_)
    ·simp only [decide_eq_true_eq, Int.ofNat_lt] at h2
     rw [uS a b[i] k h2] at hc
     have hkn := uT a b[i] k h2
     by_cases h3 : a[k].fName = b[i].fName
     case neg =>
      have hc' : dY a b[i] = dY (a.drop (k + 1)) b[i] := by simpa [h3] using hc
      cases hkk : fO (a.take k) b[i]
      ·have q0 := @h2; have q1 := @h3; have q2 := @hkk; have q3 := @decide_false; refine kW ?_
       refine bE (k + 1) ?_ ?_ ?_
       ·simp only [go_sem]; simp [hkn, hkk, h3]
       ·exact ⟨by omega, hc'⟩
       ·omega
      ·have q0 := @h2; have q1 := @h3; have q2 := @hkk; have q3 := @decide_false; refine kW ?_
       refine bE (k + 1) ?_ ?_ ?_
       ·simp only [go_sem]; simp [hkn, hkk, h3]
       ·exact ⟨by omega, hc'⟩
       ·omega
     have q0 := @h2; have q1 := @h3; have q2 := @decide_true; refine pO ?_
     refine cnd (b := !(lX a[k].fValue b[i].fValue)) rfl (fun h4 => ?_) (fun h4 => ?_)
     ·have hn : mergeL a a b = none := by rw [hq, if_pos (by rw [hc, h4]; simp [h3])]
      refine aF ?_
      exact aA ⟨⟨_, rfl, by simp only [go_sem, hn]⟩, trivial⟩
     ·have hc' : dY a b[i] = dY (a.drop (k + 1)) b[i] := by rw [hc, h4]; simp
      cases hkk : fO (a.take k) b[i]
      ·have q0 := @h2; have q1 := @h3; have q2 := @hkk; have q3 := @decide_true; refine kW ?_
       refine bE (k + 1) ?_ ?_ ?_
       ·simp only [go_sem]; simp [hkn, hkk, h3]
       ·exact ⟨by omega, hc'⟩
       ·omega
      ·have q0 := @h2; have q1 := @h3; have q2 := @hkk; have q3 := @decide_true; refine kW ?_
       refine bE (k + 1) ?_ ?_ ?_
       ·simp only [go_sem]; simp [hkn, hkk, h3]
       ·exact ⟨by omega, hc'⟩
       ·omega
    ·simp only [decide_eq_false_iff_not] at h2
     have e : k = a.length := by omega
     subst e
     have hcl : dY a b[i] = false := by rw [hc, List.drop_length]; rfl
     rw [hcl, if_neg (by simp)] at hq
     have htl : a.take a.length = a := List.take_length
     have q0 := @htl; refine gU ?_
     refine cnd (b := fO a b[i]) rfl (fun h4 => ?_) (fun h4 => ?_)
     ·rw [if_pos h4] at hq
      refine aF ?_
      refine bE (i + 1, l) ?_ ?_ ?_
      ·simp only [go_sem]; simp
      ·exact ⟨by omega, hq, by simp only; omega⟩
      ·simp only; omega
     ·rw [if_neg (by simp [h4])] at hq
      have hle := lW (bY b[i].fName) l
      refine aF ?_
      refine WP.sees (Sees.frz 5 rfl) ?_
      simp only [go_sem]
      refine eY (α := Nat) (fun n => [(11, oi n)]) (fun _ => []) (fun n => n ≤ l.length ∧ bM (bY b[i].fName) l = n + bM (bY b[i].fName) (l.drop n)) (fun n => l.length - n) 0 (fun _ => ?_) ?_ ?_ (fun n hn => ?_)
      ·simp only [go_sem]
      ·simp only [go_sem]; simp
      ·simp
      ·obtain ⟨hn, hf⟩ := hn
       simp only [go_sem]
       by_cases h5 : n < l.length
       ·have hfx := a1G (bY b[i].fName) l n h5 hf
        have h5' : ((n : Int) < (l.length : Int)) = True := by simp [h5]
        have q0 := @h5; have q1 := @h5'; have q2 := @decide_true; refine pO ?_
        refine cnd (b := fU l[n].fName b[i].fName) rfl (fun h6 => ?_) (fun h6 => ?_)
        ·rw [if_neg (by simp [bY, h6])] at hfx
         refine aF ?_
         refine bE (n + 1) ?_ ?_ ?_
         ·simp only [go_sem]; simp
         ·exact ⟨by omega, hfx⟩
         ·omega
        ·rw [if_pos (by simp [bY, h6])] at hfx
         have hn1 : ((0 : Int) ≤ (n : Int)) := by omega
         have qH := aI @h5 (aI @jO (aI @jP (aI @a3c (aI @a3d @a6q)))); repeat' (with_reducible first | refine nY ?_ | (refine mX ?_; try simp only [go_sem, qH]) | refine kD ?_ | (apply rE [0,4,6,7] [] [1,2,3,5] [1,2,3,5] ((.c 0 [] [1,2,3,5] (.c 4 [] [5] (.c 6 [] [] (.c 7 [8] [8] .n .n) .n) (.c 6 [] [1,2,3] (.c 4 [] [] (.c 7 [8] [8] .n .n) .n) .n)) (.c 6 [] [1,2,3] (.c 0 [] [1,2,3] (.c 4 [] [] (.c 7 [8] [8] .n .n) .n) .n) .n))) (by simp only [go_sem]; rfl) (by simp only [go_sem]; rfl) (by simp only [go_sem]; rfl) (by decide +kernel); (focus simp only [go_sem]; done)) | exact bP | refine aU (uX ?_) ?_ | refine aV (aX ?_) ?_ | refine aW (aX ?_) ?_ | exact bU | (refine bQ [(7, 8)] (by simp only [go_sem]; rfl) ?_; exact rfl) | exact oH | exact uB | refine rD ?_ | refine aO ?_ | fail)
         ·refine zT [(5, 7)] (i + 1, dI (bM (bY b[i].fName) l) b[i] l) (by simp only [go_sem]; rfl) ?_ ?_ ?_
          ·simp only [go_sem]; simp [hfx, dI, aM, ← List.map_take, ← List.map_drop]
          ·exact ⟨by omega, hq, by simp only; rw [jR _ _ _ hle]; omega⟩
          ·simp only; omega
       ·have e : n = l.length := by omega
        have hfx : bM (bY b[i].fName) l = n := by rw [hf, e, List.drop_length]; rfl
        have h5' : ((n : Int) < (l.length : Int)) = False := by simp [h5]
        have qH := aI @h5 (aI @h5' (aI @decide_false (aI @jO (aI @jP (aI @a3c (aI @a3d @a6q)))))); repeat' (with_reducible first | refine nY ?_ | (refine mX ?_; try simp only [go_sem, qH]) | refine kD ?_ | (apply rE [0,4,6,7] [] [1,2,3,5] [1,2,3,5] ((.c 0 [] [1,2,3,5] (.c 4 [] [5] (.c 6 [] [] (.c 7 [8] [8] .n .n) .n) (.c 6 [] [1,2,3] (.c 4 [] [] (.c 7 [8] [8] .n .n) .n) .n)) (.c 6 [] [1,2,3] (.c 0 [] [1,2,3] (.c 4 [] [] (.c 7 [8] [8] .n .n) .n) .n) .n))) (by simp only [go_sem]; rfl) (by simp only [go_sem]; rfl) (by simp only [go_sem]; rfl) (by decide +kernel); (focus simp only [go_sem]; done)) | exact bP | refine aU (uX ?_) ?_ | refine aV (aX ?_) ?_ | refine aW (aX ?_) ?_ | exact bU | (refine bQ [(7, 8)] (by simp only [go_sem]; rfl) ?_; exact rfl) | exact oH | exact uB | refine rD ?_ | refine aO ?_ | fail)
        ·refine zT [(5, 7)] (i + 1, dI (bM (bY b[i].fName) l) b[i] l) (by simp only [go_sem]; rfl) ?_ ?_ ?_
         ·simp only [go_sem]; simp [hfx, dI, aM, ← List.map_take, ← List.map_drop]
         ·exact ⟨by omega, hq, by simp only; rw [jR _ _ _ hle]; omega⟩
         ·simp only; omega
  ·simp only [decide_eq_false_iff_not] at h
   have e : i = b.length := by omega
   subst e
   rw [List.drop_length, mergeL] at hq
   refine aF ?_
   exact aA ⟨⟨_, rfl, by simp only [go_sem, hq]⟩, trivial⟩
end Go.Proofs.Ytolgdibgnndoaaa
end
section
set_option maxRecDepth 100000
namespace Go.Sx
open Go Go.RowKit
structure DelK (k : Nat) (xs : List (List Value × Bool)) (i j : Nat) (F : List Value) : Prop where
 un : ∀ x ∈ xs, x.1.length = k
 len : F.length = xs.length * k
 ij : i < j
 jn : j ≤ xs.length
 lo : F.take (i * k) = (((xs.take j).filter fun x => !x.2).map (·.1)).flatten
 hi : F.drop (j * k) = ((xs.drop j).map (·.1)).flatten
 il : i = ((xs.take j).filter fun x => !x.2).length
theorem a4e {k : Nat} {xs : List (List Value × Bool)} (h : ∀ x ∈ xs, x.1.length = k) : ((xs.map (·.1)).flatten).length = xs.length * k := by
 rw [xI (sz := k) fun r hr => by obtain ⟨x, hx, rfl⟩ := List.mem_map.1 hr; exact h x hx, List.length_map]
theorem DelK.at {k : Nat} {xs : List (List Value × Bool)} {i j : Nat} {F : List Value} (h : DelK k xs i j F) (hj : j < xs.length) {t : Nat} {v : Value} (ht : xs[j].1[t]? = some v) : F[j * k + t]? = some v := by
 have h0 : (F.drop (j * k))[t]? = ((xs.drop j).map (·.1)).flatten[t]? := by rw [h.hi]
 rw [List.getElem?_drop] at h0
 rw [h0, List.drop_eq_getElem_cons hj, List.map_cons, List.flatten_cons, List.getElem?_append_left (List.getElem?_eq_some_iff.1 ht).1]
 exact ht
theorem a5B (xs : List (List Value × Bool)) (k : Nat) (h : ∀ j (hj : j < xs.length), j < k → xs[j].2 = false) : (xs.take k).filter (fun x => !x.2) = xs.take k := by
 refine List.filter_eq_self.2 fun x hx => ?_
 obtain ⟨j, hj, rfl⟩ := List.mem_iff_getElem.1 hx
 simp only [List.length_take] at hj
 rw [List.getElem_take, h j (by omega) (by omega)]; rfl
theorem DelK.start {k n : Nat} {xs : List (List Value × Bool)} (hu : ∀ x ∈ xs, x.1.length = k) (hn : n < xs.length) (h : ∀ j (hj : j < xs.length), j < n → xs[j].2 = false) (hp : xs[n].2 = true) : DelK k xs n (n + 1) (xs.map (·.1)).flatten := by
 have e1 : (xs.take (n + 1)).filter (fun x => !x.2) = xs.take n := by
  rw [List.take_succ_eq_append_getElem hn, List.filter_append, a5B xs n h]
  simp [hp]
 have hu' : ∀ r ∈ xs.map (·.1), r.length = k := fun r hr => by obtain ⟨x, hx, rfl⟩ := List.mem_map.1 hr; exact hu x hx
 refine ⟨hu, a4e hu, by omega, by omega, ?_, ?_, ?_⟩
 ·rw [e1, List.map_take, tZ n hu']
 ·rw [List.map_drop, jQ (n + 1) hu']
 ·rw [e1]; simp; omega
theorem DelK.keep {k : Nat} {xs : List (List Value × Bool)} {i j : Nat} {F : List Value} (h : DelK k xs i j F) (hj : j < xs.length) (hp : xs[j].2 = false) : DelK k xs (i + 1) (j + 1) (F.take (i * k) ++ xs[j].1 ++ F.drop (i * k + xs[j].1.length)) := by
 have e1 : (xs.take (j + 1)).filter (fun x => !x.2) = (xs.take j).filter (fun x => !x.2) ++ [xs[j]] := by
  rw [List.take_succ_eq_append_getElem hj, List.filter_append]
  simp [hp]
 have hl := h.len
 have hij := h.ij
 have hu := h.un xs[j] (List.getElem_mem hj)
 have hle : (i + 1) * k ≤ j * k := Nat.mul_le_mul_right k hij
 have hle2 : (j + 1) * k ≤ xs.length * k := Nat.mul_le_mul_right k hj
 rw [Nat.add_mul] at hle hle2
 simp only [Nat.one_mul] at hle hle2
 have hFl : i * k + k ≤ F.length := by omega
 refine ⟨h.un, ?_, by omega, by omega, ?_, ?_, ?_⟩
 ·simp only [List.length_append, List.length_take, List.length_drop, hu]; omega
 ·rw [List.take_append_of_le_length (by simp [hu, Nat.add_mul]; omega), List.take_of_length_le (by simp [hu, Nat.add_mul]; omega), e1, List.map_append, List.flatten_append, h.lo]; simp
 ·rw [List.drop_append, List.drop_of_length_le (by simp [hu, Nat.add_mul]; omega), List.nil_append, List.drop_drop]
  have e2 : F.drop ((j + 1) * k) = ((xs.drop (j + 1)).map (·.1)).flatten := by
   have hu' : ∀ r ∈ (xs.drop j).map (·.1), r.length = k := fun r hr => by obtain ⟨x, hx, rfl⟩ := List.mem_map.1 hr; exact h.un x (List.mem_of_mem_drop hx)
   have := jQ 1 hu'
   rw [Nat.add_mul, ← List.drop_drop, h.hi, ← this, ← List.map_drop, List.drop_drop]
  rw [← e2]
  congr 1
  simp only [List.length_append, List.length_take, hu, Nat.add_mul]
  omega
 ·rw [e1, List.length_append, ← h.il]; rfl
theorem DelK.skip {k : Nat} {xs : List (List Value × Bool)} {i j : Nat} {F : List Value} (h : DelK k xs i j F) (hj : j < xs.length) (hp : xs[j].2 = true) : DelK k xs i (j + 1) F := by
 have e1 : (xs.take (j + 1)).filter (fun x => !x.2) = (xs.take j).filter (fun x => !x.2) := by
  rw [List.take_succ_eq_append_getElem hj, List.filter_append]
  simp [hp]
 have hij := h.ij
 refine ⟨h.un, h.len, by omega, by omega, by rw [e1]; exact h.lo, ?_, by rw [e1]; exact h.il⟩
 have hu' : ∀ r ∈ (xs.drop j).map (·.1), r.length = k := fun r hr => by obtain ⟨x, hx, rfl⟩ := List.mem_map.1 hr; exact h.un x (List.mem_of_mem_drop hx)
 have := jQ 1 hu'
 rw [Nat.add_mul, ← List.drop_drop, h.hi, ← this, ← List.map_drop, List.drop_drop]
theorem DelK.fin {k : Nat} {xs : List (List Value × Bool)} {i : Nat} {F : List Value} (h : DelK k xs i xs.length F) : F.take (i * k) = ((xs.filter fun x => !x.2).map (·.1)).flatten ∧ i = (xs.filter fun x => !x.2).length := by
 have h1 := h.lo
 have h2 := h.il
 rw [List.take_length] at h1 h2
 exact ⟨h1, h2⟩
theorem RowAt.other {w wr W : World} {b ty N : Nat} {F : List Value} (h : RowAt w wr b ty N F) (hb : Below wr.heap.size wr W) : RowAt w W b ty N F := h.behind hb
def gH {τ : Type} (k : Nat) (p : τ → Bool) : List Value → List τ → List (List Value × Bool)
 | _, [] => []
 | ys, x :: l => (ys.take k, p x) :: gH k p (ys.drop k) l
def a0H {α τ : Type} (k : Nat) (p : τ → Bool) : List α → List τ → List α
 | _, [] => []
 | ys, x :: l => (if p x then [] else ys.take k) ++ a0H k p (ys.drop k) l
theorem xQ {τ : Type} (k : Nat) (p : τ → Bool) : ∀ (l : List τ) (ys : List Value), (gH k p ys l).length = l.length
 | [], _ => rfl
 | x :: l, ys => by simp [gH, xQ k p l]
theorem zK {τ : Type} (k : Nat) (p : τ → Bool) : ∀ (l : List τ) (ys : List Value), ys.length = l.length * k → ∀ x ∈ gH k p ys l, x.1.length = k
 | [], _, _, x, hx => by simp [gH] at hx
 | y :: l, ys, h, x, hx => by
  rw [List.length_cons, Nat.add_mul] at h
  rcases List.mem_cons.1 hx with rfl | hx
  ·simp; omega
  ·exact zK k p l _ (by simp; omega) x hx
theorem xR {τ : Type} (k : Nat) (p : τ → Bool) : ∀ (l : List τ) (ys : List Value) (j : Nat) (hj : j < l.length) (hj' : j < (gH k p ys l).length), (gH k p ys l)[j] = ((ys.drop (j * k)).take k, p l[j])
 | y :: l, ys, 0, _, _ => by simp [gH]
 | y :: l, ys, j + 1, hj, hj' => by
  simp only [gH, List.getElem_cons_succ]
  rw [xR k p l (ys.drop k) j (by simpa using hj)]
  rw [List.drop_drop, Nat.add_mul, Nat.one_mul, Nat.add_comm]
theorem uV {τ : Type} (k : Nat) (p : τ → Bool) : ∀ (l : List τ) (ys : List Value), ys.length = l.length * k → ((gH k p ys l).map (·.1)).flatten = ys
 | [], ys, h => by simp at h; subst h; rfl
 | x :: l, ys, h => by
  rw [List.length_cons, Nat.add_mul] at h
  simp only [gH, List.map_cons, List.flatten_cons]
  rw [uV k p l _ (by simp; omega), List.take_append_drop]
theorem xS {τ : Type} (k : Nat) (p : τ → Bool) : ∀ (l : List τ) (ys : List Value), (((gH k p ys l).filter fun x => !x.2).map (·.1)).flatten = a0H k p ys l ∧ ((gH k p ys l).filter fun x => !x.2).length = (l.filter fun x => !p x).length
 | [], ys => ⟨rfl, rfl⟩
 | x :: l, ys => by
  obtain ⟨h1, h2⟩ := xS k p l (ys.drop k)
  simp only [gH, List.filter_cons, a0H]
  cases p x
  ·simp [h1, h2]
  ·simp [h1, h2]
theorem a1K {τ : Type} (k : Nat) (p : τ → Bool) : ∀ (l : List τ) (Ss : List (List Nat)), (a0H k p Ss l).Sublist Ss
 | [], _ => List.nil_sublist _
 | x :: l, Ss => by
  simp only [a0H]
  conv => rhs; rw [← List.take_append_drop k Ss]
  refine List.Sublist.append ?_ (a1K k p l _)
  split
  ·exact List.nil_sublist _
  ·exact List.Sublist.refl _
theorem LayL.sel {τ : Type} {V : View} {k : Nat} (enc : τ → List D) (p : τ → Bool) (he : ∀ x, (enc x).length = k) : ∀ (l : List τ) (ys : List Value) (Ss : List (List Nat)), LayL V (l.map enc).flatten ys Ss → LayL V ((l.filter fun x => !p x).map enc).flatten (a0H k p ys l) (a0H k p Ss l)
 | [], ys, Ss, h => LayL.nil V
 | x :: l, ys, Ss, h => by
  have h1 := h.take k
  have h2 := h.drop k
  simp only [List.map_cons, List.flatten_cons] at h1 h2
  rw [List.take_left' (he x)] at h1
  rw [List.drop_left' (he x)] at h2
  have ih := LayL.sel enc p he l _ _ h2
  simp only [a0H, List.filter_cons]
  cases p x
  ·simp only [Bool.not_false, if_true, Bool.false_eq_true, if_false, List.map_cons, List.flatten_cons]
   exact h1.append ih
  ·simp only [Bool.not_true, Bool.false_eq_true, if_false, if_true, List.nil_append]
   exact ih
theorem a8a {V : View} {ds : List D} {ys : List Value} {Ss : List (List Nat)} (h : LayL V ds ys Ss) : cL [] V (ds.map At.d) ys :=
 ⟨by simp [h.1], fun j a y h1 h2 => by
  rw [List.getElem?_map] at h1
  cases hd : ds[j]? with
  | none => rw [hd] at h1; cases h1
  | some d =>
   rw [hd] at h1
   cases h1
   have hj : j < Ss.length := by rw [h.2.1]; exact (List.getElem?_eq_some_iff.1 hd).1
   exact ⟨_, h.2.2 j d y _ hd h2 (List.getElem?_eq_getElem hj)⟩⟩
theorem LayL.chunk {τ : Type} {V : View} {k : Nat} {enc : τ → List D} (he : ∀ x, (enc x).length = k) {l : List τ} {ys : List Value} {Ss : List (List Nat)} (h : LayL V (l.map enc).flatten ys Ss) (j : Nat) (hj : j < l.length) : LayL V (enc l[j]) ((ys.drop (j * k)).take k) ((Ss.drop (j * k)).take k) := by
 have hu : ∀ r ∈ l.map enc, r.length = k := fun r hr => by obtain ⟨x, _, rfl⟩ := List.mem_map.1 hr; exact he x
 have h1 := (h.drop (j * k)).take k
 rw [← jQ j hu, List.drop_eq_getElem_cons (by simpa using hj), List.flatten_cons, List.getElem_map, List.take_left' (he _)] at h1
 exact h1
theorem sQ {w W : World} {c : Array Value} {ty : Nat} (h : Below (w.alloc (.cells c ty)).heap.size (w.alloc (.cells c ty)) W) {t : Nat} {v : Value} (hv : c.toList[t]? = some v) : W.cell? ⟨w.heap.size, t, none⟩ = some v := by
 have hh : (w.alloc (.cells c ty)).heap = w.heap.push (.cells c ty) := rfl
 have h1 : W.heap[w.heap.size]? = some (.cells c ty) := by
  rw [h.block w.heap.size (by rw [hh, Array.size_push]; omega), hh, Array.getElem?_push, if_pos rfl]
 simp only [World.cell?, h1, Option.isSome_none, Bool.false_eq_true, if_false]
 rw [← Array.getElem?_toList]; exact hv
theorem a1L {α : Type} {l m : List (List α)} (h : l.Sublist m) : l.flatten.Sublist m.flatten := by
 induction h with
 | slnil => exact List.Sublist.refl _
 | cons a _ ih => exact ih.trans (by simp)
 | cons_cons a _ ih => simp only [List.flatten_cons]; exact (List.Sublist.refl a).append ih
end Go.Sx
end
section
namespace Go.Proofs.Ytolgdibgnndoaaa
open Go Go.Sx Go.RowKit Go.Proofs Go.Lib
set_option maxHeartbeats 4000000 in
set_option maxRecDepth 1000000 in
theorem a0G (b cap : Nat) (xs : List (List Value × Bool)) (w : World) (g : Nat) (lb : Array Value) (hR : RowAt w w b 95 (cap * 4) (xs.map (·.1)).flatten) (hn : xs.length ≤ cap) (hbig : cap ≤ 9223372036854775807) (hun : ∀ x ∈ xs, x.1.length = 4) (h1c : ∀ x ∈ xs, ∀ v ∈ x.1, v.oneCell' = true) (kk : Int)
    (hk : (kk = -1 ∧ ∀ x ∈ xs, x.2 = false) ∨ ∃ k0 : Nat, kk = k0 ∧ ∃ h : k0 < xs.length, xs[k0].2 = true ∧ ∀ j (hj : j < xs.length), j < k0 → xs[j].2 = false)
    (eg : ∀ args w, (callFunc g args).run Try.prog w = .ok (.enter g args) w)
    (hIF : Calls Try.prog 63 #[.slice (some ⟨b, 0, none⟩) xs.length cap, .func (.func g) #[] lb] w fun e w' => e = .returned (.int .i64 kk) ∧ Below w.heap.size w w')
    (hp : ∀ W F x, x ∈ xs → RowAt w W b 95 (cap * 4) F → Calls Try.prog g (#[.agg x.1.toArray] ++ lb) W fun e w' => e = .returned (.bool x.2) ∧ Below W.heap.size W w') :
    Calls Try.prog 106 #[.slice (some ⟨b, 0, none⟩) xs.length cap, .func (.func g) #[] lb] w fun e w' =>
     e = .returned (.slice (some ⟨b, 0, none⟩) (xs.filter fun x => !x.2).length cap) ∧ ∃ G, RowAt w w' b 95 (cap * 4) (((xs.filter fun x => !x.2).map (·.1)).flatten ++ G) := by
 have e6 := Try.call63
 rcases hk with ⟨rfl, hall⟩ | ⟨k0, rfl, hk0, ht, hall⟩
 ·have hkeep : (xs.filter fun x => !x.2) = xs := List.filter_eq_self.2 fun x hx => by rw [hall x hx]; rfl
  rw [hkeep]
  have HR : Aside (RowAt w w b 95 (cap * 4) (xs.map (·.1)).flatten) := hR
  clear hR hp h1c hun
  go_enter Try.func106, Try.ntmps106
  go_wp2_with fail
  refine hIF.mono ?_
  rintro e w' ⟨rfl, hb⟩
  go_wp2
  go_ret
  exact ⟨rfl, [], by simpa using HR.out.behind hb⟩
 ·have hne1 : ((k0 : Int) == -1) = false := beq_eq_false_iff_ne.2 (by omega)
  have HS : Aside (DelK 4 xs k0 (k0 + 1) (xs.map (·.1)).flatten) := DelK.start hun hk0 hall ht
  have HR : Aside (RowAt w w b 95 (cap * 4) (xs.map (·.1)).flatten) := hR
  have HC : Aside _ := hp
  have HO : Aside _ := h1c
  clear hR hp ht hall h1c hun
  go_enter Try.func106, Try.ntmps106
  go_wp2_with fail
  refine hIF.mono ?_
  rintro e w' ⟨rfl, hb⟩
  go_wp2
  go_loopg [5, 6, 7] xs.length (fun gg s5 s6 _ wr => ∃ (i j : Nat) (F : List Value), s5 = .int .i64 i ∧ s6 = .int .i64 j ∧ j ≤ xs.length ∧ xs.length - j ≤ gg ∧ Aside (RowAt w wr b 95 (cap * 4) F) ∧ Aside (DelK 4 xs i j F))
  case atStart => exact ⟨k0, k0 + 1, _, rfl, by go_num, by omega, by omega, HR.out.behind hb, HS⟩
  case round =>
   obtain ⟨i, j, F, rfl, rfl, hjd, hgg, R2, I2⟩ := hrel
   have hI := I2.out
   have hlF := hI.len
   have hij := hI.ij
   by_cases hlt : j < xs.length
   ·have hltz : (j : Int) < (xs.length : Int) := by omega
    obtain ⟨v0, v1, v2, v3, hu⟩ : ∃ v0 v1 v2 v3, xs[j].1 = [v0, v1, v2, v3] := by
     have := hI.un xs[j] (List.getElem_mem hlt)
     match hq : xs[j].1, this with
     | [v0, v1, v2, v3], _ => exact ⟨v0, v1, v2, v3, rfl⟩
    have c0 : wr.cell? ⟨b, j * 4, none⟩ = some v0 := R2.out.cell (hI.at hlt (t := 0) (by rw [hu]; rfl))
    have c1 : wr.cell? ⟨b, j * 4 + 1, none⟩ = some v1 := R2.out.cell (hI.at hlt (t := 1) (by rw [hu]; rfl))
    have c2 : wr.cell? ⟨b, j * 4 + 2, none⟩ = some v2 := R2.out.cell (hI.at hlt (t := 2) (by rw [hu]; rfl))
    have c3 : wr.cell? ⟨b, j * 4 + 3, none⟩ = some v3 := R2.out.cell (hI.at hlt (t := 3) (by rw [hu]; rfl))
    have o0 : v0.oneCell' = true := HO.out xs[j] (List.getElem_mem hlt) v0 (by rw [hu]; simp)
    have s0 := fun (W : World) (a : Addr) (m : Mode) => run_store Try.prog W a v0 m o0
    have o1 : v1.oneCell' = true := HO.out xs[j] (List.getElem_mem hlt) v1 (by rw [hu]; simp)
    have s1 := fun (W : World) (a : Addr) (m : Mode) => run_store Try.prog W a v1 m o1
    have o2 : v2.oneCell' = true := HO.out xs[j] (List.getElem_mem hlt) v2 (by rw [hu]; simp)
    have s2 := fun (W : World) (a : Addr) (m : Mode) => run_store Try.prog W a v2 m o2
    have o3 : v3.oneCell' = true := HO.out xs[j] (List.getElem_mem hlt) v3 (by rw [hu]; simp)
    have s3 := fun (W : World) (a : Addr) (m : Mode) => run_store Try.prog W a v3 m o3
    have C : Aside (xs[j].1 = [v0, v1, v2, v3]) := hu
    have hcall := HC.out (wr.alloc (.cells #[v0, v1, v2, v3] 95)) F xs[j] (List.getElem_mem hlt) (R2.out.behind (jA wr _))
    rw [hu] at hcall
    clear hu hI
    cases hq : xs[j].2 with
    | false =>
     rw [hq] at hcall
     go_wp2_with fail
     refine hcall.mono ?_
     rintro e w'' ⟨rfl, hb'⟩
     have d0 : w''.cell? ⟨wr.heap.size, 0, none⟩ = some v0 := sQ hb' rfl
     have d1 : w''.cell? ⟨wr.heap.size, 1, none⟩ = some v1 := sQ hb' rfl
     have d2 : w''.cell? ⟨wr.heap.size, 2, none⟩ = some v2 := sQ hb' rfl
     have d3 : w''.cell? ⟨wr.heap.size, 3, none⟩ = some v3 := sQ hb' rfl
     have R3 := (R2.out.behind (jA wr _)).behind hb'
     have hil : i * 4 + 4 ≤ F.length := by
      have : (i + 1) * 4 ≤ xs.length * 4 := Nat.mul_le_mul_right _ (by omega)
      rw [hlF]; rw [Nat.add_mul] at this; omega
     have e0' := R3.cell (List.getElem?_eq_getElem (show i * 4 < F.length by omega))
     have f0' := R3.frozen (i * 4)
     have e1' := R3.cell (List.getElem?_eq_getElem (show i * 4 + 1 < F.length by omega))
     have f1' := R3.frozen (i * 4 + 1)
     have e2' := R3.cell (List.getElem?_eq_getElem (show i * 4 + 2 < F.length by omega))
     have f2' := R3.frozen (i * 4 + 2)
     have e3' := R3.cell (List.getElem?_eq_getElem (show i * 4 + 3 < F.length by omega))
     have f3' := R3.frozen (i * 4 + 3)
     have A3 : Aside (RowAt w w'' b 95 (cap * 4) F) := R3
     have hbn : ¬ (b = wr.heap.size) := by have := R2.out.lt; omega
     clear R3
     generalize F[i * 4] = old0 at e0'
     generalize F[i * 4 + 1] = old1 at e1'
     generalize F[i * 4 + 2] = old2 at e2'
     generalize F[i * 4 + 3] = old3 at e3'
     go_wp2
     go_roundg (xs.length - (j + 1))
     case measure => omega
     case rel =>
      refine ⟨i + 1, j + 1, F.take (i * 4) ++ xs[j].1 ++ F.drop (i * 4 + xs[j].1.length), by go_num, by go_num, by omega, Nat.le_refl _, (show Aside _ from ?_), (show Aside _ from ?_)⟩
      ·rw [C.out]
       have h := A3.out.set [v0, v1, v2, v3] (s := i * 4) (by omega) (by have := A3.out.le; simp; omega)
       exact h
      ·exact I2.out.keep hlt hq
    | true =>
     rw [hq] at hcall
     go_wp2_with fail
     refine hcall.mono ?_
     rintro e w'' ⟨rfl, hb'⟩
     go_wp2
     go_roundg (xs.length - (j + 1))
     case measure => omega
     case rel => exact ⟨i, j + 1, F, rfl, by go_num, by omega, Nat.le_refl _, (R2.out.behind (jA wr _)).behind hb', I2.out.skip hlt hq⟩
   ·obtain rfl : j = xs.length := by omega
    have hltz : ¬ (xs.length : Int) < (xs.length : Int) := by omega
    have hRN := R2.out.le
    obtain ⟨hlo, hil⟩ := hI.fin
    have hle : i * 4 ≤ xs.length * 4 := Nat.mul_le_mul_right _ (by omega)
    have hsub : (xs.length - i) * 4 = xs.length * 4 - i * 4 := Nat.sub_mul ..
    have hzl := qA (.agg #[.string ⟨#[]⟩, .int .i64 0, .int .i64 0, .string ⟨#[]⟩] : Value).cells (xs.length - i)
    have hzs : (.agg #[.string ⟨#[]⟩, .int .i64 0, .int .i64 0, .string ⟨#[]⟩] : Value).cells.size = 4 := rfl
    rw [hzs] at hzl
    have hcl : ∀ ty, (Builtin.clear_ #[46] ty #[.slice (some ⟨b, i * 4, none⟩) (xs.length - i) (cap - i)]).run Try.prog wr = .ok (.tuple #[]) (wr.setCells b (i * 4) (Builtin.zeroCells (.agg #[.string ⟨#[]⟩, .int .i64 0, .int .i64 0, .string ⟨#[]⟩] : Value).cells (xs.length - i)).toList) :=
     fun ty => a1H wr _ _ ty _ Try.underlying46 (fun w => Try.zeroValue95 w) b (i * 4) _ _ (by omega) (fun t ht => R2.out.there (by rw [hzs] at ht; omega)) (fun t ht => R2.out.frozen _) (yH (by intro v hv; simp [Value.cells] at hv; rcases hv with rfl | rfl | rfl | rfl <;> rfl) _)
    have HE : Aside (∃ G, RowAt w (wr.setCells b (i * 4) (Builtin.zeroCells (.agg #[.string ⟨#[]⟩, .int .i64 0, .int .i64 0, .string ⟨#[]⟩] : Value).cells (xs.length - i)).toList) b 95 (cap * 4) (((xs.filter fun x => !x.2).map (·.1)).flatten ++ G)) := by
     have := R2.out.set (Builtin.zeroCells (.agg #[.string ⟨#[]⟩, .int .i64 0, .int .i64 0, .string ⟨#[]⟩] : Value).cells (xs.length - i)).toList (s := i * 4) (by omega) (by rw [hzl]; omega)
     rw [hlo, List.append_assoc] at this
     exact ⟨_, this⟩
    have HL : Aside (i = (xs.filter fun x => !x.2).length) := hil
    clear hil hlo hle hI hzl
    go_wp2
    go_ret
    exact ⟨by rw [← HL.out]; rfl, HE.out⟩
set_option maxHeartbeats 4000000 in
set_option maxRecDepth 1000000 in
theorem sP (ao : Option Addr) (n cap : Nat) (w : World) (g : Nat) (lb : Array Value)
    (hIF : Calls Try.prog 63 #[.slice ao n cap, .func (.func g) #[] lb] w fun e w' => e = .returned (.int .i64 (-1)) ∧ Below w.heap.size w w') :
    Calls Try.prog 106 #[.slice ao n cap, .func (.func g) #[] lb] w fun e w' => e = .returned (.slice ao n cap) ∧ Below w.heap.size w w' := by
 have e6 := Try.call63
 go_enter Try.func106, Try.ntmps106
 go_wp2_with fail
 refine hIF.mono ?_
 rintro e w' ⟨rfl, hb⟩
 go_wp2
 go_ret
 exact ⟨rfl, hb⟩
end Go.Proofs.Ytolgdibgnndoaaa
end
section
set_option maxRecDepth 100000
set_option maxHeartbeats 4000000
namespace Go.Proofs.Ytolgdibgnndoaaa
open Go Go.Sx Go.RowKit Go.Proofs
theorem sO (f : Nat) (c : List D) (p : TAttr → Bool) (l : List TAttr) (hf : ∀ s ∈ l, FnC Try.prog f [a1A s, .o (.q c)] (ob (p s))) (hl : l.length ≤ 8388608) :
    FnI Try.prog 106 95 4 (l.map aM) [.o (.f f [c])] false ((l.filter fun x => !p x).map aM) := by
 have he : ∀ x : TAttr, (aM x).length = 4 := fun x => rfl
 refine ⟨Try.call106, fun V w y S vs hm hrow hnd hlt hargs => ?_⟩
 have hl1 : vs.length = 1 := by have := hargs.1; simpa using this
 match vs, hl1 with
 | [v], _ =>
  have hv := hargs.2 0 _ v rfl rfl
  obtain ⟨lb, rfl, hlb, hcaps⟩ := hv
  have hcl : cSV [] V (.o (.f f [c])) (.func (.func f) #[] lb.toArray) := ⟨lb, rfl, hlb, hcaps⟩
  have hone : ∃ pv, lb = [pv] := by
   match lb, hlb with
   | [pv], _ => exact ⟨pv, rfl⟩
  obtain ⟨pv, rfl⟩ := hone
  have hq : cSV [] V (.o (.q c)) pv := hcaps 0 c pv rfl rfl
  have hI := iU f c p l hf hl
  obtain ⟨hu, h⟩ := xJ hrow
  rcases h with ⟨⟨ao, rfl⟩, hnil, rfl⟩ | ⟨b, cap, ys, Ss, rfl, e3, e4, hR, el, eL, eV, rfl⟩
  ·have hl0 : l = [] := by simpa using hnil
   subst hl0
   have hIF := hI.calls V w [.slice ao 0 0, .func (.func f) #[] #[pv]] (a6a _ _) hm ⟨rfl, fun i s y e1 e2 => by
    match i with
    | 0 => simp at e1 e2; subst e1; subst e2; exact a5x ao
    | 1 => simp at e1 e2; subst e1; subst e2; exact hcl
    | i + 2 => simp at e1⟩
   have hD := sP ao 0 0 w f #[pv] (hIF.mono (by
    rintro e w' ⟨y, rfl, hd⟩
    exact ⟨by simpa [gY] using a0F hd, hd.below⟩))
   refine hD.mono ?_
   rintro e w' ⟨rfl, hb⟩
   exact ⟨_, rfl, (fun h => (by cases h)), ⟨kY _ hb, [], ⟨by simp, [], [], LayL.nil V, .inl ⟨⟨ao, rfl⟩, rfl, rfl⟩⟩, hnd, (fun b hb => .inl hb), (fun _ => rfl)⟩⟩
  ·rw [List.length_map] at e3 el
   have hlay := a6I (w := w) (ty := 95) hu eL (by simpa using e3) e4 eV
   have hcapl : (l.map aM).length = l.length := by simp
   rw [hcapl] at hlay
   have hIF := hI.calls (xL V b ys) w [.slice (some ⟨b, 0, none⟩) l.length cap, .func (.func f) #[] #[pv]] (a6a _ _) (a4d hm hR) ⟨rfl, fun i s y e1 e2 => by
    match i with
    | 0 => simp at e1 e2; subst e1; subst e2; exact hlay
    | 1 => simp at e1 e2; subst e1; subst e2; exact hcl.mono (GLe.refl _) (a1I eV _)
    | i + 2 => simp at e1⟩
   rw [hcapl]
   rcases Nat.eq_zero_or_pos l.length with h0 | h0
   ·have hnil : l = [] := List.eq_nil_of_length_eq_zero h0
    subst hnil
    have hD := sP (some ⟨b, 0, none⟩) 0 cap w f #[pv] (hIF.mono (by
     rintro e w' ⟨y, rfl, hd⟩
     exact ⟨by simpa [gY] using a0F hd, hd.below⟩))
    refine hD.mono ?_
    rintro e w' ⟨rfl, hb⟩
    have hG := a2G (rows := []) (ys := []) (Ss := []) (G := []) (V := V) (by simp) (LayL.nil V) ((hR.behind hb).pre (List.nil_prefix)) (by simp) e4 eV
    exact ⟨_, rfl, (fun h => (by cases h)), ⟨kY _ hb, _, by simpa using hG, by simp, (fun b hb => .inl (by simp at hb; simp [hb])), (fun h => (by cases h))⟩⟩
   ·have hg := hf l[0] (List.getElem_mem h0)
    have hxl := xQ 4 p l ys
    have hxu := zK 4 p l ys el
    have hxf := uV 4 p l ys el
    obtain ⟨hs1, hs2⟩ := xS 4 p l ys
    have hxg := xR 4 p l ys
    have hx1 : ∀ x ∈ gH 4 p ys l, ∀ v ∈ x.1, v.oneCell' = true := fun x hx v hv => by
     refine eL.oneCell v ?_
     rw [← hxf]
     exact List.mem_flatten.2 ⟨x.1, List.mem_map.2 ⟨x, hx, rfl⟩, hv⟩
    have hW := a0G b cap (gH 4 p ys l) w f #[pv] (by rw [hxf]; exact hR) (by rw [hxl]; exact e3) (by simp only [maxLen] at e4; omega) hxu hx1 (gY p l 0) (by
        rcases idxP_spec p l 0 with h | ⟨k0, e1, e2, e5, e6⟩
        ·refine .inl ⟨h.1, fun x hx => ?_⟩
         obtain ⟨j, hj, rfl⟩ := List.mem_iff_getElem.1 hx
         rw [hxg j (by rw [hxl] at hj; exact hj) hj]
         exact h.2 _ (List.getElem_mem _)
        ·refine .inr ⟨k0, by rw [e1]; simp, by rw [hxl]; exact e2, ?_, fun j hj hjk => ?_⟩
         ·rw [hxg k0 e2]; exact e5
         ·rw [hxg j (by rw [hxl] at hj; exact hj) hj]; exact e6 j _ hjk) hg.enters (by
        rw [hxl]
        refine hIF.mono ?_
        rintro e w' ⟨y, rfl, hd⟩
        exact ⟨a0F hd, hd.below⟩) (fun W F x hx hRW => by
        obtain ⟨j, hj, rfl⟩ := List.mem_iff_getElem.1 hx
        have hjl : j < l.length := by rw [hxl] at hj; exact hj
        rw [hxg j hjl hj]
        have hch := eL.chunk he j hjl
        refine ((hf l[j] (List.getElem_mem hjl)).calls V W [.agg ((ys.drop (j * 4)).take 4).toArray, pv] (a6a _ _) (hRW.mod hm eV) ⟨rfl, fun i s y e1 e2 => ?_⟩).mono ?_
        ·match i with
         | 0 => simp at e1 e2; subst e1; subst e2; exact ⟨_, rfl, a8a hch⟩
         | 1 => simp at e1 e2; subst e1; subst e2; exact hq
         | i + 2 => simp at e1
        ·rintro e w' ⟨y, rfl, hd⟩
         exact ⟨a6K hd, hd.below⟩)
    rw [hxl] at hW
    refine hW.mono ?_
    rintro e w' ⟨rfl, G, hG⟩
    rw [hs1] at hG
    rw [hs2]
    have hsel := eL.sel aM p he
    have hup := a2G (V := V) (fun r hr => by obtain ⟨x, _, rfl⟩ := List.mem_map.1 hr; exact he x) hsel hG (by rw [List.length_map]; exact Nat.le_trans (List.length_filter_le _ _) e3) e4 eV
    rw [List.length_map] at hup
    have hsub := a1K 4 p l Ss
    have hfs : (a0H 4 p Ss l).flatten.Sublist Ss.flatten := a1L hsub
    refine ⟨_, rfl, (fun h => (by cases h)), ⟨hG.grown, _, hup, ?_, (fun n hn => .inl ?_), (fun h => (by cases h))⟩⟩
    ·exact hnd.sublist (hfs.cons_cons b)
    ·exact (hfs.cons_cons b).subset hn
def isName (s : ByteArray) (y : TAttr) : Bool := decide (y.fName = s)
def dS (s : ByteArray) (y : TAttr) : Bool := !(fU y.fName s || decide (y.fName = s))
def fC (s : ByteArray) (l : List TAttr) : List TAttr := l.filter fun y => !isName s y
def kL (s : ByteArray) (v : TValue) (l : List TAttr) : List TAttr := if v.fKind = 0 then fC s l else dI (bM (dS s) (fC s l)) ⟨s, v⟩ (fC s l)
def iT (f : TFile) (s : ByteArray) (v : TValue) : TFile := { f with fAttrs := kL s v f.fAttrs }
theorem sJ (s : ByteArray) (l : List TAttr) : (fC s l).length ≤ l.length := List.length_filter_le _ _
theorem a5q (s : ByteArray) (v : TValue) (l : List TAttr) : (kL s v l).length ≤ l.length + 1 := by
 have := sJ s l
 unfold kL
 split
 ·omega
 ·rw [jR _ _ _ (lW _ _)]; omega
theorem oK (f : TFile) (h : f.fAttrs.length ≤ 4200000) : FnC Try.prog 66 [eH f] (pX f) := by
 refine ent Try.func66 rfl Try.call66 rfl (fun C => ?_); simp only [go_sem, st0, Try.ntmps66]
 refine lS (sN f.fAttrs (by omega)) ?_
 exact aA ⟨⟨_, rfl, by simp only [go_sem]⟩, trivial⟩
theorem a2F (f : TFile) (h : f.fAttrs.length ≤ 4200000) : FnC Try.prog 68 [eH f] (pX f) := by
 refine ent Try.func68 rfl Try.call68 rfl (fun C => ?_); simp only [go_sem, st0, Try.ntmps68]
 refine aF ?_
 exact aA ⟨⟨_, rfl, by simp only [go_sem]⟩, trivial⟩
theorem a5r (s : ByteArray) (y : TAttr) : FnC Try.prog 107 [a1A y, .o (.q [sv s])] (ob (isName s y)) := by
 refine ent Try.func107 rfl Try.call107 rfl (fun C => ?_); simp only [go_sem, st0, Try.ntmps107]
 refine aF ?_
 exact aA ⟨⟨_, rfl, by simp only [go_sem, isName]⟩, trivial⟩
theorem a5s (s : ByteArray) (y : TAttr) : FnC Try.prog 108 [a1A y, .o (.q [sv s])] (ob (dS s y)) := by
 refine ent Try.func108 rfl Try.call108 rfl (fun C => ?_); simp only [go_sem, st0, Try.ntmps108]
 refine aF ?_
 exact aA ⟨⟨_, rfl, by simp only [go_sem, dS]⟩, trivial⟩
theorem sK (s : ByteArray) (l : List TAttr) (h : l.length ≤ 8388608) : FnI Try.prog 106 95 4 (l.map aM) [.o (.f 107 [[sv s]])] false ((fC s l).map aM) :=
 sO _ [sv s] (isName s) l (fun y _ => a5r s y) h
theorem xH (f : TFile) (s : ByteArray) (v : TValue) (h : f.fAttrs.length ≤ 4200000) : FnC Try.prog 67 [eH f, os s, iO v] (pX (iT f s v)) := by
 have hd := sJ s f.fAttrs
 refine ent Try.func67 rfl Try.call67 rfl (fun C => ?_); simp only [go_sem, st0, Try.ntmps67]
 by_cases hv : v.fKind = 0
 ·have e : kL s v f.fAttrs = fC s f.fAttrs := if_pos hv
  have qH := aI @hv @decide_true; repeat' (with_reducible first | refine nY ?_ | (refine mX ?_; try simp only [go_sem, qH]) | refine kD ?_ | refine rD ?_ | refine cP (oK f h) ?_ | refine vI (sK s f.fAttrs (by omega)) ?_ | refine vJ (sK s f.fAttrs (by omega)) ?_ | refine aO ?_ | fail)
  exact aA ⟨⟨_, rfl, by simp only [go_sem, iT, e, fC]⟩, trivial⟩
 have e : kL s v f.fAttrs = dI (bM (dS s) (fC s f.fAttrs)) ⟨s, v⟩ (fC s f.fAttrs) := if_neg hv
 have hx := idxP_fst (dS s) (fC s f.fAttrs) 0
 have hle := lW (dS s) (fC s f.fAttrs)
 have qH := aI @hv @decide_false; repeat' (with_reducible first | refine nY ?_ | (refine mX ?_; try simp only [go_sem, qH]) | refine kD ?_ | refine rD ?_ | refine cP (oK f h) ?_ | refine vI (sK s f.fAttrs (by omega)) ?_ | refine vJ (sK s f.fAttrs (by omega)) ?_ | refine vL (iU _ [sv s] (dS s) (fC s f.fAttrs) (fun y _ => a5s s y) (by omega)) ?_ | refine aO ?_ | fail)
 refine cnd (b := decide (gY (dS s) (fC s f.fAttrs) 0 < 0)) rfl (fun h5 => ?_) (fun h5 => ?_)
 ·have h5' := of_decide_eq_true h5
  have e5 : bM (dS s) (fC s f.fAttrs) = (fC s f.fAttrs).length := by
   rcases hx with hx | hx
   ·exact hx.2.2
   ·omega
  have qH := trivial; repeat' (with_reducible first | refine nY ?_ | (refine mX ?_; try simp only [go_sem]) | refine kD ?_ | refine rD ?_ | refine vK (iY ((fC s f.fAttrs).map aM) (aM ⟨s, v⟩) (fC s f.fAttrs).length (by simp) (by simp; omega)) ?_ | refine aO ?_ | fail)
  exact aA ⟨⟨_, rfl, by simp only [go_sem, iT, e, e5, dI, aM, List.map_append, List.map_cons, jO, jP]⟩, trivial⟩
 ·have h5' := of_decide_eq_false h5
  have e5 : gY (dS s) (fC s f.fAttrs) 0 = ((bM (dS s) (fC s f.fAttrs) : Nat) : Int) := by
   rcases hx with hx | hx
   ·omega
   ·simpa using hx.1
  have qH := @e5; repeat' (with_reducible first | refine nY ?_ | (refine mX ?_; try simp only [go_sem, qH]) | refine kD ?_ | refine rD ?_ | refine vK (iY ((fC s f.fAttrs).map aM) (aM ⟨s, v⟩) (bM (dS s) (fC s f.fAttrs)) (by simpa using hle) (by simp; omega)) ?_ | refine aO ?_ | fail)
  exact aA ⟨⟨_, rfl, by simp only [go_sem, iT, e, dI, aM, List.map_append, List.map_cons, jO, jP]⟩, trivial⟩
theorem a4b (s : ByteArray) (l : List TAttr) (k : Nat) (h : k < l.length) : fC s (l.take (k + 1)) = fC s (l.take k) ++ (if isName s l[k] then [] else [l[k]]) := by
 simp only [fC, List.take_succ_eq_append_getElem h, List.filter_append, List.filter_cons, List.filter_nil]
 cases isName s l[k] <;> rfl
theorem bI (f : TFile) (s : ByteArray) (v : TValue) (h : f.fAttrs.length ≤ 4200000) : FnC Try.prog 69 [eH f, os s, iO v] (pX (iT f s v)) := by
 have hd := sJ s f.fAttrs
 refine ent Try.func69 rfl Try.call69 rfl (fun C => ?_); simp only [go_sem, st0, Try.ntmps69]
 refine aF ?_
 refine eY (α := Nat) (fun k => [(7, .o (.s 3)), (8, oi k), (11, .o .u)]) (fun k => [(3, .row 95 4 ((fC s (f.fAttrs.take k)).map aM) true)]) (fun k => k ≤ f.fAttrs.length) (fun k => f.fAttrs.length - k) 0 (fun _ => ?_) ?_ ?_ (fun k hk => ?_)
 ·simp only [go_sem]
 ·simp only [go_sem]; simp [fC]
 ·simp
 ·simp only [go_sem]
  refine aF ?_
  refine cnd rfl (fun h1 => ?_) (fun h1 => ?_)
  ·simp only [decide_eq_true_eq, Int.ofNat_lt] at h1
   have ht := a4b s f.fAttrs k h1
   have hlen : (fC s (f.fAttrs.take k)).length ≤ 4200000 := by have := sJ s (f.fAttrs.take k); simp at this; omega
   have q0 := @h1; refine gU ?_
   refine cnd (b := !(isName s f.fAttrs[k])) rfl (fun h2 => ?_) (fun h2 => ?_)
   ·have h2' : isName s f.fAttrs[k] = false := by simpa using h2
    rw [h2'] at ht
    have hl1 : (fC s (f.fAttrs.take k)).length + 1 ≤ 140737488355328 := by omega
    have hl2 : ((fC s (f.fAttrs.take k)).length + 1) * 48 ≤ 140737488355328 := by omega
    have q0 := @h1; refine gU ?_
    refine bE (k + 1) ?_ ?_ ?_
    ·simp only [go_sem, ht, List.map_append]; simp [aM]
    ·omega
    ·omega
   ·have h2' : isName s f.fAttrs[k] = true := by simpa using h2
    rw [h2'] at ht
    have q0 := @h1; refine gU ?_
    refine bE (k + 1) ?_ ?_ ?_
    ·simp only [go_sem, ht, List.map_append]; simp
    ·omega
    ·omega
  ·simp only [decide_eq_false_iff_not] at h1
   have e : k = f.fAttrs.length := by omega
   subst e
   by_cases hv : v.fKind = 0
   ·have e : kL s v f.fAttrs = fC s f.fAttrs := if_pos hv
    have q0 := @hv; have q1 := @decide_true; refine jH ?_
    exact aA ⟨⟨_, rfl, by simp only [go_sem, iT, e, List.take_length]⟩, trivial⟩
   have e : kL s v f.fAttrs = dI (bM (dS s) (fC s f.fAttrs)) ⟨s, v⟩ (fC s f.fAttrs) := if_neg hv
   have htl : f.fAttrs.take f.fAttrs.length = f.fAttrs := List.take_length
   have q0 := @hv; have q1 := @decide_false; have q2 := @htl; refine pO ?_
   generalize hdl : fC s f.fAttrs = l at *
   refine WP.sees (Sees.frz 3 rfl) ?_
   simp only [go_sem]
   refine eY (α := Nat) (fun n => [(9, oi n)]) (fun _ => []) (fun n => n ≤ l.length ∧ bM (dS s) l = n + bM (dS s) (l.drop n)) (fun n => l.length - n) 0 (fun _ => ?_) ?_ ?_ (fun n hn => ?_)
   ·simp only [go_sem]
   ·simp only [go_sem]; simp
   ·simp
   ·obtain ⟨hn, hf⟩ := hn
    simp only [go_sem]
    by_cases h5 : n < l.length
    ·have hfx := a1G (dS s) l n h5 hf
     have h5' : ((n : Int) < (l.length : Int)) = True := by simp [h5]
     have q0 := @h5; have q1 := @h5'; have q2 := @decide_true; refine pO ?_
     refine cnd (b := !(dS s l[n])) (by simp only [dS, Bool.not_not]; try rfl) (fun h6 => ?_) (fun h6 => ?_)
     ·have h6 : dS s l[n] = false := by simpa using h6
      rw [if_neg (by simp [h6])] at hfx
      refine aF ?_
      refine bE (n + 1) ?_ ?_ ?_
      ·simp only [go_sem]; simp
      ·exact ⟨by omega, hfx⟩
      ·omega
     ·have h6 : dS s l[n] = true := by simpa using h6
      rw [if_pos h6] at hfx
      have qH := aI @h5 (aI @jO (aI @jP (aI @a3c (aI @a3d @a6q)))); repeat' (with_reducible first | refine nY ?_ | (refine mX ?_; try simp only [go_sem, qH]) | refine kD ?_ | (apply rE [0,4,8,9] [] [1,2,3,5,6,7] [1,2,3,5,6,7] ((.c 0 [] [1,2,3,5,6,7] (.c 4 [] [5,6,7] (.c 8 [] [] (.c 9 [10] [10] .n .n) .n) (.c 8 [] [1,2,3] (.c 4 [] [] (.c 9 [10] [10] .n .n) .n) .n)) (.c 8 [] [1,2,3] (.c 0 [] [1,2,3] (.c 4 [] [] (.c 9 [10] [10] .n .n) .n) .n) .n))) (by simp only [go_sem]; rfl) (by simp only [go_sem]; rfl) (by simp only [go_sem]; rfl) (by decide +kernel); (focus simp only [go_sem]; done)) | exact bP | refine aU (uX ?_) ?_ | refine aV (aX ?_) ?_ | refine aW (aX ?_) ?_ | exact bU | (refine bQ [(4, 5)] (by simp only [go_sem]; rfl) ?_; exact rfl) | exact oH | exact uB | refine rD ?_ | refine aO ?_ | fail)
      exact aA ⟨⟨_, rfl, by simp only [go_sem, iT, e, hfx, dI, aM, List.map_append, List.map_cons, List.append_assoc, List.cons_append, List.nil_append, List.take_length]⟩, trivial⟩
    ·have e' : n = l.length := by omega
     have hfx : bM (dS s) l = n := by rw [hf, e', List.drop_length]; rfl
     have h5' : ((n : Int) < (l.length : Int)) = False := by simp [h5]
     have qH := aI @h5 (aI @h5' (aI @decide_false (aI @jO (aI @jP (aI @a3c (aI @a3d @a6q)))))); repeat' (with_reducible first | refine nY ?_ | (refine mX ?_; try simp only [go_sem, qH]) | refine kD ?_ | (apply rE [0,4,8,9] [] [1,2,3,5,6,7] [1,2,3,5,6,7] ((.c 0 [] [1,2,3,5,6,7] (.c 4 [] [5,6,7] (.c 8 [] [] (.c 9 [10] [10] .n .n) .n) (.c 8 [] [1,2,3] (.c 4 [] [] (.c 9 [10] [10] .n .n) .n) .n)) (.c 8 [] [1,2,3] (.c 0 [] [1,2,3] (.c 4 [] [] (.c 9 [10] [10] .n .n) .n) .n) .n))) (by simp only [go_sem]; rfl) (by simp only [go_sem]; rfl) (by simp only [go_sem]; rfl) (by decide +kernel); (focus simp only [go_sem]; done)) | exact bP | refine aU (uX ?_) ?_ | refine aV (aX ?_) ?_ | refine aW (aX ?_) ?_ | exact bU | (refine bQ [(4, 5)] (by simp only [go_sem]; rfl) ?_; exact rfl) | exact oH | exact uB | refine rD ?_ | refine aO ?_ | fail)
     exact aA ⟨⟨_, rfl, by simp only [go_sem, iT, e, hfx, dI, aM, List.map_append, List.map_cons, List.append_assoc, List.cons_append, List.nil_append, e', List.take_length, List.drop_length]⟩, trivial⟩
theorem sS {α : Type} (w : α → Nat) : ∀ l m : List α, dD w (l ++ m) = dD w l + dD w m
 | [], m => by simp [dD]
 | x :: l, m => by simp only [List.cons_append, dD, sS w l m]; omega
theorem xU (i : Nat) (x : TAttr) (l : List TAttr) : bF (dI i x l) = bF l + (1 + fQ x) := by
 have h1 : dD fQ l = dD fQ (l.take i) + dD fQ (l.drop i) := by rw [← sS, List.take_append_drop]
 have h2 : l.length = (l.take i).length + (l.drop i).length := by rw [← List.length_append, List.take_append_drop]
 simp only [bF, dI, sS, dD, List.length_append, List.length_cons]
 omega
theorem xV (a : List TAttr) : ∀ (b l r : List TAttr), mergeL a l b = some r → bF r ≤ bF l + bF b
 | [], l, r, h => by simp only [mergeL, Option.some.injEq] at h; subst h; omega
 | x :: b, l, r, h => by
  have e : bF (x :: b) = 1 + fQ x + bF b := by simp only [bF, dD, List.length_cons]; omega
  unfold mergeL at h
  split at h
  ·cases h
  ·split at h
   ·have := xV a b l r h; omega
   ·have := xV a b _ r h
    rw [xU] at this
    omega
theorem a1M (a b : TEdit) : fB (dG a b) ≤ fB a + fB b := by
 unfold dG fB
 split
 ·split
  ·simp [bF, dD]
  ·rename_i l h; exact xV _ _ _ _ h
 ·simp [bF, dD]
theorem gP (a b : TEdit) (ha : a.fSet.length ≤ 1048576) (hb : b.fSet.length ≤ 1048576) : FnC Try.prog 27 [gN a, gN b] (gN (dG a b)) := (a0A a b ha hb).pu (by simp only [go_sem, and_self])
def gG (l : List TAttr) (e : List TAttr) : List TAttr := e.foldl (fun l a => kL a.fName a.fValue l) l
def iP (f : TFile) (e : TEdit) : TFile := { f with fAttrs := gG f.fAttrs e.fSet }
theorem uQ (l e : List TAttr) (k : Nat) (h : k < e.length) : gG l (e.take (k + 1)) = kL e[k].fName e[k].fValue (gG l (e.take k)) := by
 simp only [gG, List.take_succ_eq_append_getElem h, List.foldl_append, List.foldl_cons, List.foldl_nil]
theorem a5o (s : ByteArray) : ∀ l : List TAttr, bF (fC s l) ≤ bF l
 | [] => by simp [fC]
 | x :: l => by
  have := a5o s l
  simp only [fC, bF] at this ⊢
  simp only [List.filter_cons]
  split <;> simp only [List.length_cons, dD] <;> omega
theorem a5p (s : ByteArray) (v : TValue) (l : List TAttr) : bF (kL s v l) ≤ bF l + (1 + fQ ⟨s, v⟩) := by
 have := a5o s l
 unfold kL
 split
 ·omega
 ·rw [xU]; omega
theorem xG (l : List TAttr) : ∀ (e : List TAttr) (k : Nat), bF (gG l (e.take k)) ≤ bF l + bF e := by
 have key : ∀ (e l : List TAttr), bF (gG l e) ≤ bF l + bF e := by
  intro e
  induction e with
  | nil => intro l; simp only [gG, List.foldl_nil]; omega
  | cons x e ih =>
   intro l
   have h1 := ih (kL x.fName x.fValue l)
   have h2 := a5p x.fName x.fValue l
   have h4 : fQ ⟨x.fName, x.fValue⟩ = fQ x := rfl
   have h3 : bF (x :: e) = 1 + fQ x + bF e := by simp only [bF, dD, List.length_cons]; omega
   simp only [gG, List.foldl_cons] at h1 ⊢
   omega
 intro e k
 have h1 := key (e.take k) l
 have h2 : bF (e.take k) ≤ bF e := by
  have := a3j fQ e k
  simp only [bF, List.length_take]; omega
 omega
theorem iQ (l : List TAttr) : l.length ≤ bF l := by unfold bF; omega
theorem vN (f : TFile) (s : ByteArray) (v : TValue) (h : f.fAttrs.length ≤ 4200000) : FnC Try.prog 69 [eH f, os s, iO v] (eH (iT f s v)) := (bI f s v h).pu (by simp only [go_sem, and_self])
theorem a1F (f : TFile) (h : f.fAttrs.length ≤ 4200000) : FnC Try.prog 68 [eH f] (eH f) := (a2F f h).pu (by simp only [go_sem, and_self])
theorem tX (f : TFile) (e : TEdit) (h : dM f + fB e ≤ 4200000) : FnC Try.prog 30 [eH f, gN e] (eH (iP f e)) := by
 unfold dM fB at h
 have hl := iQ f.fAttrs
 have hle := iQ e.fSet
 have hw := xG f.fAttrs e.fSet
 refine ent Try.func30 rfl Try.call30 rfl (fun C => ?_); simp only [go_sem, st0, Try.ntmps30]
 refine lS (a1F f (by omega)) ?_
 refine eY (α := Nat) (fun k => [(5, oi k)]) (fun k => [(0, .box 48 [.d (iv f.fID), .d (iv f.fOwner), .d (bv f.fShared), .d (iv f.fLink), .d (.sl ((gG f.fAttrs (e.fSet.take k)).map aM))])]) (fun k => k ≤ e.fSet.length) (fun k => e.fSet.length - k) 0 (fun _ => ?_) ?_ ?_ (fun k hk => ?_)
 ·simp only [go_sem]
 ·simp only [go_sem]; simp [gG]
 ·simp
 ·simp only [go_sem]
  refine aF ?_
  refine cnd rfl (fun h1 => ?_) (fun h1 => ?_)
  ·simp only [decide_eq_true_eq, Int.ofNat_lt] at h1
   have ht := uQ f.fAttrs e.fSet k h1
   have hwk := iQ (gG f.fAttrs (e.fSet.take k))
   have hwk2 := hw k
   have qH := @h1; repeat' (with_reducible first | refine nY ?_ | (refine mX ?_; try simp only [go_sem, qH]) | refine kD ?_ | (apply rE [13,14] [] [0,1,2,3,4,5,6,7,8,9,10,11,12] [0,1,2,3,4,5,6,7,8,9,10,11,12] ((.c 13 [] [] (.c 14 [] [] .n .n) .n)) (by simp only [go_sem]; rfl) (by simp only [go_sem]; rfl) (by simp only [go_sem]; rfl) (by decide +kernel); (focus simp only [go_sem]; done)) | exact bP | refine aU (uX ?_) ?_ | refine aV (aX ?_) ?_ | refine aW (aX ?_) ?_ | exact bU | exact oH | exact uB | refine rD ?_ | refine cP (vN ⟨f.fID, f.fOwner, f.fShared, f.fLink, gG f.fAttrs (e.fSet.take k)⟩ e.fSet[k].fName e.fSet[k].fValue (by simp only; omega)) ?_ | refine aO ?_ | fail)
   refine bE (k + 1) ?_ ?_ ?_
   ·simp only [go_sem]; simp [ht, iT]
   ·omega
   ·omega
  ·simp only [decide_eq_false_iff_not] at h1
   have e : k = e.fSet.length := by omega
   subst e
   refine aF ?_
   exact aA ⟨⟨_, rfl, by simp only [go_sem, List.take_length, iP]⟩, trivial⟩
theorem tY (f : TFile) (e : TEdit) (h : dM f + fB e ≤ 4200000) : FnC Try.prog 29 [eH f, gN e] (pX (iP f e)) := by
 unfold dM fB at h
 have hl := iQ f.fAttrs
 have hle := iQ e.fSet
 have hw := xG f.fAttrs e.fSet
 refine ent Try.func29 rfl Try.call29 rfl (fun C => ?_); simp only [go_sem, st0, Try.ntmps29]
 refine lS (oK f (by omega)) ?_
 refine eY (α := Nat) (fun k => [(9, .o .u), (13, oi k)]) (fun k => [(3, .row 95 4 ((gG f.fAttrs (e.fSet.take k)).map aM) true)]) (fun k => k ≤ e.fSet.length) (fun k => e.fSet.length - k) 0 (fun _ => ?_) ?_ ?_ (fun k hk => ?_)
 ·simp only [go_sem]
 ·simp only [go_sem]; simp [gG]
 ·simp
 ·simp only [go_sem]
  refine aF ?_
  refine cnd rfl (fun h1 => ?_) (fun h1 => ?_)
  ·simp only [decide_eq_true_eq, Int.ofNat_lt] at h1
   have ht := uQ f.fAttrs e.fSet k h1
   have hwk := iQ (gG f.fAttrs (e.fSet.take k))
   have hwk2 := hw k
   have q0 := @h1; refine yF (xH ⟨f.fID, f.fOwner, f.fShared, f.fLink, gG f.fAttrs (e.fSet.take k)⟩ e.fSet[k].fName e.fSet[k].fValue (by simp only; omega)) ?_
   refine zT [(3, 6)] (k + 1) (by simp only [go_sem]; rfl) ?_ ?_ ?_
   ·simp only [go_sem]; simp [ht, iT]
   ·omega
   ·omega
  ·simp only [decide_eq_false_iff_not] at h1
   have e : k = e.fSet.length := by omega
   subst e
   refine aF ?_
   exact aA ⟨⟨_, rfl, by simp only [go_sem, List.take_length, iP]⟩, trivial⟩
theorem sI (f : TFile) (e : TEdit) (h : dM f + fB e ≤ 4200000) : FnC Try.prog 29 [eH f, gN e] (eH (iP f e)) := (tY f e h).pu (by simp only [go_sem, and_self])
end Go.Proofs.Ytolgdibgnndoaaa
end
