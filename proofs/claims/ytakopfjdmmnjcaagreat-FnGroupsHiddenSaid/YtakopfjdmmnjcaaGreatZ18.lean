/- Joined texts. -/
import Derived.Test.YtakopfjdmmnjcaaGreatZ17
import Derived.Test.YtakopfjdmmnjcaaGreatZ09
import Derived.Test.YtakopfjdmmnjcaaGreatZ12
import Derived.Test.YtakopfjdmmnjcaaGreatZ15
import Derived.Test.YtakopfjdmmnjcaaGreatZ07
set_option linter.all false
section
set_option maxRecDepth 100000
set_option maxHeartbeats 4000000
namespace Go.Proofs.YtakopfjdmmnjcaaGreat
open Go Go.Sx Go.RowKit Go.Proofs
def b9j (f : TFile) (u : Int) : Bool := inB u 0 2 && decide (f.fOwner = u)
def yL (f : TFile) (u : Int) : Bool := inB u 0 2 && (decide (f.fOwner = u) || f.fShared)
theorem a1t (f : TFile) (u : Int) : FnC Tryz.prog 80 [iM f, oi u] (ob (yL f u)) := by
 refine ent Tryz.func80 rfl Tryz.call80 rfl (fun C => ?_); simp only [go_sem, st0, Tryz.ntmps80]
 cases h : inB u 0 2
 ·have q0 := @h; refine lK (jL u) ?_
  exact aA ⟨⟨_, rfl, by simp only [go_sem, yL, h, Bool.false_and]⟩, trivial⟩
 by_cases h2 : f.fOwner = u
 ·have q0 := @h; have q1 := @h2; have q2 := @decide_true; refine uS (jL u) ?_
  exact aA ⟨⟨_, rfl, by simp only [go_sem, yL, h, h2, decide_true, Bool.true_and, Bool.true_or]⟩, trivial⟩
 ·have q0 := @h; have q1 := @h2; have q2 := @decide_false; refine uS (jL u) ?_
  exact aA ⟨⟨_, rfl, by simp only [go_sem, yL, h, h2, decide_false, Bool.true_and, Bool.false_or]⟩, trivial⟩
theorem qL (f : TFile) (u : Int) : FnC Tryz.prog 65 [iM f, oi u] (ob (yL f u)) := by
 refine ent Tryz.func65 rfl Tryz.call65 rfl (fun C => ?_); simp only [go_sem, st0, Tryz.ntmps65]
 cases h : inB u 0 2
 ·have q0 := @h; refine lK (bP u 0 2) ?_
  exact aA ⟨⟨_, rfl, by simp only [go_sem, yL, h, Bool.false_and]⟩, trivial⟩
 by_cases h2 : f.fOwner = u
 ·have q0 := @h; have q1 := @h2; have q2 := @decide_true; refine uS (bP u 0 2) ?_
  exact aA ⟨⟨_, rfl, by simp only [go_sem, yL, h, h2, decide_true, Bool.true_and, Bool.true_or]⟩, trivial⟩
 ·have q0 := @h; have q1 := @h2; have q2 := @decide_false; refine uS (bP u 0 2) ?_
  exact aA ⟨⟨_, rfl, by simp only [go_sem, yL, h, h2, decide_false, Bool.true_and, Bool.false_or]⟩, trivial⟩
def visF (u : Int) (l : List TFile) : List TFile := l.filter fun f => yL f u
def b1s (f : TFile) : TFile := ⟨f.fID, f.fOwner, f.fShared, 0, f.fAttrs⟩
def nO (L : List TFile) (f : TFile) : TFile := if 0 ≤ ixF f.fLink L then f else b1s f
def nP (L : List TFile) (k : Nat) : List TFile := (L.take k).map (nO L) ++ L.drop k
def vis (s : TStore) (u : Int) : TStore := ⟨s.fSchema, (visF u s.fFiles).map (nO (visF u s.fFiles)), s.fNextID⟩
theorem a4R (u : Int) (l : List TFile) (k : Nat) (h : k < l.length) : visF u (l.take (k + 1)) = visF u (l.take k) ++ (if yL l[k] u then [l[k]] else []) := by
 simp only [visF, List.take_succ_eq_append_getElem h, List.filter_append, List.filter_cons, List.filter_nil]
theorem sM (u : Int) (l : List TFile) : (visF u l).length ≤ l.length := List.length_filter_le _ _
theorem b0n (id : Int) : ∀ (l m : List TFile) (k : Nat), l.map TFile.fID = m.map TFile.fID → idxP (fun f : TFile => decide (f.fID = id)) l k = idxP (fun f : TFile => decide (f.fID = id)) m k
 | [], [], _, _ => rfl
 | [], _ :: _, _, h => by simp at h
 | _ :: _, [], _, h => by simp at h
 | x :: l, y :: m, k, h => by
  simp only [List.map_cons, List.cons.injEq] at h
  unfold idxP
  rw [h.1, b0n id l m (k + 1) h.2]
theorem b0o {l m : List TFile} (id : Int) (h : l.map TFile.fID = m.map TFile.fID) : ixF id l = ixF id m := b0n id l m 0 h
theorem a2g (L : List TFile) (f : TFile) : (nO L f).fID = f.fID := by unfold nO; split <;> rfl
theorem a3n (L : List TFile) (k : Nat) : (nP L k).map TFile.fID = L.map TFile.fID := by
 unfold nP
 rw [List.map_append, List.map_map]
 have : (TFile.fID ∘ nO L) = TFile.fID := funext fun f => a2g L f
 rw [this, ← List.map_append, List.take_append_drop]
theorem a3o (L : List TFile) (k : Nat) : (nP L k).length = L.length := by
 have := congrArg List.length (a3n L k)
 simpa using this
theorem b0p (L : List TFile) (k : Nat) (h : k < L.length) : (nP L k)[k]'(by rw [a3o]; exact h) = L[k] := by
 unfold nP
 rw [List.getElem_append_right (by simp; omega), List.getElem_drop]
 congr 1
 simp; omega
theorem a4S (L : List TFile) (k : Nat) (h : k < L.length) : nP L (k + 1) = (nP L k).set k (nO L L[k]) := by
 unfold nP
 rw [List.take_succ_eq_append_getElem h, List.map_append, List.set_append_right _ _ (by simp; omega)]
 have e : k - ((L.take k).map (nO L)).length = 0 := by simp; omega
 rw [e, List.drop_eq_getElem_cons h, List.set_cons_zero, List.append_assoc]
 rfl
theorem a7F (L : List TFile) : nP L L.length = L.map (nO L) := by simp [nP]
theorem b6x (L : List TFile) (f : TFile) : bA (nO L f) = bA f := by unfold nO; split <;> rfl
theorem a7G {α : Type} (w : α → Nat) (g : α → α) (h : ∀ x, w (g x) = w x) : ∀ l : List α, bI w (l.map g) = bI w l
 | [] => rfl
 | x :: l => by simp only [List.map_cons, bI, h, a7G w g h l]
theorem a1s {α : Type} (w : α → Nat) (p : α → Bool) : ∀ l : List α, bI w (l.filter p) ≤ bI w l
 | [] => by simp [bI]
 | x :: l => by
  have := a1s w p l
  rw [List.filter_cons]
  split <;> simp only [bI] <;> omega
theorem a4T (s : TStore) (u : Int) : aJ (vis s u) ≤ aJ s := by
 have h1 := sM u s.fFiles
 have h2 := a1s bA (fun f => yL f u) s.fFiles
 have h3 := a7G bA (nO (visF u s.fFiles)) (b6x _) (visF u s.fFiles)
 unfold aJ eF vis
 simp only [List.length_map, h3]
 unfold visF at *
 omega
theorem a9i (s : TStore) (u : Int) (h : aJ s ≤ 4300000) : FnC Tryz.prog 37 [bG s, oi u] (a0J (vis s u)) := by
 have h1 : s.fSchema.length ≤ 4300000 := by unfold aJ bH at h; omega
 have h2 : s.fFiles.length + bI bA s.fFiles ≤ 4300000 := by unfold aJ eF at h; omega
 refine ent Tryz.func37 rfl Tryz.call37 rfl (fun C => ?_); simp only [go_sem, st0, Tryz.ntmps37]
 have qH := trivial; repeat' (with_reducible first | refine nY ?_ | (refine mX ?_; try simp only [go_sem]) | refine kD ?_ | (apply rE [2,6,7] [] [0,1,3,4] [0,1,3,4] ((.c 2 [5] [3,4,5] (.c 6 [] [3,4,5] (.c 7 [] [] .n .n) .n) (.c 6 [] [0,1,3,4] (.c 2 [5] [3,4,5] (.c 7 [] [] .n .n) .n) .n))) (by simp only [go_sem]; rfl) (by simp only [go_sem]; rfl) (by simp only [go_sem]; rfl) (by decide +kernel); (focus simp only [go_sem]; done)) | exact bJ | refine aP (uX ?_) ?_ | refine aQ (aX ?_) ?_ | refine aR (aX ?_) ?_ | exact bY | (refine a0e [(2, 3)] (by simp only [go_sem]; rfl) ?_; exact rfl) | exact oH | (refine uA ?_; simp only [go_sem]; (repeat' first | omega | refine And.intro ?_ ?_); done) | refine rD ?_ | refine cP (a3J s.fSchema h1) ?_ | refine aO ?_ | fail)
 refine a1P 3 1 69 5 rfl rfl ?_
 simp only [go_sem]
 refine aY (α := Nat) (fun k => [(19, oi k)]) (fun k => [(4, .row 69 5 ((visF u (s.fFiles.take k)).map bW) true)]) (fun k => k ≤ s.fFiles.length) (fun k => s.fFiles.length - k) 0 (fun _ => ?_) ?_ ?_ (fun k hk => ?_)
 ·simp only [go_sem]
 ·simp only [go_sem]; simp [visF]
 ·simp
 ·simp only [go_sem]
  refine aD ?_
  refine cnd rfl (fun h3 => ?_) (fun h3 => ?_)
  ·simp only [decide_eq_true_eq, Int.ofNat_lt] at h3
   have hw := dD bA s.fFiles h3
   have hx : s.fFiles[k].fAttrs.length ≤ 4300000 := by
    have e : s.fFiles[k].fAttrs.length ≤ bA s.fFiles[k] := by unfold bA eT; omega
    omega
   have ht := a4R u s.fFiles k h3
   have hn : (visF u (s.fFiles.take k)).length ≤ 4300000 := by have := sM u (s.fFiles.take k); simp at this; omega
   cases hc : yL s.fFiles[k] u
   ·rw [hc] at ht
    have q0 := @h3; have q1 := @hc; refine zS (a1t s.fFiles[k] u) ?_
    refine aF (k + 1) ?_ ?_ ?_
    ·simp only [go_sem, ht]; simp
    ·omega
    ·omega
   ·rw [hc] at ht
    have qH := aI @h3 @hc; repeat' (with_reducible first | refine nY ?_ | (refine mX ?_; try simp only [go_sem, qH]) | refine kD ?_ | (apply rE [3,4,5,7] [] [0,1,2] [0,1,2] ((.c 3 [] [0,1] (.c 4 [] [0,1] (.c 5 [6] [6] (.c 7 [] [] .n .n) .n) .n) .n)) (by simp only [go_sem]; rfl) (by simp only [go_sem]; rfl) (by simp only [go_sem]; rfl) (by decide +kernel); (focus simp only [go_sem]; done)) | exact bJ | refine aP (uX ?_) ?_ | refine aQ (aX ?_) ?_ | refine aR (aX ?_) ?_ | exact bY | exact oH | exact uB | refine rD ?_ | refine cP (a1t s.fFiles[k] u) ?_ | refine cP (a4F s.fFiles[k] hx) ?_ | refine aO ?_ | fail)
    refine aF (k + 1) ?_ ?_ ?_
    ·simp only [go_sem, ht, List.map_append]; simp [bW]
    ·omega
    ·omega
  ·simp only [decide_eq_false_iff_not] at h3
   have e : k = s.fFiles.length := by omega
   subst e
   rw [List.take_length]
   have hL : (visF u s.fFiles).length ≤ 4300000 := by have := sM u s.fFiles; omega
   unfold vis
   generalize visF u s.fFiles = L at *
   refine aD ?_
   refine aY (α := Nat) (fun k => [(37, oi k)]) (fun k => [(4, .row 69 5 ((nP L k).map bW) true)]) (fun k => k ≤ L.length) (fun k => L.length - k) 0 (fun _ => ?_) ?_ ?_ (fun k hk => ?_)
   ·simp only [go_sem]
   ·simp only [go_sem]; simp [nP]
   ·simp
   ·simp only [go_sem]
    have hln := a3o L k
    have q0 := @hln; refine jW ?_
    refine cnd rfl (fun h4 => ?_) (fun h4 => ?_)
    ·simp only [decide_eq_true_eq, Int.ofNat_lt] at h4
     have h4' : k < (nP L k).length := by omega
     have hat := b0p L k h4
     have hst := a4S L k h4
     have hfa := a0O ⟨s.fSchema, nP L k, s.fNextID⟩ L[k].fLink (by simp only; omega)
     rw [show ixF L[k].fLink (TStore.fFiles ⟨s.fSchema, nP L k, s.fNextID⟩) = ixF L[k].fLink L from b0o _ (a3n L k)] at hfa
     rcases ixF_cases L[k].fLink L with e | ⟨p, e, _⟩
     ·have hy : (-1 : Int) < 0 := by omega
      have hfx : nO L L[k] = b1s L[k] := by unfold nO; rw [if_neg (by omega)]
      rw [e] at hfa
      rw [hfx] at hst
      have qH := aI @h4 (aI @h4' (aI @hat (aI @hy @decide_true))); repeat' (with_reducible first | refine nY ?_ | (refine mX ?_; try simp only [go_sem, qH]) | refine kD ?_ | refine rD ?_ | refine vL hfa ?_ | refine aO ?_ | fail)
      refine aF (k + 1) ?_ ?_ ?_
      ·simp only [go_sem, hst]; simp [bW, b1s]
      ·omega
      ·omega
     ·have hy : ¬ (p : Int) < 0 := by omega
      have hfx : nO L L[k] = L[k] := by unfold nO; rw [if_pos (by omega)]
      rw [e] at hfa
      rw [hfx] at hst
      have hsame : (nP L k).set k L[k] = nP L k := by rw [← hat]; exact List.set_getElem_self _
      rw [hsame] at hst
      have qH := aI @h4 (aI @h4' (aI @hat (aI @hy @decide_false))); repeat' (with_reducible first | refine nY ?_ | (refine mX ?_; try simp only [go_sem, qH]) | refine kD ?_ | refine rD ?_ | refine vL hfa ?_ | refine aO ?_ | fail)
      refine aF (k + 1) ?_ ?_ ?_
      ·simp only [go_sem, hst]; simp
      ·omega
      ·omega
    ·simp only [decide_eq_false_iff_not] at h4
     have e : k = L.length := by omega
     subst e
     rw [a7F]
     refine aD ?_
     exact aA ⟨⟨_, rfl, by simp only [go_sem]⟩, trivial⟩
theorem a9j (s : TStore) (u : Int) (h : aJ s ≤ 4300000) : FnC Tryz.prog 30 [bG s, oi u] (a0J (vis s u)) := by
 have h1 : s.fSchema.length ≤ 4300000 := by unfold aJ bH at h; omega
 have h2 : s.fFiles.length + bI bA s.fFiles ≤ 4300000 := by unfold aJ eF at h; omega
 refine ent Tryz.func30 rfl Tryz.call30 rfl (fun C => ?_); simp only [go_sem, st0, Tryz.ntmps30]
 have qH := trivial; repeat' (with_reducible first | refine nY ?_ | (refine mX ?_; try simp only [go_sem]) | refine kD ?_ | (apply rE [0,3,7,8] [] [1,2,4,5] [1,2,4,5] ((.c 0 [] [1,2,4,5] (.c 3 [6] [4,5,6] (.c 7 [] [4,5,6] (.c 8 [] [] .n .n) .n) (.c 7 [] [1,2,4,5] (.c 3 [6] [4,5,6] (.c 8 [] [] .n .n) .n) .n)) (.c 7 [] [1,2,4,5] (.c 0 [] [1,2,4,5] (.c 3 [6] [4,5,6] (.c 8 [] [] .n .n) .n) .n) .n))) (by simp only [go_sem]; rfl) (by simp only [go_sem]; rfl) (by simp only [go_sem]; rfl) (by decide +kernel); (focus simp only [go_sem]; done)) | exact bJ | refine aP (uX ?_) ?_ | refine aQ (aX ?_) ?_ | refine aR (aX ?_) ?_ | exact bY | (refine a0e [(2, 3)] (by simp only [go_sem]; rfl) ?_; exact rfl) | exact oH | (refine uA ?_; simp only [go_sem]; (repeat' first | omega | refine And.intro ?_ ?_); done) | refine rD ?_ | refine aO ?_ | fail)
 refine a1P 3 1 69 5 rfl rfl ?_
 simp only [go_sem]
 refine aY (α := Nat) (fun k => [(6, oi k)]) (fun k => [(4, .row 69 5 ((visF u (s.fFiles.take k)).map bW) true)]) (fun k => k ≤ s.fFiles.length) (fun k => s.fFiles.length - k) 0 (fun _ => ?_) ?_ ?_ (fun k hk => ?_)
 ·simp only [go_sem]
 ·simp only [go_sem]; simp [visF]
 ·simp
 ·simp only [go_sem]
  refine aD ?_
  refine cnd rfl (fun h3 => ?_) (fun h3 => ?_)
  ·simp only [decide_eq_true_eq, Int.ofNat_lt] at h3
   have hw := dD bA s.fFiles h3
   have hx : s.fFiles[k].fAttrs.length ≤ 4300000 := by
    have e : s.fFiles[k].fAttrs.length ≤ bA s.fFiles[k] := by unfold bA eT; omega
    omega
   have ht := a4R u s.fFiles k h3
   have hn : (visF u (s.fFiles.take k)).length ≤ 4300000 := by have := sM u (s.fFiles.take k); simp at this; omega
   cases hc : yL s.fFiles[k] u
   ·rw [hc] at ht
    have q0 := @h3; have q1 := @hc; refine zS (qL s.fFiles[k] u) ?_
    refine aF (k + 1) ?_ ?_ ?_
    ·simp only [go_sem, ht]; simp
    ·omega
    ·omega
   ·rw [hc] at ht
    have qH := aI @h3 @hc; repeat' (with_reducible first | refine nY ?_ | (refine mX ?_; try simp only [go_sem, qH]) | refine kD ?_ | (apply rE [7,8,9,11] [] [0,1,2,3,4,5,6] [0,1,2,3,4,5,6] ((.c 7 [] [0,1] (.c 8 [] [0,1] (.c 9 [10] [10] (.c 11 [] [] .n .n) .n) .n) .n)) (by simp only [go_sem]; rfl) (by simp only [go_sem]; rfl) (by simp only [go_sem]; rfl) (by decide +kernel); (focus simp only [go_sem]; done)) | exact bJ | refine aP (uX ?_) ?_ | refine aQ (aX ?_) ?_ | refine aR (aX ?_) ?_ | exact bY | exact oH | exact uB | refine rD ?_ | refine cP (qL s.fFiles[k] u) ?_ | refine cP (mR s.fFiles[k] hx) ?_ | refine aO ?_ | fail)
    refine aF (k + 1) ?_ ?_ ?_
    ·simp only [go_sem, ht, List.map_append]; simp [bW]
    ·omega
    ·omega
  ·simp only [decide_eq_false_iff_not] at h3
   have e : k = s.fFiles.length := by omega
   subst e
   rw [List.take_length]
   have hL : (visF u s.fFiles).length ≤ 4300000 := by have := sM u s.fFiles; omega
   unfold vis
   generalize visF u s.fFiles = L at *
   refine aD ?_
   refine aY (α := Nat) (fun k => [(7, oi k)]) (fun k => [(4, .row 69 5 ((nP L k).map bW) true)]) (fun k => k ≤ L.length) (fun k => L.length - k) 0 (fun _ => ?_) ?_ ?_ (fun k hk => ?_)
   ·simp only [go_sem]
   ·simp only [go_sem]; simp [nP]
   ·simp
   ·simp only [go_sem]
    have hln := a3o L k
    have q0 := @hln; refine jW ?_
    refine cnd rfl (fun h4 => ?_) (fun h4 => ?_)
    ·simp only [decide_eq_true_eq, Int.ofNat_lt] at h4
     have h4' : k < (nP L k).length := by omega
     have hat := b0p L k h4
     have hst := a4S L k h4
     have hfa := kP ⟨s.fSchema, nP L k, s.fNextID⟩ L[k].fLink (by simp only; omega)
     rw [show ixF L[k].fLink (TStore.fFiles ⟨s.fSchema, nP L k, s.fNextID⟩) = ixF L[k].fLink L from b0o _ (a3n L k)] at hfa
     rcases ixF_cases L[k].fLink L with e | ⟨p, e, _⟩
     ·have hy : (-1 : Int) < 0 := by omega
      have hfx : nO L L[k] = b1s L[k] := by unfold nO; rw [if_neg (by omega)]
      rw [e] at hfa
      rw [hfx] at hst
      have qH := aI @h4 (aI @h4' (aI @hat (aI @hy @decide_true))); repeat' (with_reducible first | refine nY ?_ | (refine mX ?_; try simp only [go_sem, qH]) | refine kD ?_ | refine rD ?_ | refine vO hfa ?_ | refine vQ hfa ?_ | refine aO ?_ | fail)
      refine aF (k + 1) ?_ ?_ ?_
      ·simp only [go_sem, hst]; simp [bW, b1s]
      ·omega
      ·omega
     ·have hy : ¬ (p : Int) < 0 := by omega
      have hfx : nO L L[k] = L[k] := by unfold nO; rw [if_pos (by omega)]
      rw [e] at hfa
      rw [hfx] at hst
      have hsame : (nP L k).set k L[k] = nP L k := by rw [← hat]; exact List.set_getElem_self _
      rw [hsame] at hst
      have qH := aI @h4 (aI @h4' (aI @hat (aI @hy @decide_false))); repeat' (with_reducible first | refine nY ?_ | (refine mX ?_; try simp only [go_sem, qH]) | refine kD ?_ | refine rD ?_ | refine vO hfa ?_ | refine vQ hfa ?_ | refine aO ?_ | fail)
      refine aF (k + 1) ?_ ?_ ?_
      ·simp only [go_sem, hst]; simp
      ·omega
      ·omega
    ·simp only [decide_eq_false_iff_not] at h4
     have e : k = L.length := by omega
     subst e
     rw [a7F]
     refine aD ?_
     exact aA ⟨⟨_, rfl, by simp only [go_sem]⟩, trivial⟩
def okU (s : TStore) (u : Int) : Bool := bD s && inB u 0 2
noncomputable def evU (s : TStore) (d : List TDir) (u : Int) : List TResult := if okU s u then (evX (vis s u) d [] (dirNs d)).1 else []
noncomputable def a3M (s : TStore) (d : List TDir) (u : Int) : Bool := okU s u && evB (vis s u) d
theorem a1r (s : TStore) (u : Int) (h : aJ s ≤ 4300000) : FnC Tryz.prog 37 [bG s, oi u] (bG (vis s u)) := (a9i s u h).pu (by simp only [go_sem, and_self])
theorem qK (s : TStore) (u : Int) (h : aJ s ≤ 4300000) : FnC Tryz.prog 30 [bG s, oi u] (bG (vis s u)) := (a9j s u h).pu (by simp only [go_sem, and_self])
theorem a9e (s : TStore) (d : List TDir) (u : Int) (hs : aJ s ≤ 4300000) (hd : gN d ≤ 4300000) : FnC Tryz.prog 83 [bG s, .o (.d (.sl (d.map dG))), oi u] (.t [(false, [.w 169 2 ((evU s d u).map bC)]), (false, [.d (bv (a3M s d u))])]) := by
 have hw := a4T s u
 refine ent Tryz.func83 rfl Tryz.call83 rfl (fun C => ?_); simp only [go_sem, st0, Tryz.ntmps83]
 cases h1 : bD s
 ·have e : okU s u = false := by simp [okU, h1]
  have q0 := @h1; refine lK (kY s hs) ?_
  exact aA ⟨⟨_, rfl, by simp only [go_sem, evU, a3M, e, Bool.false_and, Bool.false_eq_true, if_false, List.map_nil]; try simp⟩, by simp [cK]⟩
 cases h2 : inB u 0 2
 ·have e : okU s u = false := by simp [okU, h2]
  have q0 := @h1; have q1 := @h2; refine zT (kY s hs) (jL u) ?_
  exact aA ⟨⟨_, rfl, by simp only [go_sem, evU, a3M, e, Bool.false_and, Bool.false_eq_true, if_false, List.map_nil]; try simp⟩, by simp [cK]⟩
 ·have e : okU s u = true := by simp [okU, h1, h2]
  have q0 := @h1; have q1 := @h2; refine b4k (kY s hs) (jL u) (a1r s u hs) (a7K (vis s u) d (by omega) hd) ?_
  exact aA ⟨⟨_, rfl, by simp only [go_sem, evU, a3M, e, Bool.true_and, if_true]; try simp⟩, by simp [cK]⟩
theorem a9f (s : TStore) (d : List TDir) (u : Int) (hs : aJ s ≤ 4300000) (hd : gN d ≤ 4300000) : FnC Tryz.prog 88 [bG s, .o (.d (.sl (d.map dG))), oi u] (.t [(false, [.w 169 2 ((evU s d u).map bC)]), (false, [.d (bv (a3M s d u))])]) := by
 have hw := a4T s u
 refine ent Tryz.func88 rfl Tryz.call88 rfl (fun C => ?_); simp only [go_sem, st0, Tryz.ntmps88]
 cases h2 : inB u 0 2
 ·have e : okU s u = false := by simp [okU, h2]
  have q0 := @h2; refine b0S (aV s hs) (bP u 0 2) ?_
  exact aA ⟨⟨_, rfl, by simp only [go_sem, evU, a3M, e, Bool.false_and, Bool.false_eq_true, if_false, List.map_nil]; try simp⟩, by simp [cK]⟩
 cases h1 : bD s
 ·have e : okU s u = false := by simp [okU, h1]
  have q0 := @h1; have q1 := @h2; refine zT (aV s hs) (bP u 0 2) ?_
  exact aA ⟨⟨_, rfl, by simp only [go_sem, evU, a3M, e, Bool.false_and, Bool.false_eq_true, if_false, List.map_nil]; try simp⟩, by simp [cK]⟩
 ·have e : okU s u = true := by simp [okU, h1, h2]
  have q0 := @h1; have q1 := @h2; refine b4k (aV s hs) (bP u 0 2) (qK s u hs) (a7L (vis s u) d (by omega) hd) ?_
  exact aA ⟨⟨_, rfl, by simp only [go_sem, evU, a3M, e, Bool.true_and, if_true]; try simp⟩, by simp [cK]⟩
theorem a7D (s : TStore) (d : List TDir) (u : Int) (hs : aJ s ≤ 4300000) (hd : gN d ≤ 4300000) : FnC Tryz.prog 83 [bG s, .o (.d (.sl (d.map dG))), oi u] (.t [(false, [.d (.sl ((evU s d u).map bC))]), (false, [.d (bv (a3M s d u))])]) := (a9e s d u hs hd).pu (by simp only [go_sem, and_self])
theorem a7E (s : TStore) (d : List TDir) (u : Int) (hs : aJ s ≤ 4300000) (hd : gN d ≤ 4300000) : FnC Tryz.prog 88 [bG s, .o (.d (.sl (d.map dG))), oi u] (.t [(false, [.d (.sl ((evU s d u).map bC))]), (false, [.d (bv (a3M s d u))])]) := (a9f s d u hs hd).pu (by simp only [go_sem, and_self])
theorem b5f (s : TStore) (d : List TDir) (u : Int) : bM (evU s d u) ≤ 95 := by
 unfold evU
 split
 ·exact b6z _ _
 ·simp [bM, bI]
noncomputable def a1L (s : TStore) (d : List TDir) (u : Int) (n : ByteArray) : List Int := bQ n (evU s d u)
theorem a9g (s : TStore) (d : List TDir) (u : Int) (n : ByteArray) (hs : aJ s ≤ 4300000) (hd : gN d ≤ 4300000) : FnC Tryz.prog 38 [bG s, .o (.d (.sl (d.map dG))), oi u, os n] (.o (.d (.sl ((a1L s d u n).map gG)))) := by
 have hw := b5f s d u
 refine ent Tryz.func38 rfl Tryz.call38 rfl (fun C => ?_); simp only [go_sem, st0, Tryz.ntmps38]
 refine b5M (a7D s d u hs hd) (lG (evU s d u) n (by omega)) ?_
 exact aA ⟨⟨_, rfl, by simp only [go_sem, a1L]⟩, trivial⟩
theorem a9h (s : TStore) (d : List TDir) (u : Int) (n : ByteArray) (hs : aJ s ≤ 4300000) (hd : gN d ≤ 4300000) : FnC Tryz.prog 40 [bG s, .o (.d (.sl (d.map dG))), oi u, os n] (.o (.d (.sl ((a1L s d u n).map gG)))) := by
 have hw := b5f s d u
 refine ent Tryz.func40 rfl Tryz.call40 rfl (fun C => ?_); simp only [go_sem, st0, Tryz.ntmps40]
 refine b5M (a7E s d u hs hd) (lH (evU s d u) n (by omega)) ?_
 exact aA ⟨⟨_, rfl, by simp only [go_sem, a1L]⟩, trivial⟩
noncomputable def isL (s : TStore) (d : List TDir) (u : Int) (n : ByteArray) (id : Int) : Bool := hasI (a1L s d u n) id
def zD : TDir := ⟨⟨#[]⟩, []⟩
def b9e (d : List TDir) (n : ByteArray) : TDir := if 0 ≤ placeD d n then d.getD (placeD d n).toNat zD else zD
def b9i (d : List TDir) (n : ByteArray) : Bool := decide (0 ≤ placeD d n)
end Go.Proofs.YtakopfjdmmnjcaaGreat
end
section
namespace Go.Proofs.YtakopfjdmmnjcaaGreat.Opq
open Go Go.Sx Go.RowKit Go.Proofs
class NyO (P : Prop) (Q : outParam Prop) : Prop where
 ny : Q → P
instance (priority := low) {P Q : Prop} [i : Ny P Q] : NyO P Q := ⟨i.ny⟩
theorem nY {P Q : Prop} [i : NyO P Q] (h : Q) : P := i.ny h
noncomputable def ttl : List Ty := [.bad,
 .bad,
 ⟨3, 1, 8, [.d (.v (.int .i64 0))], [], 0, .i64⟩,
 ⟨3, 1, 8, [.d (.v (.int .i64 0))], [], 0, .i64⟩,
 ⟨4, 1, 1, [.d (.v (.bool false))], [], 0, .i64⟩,
 ⟨3, 1, 1, [.d (.v (.int .u8 0))], [], 0, .u8⟩,
 ⟨3, 1, 1, [.d (.v (.int .u8 0))], [], 0, .u8⟩,
 ⟨1, 4, 24, [.d (.v (.int .i64 0)), .d (.v (.int .i64 0)), .d (.v (.bool false)), .d (.v (.int .u8 0))], [(0, 2), (1, 3), (2, 4), (3, 6)], 0, .i64⟩,
 ⟨1, 4, 24, [.d (.v (.int .i64 0)), .d (.v (.int .i64 0)), .d (.v (.bool false)), .d (.v (.int .u8 0))], [(0, 2), (1, 3), (2, 4), (3, 6)], 0, .i64⟩,
 ⟨5, 1, 16, [.d (.v (.string ⟨#[]⟩))], [], 0, .i64⟩,
 ⟨5, 1, 16, [.d (.v (.string ⟨#[]⟩))], [], 0, .i64⟩,
 ⟨5, 1, 16, [.d (.v (.string ⟨#[]⟩))], [], 0, .i64⟩,
 .bad,
 .bad,
 .bad,
 .bad,
 .bad,
 .bad,
 .bad,
 .bad,
 .bad,
 .bad,
 ⟨2, 1, 24, [.z], [], 5, .i64⟩,
 .bad,
 ⟨2, 1, 24, [.z], [], 113, .i64⟩,
 ⟨2, 1, 24, [.z], [], 69, .i64⟩,
 ⟨1, 3, 56, [.z, .z, .d (.v (.int .i64 0))], [(0, 24), (1, 25), (2, 3)], 0, .i64⟩,
 ⟨1, 3, 56, [.z, .z, .d (.v (.int .i64 0))], [(0, 24), (1, 25), (2, 3)], 0, .i64⟩,
 ⟨2, 1, 24, [.z], [], 38, .i64⟩,
 .bad,
 .bad,
 ⟨2, 1, 24, [.z], [(0, 0)], 3, .i64⟩,
 .bad,
 .bad,
 .bad,
 .bad,
 ⟨2, 1, 24, [.z], [], 104, .i64⟩,
 ⟨1, 2, 40, [.d (.v (.string ⟨#[]⟩)), .z], [(0, 9), (1, 36)], 0, .i64⟩,
 ⟨1, 2, 40, [.d (.v (.string ⟨#[]⟩)), .z], [(0, 9), (1, 36)], 0, .i64⟩,
 ⟨2, 1, 24, [.z], [], 9, .i64⟩,
 .bad,
 ⟨2, 1, 24, [.z], [], 75, .i64⟩,
 .bad,
 .bad,
 ⟨2, 1, 24, [.z], [], 128, .i64⟩,
 ⟨2, 1, 24, [.z], [], 132, .i64⟩,
 ⟨1, 3, 56, [.z, .z, .d (.v (.int .i64 0))], [(0, 44), (1, 45), (2, 3)], 0, .i64⟩,
 ⟨1, 3, 56, [.z, .z, .d (.v (.int .i64 0))], [(0, 44), (1, 45), (2, 3)], 0, .i64⟩,
 ⟨2, 1, 24, [.z], [], 84, .i64⟩,
 .bad,
 .bad,
 .bad,
 .bad,
 .bad,
 .bad,
 .bad,
 .bad,
 .bad,
 .bad,
 .bad,
 .bad,
 .bad,
 .bad,
 .bad,
 .bad,
 .bad,
 .bad,
 ⟨2, 1, 24, [.z], [], 110, .i64⟩,
 ⟨1, 5, 56, [.d (.v (.int .i64 0)), .d (.v (.int .i64 0)), .d (.v (.bool false)), .d (.v (.int .i64 0)), .z], [(0, 3), (1, 3), (2, 4), (3, 3), (4, 67)], 0, .i64⟩,
 ⟨1, 5, 56, [.d (.v (.int .i64 0)), .d (.v (.int .i64 0)), .d (.v (.bool false)), .d (.v (.int .i64 0)), .z], [(0, 3), (1, 3), (2, 4), (3, 3), (4, 67)], 0, .i64⟩,
 .bad,
 .bad,
 ⟨1, 3, 32, [.d (.v (.int .i64 0)), .d (.v (.int .i64 0)), .d (.v (.string ⟨#[]⟩))], [(0, 3), (1, 3), (2, 9)], 0, .i64⟩,
 ⟨1, 3, 32, [.d (.v (.int .i64 0)), .d (.v (.int .i64 0)), .d (.v (.string ⟨#[]⟩))], [(0, 3), (1, 3), (2, 9)], 0, .i64⟩,
 ⟨1, 4, 56, [.d (.v (.int .i64 0)), .d (.v (.int .i64 0)), .d (.v (.string ⟨#[]⟩)), .d (.v (.slice none 0 0))], [(0, 73), (3, 31)], 0, .i64⟩,
 ⟨1, 4, 56, [.d (.v (.int .i64 0)), .d (.v (.int .i64 0)), .d (.v (.string ⟨#[]⟩)), .d (.v (.slice none 0 0))], [(0, 73), (3, 31)], 0, .i64⟩,
 .bad,
 .bad,
 .bad,
 .bad,
 .bad,
 .bad,
 ⟨2, 1, 24, [.z], [], 175, .i64⟩,
 ⟨1, 2, 40, [.d (.v (.string ⟨#[]⟩)), .z], [(0, 9), (1, 82)], 0, .i64⟩,
 ⟨1, 2, 40, [.d (.v (.string ⟨#[]⟩)), .z], [(0, 9), (1, 82)], 0, .i64⟩,
 .bad,
 .bad,
 .bad,
 .bad,
 .bad,
 .bad,
 .bad,
 .bad,
 .bad,
 .bad,
 .bad,
 ⟨1, 3, 40, [.z, .d (.v (.int .i64 0)), .d (.v (.int .i64 0))], [(0, 22), (1, 3), (2, 3)], 0, .i64⟩,
 ⟨1, 3, 40, [.z, .d (.v (.int .i64 0)), .d (.v (.int .i64 0))], [(0, 22), (1, 3), (2, 3)], 0, .i64⟩,
 .bad,
 .bad,
 .bad,
 .bad,
 .bad,
 ⟨1, 7, 72, [.d (.v (.int .i64 0)), .d (.v (.int .i64 0)), .d (.v (.int .i64 0)), .d (.v (.string ⟨#[]⟩)), .d (.v (.int .i64 0)), .d (.v (.int .i64 0)), .d (.v (.string ⟨#[]⟩))], [(0, 3), (1, 3), (2, 3), (3, 9), (4, 73)], 0, .i64⟩,
 ⟨1, 7, 72, [.d (.v (.int .i64 0)), .d (.v (.int .i64 0)), .d (.v (.int .i64 0)), .d (.v (.string ⟨#[]⟩)), .d (.v (.int .i64 0)), .d (.v (.int .i64 0)), .d (.v (.string ⟨#[]⟩))], [(0, 3), (1, 3), (2, 3), (3, 9), (4, 73)], 0, .i64⟩,
 .bad,
 .bad,
 .bad,
 .bad,
 ⟨1, 4, 48, [.d (.v (.string ⟨#[]⟩)), .d (.v (.int .i64 0)), .d (.v (.int .i64 0)), .d (.v (.string ⟨#[]⟩))], [(0, 9), (1, 73)], 0, .i64⟩,
 ⟨1, 4, 48, [.d (.v (.string ⟨#[]⟩)), .d (.v (.int .i64 0)), .d (.v (.int .i64 0)), .d (.v (.string ⟨#[]⟩))], [(0, 9), (1, 73)], 0, .i64⟩,
 .bad,
 ⟨1, 2, 24, [.d (.v (.string ⟨#[]⟩)), .d (.v (.int .i64 0))], [(0, 9), (1, 3)], 0, .i64⟩,
 ⟨1, 2, 24, [.d (.v (.string ⟨#[]⟩)), .d (.v (.int .i64 0))], [(0, 9), (1, 3)], 0, .i64⟩,
 .bad,
 .bad,
 .bad,
 .bad,
 .bad,
 .bad,
 .bad,
 .bad,
 .bad,
 ⟨2, 1, 24, [.z], [], 169, .i64⟩,
 .bad,
 .bad,
 .bad,
 .bad,
 ⟨1, 2, 24, [.d (.v (.string ⟨#[]⟩)), .d (.v (.int .i64 0))], [(0, 9), (1, 3)], 0, .i64⟩,
 .bad,
 ⟨2, 1, 24, [.z], [], 197, .i64⟩,
 ⟨1, 5, 56, [.d (.v (.int .i64 0)), .d (.v (.int .i64 0)), .d (.v (.bool false)), .d (.v (.int .i64 0)), .z], [(0, 3), (1, 3), (2, 4), (3, 3), (4, 130)], 0, .i64⟩,
 ⟨1, 5, 56, [.d (.v (.int .i64 0)), .d (.v (.int .i64 0)), .d (.v (.bool false)), .d (.v (.int .i64 0)), .z], [(0, 3), (1, 3), (2, 4), (3, 3), (4, 130)], 0, .i64⟩,
 .bad,
 .bad,
 .bad,
 .bad,
 .bad,
 .bad,
 .bad,
 .bad,
 .bad,
 .bad,
 .bad,
 .bad,
 .bad,
 .bad,
 .bad,
 .bad,
 .bad,
 .bad,
 .bad,
 .bad,
 .bad,
 .bad,
 .bad,
 .bad,
 .bad,
 .bad,
 .bad,
 .bad,
 .bad,
 .bad,
 .bad,
 .bad,
 .bad,
 .bad,
 .bad,
 ⟨1, 2, 40, [.d (.v (.string ⟨#[]⟩)), .z], [(0, 9), (1, 31)], 0, .i64⟩,
 ⟨1, 2, 40, [.d (.v (.string ⟨#[]⟩)), .z], [(0, 9), (1, 31)], 0, .i64⟩,
 .bad,
 .bad,
 .bad,
 ⟨1, 3, 32, [.d (.v (.int .i64 0)), .d (.v (.int .i64 0)), .d (.v (.string ⟨#[]⟩))], [(0, 3), (1, 3), (2, 9)], 0, .i64⟩,
 ⟨1, 7, 72, [.d (.v (.int .i64 0)), .d (.v (.int .i64 0)), .d (.v (.int .i64 0)), .d (.v (.string ⟨#[]⟩)), .d (.v (.int .i64 0)), .d (.v (.int .i64 0)), .d (.v (.string ⟨#[]⟩))], [(0, 3), (1, 3), (2, 3), (3, 9), (4, 173)], 0, .i64⟩,
 ⟨1, 7, 72, [.d (.v (.int .i64 0)), .d (.v (.int .i64 0)), .d (.v (.int .i64 0)), .d (.v (.string ⟨#[]⟩)), .d (.v (.int .i64 0)), .d (.v (.int .i64 0)), .d (.v (.string ⟨#[]⟩))], [(0, 3), (1, 3), (2, 3), (3, 9), (4, 173)], 0, .i64⟩,
 .bad,
 .bad,
 .bad,
 .bad,
 .bad,
 .bad,
 .bad,
 .bad,
 .bad,
 .bad,
 .bad,
 .bad,
 .bad,
 .bad,
 .bad,
 .bad,
 .bad,
 .bad,
 .bad,
 .bad,
 ⟨1, 4, 48, [.d (.v (.string ⟨#[]⟩)), .d (.v (.int .i64 0)), .d (.v (.int .i64 0)), .d (.v (.string ⟨#[]⟩))], [(0, 9), (1, 173)], 0, .i64⟩,
 ⟨1, 4, 48, [.d (.v (.string ⟨#[]⟩)), .d (.v (.int .i64 0)), .d (.v (.int .i64 0)), .d (.v (.string ⟨#[]⟩))], [(0, 9), (1, 173)], 0, .i64⟩,
 .bad,
 .bad,
 .bad,
 .bad,
 .bad,
 .bad,
 .bad,
 .bad,
 .bad,
 .bad,
 .bad,
 .bad,
 .bad,
 .bad,
 .bad,
 .bad,
 .bad,
 ⟨2, 1, 24, [.z], [], 4, .i64⟩,
 .bad,
 .bad,
 .bad,
 .bad,
 .bad,
 .bad,
 .bad,
 .bad,
 .bad,
 .bad,
 .bad,
 .bad,
 .bad,
 .bad,
 ⟨3, 1, 8, [.d (.v (.int .i64 0))], [], 0, .i64⟩,
 .bad,
 .bad,
 .bad,
 .bad,
 .bad,
 .bad,
 .bad,
 .bad,
 .bad,
 .bad,
 .bad,
 .bad,
 .bad,
 .bad,
 .bad,
 .bad,
 .bad,
 .bad,
 .bad,
 .bad,
 .bad,
 .bad,
 .bad,
 .bad,
 .bad,
 .bad,
 ⟨3, 1, 1, [.d (.v (.int .u8 0))], [], 0, .u8⟩,
 ⟨3, 1, 1, [.d (.v (.int .u8 0))], [], 0, .u8⟩,
 .bad,
 .bad,
 .bad,
 .bad,
 .bad,
 .bad,
 .bad]
noncomputable def tt : Nat → Ty := fun t => ttl.getD t .bad
theorem ttOK : TyOK Tryz.prog tt := TyOK.of_list (by kernel_rfl)
theorem tts : tt 2 = ⟨3, 1, 8, [.d (.v (.int .i64 0))], [], 0, .i64⟩ ∧ tt 3 = ⟨3, 1, 8, [.d (.v (.int .i64 0))], [], 0, .i64⟩ ∧ tt 4 = ⟨4, 1, 1, [.d (.v (.bool false))], [], 0, .i64⟩ ∧ tt 5 = ⟨3, 1, 1, [.d (.v (.int .u8 0))], [], 0, .u8⟩ ∧ tt 6 = ⟨3, 1, 1, [.d (.v (.int .u8 0))], [], 0, .u8⟩ ∧ tt 7 = ⟨1, 4, 24, [.d (.v (.int .i64 0)), .d (.v (.int .i64 0)), .d (.v (.bool false)), .d (.v (.int .u8 0))], [(0, 2), (1, 3), (2, 4), (3, 6)], 0, .i64⟩ ∧ tt 8 = ⟨1, 4, 24, [.d (.v (.int .i64 0)), .d (.v (.int .i64 0)), .d (.v (.bool false)), .d (.v (.int .u8 0))], [(0, 2), (1, 3), (2, 4), (3, 6)], 0, .i64⟩ ∧ tt 9 = ⟨5, 1, 16, [.d (.v (.string ⟨#[]⟩))], [], 0, .i64⟩ ∧ tt 10 = ⟨5, 1, 16, [.d (.v (.string ⟨#[]⟩))], [], 0, .i64⟩ ∧ tt 11 = ⟨5, 1, 16, [.d (.v (.string ⟨#[]⟩))], [], 0, .i64⟩ ∧ tt 22 = ⟨2, 1, 24, [.z], [], 5, .i64⟩ ∧ tt 24 = ⟨2, 1, 24, [.z], [], 113, .i64⟩ ∧ tt 25 = ⟨2, 1, 24, [.z], [], 69, .i64⟩ ∧ tt 26 = ⟨1, 3, 56, [.z, .z, .d (.v (.int .i64 0))], [(0, 24), (1, 25), (2, 3)], 0, .i64⟩ ∧ tt 27 = ⟨1, 3, 56, [.z, .z, .d (.v (.int .i64 0))], [(0, 24), (1, 25), (2, 3)], 0, .i64⟩ ∧ tt 28 = ⟨2, 1, 24, [.z], [], 38, .i64⟩ ∧ tt 31 = ⟨2, 1, 24, [.z], [(0, 0)], 3, .i64⟩ ∧ tt 36 = ⟨2, 1, 24, [.z], [], 104, .i64⟩ ∧ tt 37 = ⟨1, 2, 40, [.d (.v (.string ⟨#[]⟩)), .z], [(0, 9), (1, 36)], 0, .i64⟩ ∧ tt 38 = ⟨1, 2, 40, [.d (.v (.string ⟨#[]⟩)), .z], [(0, 9), (1, 36)], 0, .i64⟩ ∧ tt 39 = ⟨2, 1, 24, [.z], [], 9, .i64⟩ ∧ tt 41 = ⟨2, 1, 24, [.z], [], 75, .i64⟩ ∧ tt 44 = ⟨2, 1, 24, [.z], [], 128, .i64⟩ ∧ tt 45 = ⟨2, 1, 24, [.z], [], 132, .i64⟩ ∧ tt 46 = ⟨1, 3, 56, [.z, .z, .d (.v (.int .i64 0))], [(0, 44), (1, 45), (2, 3)], 0, .i64⟩ ∧ tt 47 = ⟨1, 3, 56, [.z, .z, .d (.v (.int .i64 0))], [(0, 44), (1, 45), (2, 3)], 0, .i64⟩ ∧ tt 48 = ⟨2, 1, 24, [.z], [], 84, .i64⟩ ∧ tt 67 = ⟨2, 1, 24, [.z], [], 110, .i64⟩ ∧ tt 68 = ⟨1, 5, 56, [.d (.v (.int .i64 0)), .d (.v (.int .i64 0)), .d (.v (.bool false)), .d (.v (.int .i64 0)), .z], [(0, 3), (1, 3), (2, 4), (3, 3), (4, 67)], 0, .i64⟩ ∧ tt 69 = ⟨1, 5, 56, [.d (.v (.int .i64 0)), .d (.v (.int .i64 0)), .d (.v (.bool false)), .d (.v (.int .i64 0)), .z], [(0, 3), (1, 3), (2, 4), (3, 3), (4, 67)], 0, .i64⟩ ∧ tt 72 = ⟨1, 3, 32, [.d (.v (.int .i64 0)), .d (.v (.int .i64 0)), .d (.v (.string ⟨#[]⟩))], [(0, 3), (1, 3), (2, 9)], 0, .i64⟩ ∧ tt 73 = ⟨1, 3, 32, [.d (.v (.int .i64 0)), .d (.v (.int .i64 0)), .d (.v (.string ⟨#[]⟩))], [(0, 3), (1, 3), (2, 9)], 0, .i64⟩ ∧ tt 74 = ⟨1, 4, 56, [.d (.v (.int .i64 0)), .d (.v (.int .i64 0)), .d (.v (.string ⟨#[]⟩)), .d (.v (.slice none 0 0))], [(0, 73), (3, 31)], 0, .i64⟩ ∧ tt 75 = ⟨1, 4, 56, [.d (.v (.int .i64 0)), .d (.v (.int .i64 0)), .d (.v (.string ⟨#[]⟩)), .d (.v (.slice none 0 0))], [(0, 73), (3, 31)], 0, .i64⟩ ∧ tt 82 = ⟨2, 1, 24, [.z], [], 175, .i64⟩ ∧ tt 83 = ⟨1, 2, 40, [.d (.v (.string ⟨#[]⟩)), .z], [(0, 9), (1, 82)], 0, .i64⟩ ∧ tt 84 = ⟨1, 2, 40, [.d (.v (.string ⟨#[]⟩)), .z], [(0, 9), (1, 82)], 0, .i64⟩ ∧ tt 96 = ⟨1, 3, 40, [.z, .d (.v (.int .i64 0)), .d (.v (.int .i64 0))], [(0, 22), (1, 3), (2, 3)], 0, .i64⟩ ∧ tt 97 = ⟨1, 3, 40, [.z, .d (.v (.int .i64 0)), .d (.v (.int .i64 0))], [(0, 22), (1, 3), (2, 3)], 0, .i64⟩ ∧ tt 103 = ⟨1, 7, 72, [.d (.v (.int .i64 0)), .d (.v (.int .i64 0)), .d (.v (.int .i64 0)), .d (.v (.string ⟨#[]⟩)), .d (.v (.int .i64 0)), .d (.v (.int .i64 0)), .d (.v (.string ⟨#[]⟩))], [(0, 3), (1, 3), (2, 3), (3, 9), (4, 73)], 0, .i64⟩ ∧ tt 104 = ⟨1, 7, 72, [.d (.v (.int .i64 0)), .d (.v (.int .i64 0)), .d (.v (.int .i64 0)), .d (.v (.string ⟨#[]⟩)), .d (.v (.int .i64 0)), .d (.v (.int .i64 0)), .d (.v (.string ⟨#[]⟩))], [(0, 3), (1, 3), (2, 3), (3, 9), (4, 73)], 0, .i64⟩ ∧ tt 109 = ⟨1, 4, 48, [.d (.v (.string ⟨#[]⟩)), .d (.v (.int .i64 0)), .d (.v (.int .i64 0)), .d (.v (.string ⟨#[]⟩))], [(0, 9), (1, 73)], 0, .i64⟩ ∧ tt 110 = ⟨1, 4, 48, [.d (.v (.string ⟨#[]⟩)), .d (.v (.int .i64 0)), .d (.v (.int .i64 0)), .d (.v (.string ⟨#[]⟩))], [(0, 9), (1, 73)], 0, .i64⟩ ∧ tt 112 = ⟨1, 2, 24, [.d (.v (.string ⟨#[]⟩)), .d (.v (.int .i64 0))], [(0, 9), (1, 3)], 0, .i64⟩ ∧ tt 113 = ⟨1, 2, 24, [.d (.v (.string ⟨#[]⟩)), .d (.v (.int .i64 0))], [(0, 9), (1, 3)], 0, .i64⟩ ∧ tt 123 = ⟨2, 1, 24, [.z], [], 169, .i64⟩ ∧ tt 128 = ⟨1, 2, 24, [.d (.v (.string ⟨#[]⟩)), .d (.v (.int .i64 0))], [(0, 9), (1, 3)], 0, .i64⟩ ∧ tt 130 = ⟨2, 1, 24, [.z], [], 197, .i64⟩ ∧ tt 131 = ⟨1, 5, 56, [.d (.v (.int .i64 0)), .d (.v (.int .i64 0)), .d (.v (.bool false)), .d (.v (.int .i64 0)), .z], [(0, 3), (1, 3), (2, 4), (3, 3), (4, 130)], 0, .i64⟩ ∧ tt 132 = ⟨1, 5, 56, [.d (.v (.int .i64 0)), .d (.v (.int .i64 0)), .d (.v (.bool false)), .d (.v (.int .i64 0)), .z], [(0, 3), (1, 3), (2, 4), (3, 3), (4, 130)], 0, .i64⟩ ∧ tt 168 = ⟨1, 2, 40, [.d (.v (.string ⟨#[]⟩)), .z], [(0, 9), (1, 31)], 0, .i64⟩ ∧ tt 169 = ⟨1, 2, 40, [.d (.v (.string ⟨#[]⟩)), .z], [(0, 9), (1, 31)], 0, .i64⟩ ∧ tt 173 = ⟨1, 3, 32, [.d (.v (.int .i64 0)), .d (.v (.int .i64 0)), .d (.v (.string ⟨#[]⟩))], [(0, 3), (1, 3), (2, 9)], 0, .i64⟩ ∧ tt 174 = ⟨1, 7, 72, [.d (.v (.int .i64 0)), .d (.v (.int .i64 0)), .d (.v (.int .i64 0)), .d (.v (.string ⟨#[]⟩)), .d (.v (.int .i64 0)), .d (.v (.int .i64 0)), .d (.v (.string ⟨#[]⟩))], [(0, 3), (1, 3), (2, 3), (3, 9), (4, 173)], 0, .i64⟩ ∧ tt 175 = ⟨1, 7, 72, [.d (.v (.int .i64 0)), .d (.v (.int .i64 0)), .d (.v (.int .i64 0)), .d (.v (.string ⟨#[]⟩)), .d (.v (.int .i64 0)), .d (.v (.int .i64 0)), .d (.v (.string ⟨#[]⟩))], [(0, 3), (1, 3), (2, 3), (3, 9), (4, 173)], 0, .i64⟩ ∧ tt 196 = ⟨1, 4, 48, [.d (.v (.string ⟨#[]⟩)), .d (.v (.int .i64 0)), .d (.v (.int .i64 0)), .d (.v (.string ⟨#[]⟩))], [(0, 9), (1, 173)], 0, .i64⟩ ∧ tt 197 = ⟨1, 4, 48, [.d (.v (.string ⟨#[]⟩)), .d (.v (.int .i64 0)), .d (.v (.int .i64 0)), .d (.v (.string ⟨#[]⟩))], [(0, 9), (1, 173)], 0, .i64⟩ ∧ tt 215 = ⟨2, 1, 24, [.z], [], 4, .i64⟩ ∧ tt 230 = ⟨3, 1, 8, [.d (.v (.int .i64 0))], [], 0, .i64⟩ ∧ tt 257 = ⟨3, 1, 1, [.d (.v (.int .u8 0))], [], 0, .u8⟩ ∧ tt 258 = ⟨3, 1, 1, [.d (.v (.int .u8 0))], [], 0, .u8⟩ :=
 ⟨rfl, rfl, rfl, rfl, rfl, rfl, rfl, rfl, rfl, rfl, rfl, rfl, rfl, rfl, rfl, rfl, rfl, rfl, rfl, rfl, rfl, rfl, rfl, rfl, rfl, rfl, rfl, rfl, rfl, rfl, rfl, rfl, rfl, rfl, rfl, rfl, rfl, rfl, rfl, rfl, rfl, rfl, rfl, rfl, rfl, rfl, rfl, rfl, rfl, rfl, rfl, rfl, rfl, rfl, rfl, rfl, rfl, rfl, rfl, rfl, rfl⟩
noncomputable def EV (C : Ctx) : Env := ⟨Tryz.prog, tt, C, eqk⟩
theorem EV_T (C : Ctx) : (EV C).T = tt := rfl
theorem EV_q (C : Ctx) : (EV C).eqk = eqk := rfl
attribute [go_sem] tts EV_T EV_q
theorem reg {C : Ctx} {id : Nat} {ops : List Oper} {F : Ex → St → Prop} {st : St} (h : vcRun (EV C) ops ops st (F .normal) ⟨⟩) : WP Tryz.prog C (.region id ops.toArray false) F st := a3Y (E := EV C) ttOK a2C h.out
instance (priority := high) nReg {C : Ctx} {id : Nat} {ops : List Oper} {F : Ex → St → Prop} {st : St} : NyO (WP Tryz.prog C (.region id ops.toArray false) F st) (vcRun (EV C) ops ops st (F .normal) ⟨⟩) := ⟨reg⟩
instance clT {C : Ctx} {f : Nat} {args args' : List SV} {res : SV} {st : St} {K : St → SV → Prop} : Cy Tryz.prog f args' res (CallT (EV C) f args st K ⟨⟩) (args.map (eB (aW st.h (dE args))) = args' ∧ args'.all bL = true) (Nm (K ⟨st.t, aW st.h (dE args) ++ adH res.all⟩ (adS (aW st.h (dE args)).length res))) := ⟨fun h o k => ⟨CallS.frz (E := EV C) h o.1 o.2 k⟩⟩
instance clD {C : Ctx} {f : Nat} {args args' : List SV} {res : SV} {h : List HB} {k : SV → Prop} : Cy Tryz.prog f args' res (CallD (EV C) f args h k ⟨⟩) ((args.map (eB h) = args' ∧ args'.all bL = true) ∧ res.all.all isD = true) (Nm (k res)) := ⟨fun hf o hk => CallD.of_fn (E := EV C) hf o.1.1 o.1.2 o.2 hk⟩
instance clG {C : Ctx} {f : Nat} {args args' : List SV} {res : SV} {h : List HB} {k : List HB → SV → Prop} : Cy Tryz.prog f args' res (CallG (EV C) f args h k ⟨⟩) (args.map (eB (aW h (dE args))) = args' ∧ args'.all bL = true) (Nm (k (aW h (dE args) ++ adH res.all) (adS (aW h (dE args)).length res))) := ⟨fun hf o hk => CallG.frz (E := EV C) hf o.1 o.2 hk⟩
theorem regd {C : Ctx} {id : Nat} {ops : List Oper} {F : Ex → St → Prop} {st : St} (hB : Region.lexB .any ops.toArray = true) (h : vcDRun (EV C) ops ops st (F .normal) ⟨⟩) : WP Tryz.prog C (.region id ops.toArray true) F st := a9v (E := EV C) ttOK a2C fol hB h.out
theorem ent {f : Nat} {fn : Func} {c : Code} {rs : List ResultVar} {args : List SV} {res : SV} (hf : Tryz.prog.funcs[f]? = some fn) (hb : fn.body = some c) (hcall : ∀ x w, (callFunc f x).run Tryz.prog w = .ok (.enter f x) w) (hres : fn.results = rs.toArray)
    (h : ∀ C : Ctx, WP Tryz.prog C c (bZ Tryz.prog C [] (a8d (EV C) rs res)) (st0 args fn.ntmps)) : FnC Tryz.prog f args res := FnC.of_wp (eqk := eqk) ttOK hf hb hcall hres fun C _ => h C
theorem caldo {C : Ctx} {f : Nat} {args args' : List SV} {res : SV} {h : List HB} {k : SV → Prop} (hf : FnC Tryz.prog f args' res) (h1 : args.map (dB h) = args') (h2 : args'.all bL = true) (h3 : res.all.all isD = true) (h4 : res.all.all iE = true) (hk : k res) : CallD (EV C) f args h k ⟨⟩ := CallD.of_own (E := EV C) hf h1 h2 h3 h4 hk
theorem calo {C : Ctx} {f : Nat} {args args' : List SV} {res : SV} {st : St} {K : St → SV → Prop} (h : FnC Tryz.prog f args' res) (he : args.map (dB (aW st.h (dE args))) = args') (hfree : args'.all bL = true) (hres : res.all.all iE = true) (k : K ⟨st.t, aW st.h (dE args) ++ adG (fun _ => none) 0 res.all⟩ (adS (aW st.h (dE args)).length res)) : CallT (EV C) f args st K ⟨⟩ := ⟨CallS.lendF (E := EV C) h he hfree hres k⟩
theorem cali {C : Ctx} {f ty sz id : Nat} {rows rows' : List (List D)} {args' rest : List SV} {st : St} {K : St → SV → Prop} (h : FnI Tryz.prog f ty sz rows args' false rows') (hid : bO (aW st.h (dE rest)) id = .row ty sz rows true) (he : rest.map (eB (aW st.h (dE rest))) = args') (hfree : args'.all bL = true) (k : K ⟨st.t.map (xJ id), setH ((aW st.h (dE rest)).map (qC id)) id (.row ty sz rows' true)⟩ (.o (.s id))) : CallT (EV C) f (.o (.s id) :: rest) st K ⟨⟩ := ⟨CallS.give (E := EV C) h hid he hfree (by simpa using k)⟩
theorem calj {C : Ctx} {f ty sz id : Nat} {rows rows' : List (List D)} {args' rest : List SV} {st : St} {K : St → SV → Prop} (h : FnI Tryz.prog f ty sz rows args' true rows') (hid : bO (aW st.h (dE rest)) id = .row ty sz rows true) (he : rest.map (eB (aW st.h (dE rest))) = args') (hfree : args'.all bL = true) (k : K ⟨st.t, setH (aW st.h (dE rest)) id (.row ty sz rows' true)⟩ (.t [])) : CallT (EV C) f (.o (.s id) :: rest) st K ⟨⟩ := ⟨CallS.give (E := EV C) h hid he hfree (by simpa using k)⟩
theorem cale {C : Ctx} {f : Nat} {args args' : List SV} {res : SV} {st : St} {K : St → SV → Prop} (h : FnC Tryz.prog f args' res) (he : args.map (dB st.h) = args') (hfree : args'.all bL = true) (hres : res.all.all iE = true) (k : K ⟨st.t, st.h ++ adG (fun _ => none) 0 res.all⟩ (adS st.h.length res)) : CallT (EV C) f args st K ⟨⟩ := ⟨CallS.lend (E := EV C) h he hfree hres k⟩
theorem calr {C : Ctx} {f : Nat} {args args' : List SV} {res : SV} {st : St} {K : St → SV → Prop} (h : FnC Tryz.prog f args' res) (he : args.map (dB st.h) = args') (hfree : args'.all bL = true) (hres : res.all.all iE = true) (k : K ⟨st.t, st.h ++ adH res.all⟩ (adS st.h.length res)) : CallT (EV C) f args st K ⟨⟩ := ⟨CallS.lendW (E := EV C) h he hfree hres k⟩
theorem rS {C : Ctx} {id : Nat} {ops l m : List Oper} {F : Ex → St → Prop} {st : St} (ps ds : List Nat) (hl : rdX ds ops = l) (hm : a2D ops = m) (hok : (a4o ops ps ds && a6J ps ops && ps.all fun i => decide (i < ops.length)) = true) (hb : st.okB = true) (h : vcGRun (EV C) ds ops m st (fun st1 => vcStT (EV C) ops l ds ps ⟨st1.t, st.h⟩ (F .normal) ⟨⟩) ⟨⟩) : WP Tryz.prog C (.region id ops.toArray true) F st := by
 subst hl hm
 have e : (fun st1 : St => vcStT (EV C) ops (rdX ds ops) ds ps ⟨st1.t, st.h⟩ (F .normal) ⟨⟩) = (fun st1 => xK (EV C) ops ds ps ⟨st1.t, st.h⟩ (F .normal)) := funext fun s => propext ⟨fun h => h.out rfl, fun h => ⟨fun _ => h⟩⟩
 rw [e] at h
 simp only [Bool.and_eq_true] at hok
 exact a4q (E := EV C) ttOK a2C fol ps ds hok.1.1 hok.1.2 hok.2 hb h.out
theorem cGo {C : Ctx} {f : Nat} {args args' : List SV} {res : SV} {h : List HB} {k : List HB → SV → Prop} (hf : FnC Tryz.prog f args' res) (he : args.map (dB h) = args') (hfree : args'.all bL = true) (hres : res.all.all iE = true) (hk : k (h ++ adG (fun _ => none) 0 res.all) (adS h.length res)) : CallG (EV C) f args h k ⟨⟩ := CallG.lend (E := EV C) hf he hfree hres hk
theorem cGr {C : Ctx} {f : Nat} {args args' : List SV} {res : SV} {h : List HB} {k : List HB → SV → Prop} (hf : FnC Tryz.prog f args' res) (he : args.map (dB h) = args') (hfree : args'.all bL = true) (hres : res.all.all iE = true) (hk : k (h ++ adH res.all) (adS h.length res)) : CallG (EV C) f args h k ⟨⟩ := CallG.lendW (E := EV C) hf he hfree hres hk
theorem cDr {C : Ctx} {f ty sz : Nat} {rows : List (List D)} {args args' : List SV} {h : List HB} {k : SV → Prop} (hf : FnC Tryz.prog f args' (.o (.w ty sz rows))) (h1 : args.map (dB h) = args') (h2 : args'.all bL = true) (h3 : fV rows = true) (hk : k (.o (.d (.sl rows)))) : CallD (EV C) f args h k ⟨⟩ := CallD.of_lend (E := EV C) hf h1 h2 h3 hk
theorem vO {C : Ctx} {f : Nat} {args args' : List SV} {res : SV} {st : St} {K : St → SV → Prop} (h : FnC Tryz.prog f args' res) (k : Nm (K ⟨st.t, aW st.h (dE args) ++ adG (fun _ => none) 0 res.all⟩ (adS (aW st.h (dE args)).length res))) (he : args.map (dB (aW st.h (dE args))) = args' := by simp only [go_sem, qH] <;> fail) (hfree : args'.all bL = true := by simp only [go_sem, qH] <;> fail) (hres : res.all.all iE = true := by simp only [go_sem, qH] <;> fail) : CallT (EV C) f args st K ⟨⟩ := calo h he hfree hres k
theorem vQ {C : Ctx} {f : Nat} {args args' : List SV} {res : SV} {h : List HB} {k : SV → Prop} (hf : FnC Tryz.prog f args' res) (hk : Nm (k res)) (h1 : args.map (dB h) = args' := by simp only [go_sem, qH] <;> fail) (h2 : args'.all bL = true := by simp only [go_sem, qH] <;> fail) (h3 : res.all.all isD = true := by simp only [go_sem, qH] <;> fail) (h4 : res.all.all iE = true := by simp only [go_sem, qH] <;> fail) : CallD (EV C) f args h k ⟨⟩ := caldo hf h1 h2 h3 h4 hk
theorem vI {C : Ctx} {f ty sz id : Nat} {rows rows' : List (List D)} {args' rest : List SV} {st : St} {K : St → SV → Prop} (h : FnI Tryz.prog f ty sz rows args' false rows') (k : Nm (K ⟨st.t.map (xJ id), setH ((aW st.h (dE rest)).map (qC id)) id (.row ty sz rows' true)⟩ (.o (.s id)))) (hid : bO (aW st.h (dE rest)) id = .row ty sz rows true := by simp only [go_sem, qH] <;> fail) (he : rest.map (eB (aW st.h (dE rest))) = args' := by simp only [go_sem, qH] <;> fail) (hfree : args'.all bL = true := by simp only [go_sem, qH] <;> fail) : CallT (EV C) f (.o (.s id) :: rest) st K ⟨⟩ := cali h hid he hfree k
theorem vJ {C : Ctx} {f ty sz id : Nat} {rows rows' : List (List D)} {args' rest : List SV} {st : St} {K : St → SV → Prop} (h : FnI Tryz.prog f ty sz rows args' true rows') (k : Nm (K ⟨st.t, setH (aW st.h (dE rest)) id (.row ty sz rows' true)⟩ (.t []))) (hid : bO (aW st.h (dE rest)) id = .row ty sz rows true := by simp only [go_sem, qH] <;> fail) (he : rest.map (eB (aW st.h (dE rest))) = args' := by simp only [go_sem, qH] <;> fail) (hfree : args'.all bL = true := by simp only [go_sem, qH] <;> fail) : CallT (EV C) f (.o (.s id) :: rest) st K ⟨⟩ := calj h hid he hfree k
theorem vL {C : Ctx} {f : Nat} {args args' : List SV} {res : SV} {st : St} {K : St → SV → Prop} (h : FnC Tryz.prog f args' res) (k : Nm (K ⟨st.t, st.h ++ adG (fun _ => none) 0 res.all⟩ (adS st.h.length res))) (he : args.map (dB st.h) = args' := by simp only [go_sem, qH] <;> fail) (hfree : args'.all bL = true := by simp only [go_sem, qH] <;> fail) (hres : res.all.all iE = true := by simp only [go_sem, qH] <;> fail) : CallT (EV C) f args st K ⟨⟩ := cale h he hfree hres k
theorem vR {C : Ctx} {f : Nat} {args args' : List SV} {res : SV} {st : St} {K : St → SV → Prop} (h : FnC Tryz.prog f args' res) (k : Nm (K ⟨st.t, st.h ++ adH res.all⟩ (adS st.h.length res))) (he : args.map (dB st.h) = args' := by simp only [go_sem, qH] <;> fail) (hfree : args'.all bL = true := by simp only [go_sem, qH] <;> fail) (hres : res.all.all iE = true := by simp only [go_sem, qH] <;> fail) : CallT (EV C) f args st K ⟨⟩ := calr h he hfree hres k
theorem vG {C : Ctx} {f : Nat} {args args' : List SV} {res : SV} {h : List HB} {k : List HB → SV → Prop} (hf : FnC Tryz.prog f args' res) (hk : Nm (k (h ++ adH res.all) (adS h.length res))) (he : args.map (dB h) = args' := by simp only [go_sem, qH] <;> fail) (hfree : args'.all bL = true := by simp only [go_sem, qH] <;> fail) (hres : res.all.all iE = true := by simp only [go_sem, qH] <;> fail) : CallG (EV C) f args h k ⟨⟩ := cGr hf he hfree hres hk
theorem vD {C : Ctx} {f ty sz : Nat} {rows : List (List D)} {args args' : List SV} {h : List HB} {k : SV → Prop} (hf : FnC Tryz.prog f args' (.o (.w ty sz rows))) (hk : Nm (k (.o (.d (.sl rows))))) (h1 : args.map (dB h) = args' := by simp only [go_sem, qH] <;> fail) (h2 : args'.all bL = true := by simp only [go_sem, qH] <;> fail) (h3 : fV rows = true := by simp only [go_sem, qH] <;> fail) : CallD (EV C) f args h k ⟨⟩ := cDr hf h1 h2 h3 hk
theorem rD {C : Ctx} {id : Nat} {ops : List Oper} {F : Ex → St → Prop} {st : St} (h : vcDRun (EV C) ops ops st (F .normal) ⟨⟩) (hB : Region.lexB .any ops.toArray = true := by kernel_rfl) : WP Tryz.prog C (.region id ops.toArray true) F st := regd hB h
theorem rT {C : Ctx} {id : Nat} {ops l m : List Oper} {F : Ex → St → Prop} {st : St} (ps : List Nat) (ds : List Nat) (h : vcGRun (EV C) ds ops m st (fun st1 => vcStT (EV C) ops l ds ps ⟨st1.t, st.h⟩ (F .normal) ⟨⟩) ⟨⟩) (hl : rdX ds ops = l := by simp only [go_sem]; rfl) (hm : a2D ops = m := by simp only [go_sem]; rfl) (hok : (a4o ops ps ds && a6J ps ops && ps.all fun i => decide (i < ops.length)) = true := by decide +kernel) (hb : st.okB = true := by simp only [go_sem] <;> fail) : WP Tryz.prog C (.region id ops.toArray true) F st := rS ps ds hl hm hok hb h
theorem rE {C : Ctx} {id : Nat} {ops L W : List Oper} {T : PO} {F : Ex → St → Prop} {st G : St} (ps ls l0 w0 : List Nat) (t : PT) (hl : fA ops l0 = L) (hw : fA ops w0 = W) (hp : nI ops t = T)
    (hok : (okE ops ps ls && (l0.all fun i => !ps.contains i) && okN ops ps [] ps w0 t && a0a ops ps t [] ps && ps.all fun q => decide (q < ops.length)) = true) (hb : st.okB = true) (h : vcDRun (EV C) ops L st (fun st1 => vcTN (EV C) false ops W T st1 (a0K G) ⟨⟩) ⟨⟩) (hG : Ok2 G) (hF : F .normal G) : WP Tryz.prog C (.region id ops.toArray true) F st := by
 subst hl hw hp
 simp only [Bool.and_eq_true] at hok
 refine b2N (E := EV C) ttOK a2C fol ps ls l0 w0 t hok.1.1.1.1 hok.1.1.1.2 hok.1.1.2 hok.1.2 hok.2 hb ?_ hG hF
 have e : (fun st1 => vcTN (EV C) false ops (fA ops w0) (nI ops t) st1 (a0K G) ⟨⟩) = (fun st1 => rR (EV C) st1 (fA ops w0) ∧ if t.isNil = true then a0K G st1 else vX (EV C) false ops t st1 (a0K G)) := funext fun s => propext (by
  constructor
  ·intro h; have := h.out; rwa [qY, jJ] at this
  ·intro h; exact ⟨by rwa [qY, jJ]⟩)
 rw [e] at h
 exact h.out
theorem rF {C : Ctx} {id : Nat} {ops L W : List Oper} {T : PO} {F : Ex → St → Prop} {st : St} (ps ls l0 w0 : List Nat) (t : PT) (hl : fA ops l0 = L) (hw : fA ops w0 = W) (hp : nI ops t = T)
    (hok : (okE ops ps ls && (l0.all fun i => !ps.contains i) && okN ops ps [] ps w0 t && a0a ops ps t [] ps && ps.all fun q => decide (q < ops.length)) = true) (hb : st.okB = true) (h : vcDRun (EV C) ops L st (fun st1 => vcTN (EV C) true ops W T st1 (F .normal) ⟨⟩) ⟨⟩) : WP Tryz.prog C (.region id ops.toArray true) F st := by
 subst hl hw hp
 simp only [Bool.and_eq_true] at hok
 refine a9X (E := EV C) ttOK a2C fol ps ls l0 w0 t hok.1.1.1.1 hok.1.1.1.2 hok.1.1.2 hok.1.2 hok.2 hb ?_
 have e : (fun st1 => vcTN (EV C) true ops (fA ops w0) (nI ops t) st1 (F .normal) ⟨⟩) = (fun st1 => rR (EV C) st1 (fA ops w0) ∧ if t.isNil = true then F .normal st1 else vX (EV C) true ops t st1 (F .normal)) := funext fun s => propext (by
  constructor
  ·intro h; have := h.out; rwa [qY, jJ] at this
  ·intro h; exact ⟨by rwa [qY, jJ]⟩)
 rw [e] at h
 exact h.out
instance clH {C : Ctx} {f : Nat} {args args' : List SV} {res : SV} {h : List HB} {k : List HB → SV → Prop} : Cy Tryz.prog f args' res (CallH (EV C) f args h k ⟨⟩) (args.map (eB (aW h (dE args))) = args' ∧ args'.all bL = true) (Nm (k (aW h (dE args) ++ adH res.all) (adS (aW h (dE args)).length res))) := ⟨fun hf o hk => CallH.det (CallG.frz (E := EV C) hf o.1 o.2 hk)⟩
theorem hO {C : Ctx} {f : Nat} {args args' : List SV} {res : SV} {h : List HB} {k : List HB → SV → Prop} (hf : FnC Tryz.prog f args' res) (hk : Nm (k (h ++ adG (fun _ => none) 0 res.all) (adS h.length res))) (he : args.map (dB h) = args' := by simp only [go_sem, qH] <;> fail) (hfree : args'.all bL = true := by simp only [go_sem, qH] <;> fail) (hres : res.all.all iE = true := by simp only [go_sem, qH] <;> fail) : CallH (EV C) f args h k ⟨⟩ := CallH.det (cGo hf he hfree hres hk)
theorem hR {C : Ctx} {f : Nat} {args args' : List SV} {res : SV} {h : List HB} {k : List HB → SV → Prop} (hf : FnC Tryz.prog f args' res) (hk : Nm (k (h ++ adH res.all) (adS h.length res))) (he : args.map (dB h) = args' := by simp only [go_sem, qH] <;> fail) (hfree : args'.all bL = true := by simp only [go_sem, qH] <;> fail) (hres : res.all.all iE = true := by simp only [go_sem, qH] <;> fail) : CallH (EV C) f args h k ⟨⟩ := CallH.det (cGr hf he hfree hres hk)
end Go.Proofs.YtakopfjdmmnjcaaGreat.Opq
end
section
set_option maxRecDepth 100000
namespace Go.Proofs.YtakopfjdmmnjcaaGreat
open Go Go.Sx Go.RowKit Go.Proofs Go.Sx.Clos
def c3 (l g : Bool) (r : Int) : Int := if l then -1 else if g then 1 else r
def cmpV (a b : TValue) : Int := c3 (decide (a.fKind < b.fKind)) (decide (b.fKind < a.fKind)) (c3 (decide (a.fInt < b.fInt)) (decide (b.fInt < a.fInt)) (c3 (dW a.fStr b.fStr) (dW b.fStr a.fStr) 0))
def ltV (a b : TValue) : Prop := a.fKind < b.fKind ∨ (a.fKind = b.fKind ∧ (a.fInt < b.fInt ∨ (a.fInt = b.fInt ∧ ltS a.fStr b.fStr)))
theorem qQ (a b : TValue) : cmpV a b < 0 ↔ ltV a b := by
 unfold cmpV ltV c3
 by_cases h1 : a.fKind < b.fKind
 ·simp [h1]
 ·by_cases h2 : b.fKind < a.fKind
  ·simp [h1, h2]; omega
  ·have e : a.fKind = b.fKind := by omega
   by_cases h3 : a.fInt < b.fInt
   ·simp [h1, h2, h3, e]
   ·by_cases h4 : b.fInt < a.fInt
    ·simp [h1, h2, h3, h4, e]; omega
    ·have e2 : a.fInt = b.fInt := by omega
     cases h5 : dW a.fStr b.fStr with
     | true => have := (oC _ _).1 h5; simp [h1, h2, h3, h4, e, e2, this]
     | false =>
      have n5 : ¬ ltS a.fStr b.fStr := fun k => by rw [(oC _ _).2 k] at h5; cases h5
      cases h6 : dW b.fStr a.fStr <;> simp [h1, h2, h3, h4, e, e2, n5]
theorem a2i {a b : TValue} (h1 : a.fKind = b.fKind) (h2 : a.fInt = b.fInt) (h3 : a.fStr = b.fStr) : a = b := by cases a; cases b; simp_all
theorem pR (a : TValue) : ¬ ltV a a := by
 rintro (h | ⟨_, h | ⟨_, h⟩⟩)
 ·omega
 ·omega
 ·exact yQ _ h
theorem sP (a b c : TValue) (h : ltV a b) (k : ltV b c) : ltV a c := by
 rcases h with h | ⟨e, h | ⟨e2, h⟩⟩ <;> rcases k with k | ⟨f, k | ⟨f2, k⟩⟩
 ·exact .inl (by omega)
 ·exact .inl (by omega)
 ·exact .inl (by omega)
 ·exact .inl (by omega)
 ·exact .inr ⟨by omega, .inl (by omega)⟩
 ·exact .inr ⟨by omega, .inl (by omega)⟩
 ·exact .inl (by omega)
 ·exact .inr ⟨by omega, .inl (by omega)⟩
 ·exact .inr ⟨by omega, .inr ⟨by omega, wY _ _ _ h k⟩⟩
theorem a2j {a b : TValue} (h : ¬ ltV a b) (k : a ≠ b) : ltV b a := by
 unfold ltV at h ⊢
 by_cases h1 : a.fKind < b.fKind
 ·exact absurd (.inl h1) h
 ·by_cases h2 : b.fKind < a.fKind
  ·exact .inl h2
  ·have e : a.fKind = b.fKind := by omega
   by_cases h3 : a.fInt < b.fInt
   ·exact absurd (.inr ⟨e, .inl h3⟩) h
   ·by_cases h4 : b.fInt < a.fInt
    ·exact .inr ⟨e.symm, .inl h4⟩
    ·have e2 : a.fInt = b.fInt := by omega
     have n5 : ¬ ltS a.fStr b.fStr := fun q => h (.inr ⟨e, .inr ⟨e2, q⟩⟩)
     exact .inr ⟨e.symm, .inr ⟨e2.symm, a6e n5 fun q => k (a2i e e2 q)⟩⟩
instance decV : DecidableEq TValue := fun a b =>
 if h : a.fKind = b.fKind ∧ a.fInt = b.fInt ∧ a.fStr = b.fStr then isTrue (a2i h.1 h.2.1 h.2.2) else isFalse fun e => h ⟨by rw [e], by rw [e], by rw [e]⟩
instance decG : DecidableEq TGroup := fun a b =>
 if h : a.fValue = b.fValue ∧ a.fIDs = b.fIDs then isTrue (by cases a; cases b; simp only at h; rw [h.1, h.2]) else isFalse fun e => h ⟨by rw [e], by rw [e]⟩
def mG (l : List TGroup) (x : TValue × Int) : List TGroup :=
 match l with
 | [] => [⟨x.1, [x.2]⟩]
 | g :: r => if g.fValue = x.1 then ⟨g.fValue, g.fIDs ++ [x.2]⟩ :: r else g :: mG r x
def iL (l : List TGroup) (x : TValue × Int) : List TGroup :=
 match l with
 | [] => [⟨x.1, [x.2]⟩]
 | g :: r => if cmpV g.fValue x.1 < 0 then g :: iL r x else if g.fValue = x.1 then ⟨g.fValue, g.fIDs ++ [x.2]⟩ :: r else ⟨x.1, [x.2]⟩ :: g :: r
def ltG (a b : TGroup) : Prop := ltV a.fValue b.fValue
theorem a9o (a : TGroup) : ¬ ltG a a := pR _
theorem b1E (a b c : TGroup) (h : ltG a b) (k : ltG b c) : ltG a c := sP _ _ _ h k
theorem insG_mem {l : List TGroup} {x : TValue × Int} {g : TGroup} (h : g ∈ iL l x) : g.fValue = x.1 ∨ ∃ g' ∈ l, g'.fValue = g.fValue := by
 induction l with
 | nil => simp only [iL, List.mem_singleton] at h; subst h; exact .inl rfl
 | cons a r ih =>
  unfold iL at h
  split at h
  ·rcases List.mem_cons.1 h with rfl | h
   ·exact .inr ⟨g, List.mem_cons_self, rfl⟩
   ·rcases ih h with e | ⟨g', h1, h2⟩
    ·exact .inl e
    ·exact .inr ⟨g', List.mem_cons_of_mem _ h1, h2⟩
  ·split at h
   ·rcases List.mem_cons.1 h with rfl | h
    ·exact .inr ⟨a, List.mem_cons_self, rfl⟩
    ·exact .inr ⟨g, List.mem_cons_of_mem _ h, rfl⟩
   ·rcases List.mem_cons.1 h with rfl | h
    ·exact .inl rfl
    ·exact .inr ⟨g, h, rfl⟩
theorem a7W {l : List TGroup} (x : TValue × Int) (h : l.Pairwise ltG) : (iL l x).Pairwise ltG := by
 induction l with
 | nil => exact List.pairwise_singleton _ _
 | cons a r ih =>
  rw [List.pairwise_cons] at h
  unfold iL
  split
  ·rename_i hc
   refine List.pairwise_cons.2 ⟨fun g hg => ?_, ih h.2⟩
   rcases insG_mem hg with e | ⟨g', h1, h2⟩
   ·show ltV a.fValue g.fValue; rw [e]; exact (qQ _ _).1 hc
   ·show ltV a.fValue g.fValue; rw [← h2]; exact h.1 g' h1
  ·rename_i hc
   split
   ·exact List.pairwise_cons.2 ⟨fun g hg => h.1 g hg, h.2⟩
   ·rename_i hne
    have hx : ltV x.1 a.fValue := a2j (fun k => hc ((qQ _ _).2 k)) hne
    refine List.pairwise_cons.2 ⟨fun g hg => ?_, List.pairwise_cons.2 h⟩
    rcases List.mem_cons.1 hg with rfl | hg
    ·exact hx
    ·exact sP _ _ _ hx (h.1 g hg)
def jS (l : List TGroup) : Prop := l.Pairwise fun a b => a.fValue ≠ b.fValue
theorem a1O {l : List TGroup} (h : l.Pairwise ltG) : jS l := h.imp fun {a b} (hab : ltV a.fValue b.fValue) e => by rw [e] at hab; exact pR _ hab
theorem addG_mem {l : List TGroup} {x : TValue × Int} {g : TGroup} (h : g ∈ mG l x) : g.fValue = x.1 ∨ ∃ g' ∈ l, g'.fValue = g.fValue := by
 induction l with
 | nil => simp only [mG, List.mem_singleton] at h; subst h; exact .inl rfl
 | cons a r ih =>
  unfold mG at h
  split at h
  ·rcases List.mem_cons.1 h with rfl | h
   ·exact .inr ⟨a, List.mem_cons_self, rfl⟩
   ·exact .inr ⟨g, List.mem_cons_of_mem _ h, rfl⟩
  ·rcases List.mem_cons.1 h with rfl | h
   ·exact .inr ⟨g, List.mem_cons_self, rfl⟩
   ·rcases ih h with e | ⟨g', h1, h2⟩
    ·exact .inl e
    ·exact .inr ⟨g', List.mem_cons_of_mem _ h1, h2⟩
theorem a9p {l : List TGroup} (x : TValue × Int) (h : jS l) : jS (mG l x) := by
 induction l with
 | nil => exact List.pairwise_singleton _ _
 | cons a r ih =>
  unfold jS at h ih ⊢
  rw [List.pairwise_cons] at h
  unfold mG
  split
  ·exact List.pairwise_cons.2 ⟨fun g hg => h.1 g hg, h.2⟩
  ·rename_i hne
   refine List.pairwise_cons.2 ⟨fun g hg => ?_, ih h.2⟩
   rcases addG_mem hg with e | ⟨g', h1, h2⟩
   ·rw [e]; exact hne
   ·rw [← h2]; exact h.1 g' h1
def upd (l : List TGroup) (x : TValue × Int) (g : TGroup) : Prop :=
 (g ∈ l ∧ g.fValue ≠ x.1) ∨ (∃ g' ∈ l, g'.fValue = x.1 ∧ g = ⟨x.1, g'.fIDs ++ [x.2]⟩) ∨ ((∀ g' ∈ l, g'.fValue ≠ x.1) ∧ g = ⟨x.1, [x.2]⟩)
theorem a7X {l : List TGroup} (x : TValue × Int) (h : jS l) (g : TGroup) : g ∈ mG l x ↔ upd l x g := by
 induction l with
 | nil => simp [mG, upd]
 | cons a r ih =>
  unfold jS at h
  rw [List.pairwise_cons] at h
  have ih' := ih h.2
  unfold mG
  split
  ·rename_i e
   unfold upd
   constructor
   ·intro hg
    rcases List.mem_cons.1 hg with rfl | hg
    ·exact .inr (.inl ⟨a, List.mem_cons_self, e, by rw [e]⟩)
    ·exact .inl ⟨List.mem_cons_of_mem _ hg, fun k => h.1 g hg (by rw [e, k])⟩
   ·rintro (⟨h1, h2⟩ | ⟨g', h1, h2, rfl⟩ | ⟨h1, rfl⟩)
    ·rcases List.mem_cons.1 h1 with rfl | h1
     ·exact absurd e h2
     ·exact List.mem_cons_of_mem _ h1
    ·rcases List.mem_cons.1 h1 with rfl | h1
     ·rw [← h2]; exact List.mem_cons_self
     ·exact absurd (by rw [e, h2]) (h.1 g' h1)
    ·exact absurd e (h1 a List.mem_cons_self)
  ·rename_i hne
   rw [List.mem_cons, ih']
   unfold upd
   constructor
   ·rintro (rfl | ⟨h1, h2⟩ | ⟨g', h1, h2, rfl⟩ | ⟨h1, rfl⟩)
    ·exact .inl ⟨List.mem_cons_self, hne⟩
    ·exact .inl ⟨List.mem_cons_of_mem _ h1, h2⟩
    ·exact .inr (.inl ⟨g', List.mem_cons_of_mem _ h1, h2, rfl⟩)
    ·exact .inr (.inr ⟨fun g' hg' => by
      rcases List.mem_cons.1 hg' with rfl | hg'
      ·exact hne
      ·exact h1 g' hg', rfl⟩)
   ·rintro (⟨h1, h2⟩ | ⟨g', h1, h2, rfl⟩ | ⟨h1, rfl⟩)
    ·rcases List.mem_cons.1 h1 with rfl | h1
     ·exact .inl rfl
     ·exact .inr (.inl ⟨h1, h2⟩)
    ·rcases List.mem_cons.1 h1 with rfl | h1
     ·exact absurd h2 hne
     ·exact .inr (.inr (.inl ⟨g', h1, h2, rfl⟩))
    ·exact .inr (.inr (.inr ⟨fun g' hg' => h1 g' (List.mem_cons_of_mem _ hg'), rfl⟩))
theorem b3B {l : List TGroup} (x : TValue × Int) (h : l.Pairwise ltG) (g : TGroup) : g ∈ iL l x ↔ upd l x g := by
 induction l with
 | nil => simp [iL, upd]
 | cons a r ih =>
  have h0 := h
  rw [List.pairwise_cons] at h
  have ih' := ih h.2
  unfold iL
  split
  ·rename_i hc
   have hne : a.fValue ≠ x.1 := fun e => by rw [e] at hc; exact pR _ ((qQ _ _).1 hc)
   rw [List.mem_cons, ih']
   unfold upd
   constructor
   ·rintro (rfl | ⟨h1, h2⟩ | ⟨g', h1, h2, rfl⟩ | ⟨h1, rfl⟩)
    ·exact .inl ⟨List.mem_cons_self, hne⟩
    ·exact .inl ⟨List.mem_cons_of_mem _ h1, h2⟩
    ·exact .inr (.inl ⟨g', List.mem_cons_of_mem _ h1, h2, rfl⟩)
    ·exact .inr (.inr ⟨fun g' hg' => by
      rcases List.mem_cons.1 hg' with rfl | hg'
      ·exact hne
      ·exact h1 g' hg', rfl⟩)
   ·rintro (⟨h1, h2⟩ | ⟨g', h1, h2, rfl⟩ | ⟨h1, rfl⟩)
    ·rcases List.mem_cons.1 h1 with rfl | h1
     ·exact .inl rfl
     ·exact .inr (.inl ⟨h1, h2⟩)
    ·rcases List.mem_cons.1 h1 with rfl | h1
     ·exact absurd h2 hne
     ·exact .inr (.inr (.inl ⟨g', h1, h2, rfl⟩))
    ·exact .inr (.inr (.inr ⟨fun g' hg' => h1 g' (List.mem_cons_of_mem _ hg'), rfl⟩))
  ·rename_i hc
   split
   ·rename_i e
    have hap : jS (a :: r) := a1O h0
    have := a7X x hap g
    unfold mG at this
    rw [if_pos e] at this
    exact this
   ·rename_i hne
    have hx : ltV x.1 a.fValue := a2j (fun k => hc ((qQ _ _).2 k)) hne
    have hall : ∀ g' ∈ a :: r, g'.fValue ≠ x.1 := fun g' hg' e => by
     rcases List.mem_cons.1 hg' with rfl | hg'
     ·exact hne e
     ·have h3 : ltV a.fValue g'.fValue := h.1 g' hg'
      rw [e] at h3
      exact pR _ (sP _ _ _ hx h3)
    unfold upd
    constructor
    ·intro hg
     rcases List.mem_cons.1 hg with rfl | hg
     ·exact .inr (.inr ⟨hall, rfl⟩)
     ·exact .inl ⟨hg, hall g hg⟩
    ·rintro (⟨h1, h2⟩ | ⟨g', h1, h2, rfl⟩ | ⟨h1, rfl⟩)
     ·exact List.mem_cons_of_mem _ h1
     ·exact absurd h2 (hall g' h1)
     ·exact List.mem_cons_self
theorem b1F {l m : List TGroup} (h : ∀ g, g ∈ l ↔ g ∈ m) (x : TValue × Int) (g : TGroup) : upd l x g ↔ upd m x g := by
 unfold upd
 simp only [h]
theorem a4Z (xs : List (TValue × Int)) : ∀ (l m : List TGroup), jS l → m.Pairwise ltG → (∀ g, g ∈ l ↔ g ∈ m) →
    jS (xs.foldl mG l) ∧ (xs.foldl iL m).Pairwise ltG ∧ ∀ g, g ∈ xs.foldl mG l ↔ g ∈ xs.foldl iL m := by
 induction xs with
 | nil => intro l m h1 h2 h3; exact ⟨h1, h2, h3⟩
 | cons x xs ih =>
  intro l m h1 h2 h3
  exact ih (mG l x) (iL m x) (a9p x h1) (a7W x h2) fun g => by rw [a7X x h1, b3B x h2, b1F h3]
theorem a3Q (xs : List (TValue × Int)) {s : List TGroup} (hp : ∀ g, g ∈ s ↔ g ∈ xs.foldl mG []) (hs : s.Pairwise ltG) : s = xs.foldl iL [] := by
 obtain ⟨_, h2, h3⟩ := a4Z xs [] [] List.Pairwise.nil List.Pairwise.nil fun g => Iff.rfl
 exact qO a9o b1E hs h2 fun g => by rw [hp, h3]
end Go.Proofs.YtakopfjdmmnjcaaGreat
end
