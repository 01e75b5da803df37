/- Joined texts. -/
import Derived.Test.YtolgdibgnndoaaaGreatZ13
import Derived.Test.YtolgdibgnndoaaaGreatZ07
import Derived.Test.YtolgdibgnndoaaaGreatZ12
import Derived.Test.YtolgdibgnndoaaaGreatZ09
set_option linter.all false
section
set_option maxRecDepth 100000
set_option maxHeartbeats 4000000
namespace Go.Proofs.YtolgdibgnndoaaaGreat
open Go Go.Sx Go.RowKit Go.Proofs
theorem a3N (A B : List Nat) (k : Nat) (hA : k < A.length) (hB : k < B.length) (h : A.take k = B.take k) (e : A[k] = B[k]) : A.take (k + 1) = B.take (k + 1) := by
 rw [List.take_succ_eq_append_getElem hA, List.take_succ_eq_append_getElem hB, h, e]
theorem a7p (A B : List Nat) (hA : A.length ≤ 4300000) (hB : B.length ≤ 4300000) : FnC Tryz.prog 87 [.o (.d (.sl (A.map pV))), .o (.d (.sl (B.map pV)))] (ob (decide (A = B))) := by
 refine ent Tryz.func87 rfl Tryz.call87 rfl (fun C => ?_); simp only [go_sem, st0, Tryz.ntmps87]
 by_cases hl : A.length = B.length
 ·have hli : ((A.length : Nat) : Int) = ((B.length : Nat) : Int) := by omega
  have q0 := @hli; have q1 := @decide_true; refine gQ ?_
  refine bC (α := Nat) (fun k => [(5, oi k)]) (fun _ => []) (fun k => k ≤ A.length ∧ A.take k = B.take k) (fun k => A.length - k) 0 (fun _ => ?_) ?_ ?_ (fun k hk => ?_)
  ·simp only [go_sem]
  ·simp only [go_sem]; simp
  ·simp
  ·obtain ⟨hk, hq⟩ := hk
   simp only [go_sem]
   refine aD ?_
   refine cnd rfl (fun h => ?_) (fun h => ?_)
   ·simp only [decide_eq_true_eq, Int.ofNat_lt] at h
    have h2 : k < B.length := by omega
    by_cases he : A[k] = B[k]
    ·have hei : ((A[k] : Nat) : Int) = ((B[k] : Nat) : Int) := by omega
     have q0 := @h; have q1 := @h2; have q2 := @hei; have q3 := @decide_true; refine kF ?_
     refine aF (k + 1) ?_ ?_ ?_
     ·simp only [go_sem]; simp
     ·exact ⟨by omega, a3N A B k h h2 hq he⟩
     ·omega
    ·have hei : ¬ ((A[k] : Nat) : Int) = ((B[k] : Nat) : Int) := by omega
     have hne : decide (A = B) = false := decide_eq_false fun e => he (by subst e; rfl)
     have q0 := @h; have q1 := @h2; have q2 := @hei; have q3 := @decide_false; refine kF ?_
     exact aA ⟨⟨_, rfl, by simp only [go_sem, hne]⟩, trivial⟩
   ·simp only [decide_eq_false_iff_not] at h
    have e : k = A.length := by omega
    subst e
    rw [List.take_length, hl, List.take_length] at hq
    have hy : decide (A = B) = true := decide_eq_true hq
    refine aD ?_
    exact aA ⟨⟨_, rfl, by simp only [go_sem, hy]⟩, trivial⟩
 ·have hli : ¬ ((A.length : Nat) : Int) = ((B.length : Nat) : Int) := by omega
  have hne : decide (A = B) = false := decide_eq_false fun e => hl (by rw [e])
  have q0 := @hli; have q1 := @decide_false; refine gQ ?_
  exact aA ⟨⟨_, rfl, by simp only [go_sem, hne]⟩, trivial⟩
theorem fJ (d : List TDir) (hd : gL d ≤ 4300000) : FnC Tryz.prog 84 [.o (.d (.sl (d.map cO)))] (.t [(false, [.d (.sl ((resL d).map pV))]), (false, [.d (bv (nR d))])]) := by
 have hd0 : d.length + dN iU d ≤ 4300000 := hd
 refine ent Tryz.func84 rfl Tryz.call84 rfl (fun C => ?_); simp only [go_sem, st0, Tryz.ntmps84]
 cases hv : dL d
 ·have e1 : resL d = [] := by simp [resL, hv]
  have e2 : nR d = false := by simp [nR, hv]
  have q0 := @hv; refine lK (yF d hd) ?_
  refine kS (Sees.frz 0 rfl) ?_
  simp only [go_sem]
  exact aA ⟨⟨_, rfl, by simp only [go_sem, e1, e2, List.map_nil]⟩, by simp [dQ]⟩
 have e1 : resL d = a6z d.length (EE d) := by simp [resL, hv]
 have e2 : nR d = a0f d.length (EE d) := by simp [nR, hv]
 have hl5 := iZ hv
 have hsq : d.length * d.length ≤ 25 := Nat.mul_le_mul hl5 hl5
 have hmul : ((d.length : Nat) : Int) * ((d.length : Nat) : Int) = ((d.length * d.length : Nat) : Int) := by rw [Int.natCast_mul]
 have hends := a2N (tL d) (fU d) (fun x => Iff.rfl) (d.length * d.length + 2) (by omega)
 have hEl := a1u d hv d.length
 have hEok : ∀ x ∈ fU d, x.1 < (List.replicate d.length 0).length ∧ x.2.2 ≤ 1 := fun x hx => by rw [List.length_replicate]; exact a2G d d.length x hx
 have hEl2 : (fU d).length ≤ 90 := by have : fU d = iY d d.length := rfl; rw [this]; omega
 have hbd := a1E (fU d) (List.replicate d.length 0) hEok (fun j => a3S _ j)
 have hlen : ∀ r, (upsN (fU d) r (List.replicate d.length 0)).length = d.length := fun r => by rw [a1D]; simp
 generalize hN2 : d.length * d.length = N2 at *
 have hB : ∀ r, r ≤ N2 + 2 → ∀ j, lv (upsN (fU d) r (List.replicate d.length 0)) j ≤ 1000000 := fun r hr j => by
  have h1 := hbd r j
  have h2 : r * (fU d).length ≤ 27 * 90 := Nat.mul_le_mul (by omega) hEl2
  omega
 have q0 := @hv; refine lK (yF d hd) ?_
 refine bC (α := Nat) (fun r => [(4, .o (.s 0)), (12, .o .u), (5, oi r)]) (fun r => [(0, .row 3 1 ((upsN (fU d) r (List.replicate d.length 0)).map pV) true)]) (fun r => r ≤ N2 + 2) (fun r => N2 + 2 - r) 0 (fun _ => ?_) ?_ ?_ (fun r hr => ?_)
 ·simp only [go_sem]
 ·simp only [go_sem]; simp [upsN, pV]
 ·simp
 ·simp only [go_sem]
  have q0 := @hmul; refine iH ?_
  refine cnd rfl (fun h => ?_) (fun h => ?_)
  ·simp only [decide_eq_true_eq] at h
   refine jH (a1v d (upsN (fU d) r (List.replicate d.length 0)) hv hd (hlen r) (hB r hr)) ?_
   refine a3a [(0, 1)] (r + 1) (by simp only [go_sem]; rfl) ?_ ?_ ?_
   ·simp only [go_sem, upsN]; simp
   ·omega
   ·omega
  ·simp only [decide_eq_false_iff_not] at h
   have e : r = N2 + 2 := by omega
   subst e
   have hLl := hlen (N2 + 2)
   have hLB := hB (N2 + 2) (by omega)
   simp only at hends
   generalize upsN (fU d) (N2 + 2) (List.replicate d.length 0) = L at *
   have hUl : (ups (fU d) L).length = d.length := by rw [uN]; exact hLl
   by_cases hs : ups (fU d) L = L
   ·rw [if_pos hs] at hends
    have f1 := a3Q hends
    have f2 := zI hends.clo
    have hy : decide (ups (fU d) L = L) = true := decide_eq_true hs
    have q0 := @hy; refine b3C (a1v d L hv hd hLl hLB) (a7p (ups (fU d) L) L (by omega) (by omega)) ?_
    exact aA ⟨⟨_, rfl, by simp only [go_sem, e1, e2, f1, f2]⟩, by simp [dQ]⟩
   ·rw [if_neg hs] at hends
    have f1 := a3R hends
    have f2 := a5r hends
    have hy : decide (ups (fU d) L = L) = false := decide_eq_false hs
    have q0 := @hy; refine b3C (a1v d L hv hd hLl hLB) (a7p (ups (fU d) L) L (by omega) (by omega)) ?_
    refine kS (Sees.frz 2 rfl) ?_
    simp only [go_sem]
    exact aA ⟨⟨_, rfl, by simp only [go_sem, e1, e2, f1, f2, List.map_nil]⟩, by simp [dQ]⟩
theorem yJ (d : List TDir) (hd : gL d ≤ 4300000) : FnC Tryz.prog 159 [.o (.d (.sl (d.map cO)))] (ob (nR d)) := by
 refine ent Tryz.func159 rfl Tryz.call159 rfl (fun C => ?_); simp only [go_sem, st0, Tryz.ntmps159]
 refine jH (fJ d hd) ?_
 exact aA ⟨⟨_, rfl, by simp only [go_sem]⟩, trivial⟩
theorem a8x (l : List Int) (s : Int) (k : Nat) (h : k < l.length) : hasI (l.drop k) s = (decide (l[k] = s) || hasI (l.drop (k + 1)) s) := by
 rw [List.drop_eq_getElem_cons h]; rfl
theorem a8y (l : List Int) (s : Int) (hl : l.length ≤ 67108864) : FnC Tryz.prog 287 [.o (.d (.sl (l.map iQ))), oi s] (oi (fF (fun x => decide (s = x)) l 0)) := by
 refine ent Tryz.func287 rfl Tryz.call287 rfl (fun C => ?_); simp only [go_sem, st0, Tryz.ntmps287]
 refine aD ?_
 refine bC (α := Nat) (fun k => [(8, oi k)]) (fun _ => []) (fun k => k ≤ l.length ∧ fF (fun x => decide (s = x)) l 0 = fF (fun x => decide (s = x)) (l.drop k) k) (fun k => l.length - k) 0 (fun _ => ?_) ?_ ?_ (fun k hk => ?_)
 ·simp only [go_sem]
 ·simp only [go_sem]; simp
 ·simp
 ·obtain ⟨hk, hq⟩ := hk
  simp only [go_sem]
  refine aD ?_
  refine cnd rfl (fun h => ?_) (fun h => ?_)
  ·simp only [decide_eq_true_eq, Int.ofNat_lt] at h
   have hd := List.drop_eq_getElem_cons h
   rw [hd, fF] at hq
   have q0 := @h; refine iH ?_
   refine cnd (b := decide (s = l[k])) rfl (fun h2 => ?_) (fun h2 => ?_)
   ·rw [if_pos h2] at hq
    refine aD ?_
    exact aA ⟨⟨_, rfl, by simp only [go_sem, hq]⟩, trivial⟩
   ·rw [if_neg (by simp [h2])] at hq
    refine aD ?_
    refine aF (k + 1) ?_ ?_ ?_
    ·simp only [go_sem]; simp
    ·rw [hq]; exact ⟨h, by simp⟩
    ·omega
  ·simp only [decide_eq_false_iff_not] at h
   have e : k = l.length := by omega
   subst e
   simp only [List.drop_length, fF] at hq
   refine aD ?_
   exact aA ⟨⟨_, rfl, by simp only [go_sem, hq]⟩, trivial⟩
theorem b0g (l : List Int) (s : Int) : decide (0 ≤ fF (fun x => decide (s = x)) l 0) = hasI l s := by
 rw [a1B]; unfold hasI
 congr 1; funext x; congr 1; exact propext eq_comm
theorem a3V (l : List Int) (s : Int) (hl : l.length ≤ 67108864) : FnC Tryz.prog 284 [.o (.d (.sl (l.map iQ))), oi s] (ob (hasI l s)) := by
 refine ent Tryz.func284 rfl Tryz.call284 rfl (fun C => ?_); simp only [go_sem, st0, Tryz.ntmps284]
 refine jH (a8y l s hl) ?_
 exact aA ⟨⟨_, rfl, by simp only [go_sem, b0g]⟩, trivial⟩
theorem kP (l : List Int) (s : Int) (hl : l.length ≤ 67108864) : FnC Tryz.prog 276 [.o (.d (.sl (l.map iQ))), oi s] (ob (hasI l s)) := by
 refine ent Tryz.func276 rfl Tryz.call276 rfl (fun C => ?_); simp only [go_sem, st0, Tryz.ntmps276]
 refine jH (a3V l s hl) ?_
 exact aA ⟨⟨_, rfl, by simp only [go_sem]⟩, trivial⟩
theorem kQ (l : List Int) (s : Int) (hl : l.length ≤ 67108864) : FnC Tryz.prog 246 [.o (.d (.sl (l.map iQ))), oi s] (ob (hasI l s)) := by
 refine ent Tryz.func246 rfl Tryz.call246 rfl (fun C => ?_); simp only [go_sem, st0, Tryz.ntmps246]
 refine aD ?_
 refine bC (α := Nat) (fun k => [(5, oi k)]) (fun k => []) (fun k => k ≤ l.length ∧ hasI (l.drop k) s = hasI l s) (fun k => l.length - k) 0 (fun _ => ?_) ?_ ?_ (fun k hk => ?_)
 ·simp only [go_sem]; try simp
 ·simp only [go_sem]; try simp
 ·simp
 ·simp only [go_sem]
  obtain ⟨hk, hg⟩ := hk
  refine aD ?_
  refine cnd rfl (fun h1 => ?_) (fun h1 => ?_)
  ·simp only [decide_eq_true_eq, Int.ofNat_lt] at h1
   have hd := a8x l s k h1
   rw [hg] at hd
   have q0 := @h1; refine iH ?_
   refine cnd rfl (fun hv => ?_) (fun hv => ?_)
   ·rw [hv, Bool.true_or] at hd
    refine aD ?_
    exact aA ⟨⟨_, rfl, by simp only [go_sem, hd]⟩, trivial⟩
   ·rw [hv, Bool.false_or] at hd
    refine aD ?_
    refine aF (k + 1) ?_ ?_ ?_
    ·simp only [go_sem]; try simp
    ·exact ⟨by omega, hd.symm⟩
    ·omega
  ·simp only [decide_eq_false_iff_not] at h1
   have e : k = l.length := by omega
   subst e
   have hn : hasI l s = false := by rw [← hg, List.drop_length]; rfl
   refine aD ?_
   exact aA ⟨⟨_, rfl, by simp only [go_sem, hn]⟩, trivial⟩
theorem a0g (s : ByteArray) (l : List TResult) (k : Nat) (h : k < l.length) : bS s (l.drop k) = if l[k].fName = s then l[k].fIDs else bS s (l.drop (k + 1)) := by
 rw [List.drop_eq_getElem_cons h]; rfl
theorem vM (l : List TResult) (s : ByteArray) (hl : aW l ≤ 67108864) : FnC Tryz.prog 149 [.o (.d (.sl (l.map aN))), os s] (.o (.w 3 1 ((bS s l).map iQ))) := by
 unfold aW at hl
 generalize hg : bS s l = res
 refine ent Tryz.func149 rfl Tryz.call149 rfl (fun C => ?_); simp only [go_sem, st0, Tryz.ntmps149]
 refine aD ?_
 refine bC (α := Nat) (fun k => [(9, oi k)]) (fun k => []) (fun k => k ≤ l.length ∧ bS s (l.drop k) = res) (fun k => l.length - k) 0 (fun _ => ?_) ?_ ?_ (fun k hk => ?_)
 ·simp only [go_sem]; try simp
 ·simp only [go_sem]; try simp
 ·simp [hg]
 ·simp only [go_sem]
  obtain ⟨hk, hq⟩ := hk
  refine aD ?_
  refine cnd rfl (fun h1 => ?_) (fun h1 => ?_)
  ·simp only [decide_eq_true_eq, Int.ofNat_lt] at h1
   rw [a0g s l k h1] at hq
   by_cases hv : l[k].fName = s
   ·rw [if_pos hv] at hq
    have hw := dI iO l h1
    have hwl : l[k].fIDs.length ≤ iO l[k] := by unfold iO; omega
    have q0 := @h1; have q1 := @hv; refine a3A (a5d l[k].fIDs (by omega)) ?_
    exact aA ⟨⟨_, rfl, by simp only [go_sem, hq]⟩, trivial⟩
   ·rw [if_neg hv] at hq
    have q0 := @h1; have q1 := @hv; refine gQ ?_
    refine aF (k + 1) ?_ ?_ ?_
    ·simp only [go_sem]; try simp
    ·exact ⟨by omega, hq⟩
    ·omega
  ·simp only [decide_eq_false_iff_not] at h1
   have e : k = l.length := by omega
   subst e
   rw [List.drop_length] at hq
   have hn : res = [] := hq.symm
   subst hn
   refine aD ?_
   exact aA ⟨⟨_, rfl, by simp only [go_sem]⟩, trivial⟩
theorem a1W (l : List TResult) (s : ByteArray) (hl : aW l ≤ 67108864) : FnC Tryz.prog 24 [.o (.d (.sl (l.map aN))), os s] (.o (.w 3 1 ((bS s l).map iQ))) := by
 unfold aW at hl
 generalize hg : bS s l = res
 refine ent Tryz.func24 rfl Tryz.call24 rfl (fun C => ?_); simp only [go_sem, st0, Tryz.ntmps24]
 refine aD ?_
 refine bC (α := Nat) (fun k => [(5, oi k)]) (fun k => []) (fun k => k ≤ l.length ∧ bS s (l.drop k) = res) (fun k => l.length - k) 0 (fun _ => ?_) ?_ ?_ (fun k hk => ?_)
 ·simp only [go_sem]; try simp
 ·simp only [go_sem]; try simp
 ·simp [hg]
 ·simp only [go_sem]
  obtain ⟨hk, hq⟩ := hk
  refine aD ?_
  refine cnd rfl (fun h1 => ?_) (fun h1 => ?_)
  ·simp only [decide_eq_true_eq, Int.ofNat_lt] at h1
   rw [a0g s l k h1] at hq
   by_cases hv : l[k].fName = s
   ·rw [if_pos hv] at hq
    have hw := dI iO l h1
    have hwl : l[k].fIDs.length ≤ iO l[k] := by unfold iO; omega
    have q0 := @h1; have q1 := @hv; refine gQ ?_
    exact aA ⟨⟨_, rfl, by simp only [go_sem, hq]⟩, trivial⟩
   ·rw [if_neg hv] at hq
    have q0 := @h1; have q1 := @hv; refine gQ ?_
    refine aF (k + 1) ?_ ?_ ?_
    ·simp only [go_sem]; try simp
    ·exact ⟨by omega, hq⟩
    ·omega
  ·simp only [decide_eq_false_iff_not] at h1
   have e : k = l.length := by omega
   subst e
   rw [List.drop_length] at hq
   have hn : res = [] := hq.symm
   subst hn
   refine aD ?_
   exact aA ⟨⟨_, rfl, by simp only [go_sem]⟩, trivial⟩
theorem rM (s : ByteArray) : ∀ l : List TResult, (bS s l).length ≤ aW l
 | [] => by simp [bS]
 | x :: l => by
  have := rM s l
  unfold bS
  simp only [aW, dN, List.length_cons] at this ⊢
  split
  ·unfold iO; omega
  ·omega
theorem nL (l : List TResult) (s : ByteArray) (hl : aW l ≤ 67108864) : FnC Tryz.prog 149 [.o (.d (.sl (l.map aN))), os s] (.o (.d (.sl ((bS s l).map iQ)))) := (vM l s hl).pu (by simp only [go_sem, and_self])
theorem jA (l : List TResult) (s : ByteArray) (hl : aW l ≤ 67108864) : FnC Tryz.prog 24 [.o (.d (.sl (l.map aN))), os s] (.o (.d (.sl ((bS s l).map iQ)))) := (a1W l s hl).pu (by simp only [go_sem, and_self])
def b0f (v : TValue) : Int := if v.fKind = 1 then v.fInt else 0
theorem tO (f : TFile) (s : ByteArray) (hf : eF f ≤ 4300000) : FnC Tryz.prog 275 [pM f, os s] (.t [(false, [.d (iv (b0f (dE s f.fAttrs)))]), (false, [.d (bv (decide ((dE s f.fAttrs).fKind = 1)))])]) := by
 refine ent Tryz.func275 rfl Tryz.call275 rfl (fun C => ?_); simp only [go_sem, st0, Tryz.ntmps275]
 by_cases h : (dE s f.fAttrs).fKind = 1
 ·have q0 := @h; have q1 := @decide_true; have q2 := @decide_false; refine a0q (kM f s hf) ?_
  exact aA ⟨⟨_, rfl, by simp only [go_sem, b0f, h, if_true, decide_true]⟩, by simp [dQ]⟩
 ·have q0 := @h; have q1 := @decide_true; have q2 := @decide_false; refine a0q (kM f s hf) ?_
  exact aA ⟨⟨_, rfl, by simp only [go_sem, b0f, h, if_false, decide_false]⟩, by simp [dQ]⟩
theorem a3T (q : List TNode) (f : TFile) (r : List TResult) (hv : okQ q = true) (hf : eF f ≤ 4300000) (hr : aW r ≤ 67108864) : ∀ k i, i < k → k ≤ q.length → FnC Tryz.prog 242 [.o (.d (.sl (q.map bH))), oi (i : Nat), pM f, .o (.d (.sl (r.map aN)))] (ob (mt q f r k i)) := by
 intro k
 induction k with
 | zero => intro i hi _; omega
 | succ k ih => ?_
 intro i hi hk
 have hlt : i < q.length := by omega
 have hn := List.getElem?_eq_getElem hlt
 have hok := wH hv hn
 have hop := pQ hok
 refine ent Tryz.func242 rfl Tryz.call242 rfl (fun C => ?_); simp only [go_sem, st0, Tryz.ntmps242]
 by_cases h2 : q[i].fOp = 2
 ·have hm : mt q f r (k + 1) i = !decide ((dE q[i].fName f.fAttrs).fKind = 0) := by simp [mt, hn, h2]
  have q0 := @hlt; have q1 := @h2; have q2 := @decide_true; refine a0q (kM f q[i].fName hf) ?_
  exact aA ⟨⟨_, rfl, by simp only [go_sem, hm, decide_not]⟩, trivial⟩
 by_cases h3 : q[i].fOp = 3
 ·have hm : mt q f r (k + 1) i = a2B (dE q[i].fName f.fAttrs) q[i].fValue := by simp [mt, hn, h3]
  have q0 := @hlt; have q1 := @h2; have q2 := @h3; have q3 := @decide_true; have q4 := @decide_false; refine a0r (kM f q[i].fName hf) ?_
  exact aA ⟨⟨_, rfl, by simp only [go_sem, hm, a2B]⟩, trivial⟩
 by_cases h4 : q[i].fOp = 4
 ·have hm : mt q f r (k + 1) i = a1n (dE q[i].fName f.fAttrs) q[i].fValue.fInt := by simp [mt, hn, h4]
  by_cases hj : (dE q[i].fName f.fAttrs).fKind = 1
  ·repeat' (with_reducible first | refine nY ?_ | (refine mX ?_; try simp only [go_sem, hlt, h2, h3, h4, decide_true, decide_false, hj, b0f, if_true]) | refine kO ?_ (by decide) | refine b0W (by kernel_rfl) ?_ | (refine cC (tO f q[i].fName hf) ?_ ?_; focus simp only [go_sem, and_self]; done) | (refine And.intro ?_ ?_; focus omega))
   exact aA ⟨⟨_, rfl, by simp only [go_sem, hm, a1n, hj, decide_true, Bool.true_and]⟩, trivial⟩
  ·repeat' (with_reducible first | refine nY ?_ | (refine mX ?_; try simp only [go_sem, hlt, h2, h3, h4, decide_true, decide_false, hj, b0f, if_false]) | refine kO ?_ (by decide) | refine b0W (by kernel_rfl) ?_ | (refine cC (tO f q[i].fName hf) ?_ ?_; focus simp only [go_sem, and_self]; done) | (refine And.intro ?_ ?_; focus omega))
   exact aA ⟨⟨_, rfl, by simp only [go_sem, hm, a1n, hj, decide_false, Bool.false_and]⟩, trivial⟩
 by_cases h5 : q[i].fOp = 5
 ·obtain ⟨l, hl, hli⟩ := dJ hok (.inl h5)
  have hm : mt q f r (k + 1) i = !mt q f r k l := by simp [mt, hn, h5, hl]
  have q0 := @hlt; have q1 := @h2; have q2 := @h3; have q3 := @h4; have q4 := @h5; have q5 := @decide_true; have q6 := @decide_false; have q7 := @hl; refine a0t (ih l (by omega) (by omega)) ?_
  exact aA ⟨⟨_, rfl, by simp only [go_sem, hm]⟩, trivial⟩
 by_cases h6 : q[i].fOp = 6
 ·obtain ⟨l, hl, hli⟩ := dJ hok (.inr (.inl h6))
  obtain ⟨m, hr2, hmi⟩ := fG hok (.inl h6)
  have hm : mt q f r (k + 1) i = (mt q f r k l && mt q f r k m) := by simp [mt, hn, h6, hl, hr2]
  cases hx : mt q f r k l
  all_goals
   have qH := aI @hlt (aI @h2 (aI @h3 (aI @h4 (aI @h5 (aI @h6 (aI @decide_true (aI @decide_false (aI @hl (aI @hr2 @hx))))))))); repeat' (with_reducible first | refine nY ?_ | (refine mX ?_; try simp only [go_sem, qH]) | refine kD ?_ | refine rD ?_ | refine cP (ih l (by omega) (by omega)) ?_ | refine cP (ih m (by omega) (by omega)) ?_ | refine aO ?_ | fail)
   exact aA ⟨⟨_, rfl, by simp only [go_sem, hm, hx, Bool.true_and, Bool.false_and]⟩, trivial⟩
 by_cases h7 : q[i].fOp = 7
 ·obtain ⟨l, hl, hli⟩ := dJ hok (.inr (.inr h7))
  obtain ⟨m, hr2, hmi⟩ := fG hok (.inr h7)
  have hm : mt q f r (k + 1) i = (mt q f r k l || mt q f r k m) := by simp [mt, hn, h7, hl, hr2]
  cases hx : mt q f r k l
  all_goals
   have qH := aI @hlt (aI @h2 (aI @h3 (aI @h4 (aI @h5 (aI @h6 (aI @h7 (aI @decide_true (aI @decide_false (aI @hl (aI @hr2 @hx)))))))))); repeat' (with_reducible first | refine nY ?_ | (refine mX ?_; try simp only [go_sem, qH]) | refine kD ?_ | refine rD ?_ | refine cP (ih l (by omega) (by omega)) ?_ | refine cP (ih m (by omega) (by omega)) ?_ | refine aO ?_ | fail)
   exact aA ⟨⟨_, rfl, by simp only [go_sem, hm, hx, Bool.true_or, Bool.false_or]⟩, trivial⟩
 have hrl := rM q[i].fName r
 by_cases h8 : q[i].fOp = 8
 ·have hm : mt q f r (k + 1) i = hasI (bS q[i].fName r) f.fID := by simp [mt, hn, h8]
  have q0 := @hlt; have q1 := @h2; have q2 := @h3; have q3 := @h4; have q4 := @h5; have q5 := @h6; have q6 := @h7; have q7 := @h8; have q8 := @decide_true; have q9 := @decide_false; refine a2q (nL r q[i].fName hr) (kP (bS q[i].fName r) f.fID (by omega)) ?_
  exact aA ⟨⟨_, rfl, by simp only [go_sem, hm]⟩, trivial⟩
 by_cases h9 : q[i].fOp = 9
 ·have hm : mt q f r (k + 1) i = (!decide (f.fLink = 0) && hasI (bS q[i].fName r) f.fLink) := by simp [mt, hn, h9]
  by_cases hz : f.fLink = 0
  ·have qH := aI @hlt (aI @h2 (aI @h3 (aI @h4 (aI @h5 (aI @h6 (aI @h7 (aI @h8 (aI @h9 (aI @decide_true (aI @decide_false @hz)))))))))); repeat' (with_reducible first | refine nY ?_ | (refine mX ?_; try simp only [go_sem, qH]) | refine kD ?_ | refine rD ?_ | refine cP (nL r q[i].fName hr) ?_ | refine cP (kP (bS q[i].fName r) f.fLink (by omega)) ?_ | refine aO ?_ | fail)
   exact aA ⟨⟨_, rfl, by simp only [go_sem, hm, hz, decide_true, Bool.not_true, Bool.false_and]⟩, trivial⟩
  ·have qH := aI @hlt (aI @h2 (aI @h3 (aI @h4 (aI @h5 (aI @h6 (aI @h7 (aI @h8 (aI @h9 (aI @decide_true (aI @decide_false @hz)))))))))); repeat' (with_reducible first | refine nY ?_ | (refine mX ?_; try simp only [go_sem, qH]) | refine kD ?_ | refine rD ?_ | refine cP (nL r q[i].fName hr) ?_ | refine cP (kP (bS q[i].fName r) f.fLink (by omega)) ?_ | refine aO ?_ | fail)
   exact aA ⟨⟨_, rfl, by simp only [go_sem, hm, hz, decide_false, Bool.not_false, Bool.true_and]⟩, trivial⟩
 have h1 : q[i].fOp = 1 := by omega
 have hm : mt q f r (k + 1) i = true := by simp [mt, hn, h1]
 have qH := aI @hlt (aI @h1 (aI @h2 (aI @h3 (aI @h4 (aI @h5 (aI @h6 (aI @h7 (aI @h8 (aI @h9 (aI @decide_true @decide_false)))))))))); repeat' (with_reducible first | refine nY ?_ | (refine mX ?_; try simp only [go_sem, qH]) | refine kD ?_ | refine rD ?_ | refine aO ?_ | fail)
 exact aA ⟨⟨_, rfl, by simp only [go_sem, hm]⟩, trivial⟩
theorem a3U (q : List TNode) (f : TFile) (r : List TResult) (hv : okQ q = true) (hf : eF f ≤ 4300000) (hr : aW r ≤ 67108864) : ∀ k i, i < k → k ≤ q.length → FnC Tryz.prog 213 [.o (.d (.sl (q.map bH))), oi (i : Nat), pM f, .o (.d (.sl (r.map aN)))] (ob (mt q f r k i)) := by
 intro k
 induction k with
 | zero => intro i hi _; omega
 | succ k ih => ?_
 intro i hi hk
 have hlt : i < q.length := by omega
 have hn := List.getElem?_eq_getElem hlt
 have hok := wH hv hn
 have hop := pQ hok
 refine ent Tryz.func213 rfl Tryz.call213 rfl (fun C => ?_); simp only [go_sem, st0, Tryz.ntmps213]
 by_cases h1 : q[i].fOp = 1
 ·have hm : mt q f r (k + 1) i = true := by simp [mt, hn, h1]
  have q0 := @hlt; have q1 := @h1; have q2 := @decide_true; refine a0q (dK f q[i].fName hf) ?_
  exact aA ⟨⟨_, rfl, by simp only [go_sem, hm]⟩, trivial⟩
 by_cases h2 : q[i].fOp = 2
 ·have hm : mt q f r (k + 1) i = !decide ((dE q[i].fName f.fAttrs).fKind = 0) := by simp [mt, hn, h2]
  have q0 := @hlt; have q1 := @h1; have q2 := @h2; have q3 := @decide_true; have q4 := @decide_false; refine a0r (dK f q[i].fName hf) ?_
  exact aA ⟨⟨_, rfl, by simp only [go_sem, hm, decide_not]⟩, trivial⟩
 by_cases h3 : q[i].fOp = 3
 ·have hm : mt q f r (k + 1) i = a2B (dE q[i].fName f.fAttrs) q[i].fValue := by simp [mt, hn, h3]
  have q0 := @hlt; have q1 := @h1; have q2 := @h2; have q3 := @h3; have q4 := @decide_true; have q5 := @decide_false; refine a0s (dK f q[i].fName hf) ?_
  exact aA ⟨⟨_, rfl, by simp only [go_sem, hm, a2B]⟩, trivial⟩
 by_cases h4 : q[i].fOp = 4
 ·have hm : mt q f r (k + 1) i = a1n (dE q[i].fName f.fAttrs) q[i].fValue.fInt := by simp [mt, hn, h4]
  by_cases hj : (dE q[i].fName f.fAttrs).fKind = 1
  ·have hj' : decide ((dE q[i].fName f.fAttrs).fKind = 1) = true := decide_eq_true hj
   have q0 := @hlt; have q1 := @h1; have q2 := @h2; have q3 := @h3; have q4 := @h4; have q5 := @decide_true; have q6 := @decide_false; have q7 := @hj'; refine a0t (dK f q[i].fName hf) ?_
   exact aA ⟨⟨_, rfl, by simp only [go_sem, hm, a1n, hj, decide_true, Bool.true_and]⟩, trivial⟩
  ·have hj' : decide ((dE q[i].fName f.fAttrs).fKind = 1) = false := decide_eq_false hj
   have q0 := @hlt; have q1 := @h1; have q2 := @h2; have q3 := @h3; have q4 := @h4; have q5 := @decide_true; have q6 := @decide_false; have q7 := @hj'; refine a0t (dK f q[i].fName hf) ?_
   exact aA ⟨⟨_, rfl, by simp only [go_sem, hm, a1n, hj, decide_false, Bool.false_and]⟩, trivial⟩
 by_cases h5 : q[i].fOp = 5
 ·obtain ⟨l, hl, hli⟩ := dJ hok (.inl h5)
  have hm : mt q f r (k + 1) i = !mt q f r k l := by simp [mt, hn, h5, hl]
  have q0 := @hlt; have q1 := @h1; have q2 := @h2; have q3 := @h3; have q4 := @h4; have q5 := @h5; have q6 := @decide_true; have q7 := @decide_false; have q8 := @hl; refine a4G (dK f q[i].fName hf) (ih l (by omega) (by omega)) ?_
  exact aA ⟨⟨_, rfl, by simp only [go_sem, hm]⟩, trivial⟩
 by_cases h6 : q[i].fOp = 6
 ·obtain ⟨l, hl, hli⟩ := dJ hok (.inr (.inl h6))
  obtain ⟨m, hr2, hmi⟩ := fG hok (.inl h6)
  have hm : mt q f r (k + 1) i = (mt q f r k l && mt q f r k m) := by simp [mt, hn, h6, hl, hr2]
  cases hx : mt q f r k l
  all_goals
   have qH := aI @hlt (aI @h1 (aI @h2 (aI @h3 (aI @h4 (aI @h5 (aI @h6 (aI @decide_true (aI @decide_false (aI @hl (aI @hr2 @hx)))))))))); repeat' (with_reducible first | refine nY ?_ | (refine mX ?_; try simp only [go_sem, qH]) | refine kD ?_ | refine rD ?_ | refine cP (dK f q[i].fName hf) ?_ | refine cP (ih l (by omega) (by omega)) ?_ | refine cP (ih m (by omega) (by omega)) ?_ | refine aO ?_ | fail)
   exact aA ⟨⟨_, rfl, by simp only [go_sem, hm, hx, Bool.true_and, Bool.false_and]⟩, trivial⟩
 by_cases h7 : q[i].fOp = 7
 ·obtain ⟨l, hl, hli⟩ := dJ hok (.inr (.inr h7))
  obtain ⟨m, hr2, hmi⟩ := fG hok (.inr h7)
  have hm : mt q f r (k + 1) i = (mt q f r k l || mt q f r k m) := by simp [mt, hn, h7, hl, hr2]
  cases hx : mt q f r k l
  all_goals
   have qH := aI @hlt (aI @h1 (aI @h2 (aI @h3 (aI @h4 (aI @h5 (aI @h6 (aI @h7 (aI @decide_true (aI @decide_false (aI @hl (aI @hr2 @hx))))))))))); repeat' (with_reducible first | refine nY ?_ | (refine mX ?_; try simp only [go_sem, qH]) | refine kD ?_ | refine rD ?_ | refine cP (dK f q[i].fName hf) ?_ | refine cP (ih l (by omega) (by omega)) ?_ | refine cP (ih m (by omega) (by omega)) ?_ | refine aO ?_ | fail)
   exact aA ⟨⟨_, rfl, by simp only [go_sem, hm, hx, Bool.true_or, Bool.false_or]⟩, trivial⟩
 have hrl := rM q[i].fName r
 by_cases h8 : q[i].fOp = 8
 ·have hm : mt q f r (k + 1) i = hasI (bS q[i].fName r) f.fID := by simp [mt, hn, h8]
  have qH := aI @hlt (aI @h1 (aI @h2 (aI @h3 (aI @h4 (aI @h5 (aI @h6 (aI @h7 (aI @h8 (aI @decide_true @decide_false))))))))); repeat' (with_reducible first | refine nY ?_ | (refine mX ?_; try simp only [go_sem, qH]) | refine kD ?_ | refine rD ?_ | refine cP (dK f q[i].fName hf) ?_ | refine cP (jA r q[i].fName hr) ?_ | refine cP (kQ (bS q[i].fName r) f.fID (by omega)) ?_ | refine aO ?_ | fail)
  exact aA ⟨⟨_, rfl, by simp only [go_sem, hm]⟩, trivial⟩
 have h9 : q[i].fOp = 9 := by omega
 have hm : mt q f r (k + 1) i = (!decide (f.fLink = 0) && hasI (bS q[i].fName r) f.fLink) := by simp [mt, hn, h9]
 by_cases hz : f.fLink = 0
 ·have hz1 : decide (f.fLink = 0) = true := decide_eq_true hz
  have hz2 : decide (¬ f.fLink = 0) = false := decide_eq_false (fun h => h hz)
  have qH := aI @hlt (aI @h1 (aI @h2 (aI @h3 (aI @h4 (aI @h5 (aI @h6 (aI @h7 (aI @h8 (aI @decide_true (aI @decide_false (aI @hz1 @hz2))))))))))); repeat' (with_reducible first | refine nY ?_ | (refine mX ?_; try simp only [go_sem, qH]) | refine kD ?_ | refine rD ?_ | refine cP (dK f q[i].fName hf) ?_ | refine cP (jA r q[i].fName hr) ?_ | refine cP (kQ (bS q[i].fName r) f.fLink (by omega)) ?_ | refine aO ?_ | fail)
  exact aA ⟨⟨_, rfl, by simp only [go_sem, hm, hz, decide_true, Bool.not_true, Bool.false_and]⟩, trivial⟩
 ·have hz1 : decide (f.fLink = 0) = false := decide_eq_false hz
  have hz2 : decide (¬ f.fLink = 0) = true := decide_eq_true hz
  have qH := aI @hlt (aI @h1 (aI @h2 (aI @h3 (aI @h4 (aI @h5 (aI @h6 (aI @h7 (aI @h8 (aI @decide_true (aI @decide_false (aI @hz1 @hz2))))))))))); repeat' (with_reducible first | refine nY ?_ | (refine mX ?_; try simp only [go_sem, qH]) | refine kD ?_ | refine rD ?_ | refine cP (dK f q[i].fName hf) ?_ | refine cP (jA r q[i].fName hr) ?_ | refine cP (kQ (bS q[i].fName r) f.fLink (by omega)) ?_ | refine aO ?_ | fail)
  exact aA ⟨⟨_, rfl, by simp only [go_sem, hm, hz, decide_false, Bool.not_false, Bool.true_and]⟩, trivial⟩
end Go.Proofs.YtolgdibgnndoaaaGreat
end
section
set_option maxRecDepth 100000
set_option maxHeartbeats 4000000
namespace Go.Proofs.YtolgdibgnndoaaaGreat
theorem b0i (q : List TNode) (x : Int) (i j : Nat) (hi : i < q.length) (hj : j < q.length) (hne : i ≠ j) : rA q[i] x + rA q[j] x ≤ refs q x := by
 induction q generalizing i j with
 | nil => simp at hi
 | cons n q ih =>
  have one : ∀ (q : List TNode) (m : Nat) (h : m < q.length), rA q[m] x ≤ refs q x := by
   intro q
   induction q with
   | nil => intro m h; simp at h
   | cons n q ih =>
    intro m h
    cases m with
    | zero => simp only [List.getElem_cons_zero, refs]; omega
    | succ m => have := ih m (by simpa using h); simp only [List.getElem_cons_succ, refs]; omega
  cases i with
  | zero =>
   cases j with
   | zero => exact (hne rfl).elim
   | succ j => have := one q j (by simpa using hj); simp only [List.getElem_cons_zero, List.getElem_cons_succ, refs]; omega
  | succ i =>
   cases j with
   | zero => have := one q i (by simpa using hi); simp only [List.getElem_cons_zero, List.getElem_cons_succ, refs]; omega
   | succ j =>
    have := ih i j (by simpa using hi) (by simpa using hj) (by omega)
    simp only [List.getElem_cons_succ, refs]; omega
theorem b0j {q : List TNode} (h : okQ q = true) (l : Nat) (hl : l + 1 < q.length) : refs q l = 1 := by
 unfold okQ at h
 simp only [Bool.and_eq_true, List.all_eq_true, List.mem_range] at h
 have := h.1 l (by omega)
 unfold a1p at this
 rw [List.getElem?_eq_getElem (by omega)] at this
 simp only [Bool.and_eq_true, Bool.or_eq_true, decide_eq_true_eq] at this
 rcases this.2 with h | h
 ·omega
 ·exact h
def nb (L : List Bool) (i : Nat) : Bool := L.getD i false
theorem wO (L : List Bool) (l : Nat) (v : Bool) (x : Nat) (h : l < L.length) : nb (L.set l v) x = if x = l then v else nb L x := by
 unfold nb
 simp only [List.getD_eq_getElem?_getD, List.getElem?_set]
 by_cases e : l = x
 ·subst e; simp [h]
 ·rw [if_neg e, if_neg (fun e' => e e'.symm)]
theorem a1X {q : List TNode} (hq : okQ q = true) {i : Nat} (hi : i < q.length) {L : List Bool} (hL : L.length = q.length) {x : Nat} (hx : rA q[i] x = 0) : nb (jF q i L) x = nb L x := by
 have hok := wH hq (List.getElem?_eq_getElem hi)
 by_cases h5 : q[i].fOp = 5
 ·obtain ⟨l, hl, hli⟩ := dJ hok (.inl h5)
  rw [yL hi L h5 hl, wO _ _ _ _ (by omega)]
  split
  ·rename_i e; subst e; simp [rA, two, h5, hl] at hx
  ·rfl
 by_cases h67 : q[i].fOp = 6 ∨ q[i].fOp = 7
 ·obtain ⟨l, hl, hli⟩ := dJ hok (.inr h67)
  obtain ⟨m, hm, hmi⟩ := fG hok h67
  have ht : two q[i] = true := by unfold two; rcases h67 with h | h <;> simp [h]
  rw [uK hi L (by omega) h5 h67 hl hm, wO _ _ _ _ (by simp; omega), wO _ _ _ _ (by omega)]
  split
  ·rename_i e; subst e; simp [rA, ht, hm] at hx
  ·split
   ·rename_i e; subst e; simp [rA, ht, hl] at hx
   ·rfl
 ·rw [zG hi L h5 h67]
def a3W (q : List TNode) (m : Nat) : List Bool := negJ q (q.length - m)
theorem a1F (q : List TNode) (m : Nat) : (a3W q m).length = q.length := yK q _
theorem a2P (q : List TNode) (i : Nat) (h : i < q.length) : a3W q i = jF q i (a3W q (i + 1)) := zD q i h
theorem b1A {q : List TNode} (hq : okQ q = true) {i : Nat} (hi : i < q.length) {x : Nat} (hx : i ≤ x) : rA q[i] x = 0 := by
 have hok := wH hq (List.getElem?_eq_getElem hi)
 unfold rA
 have a : (if (two q[i] || decide (q[i].fOp = 5)) && decide (q[i].fLeft = (x : Int)) then 1 else 0) = 0 := by
  split
  ·rename_i h
   simp only [Bool.and_eq_true, Bool.or_eq_true, decide_eq_true_eq] at h
   obtain ⟨l, hl, hli⟩ := dJ hok (by unfold two at h; simp only [Bool.or_eq_true, decide_eq_true_eq] at h; omega)
   omega
  ·rfl
 have b : (if two q[i] && decide (q[i].fRight = (x : Int)) then 1 else 0) = 0 := by
  split
  ·rename_i h
   simp only [Bool.and_eq_true, decide_eq_true_eq] at h
   obtain ⟨l, hl, hli⟩ := fG hok (by unfold two at h; simp only [Bool.or_eq_true, decide_eq_true_eq] at h; omega)
   omega
  ·rfl
 omega
theorem zL {q : List TNode} (hq : okQ q = true) {x : Nat} : ∀ (k m : Nat), m + k ≤ q.length → (∀ j, (hj : j < q.length) → m ≤ j → j < m + k → rA q[j] x = 0) → nb (a3W q m) x = nb (a3W q (m + k)) x
 | 0, m, _, _ => rfl
 | k + 1, m, h, hr => by
  have hm : m < q.length := by omega
  rw [a2P q m hm, a1X hq hm (a1F q (m + 1)) (hr m hm (by omega) (by omega)), zL hq k (m + 1) (by omega) (fun j hj h1 h2 => hr j hj (by omega) (by omega))]
  congr 2; omega
theorem a7A {q : List TNode} (hq : okQ q = true) (x : Nat) (hx : x < q.length) : nb (kN q) x = nb (a3W q (x + 1)) x := by
 have := zL hq (x := x) (x + 1) 0 (by omega) (fun j hj _ h2 => b1A hq hj (by omega))
 simpa [a3W, kN] using this
theorem wP {q : List TNode} (hq : okQ q = true) {i l : Nat} (hi : i < q.length) (hl : l < i) (hr : 1 ≤ rA q[i] l) : nb (kN q) l = nb (jF q i (a3W q (i + 1))) l := by
 rw [a7A hq l (by omega), ← a2P q i hi]
 have h1 := b0j hq l (by omega)
 have := zL hq (x := l) (i - (l + 1)) (l + 1) (by omega) (fun j hj h1' h2 => by
  have := b0i q l i j hi hj (by omega)
  omega)
 rw [this]
 congr 2; omega
theorem b0k {q : List TNode} (hq : okQ q = true) {i l : Nat} (hi : i < q.length) (h5 : q[i].fOp = 5) (hl : q[i].fLeft = (l : Int)) (hli : l < i) : nb (kN q) l = true := by
 rw [wP hq hi hli (by simp [rA, h5, hl]), yL hi _ h5 hl, wO _ _ _ _ (by rw [a1F]; omega), if_pos rfl]
theorem b0l {q : List TNode} (hq : okQ q = true) {i l m : Nat} (hi : i < q.length) (h67 : q[i].fOp = 6 ∨ q[i].fOp = 7) (hl : q[i].fLeft = (l : Int)) (hm : q[i].fRight = (m : Int)) (hli : l < i) (hmi : m < i) : nb (kN q) l = nb (kN q) i ∧ nb (kN q) m = nb (kN q) i := by
 have ht : two q[i] = true := by unfold two; rcases h67 with h | h <;> simp [h]
 have h5 : ¬ q[i].fOp = 5 := by omega
 have hL := a1F q (i + 1)
 have e := a7A hq i hi
 have g : (a3W q (i + 1))[i]'(by omega) = nb (kN q) i := by
  rw [e]; simp [nb, List.getD_eq_getElem?_getD, hL, hi]
 rw [wP hq hi hli (by simp [rA, ht, hl]), wP hq hi hmi (by simp [rA, ht, hm]), uK hi _ (by omega) h5 h67 hl hm]
 rw [wO _ m _ l (by rw [List.length_set]; omega), wO _ l _ l (by omega), wO _ m _ m (by rw [List.length_set]; omega), g]
 simp
theorem a7B {q : List TNode} (hq : okQ q = true) {f : TFile} {r r' : List TResult}
    (hP : ∀ i, (hi : i < q.length) → (q[i].fOp = 8 ∨ q[i].fOp = 9) → nb (kN q) i = false → ∀ x, hasI (bS q[i].fName r) x = true → hasI (bS q[i].fName r') x = true)
    (hN : ∀ i, (hi : i < q.length) → (q[i].fOp = 8 ∨ q[i].fOp = 9) → nb (kN q) i = true → ∀ x, hasI (bS q[i].fName r) x = hasI (bS q[i].fName r') x) :
    ∀ (k i : Nat), i < k → i < q.length → (nb (kN q) i = true → mt q f r k i = mt q f r' k i) ∧ (nb (kN q) i = false → mt q f r k i = true → mt q f r' k i = true)
 | 0, i, h, _ => by omega
 | k + 1, i, h, hi => by
  have hn := List.getElem?_eq_getElem hi
  have hok := wH hq hn
  have ih := a7B hq (f := f) hP hN k
  by_cases h1 : q[i].fOp = 1
  ·simp [mt, hn, h1]
  by_cases h2 : q[i].fOp = 2
  ·simp [mt, hn, h2]
  by_cases h3 : q[i].fOp = 3
  ·simp [mt, hn, h3]
  by_cases h4 : q[i].fOp = 4
  ·simp [mt, hn, h4]
  by_cases h5 : q[i].fOp = 5
  ·obtain ⟨l, hl, hli⟩ := dJ hok (.inl h5)
   have := (ih l (by omega) (by omega)).1 (b0k hq hi h5 hl hli)
   have e : mt q f r (k + 1) i = mt q f r' (k + 1) i := by simp [mt, hn, h5, hl, this]
   exact ⟨fun _ => e, fun _ h => by rw [← e]; exact h⟩
  by_cases h67 : q[i].fOp = 6 ∨ q[i].fOp = 7
  ·obtain ⟨l, hl, hli⟩ := dJ hok (.inr h67)
   obtain ⟨m, hm, hmi⟩ := fG hok h67
   obtain ⟨n1, n2⟩ := b0l hq hi h67 hl hm hli hmi
   have a := ih l (by omega) (by omega)
   have b := ih m (by omega) (by omega)
   rw [n1] at a
   rw [n2] at b
   refine ⟨fun hx => ?_, fun hx hm2 => ?_⟩
   ·have a1 := a.1 hx
    have b1 := b.1 hx
    rcases h67 with h6 | h7
    ·simp [mt, hn, h6, hl, hm, a1, b1]
    ·simp [mt, hn, h7, hl, hm, a1, b1]
   ·have a1 := a.2 hx
    have b1 := b.2 hx
    rcases h67 with h6 | h7
    ·simp [mt, hn, h6, hl, hm] at hm2 ⊢
     exact ⟨a1 hm2.1, b1 hm2.2⟩
    ·simp [mt, hn, h7, hl, hm] at hm2 ⊢
     exact hm2.imp a1 b1
  have h6 : ¬ q[i].fOp = 6 := fun h => h67 (.inl h)
  have h7 : ¬ q[i].fOp = 7 := fun h => h67 (.inr h)
  have hop := pQ hok
  have h89 : q[i].fOp = 8 ∨ q[i].fOp = 9 := by omega
  refine ⟨fun hx => ?_, fun hx hm2 => ?_⟩
  ·have e := hN i hi h89 hx
   rcases h89 with h8 | h9
   ·simp [mt, hn, h8, e]
   ·simp [mt, hn, h9, e]
  ·have e := hP i hi h89 hx
   rcases h89 with h8 | h9
   ·simp [mt, hn, h8] at hm2 ⊢
    exact e _ hm2
   ·simp [mt, hn, h9] at hm2 ⊢
    exact ⟨hm2.1, e _ hm2.2⟩
def pr (q : List TNode) (R : List TResult) (f : TFile) : Bool := okQ q && mt q f R q.length (q.length - 1)
def fT (l : List TFile) : List Int := l.map TFile.fID
def jP (fs : List TFile) (q : List TNode) (R : List TResult) : List Int := fT (fs.filter (pr q R))
theorem yM (fs : List TFile) (q : List TNode) (R : List TResult) : (jP fs q R).length ≤ fs.length := by
 unfold jP fT; rw [List.length_map]; exact List.length_filter_le _ _
theorem yN (nm : ByteArray) : ∀ (d : List TDir) (R : List TResult) (k : Nat), R.map TResult.fName = d.map TDir.fName → bS nm R = (if 0 ≤ fF (fun x : TDir => decide (x.fName = nm)) d k then (R.getD (fF (fun x : TDir => decide (x.fName = nm)) d k - k).toNat ⟨⟨#[]⟩, []⟩).fIDs else [])
 | [], [], k, _ => by simp [bS, fF]
 | [], _ :: _, _, h => by simp at h
 | _ :: _, [], _, h => by simp at h
 | x :: d, y :: R, k, h => by
  simp only [List.map_cons, List.cons.injEq] at h
  have ih := yN nm d R (k + 1) h.2
  by_cases hx : x.fName = nm
  ·simp [bS, fF, h.1, hx]
  ·have e0 : fF (fun x : TDir => decide (x.fName = nm)) (x :: d) k = fF (fun x : TDir => decide (x.fName = nm)) d (k + 1) := by simp [fF, hx]
   have e1 : bS nm (y :: R) = bS nm R := by simp [bS, h.1, hx]
   rw [e0, e1, ih]
   have hge : fF (fun x : TDir => decide (x.fName = nm)) d (k + 1) < 0 ∨ ((k + 1 : Nat) : Int) ≤ fF (fun x : TDir => decide (x.fName = nm)) d (k + 1) := by
    rcases idxP_fst (fun x : TDir => decide (x.fName = nm)) d (k + 1) with ⟨h, _, _⟩ | ⟨h, _⟩ <;> omega
   by_cases h0 : 0 ≤ fF (fun x : TDir => decide (x.fName = nm)) d (k + 1)
   ·rw [if_pos h0, if_pos h0]
    have e : (fF (fun x : TDir => decide (x.fName = nm)) d (k + 1) - (k : Int)).toNat = (fF (fun x : TDir => decide (x.fName = nm)) d (k + 1) - ((k + 1 : Nat) : Int)).toNat + 1 := by omega
    rw [e, List.getD_cons_succ]
   ·rw [if_neg h0, if_neg h0]
def dU (R : List TResult) (p : Nat) : List Int := (R.getD p ⟨⟨#[]⟩, []⟩).fIDs
theorem resIDs_at {d : List TDir} {R : List TResult} (h : R.map TResult.fName = d.map TDir.fName) (nm : ByteArray) : (placeD d nm = -1 ∧ bS nm R = []) ∨ ∃ p : Nat, placeD d nm = (p : Int) ∧ p < d.length ∧ bS nm R = dU R p := by
 have := yN nm d R 0 h
 rcases placeD_cases d nm with hp | ⟨p, hp, hl⟩
 ·left
  refine ⟨hp, ?_⟩
  unfold placeD at hp
  rw [this, hp]; simp
 ·right
  refine ⟨p, hp, hl, ?_⟩
  unfold placeD at hp
  rw [this, hp]
  rw [if_pos (by omega)]
  simp [dU]
theorem qB (R : List TResult) (i j : Nat) (x : TResult) (h : i < R.length) : dU (R.set i x) j = if j = i then x.fIDs else dU R j := by
 unfold dU
 simp only [List.getD_eq_getElem?_getD, List.getElem?_set]
 by_cases e : i = j
 ·subst e; simp [h]
 ·rw [if_neg e, if_neg (fun e' => e e'.symm)]
theorem a2O (R : List TResult) (i : Nat) (x : TResult) (d : List TDir) (h : R.map TResult.fName = d.map TDir.fName) (hi : i < d.length) (hx : x.fName = d[i].fName) : (R.set i x).map TResult.fName = d.map TDir.fName := by
 rw [List.map_set, h, hx]
 apply List.ext_getElem?
 intro j
 rw [List.getElem?_set]
 split
 ·rename_i e; subst e; simp [hi]
 ·rfl
theorem a5u {q : List TNode} {i : Nat} (hi : i < q.length) (h89 : q[i].fOp = 8 ∨ q[i].fOp = 9) (b : Bool) (hb : nb (kN q) i = b) : q[i].fName ∈ cB q b := by
 have hn : i < (kN q).length := by rw [a1y]; exact hi
 have hg : (kN q)[i] = b := by rw [← hb]; simp [nb, List.getD_eq_getElem?_getD, hn]
 have hd : iD q[i] = true := by unfold iD inB; rcases h89 with h | h <;> simp [h]
 unfold cB lS
 refine List.mem_flatMap.2 ⟨i, List.mem_range.2 hi, ?_⟩
 unfold sel
 rw [List.getElem?_eq_getElem hi, List.getElem?_eq_getElem hn]
 simp [hd, hg]
theorem a7y (x : Int) (l : List TFile) : hasI (fT l) x = true ↔ ∃ f ∈ l, f.fID = x := by
 unfold hasI fT
 rw [List.any_eq_true]
 constructor
 ·rintro ⟨y, hy, h⟩
  obtain ⟨f, hf, rfl⟩ := List.mem_map.1 hy
  exact ⟨f, hf, of_decide_eq_true h⟩
 ·rintro ⟨f, hf, rfl⟩
  exact ⟨_, List.mem_map.2 ⟨f, hf, rfl⟩, by simp⟩
structure Ev (fs : List TFile) (d : List TDir) (L : List Nat) (ns : List ByteArray) (c : Nat) (k : Nat) (R : List TResult) : Prop where
 nm : R.map TResult.fName = d.map TDir.fName
 cur : ∀ i, (hi : i < d.length) → jN ns d[i].fName = true → lv L i = k → ∃ p : TFile → Bool, dU R i = fT (fs.filter p) ∧ ∀ f, p f = true → pr d[i].fQuery R f = true
 top : ∀ i, (hi : i < d.length) → jN ns d[i].fName = true → k < lv L i → dU R i = []
 bd : ∀ i, (dU R i).length ≤ c
 cap : fs.length ≤ c
theorem Ev.len {fs : List TFile} {d : List TDir} {L : List Nat} {ns : List ByteArray} {c k : Nat} {R : List TResult} (h : Ev fs d L ns c k R) : R.length = d.length := by
 have := congrArg List.length h.nm
 simpa using this
def tQ (fs : List TFile) (d : List TDir) (i : Nat) (R : List TResult) (x : TDir) : List TResult := R.set i ⟨x.fName, jP fs x.fQuery R⟩
theorem a7z {fs : List TFile} {d : List TDir} {L : List Nat} {ns : List ByteArray} {c k : Nat} {R : List TResult} (h : Ev fs d L ns c k R) (hv : ∀ i, (hi : i < d.length) → okQ d[i].fQuery = true) (hc : Clo d.length (EE d) L) {i j : Nat} (hi : i < d.length) (hin : jN ns d[i].fName = true) (hik : lv L i = k) (hj : j < d.length) (hjk : lv L j = k) (f : TFile) (hp : pr d[j].fQuery R f = true) : pr d[j].fQuery (tQ fs d i R d[i]) f = true := by
 have hq := hv j hj
 have hlen := h.len
 have hl9 := lH hq
 have hnm2 := a2O R i ⟨d[i].fName, jP fs d[i].fQuery R⟩ d h.nm hi rfl
 have grow : ∀ x, hasI (dU R i) x = true → hasI (jP fs d[i].fQuery R) x = true := fun x hx => by
  obtain ⟨p, e, hpp⟩ := h.cur i hi hin hik
  rw [e, a7y] at hx
  obtain ⟨g, hg, rfl⟩ := hx
  rw [List.mem_filter] at hg
  unfold jP
  rw [a7y]
  exact ⟨g, List.mem_filter.2 ⟨hg.1, hpp g hg.2⟩, rfl⟩
 unfold pr at hp ⊢
 rw [hq, Bool.true_and] at hp ⊢
 have key := a7B hq (f := f) (r := R) (r' := tQ fs d i R d[i]) (fun m hm h89 hb x hx => by
  have hmem := a5u hm h89 false hb
  rcases resIDs_at h.nm d[j].fQuery[m].fName with ⟨_, e⟩ | ⟨p, hp1, hp2, e⟩
  ·rw [e] at hx; simp [hasI] at hx
  ·rcases resIDs_at hnm2 d[j].fQuery[m].fName with ⟨e3, _⟩ | ⟨p', hp1', _, e'⟩
   ·omega
   ·have : p' = p := by omega
    subst this
    show hasI (bS _ (R.set i _)) x = true
    rw [e', qB R i p' _ (by omega)]
    rw [e] at hx
    split
    ·rename_i e4; subst e4; exact grow x hx
    ·exact hx) (fun m hm h89 hb x => by
  have hmem := a5u hm h89 true hb
  rcases resIDs_at h.nm d[j].fQuery[m].fName with ⟨e1, e⟩ | ⟨p, hp1, hp2, e⟩
  ·rcases resIDs_at hnm2 d[j].fQuery[m].fName with ⟨_, e'⟩ | ⟨p', hp1', _, _⟩
   ·show _ = hasI (bS _ (R.set i _)) x
    rw [e, e']
   ·omega
  ·rcases resIDs_at hnm2 d[j].fQuery[m].fName with ⟨e3, _⟩ | ⟨p', hp1', _, e'⟩
   ·omega
   ·have : p' = p := by omega
    subst this
    have hee := hc.le j p' 1 ((a1w d j p' 1).2 ⟨d[j], List.getElem?_eq_getElem hj, .inr ⟨rfl, _, hmem, hp1⟩⟩)
    have hne : p' ≠ i := fun e => by subst e; omega
    show _ = hasI (bS _ (R.set i _)) x
    rw [e, e', qB R i p' _ (by omega), if_neg hne]) d[j].fQuery.length (d[j].fQuery.length - 1) (by omega) (by omega)
 cases hb : nb (kN d[j].fQuery) (d[j].fQuery.length - 1) with
 | true => rw [← key.1 hb]; exact hp
 | false => exact key.2 hb hp
theorem Ev.step {fs : List TFile} {d : List TDir} {L : List Nat} {ns : List ByteArray} {c k : Nat} {R : List TResult} (h : Ev fs d L ns c k R) (hv : ∀ i, (hi : i < d.length) → okQ d[i].fQuery = true) (hc : Clo d.length (EE d) L) {i : Nat} (hi : i < d.length) (hin : jN ns d[i].fName = true) (hik : lv L i = k) : Ev fs d L ns c k (tQ fs d i R d[i]) := by
 have hlen := h.len
 refine ⟨a2O R i _ d h.nm hi rfl, fun j hj hjn hjk => ?_, fun j hj hjn hjk => ?_, fun j => ?_, h.cap⟩
 ·unfold tQ
  rw [qB R i j _ (by omega)]
  split
  ·rename_i e; subst e
   exact ⟨pr d[j].fQuery R, rfl, fun f hf => a7z h hv hc hi hin hik hj hjk f hf⟩
  ·obtain ⟨p, e, hp⟩ := h.cur j hj hjn hjk
   exact ⟨p, e, fun f hf => a7z h hv hc hi hin hik hj hjk f (hp f hf)⟩
 ·unfold tQ
  rw [qB R i j _ (by omega), if_neg (fun e => by subst e; omega)]
  exact h.top j hj hjn hjk
 ·unfold tQ
  rw [qB R i j _ (by omega)]
  split
  ·exact Nat.le_trans (yM fs _ _) h.cap
  ·exact h.bd j
theorem filter_same {α : Type} (p q : α → Bool) (l : List α) (h : ∀ x ∈ l, p x = true → q x = true) : l.filter p = l.filter q ∨ (l.filter p).length < (l.filter q).length := by
 have le : ∀ l : List α, (∀ x ∈ l, p x = true → q x = true) → (l.filter p).length ≤ (l.filter q).length := by
  intro l
  induction l with
  | nil => intro _; simp
  | cons x l ih =>
   intro h
   have := ih fun y hy => h y (List.mem_cons_of_mem _ hy)
   simp only [List.filter_cons]
   cases hp : p x
   ·cases hq : q x <;> simp <;> omega
   ·rw [h x (by simp) hp]; simpa using this
 induction l with
 | nil => exact .inl rfl
 | cons x l ih =>
  have hl := fun y hy => h y (List.mem_cons_of_mem x hy)
  simp only [List.filter_cons]
  cases hp : p x
  ·cases hq : q x
   ·simpa using ih hl
   ·have := le l hl
    right; simp; omega
  ·rw [h x (by simp) hp]
   rcases ih hl with e | e
   ·left; simp [e]
   ·right; simpa using e
def gW : List TResult → Nat
 | [] => 0
 | x :: l => x.fIDs.length + gW l
theorem b0h (R : List TResult) (i : Nat) (x : TResult) (h : i < R.length) : gW (R.set i x) + (dU R i).length = gW R + x.fIDs.length := by
 induction R generalizing i with
 | nil => simp at h
 | cons y l ih =>
  cases i with
  | zero => simp [gW, dU]; omega
  | succ i =>
   have := ih i (by simpa using h)
   simp only [List.set_cons_succ, gW, dU, List.getD_cons_succ] at this ⊢
   omega
theorem b1z (R : List TResult) (c : Nat) (h : ∀ i, (dU R i).length ≤ c) : gW R ≤ R.length * c := by
 induction R with
 | nil => simp [gW]
 | cons x l ih =>
  have h0 := h 0
  have h1 := ih fun i => by simpa [dU] using h (i + 1)
  simp only [dU, List.getD_cons_zero] at h0
  simp only [gW, List.length_cons, Nat.succ_mul]
  omega
theorem Ev.grow {fs : List TFile} {d : List TDir} {L : List Nat} {ns : List ByteArray} {c k : Nat} {R : List TResult} (h : Ev fs d L ns c k R) {i : Nat} (hi : i < d.length) (hin : jN ns d[i].fName = true) (hik : lv L i = k) (hne : jP fs d[i].fQuery R ≠ dU R i) : gW R < gW (tQ fs d i R d[i]) := by
 obtain ⟨p, e, hp⟩ := h.cur i hi hin hik
 have hlen := h.len
 have hs := b0h R i ⟨d[i].fName, jP fs d[i].fQuery R⟩ (by omega)
 rcases filter_same p (pr d[i].fQuery R) fs (fun f _ hf => hp f hf) with e2 | e2
 ·exact (hne (by rw [e]; unfold jP; rw [e2])).elim
 ·have h1 : (dU R i).length < (jP fs d[i].fQuery R).length := by
   rw [e]; unfold jP fT; simpa using e2
  unfold tQ
  simp only at hs
  omega
theorem Ev.tot {fs : List TFile} {d : List TDir} {L : List Nat} {ns : List ByteArray} {c k : Nat} {R : List TResult} (h : Ev fs d L ns c k R) : gW R ≤ d.length * c := by
 have := b1z R c h.bd
 rwa [h.len] at this
theorem Ev.next {fs : List TFile} {d : List TDir} {L : List Nat} {ns : List ByteArray} {c k : Nat} {R : List TResult} (h : Ev fs d L ns c k R) : Ev fs d L ns c (k + 1) R :=
 ⟨h.nm, fun i hi hn hk => ⟨fun _ => false, by rw [h.top i hi hn (by omega)]; simp [fT], fun f hf => by cases hf⟩, fun i hi hn hk => h.top i hi hn (by omega), h.bd, h.cap⟩
def passT (fs : List TFile) (d : List TDir) (L : List Nat) (ns : List ByteArray) (k : Nat) : Nat → List TResult → List TResult
 | 0, R => R
 | m + 1, R => match d[m]? with
  | none => passT fs d L ns k m R
  | some x => if lv L m = k ∧ jN ns x.fName = true then tQ fs d m (passT fs d L ns k m R) x else passT fs d L ns k m R
def vN (fs : List TFile) (d : List TDir) (L : List Nat) (ns : List ByteArray) (k : Nat) : Nat → List TResult × Nat → List TResult × Nat
 | 0, x => x
 | F + 1, x => if gW x.1 < gW (passT fs d L ns k d.length x.1) then vN fs d L ns k F (passT fs d L ns k d.length x.1, x.2 + 1) else (passT fs d L ns k d.length x.1, x.2 + 1)
def fI (ns : List ByteArray) (r : List TResult) (d : List TDir) : List TResult := d.map fun x => ⟨x.fName, if jN ns x.fName then [] else bS x.fName r⟩
def allE (fs : List TFile) (d : List TDir) (L : List Nat) (ns : List ByteArray) (c : Nat) (r : List TResult) : Nat → List TResult × Nat
 | 0 => (fI ns r d, 0)
 | k + 1 => vN fs d L ns k (d.length * c + 1) (allE fs d L ns c r k)
theorem uO {fs : List TFile} {d : List TDir} {L : List Nat} {ns : List ByteArray} {c k : Nat} {R : List TResult} (h : Ev fs d L ns c k R) {i : Nat} (hi : i < d.length) (he : jP fs d[i].fQuery R = dU R i) : tQ fs d i R d[i] = R := by
 have hlen := h.len
 have hnm : (R[i]'(by omega)).fName = d[i].fName := by
  have := congrArg (fun l : List ByteArray => l[i]?) h.nm
  simp only [List.getElem?_map] at this
  rw [List.getElem?_eq_getElem (by omega), List.getElem?_eq_getElem hi] at this
  simpa using this
 have hids : dU R i = (R[i]'(by omega)).fIDs := by
  have : i < R.length := by omega
  simp [dU, List.getD_eq_getElem?_getD, this]
 unfold tQ
 rw [he, hids, ← hnm]
 exact List.set_getElem_self _
theorem nM (fs : List TFile) (d : List TDir) (L : List Nat) (ns : List ByteArray) (k m : Nat) (R : List TResult) (h : m < d.length) : passT fs d L ns k (m + 1) R = if lv L m = k ∧ jN ns d[m].fName = true then tQ fs d m (passT fs d L ns k m R) d[m] else passT fs d L ns k m R := by
 rw [passT, List.getElem?_eq_getElem h]
theorem jO {fs : List TFile} {d : List TDir} {L : List Nat} {ns : List ByteArray} {c k : Nat} (hv : ∀ i, (hi : i < d.length) → okQ d[i].fQuery = true) (hc : Clo d.length (EE d) L) : ∀ (m : Nat) (R : List TResult), m ≤ d.length → Ev fs d L ns c k R → Ev fs d L ns c k (passT fs d L ns k m R)
 | 0, R, _, h => h
 | m + 1, R, hm, h => by
  have ih := jO hv hc m R (by omega) h
  rw [nM fs d L ns k m R (by omega)]
  split
  ·rename_i e; exact ih.step hv hc (by omega) e.2 e.1
  ·exact ih
theorem newR_cases {fs : List TFile} {d : List TDir} {L : List Nat} {ns : List ByteArray} {c k : Nat} {R : List TResult} (h : Ev fs d L ns c k R) {i : Nat} (hi : i < d.length) (hin : jN ns d[i].fName = true) (hik : lv L i = k) : tQ fs d i R d[i] = R ∨ gW R < gW (tQ fs d i R d[i]) := by
 by_cases he : jP fs d[i].fQuery R = dU R i
 ·exact .inl (uO h hi he)
 ·exact .inr (h.grow hi hin hik he)
theorem jB {fs : List TFile} {d : List TDir} {L : List Nat} {ns : List ByteArray} {c k : Nat} (hv : ∀ i, (hi : i < d.length) → okQ d[i].fQuery = true) (hc : Clo d.length (EE d) L) : ∀ (m : Nat) (R : List TResult), m ≤ d.length → Ev fs d L ns c k R → passT fs d L ns k m R = R ∨ gW R < gW (passT fs d L ns k m R)
 | 0, R, _, _ => .inl rfl
 | m + 1, R, hm, h => by
  have ih := jB hv hc m R (by omega) h
  have he := jO hv hc m R (by omega) h
  rw [nM fs d L ns k m R (by omega)]
  split
  ·rename_i e
   rcases newR_cases he (by omega) e.2 e.1 with e2 | g
   ·rw [e2]; exact ih
   ·rcases ih with e3 | g3
    ·rw [e3] at g ⊢; exact .inr g
    ·exact .inr (by omega)
  ·exact ih
theorem zK (ns : List ByteArray) (r : List TResult) (d : List TDir) (i : Nat) (hi : i < d.length) : dU (fI ns r d) i = if jN ns d[i].fName then [] else bS d[i].fName r := by
 unfold dU fI
 simp only [List.getD_eq_getElem?_getD, List.getElem?_map, List.getElem?_eq_getElem hi]
 rfl
theorem a8z {fs : List TFile} (d : List TDir) (L : List Nat) (ns : List ByteArray) (r : List TResult) : Ev fs d L ns (fs.length + aW r) 0 (fI ns r d) := by
 refine ⟨by simp [fI], fun i hi hn _ => ⟨fun _ => false, by rw [zK ns r d i hi, if_pos hn]; simp [fT], fun f hf => by cases hf⟩, fun i hi hn _ => by rw [zK ns r d i hi, if_pos hn], fun i => ?_, by omega⟩
 by_cases hi : i < d.length
 ·rw [zK ns r d i hi]
  split
  ·simp
  ·have := rM d[i].fName r; omega
 ·have e : dU (fI ns r d) i = [] := by
   unfold dU fI
   simp only [List.getD_eq_getElem?_getD, List.getElem?_map]
   rw [List.getElem?_eq_none (by omega)]; rfl
  rw [e]; simp
theorem a5t {fs : List TFile} {d : List TDir} {L : List Nat} {ns : List ByteArray} {c k : Nat} (hv : ∀ i, (hi : i < d.length) → okQ d[i].fQuery = true) (hc : Clo d.length (EE d) L) : ∀ (F : Nat) (x : List TResult × Nat), Ev fs d L ns c k x.1 → Ev fs d L ns c k (vN fs d L ns k F x).1
 | 0, x, h => h
 | F + 1, x, h => by
  have hp := jO hv hc d.length x.1 (Nat.le_refl _) h
  unfold vN
  split
  ·exact a5t hv hc F _ hp
  ·exact hp
theorem uP {fs : List TFile} {d : List TDir} {L : List Nat} {ns : List ByteArray} {r : List TResult} (hv : ∀ i, (hi : i < d.length) → okQ d[i].fQuery = true) (hc : Clo d.length (EE d) L) : ∀ k, Ev fs d L ns (fs.length + aW r) k (allE fs d L ns (fs.length + aW r) r k).1
 | 0 => a8z d L ns r
 | k + 1 => (a5t hv hc _ _ (uP hv hc k)).next
structure Round (fs : List TFile) (d : List TDir) (L : List Nat) (ns : List ByteArray) (c : Nat) (k : Nat) (T : List TResult × Nat) (x : List TResult × Nat × Bool) : Prop where
 ev : Ev fs d L ns c k x.1
 run : x.2.2 = true → ∃ F, d.length * c + 1 ≤ F + gW x.1 ∧ T = vN fs d L ns k F (x.1, x.2.1)
 fin : x.2.2 = false → T = (x.1, x.2.1)
theorem Round.start {fs : List TFile} {d : List TDir} {L : List Nat} {ns : List ByteArray} {c k : Nat} {R : List TResult} {n : Nat} (h : Ev fs d L ns c k R) : Round fs d L ns c k (vN fs d L ns k (d.length * c + 1) (R, n)) (R, n, true) :=
 ⟨h, fun _ => ⟨_, by omega, rfl⟩, fun h => by cases h⟩
theorem Round.pass {fs : List TFile} {d : List TDir} {L : List Nat} {ns : List ByteArray} {c k : Nat} (hv : ∀ i, (hi : i < d.length) → okQ d[i].fQuery = true) (hc : Clo d.length (EE d) L) {T : List TResult × Nat} {R : List TResult} {n : Nat} (h : Round fs d L ns c k T (R, n, true)) : Round fs d L ns c k T (passT fs d L ns k d.length R, n + 1, decide (gW R < gW (passT fs d L ns k d.length R))) := by
 have hp := jO hv hc d.length R (Nat.le_refl _) h.ev
 obtain ⟨F, hF, hT⟩ := h.run rfl
 have ht := h.ev.tot
 simp only at ht
 cases F with
 | zero => simp only at hF; omega
 | succ F =>
  unfold vN at hT
  simp only at hT hF
  refine ⟨hp, fun hx => ?_, fun hx => ?_⟩
  ·simp only [decide_eq_true_eq] at hx
   rw [if_pos hx] at hT
   exact ⟨F, by simp only; omega, hT⟩
  ·simp only [decide_eq_false_iff_not] at hx
   rw [if_neg hx] at hT
   exact hT
end Go.Proofs.YtolgdibgnndoaaaGreat
end
section
set_option maxRecDepth 100000
set_option maxHeartbeats 4000000
namespace Go.Proofs.YtolgdibgnndoaaaGreat
open Go Go.Sx Go.RowKit Go.Proofs
def tK : List Nat → Int → Int
 | [], m => m
 | x :: l, m => tK l (if (x : Int) > m then (x : Int) else m)
def yH (L : List Nat) : Int := tK L (-1)
theorem zC (L : List Nat) (k : Nat) (m : Int) (h : k < L.length) : tK (L.drop k) m = tK (L.drop (k + 1)) (if (L[k] : Int) > m then (L[k] : Int) else m) := by
 rw [List.drop_eq_getElem_cons h, tK]
theorem zZ (q : List TNode) (f : TFile) (R : List TResult) (hq : dR q ≤ 4300000) (hf : eF f ≤ 4300000) (hR : aW R ≤ 67108864) : FnC Tryz.prog 207 [.o (.d (.sl (q.map bH))), pM f, .o (.d (.sl (R.map aN)))] (ob (pr q R f)) := by
 refine ent Tryz.func207 rfl Tryz.call207 rfl (fun C => ?_); simp only [go_sem, st0, Tryz.ntmps207]
 cases hv : okQ q
 ·have q0 := @hv; refine lK (bM q hq) ?_
  exact aA ⟨⟨_, rfl, by simp only [go_sem, pr, hv, Bool.false_and]⟩, trivial⟩
 ·have hl := lH hv
  have hx : (q.length : Int) - 1 = ((q.length - 1 : Nat) : Int) := by omega
  have q0 := @hv; have q1 := @hx; refine a0p (bM q hq) (a3T q f R hv hf hR q.length (q.length - 1) (by omega) (by omega)) ?_
  exact aA ⟨⟨_, rfl, by simp only [go_sem, pr, hv, Bool.true_and]⟩, trivial⟩
theorem a0a (q : List TNode) (f : TFile) (R : List TResult) (hq : dR q ≤ 4300000) (hf : eF f ≤ 4300000) (hR : aW R ≤ 67108864) : FnC Tryz.prog 155 [.o (.d (.sl (q.map bH))), pM f, .o (.d (.sl (R.map aN)))] (ob (pr q R f)) := by
 refine ent Tryz.func155 rfl Tryz.call155 rfl (fun C => ?_); simp only [go_sem, st0, Tryz.ntmps155]
 cases hv : okQ q
 ·have q0 := @hv; refine lK (bX q hq) ?_
  exact aA ⟨⟨_, rfl, by simp only [go_sem, pr, hv, Bool.false_and]⟩, trivial⟩
 ·have hl := lH hv
  have hx : (q.length : Int) - 1 = ((q.length - 1 : Nat) : Int) := by omega
  have q0 := @hv; have q1 := @hx; refine a0p (bX q hq) (a3U q f R hv hf hR q.length (q.length - 1) (by omega) (by omega)) ?_
  exact aA ⟨⟨_, rfl, by simp only [go_sem, pr, hv, Bool.true_and]⟩, trivial⟩
theorem yI (s : TStore) (q : List TNode) (R : List TResult) (hs : dV s ≤ 4300000) (hq : dR q ≤ 4300000) (hR : aW R ≤ 67108864) : FnC Tryz.prog 151 [gZ s, .o (.d (.sl (q.map bH))), .o (.d (.sl (R.map aN)))] (.o (.w 3 1 ((jP s.fFiles q R).map iQ))) := by
 unfold dV lU at hs
 refine ent Tryz.func151 rfl Tryz.call151 rfl (fun C => ?_); simp only [go_sem, st0, Tryz.ntmps151]
 refine aD ?_
 refine bC (α := Nat) (fun k => [(7, .o (.s 1)), (10, .o .u), (14, oi k)]) (fun k => [(1, .row 3 1 ((fT ((s.fFiles.take k).filter (pr q R))).map iQ) true)]) (fun k => k ≤ s.fFiles.length) (fun k => s.fFiles.length - k) 0 (fun _ => ?_) ?_ ?_ (fun k hk => ?_)
 ·simp only [go_sem]
 ·simp only [go_sem]; simp [fT]
 ·simp
 ·simp only [go_sem]
  refine aD ?_
  refine cnd rfl (fun h => ?_) (fun h => ?_)
  ·simp only [decide_eq_true_eq, Int.ofNat_lt] at h
   have hw := dI eF s.fFiles h
   have ht : s.fFiles.take (k + 1) = s.fFiles.take k ++ [s.fFiles[k]] := List.take_succ_eq_append_getElem h
   have hl : (fT ((s.fFiles.take k).filter (pr q R))).length ≤ k := by
    unfold fT; rw [List.length_map]
    exact Nat.le_trans (List.length_filter_le _ _) (by rw [List.length_take]; omega)
   have hl1 : (fT ((s.fFiles.take k).filter (pr q R))).length + 1 ≤ 140737488355328 := by omega
   have hl2 : ((fT ((s.fFiles.take k).filter (pr q R))).length + 1) * 8 ≤ 140737488355328 := by omega
   cases hm : pr q R s.fFiles[k]
   ·have hf : fT ((s.fFiles.take (k + 1)).filter (pr q R)) = fT ((s.fFiles.take k).filter (pr q R)) := by rw [ht, List.filter_append]; simp [hm]
    have q0 := @h; have q1 := @hm; refine a3A (zZ q s.fFiles[k] R hq (by omega) hR) ?_
    refine aF (k + 1) ?_ ?_ ?_
    ·simp only [go_sem, hf]; simp
    ·omega
    ·omega
   ·have hf : fT ((s.fFiles.take (k + 1)).filter (pr q R)) = fT ((s.fFiles.take k).filter (pr q R)) ++ [s.fFiles[k].fID] := by rw [ht, List.filter_append]; simp [hm, fT]
    have q0 := @h; have q1 := @hm; refine a3A (zZ q s.fFiles[k] R hq (by omega) hR) ?_
    refine aF (k + 1) ?_ ?_ ?_
    ·simp only [go_sem, hf, List.map_append]; simp
    ·omega
    ·omega
  ·simp only [decide_eq_false_iff_not] at h
   have e : k = s.fFiles.length := by omega
   subst e
   refine aD ?_
   exact aA ⟨⟨_, rfl, by simp only [go_sem, jP, List.take_length]⟩, trivial⟩
theorem lQ (s : TStore) (q : List TNode) (R : List TResult) (hs : dV s ≤ 4300000) (hq : dR q ≤ 4300000) (hR : aW R ≤ 67108864) : FnC Tryz.prog 86 [gZ s, .o (.d (.sl (q.map bH))), .o (.d (.sl (R.map aN)))] (.o (.w 3 1 ((jP s.fFiles q R).map iQ))) := by
 unfold dV lU at hs
 refine ent Tryz.func86 rfl Tryz.call86 rfl (fun C => ?_); simp only [go_sem, st0, Tryz.ntmps86]
 refine aD ?_
 refine bC (α := Nat) (fun k => [(7, .o (.s 1)), (9, .o .u), (8, oi k)]) (fun k => [(1, .row 3 1 ((fT ((s.fFiles.take k).filter (pr q R))).map iQ) true)]) (fun k => k ≤ s.fFiles.length) (fun k => s.fFiles.length - k) 0 (fun _ => ?_) ?_ ?_ (fun k hk => ?_)
 ·simp only [go_sem]
 ·simp only [go_sem]; simp [fT]
 ·simp
 ·simp only [go_sem]
  refine aD ?_
  refine cnd rfl (fun h => ?_) (fun h => ?_)
  ·simp only [decide_eq_true_eq, Int.ofNat_lt] at h
   have hw := dI eF s.fFiles h
   have ht : s.fFiles.take (k + 1) = s.fFiles.take k ++ [s.fFiles[k]] := List.take_succ_eq_append_getElem h
   have hl : (fT ((s.fFiles.take k).filter (pr q R))).length ≤ k := by
    unfold fT; rw [List.length_map]
    exact Nat.le_trans (List.length_filter_le _ _) (by rw [List.length_take]; omega)
   have hl1 : (fT ((s.fFiles.take k).filter (pr q R))).length + 1 ≤ 140737488355328 := by omega
   have hl2 : ((fT ((s.fFiles.take k).filter (pr q R))).length + 1) * 8 ≤ 140737488355328 := by omega
   cases hm : pr q R s.fFiles[k]
   ·have hf : fT ((s.fFiles.take (k + 1)).filter (pr q R)) = fT ((s.fFiles.take k).filter (pr q R)) := by rw [ht, List.filter_append]; simp [hm]
    have q0 := @h; have q1 := @hm; refine a3A (a0a q s.fFiles[k] R hq (by omega) hR) ?_
    refine aF (k + 1) ?_ ?_ ?_
    ·simp only [go_sem, hf]; simp
    ·omega
    ·omega
   ·have hf : fT ((s.fFiles.take (k + 1)).filter (pr q R)) = fT ((s.fFiles.take k).filter (pr q R)) ++ [s.fFiles[k].fID] := by rw [ht, List.filter_append]; simp [hm, fT]
    have q0 := @h; have q1 := @hm; refine a3A (a0a q s.fFiles[k] R hq (by omega) hR) ?_
    refine aF (k + 1) ?_ ?_ ?_
    ·simp only [go_sem, hf, List.map_append]; simp
    ·omega
    ·omega
  ·simp only [decide_eq_false_iff_not] at h
   have e : k = s.fFiles.length := by omega
   subst e
   refine aD ?_
   exact aA ⟨⟨_, rfl, by simp only [go_sem, jP, List.take_length]⟩, trivial⟩
theorem a9V (d : List TDir) (h : nR d = false) : resL d = [] := by
 unfold nR at h
 unfold resL
 split
 ·rename_i hv
  rw [if_pos hv] at h
  apply a3R
  intro hx
  obtain ⟨F, hF⟩ := hx
  rw [zI hF] at h; cases h
 ·rfl
theorem b1w (A : List Nat) (h : 0 < A.length) (hl : A.length ≤ 4300000) : FnC Tryz.prog 206 [.o (.d (.sl (A.map pV)))] (oi (yH A)) := by
 have h1 : ¬ (A.length : Int) < 1 := by omega
 have hst : yH A = tK (A.drop 1) (A[0] : Int) := by
  have := zC A 0 (-1) h
  rw [List.drop_zero] at this
  unfold yH
  rw [this, if_pos (by omega)]
 refine ent Tryz.func206 rfl Tryz.call206 rfl (fun C => ?_); simp only [go_sem, st0, Tryz.ntmps206]
 have q0 := @h; have q1 := @h1; have q2 := @decide_false; have q3 := @Int.toNat_zero; have q4 := @Int.le_refl; refine sN ?_
 refine bC (α := Nat × Int) (fun x => [(3, oi x.2), (4, oi x.1)]) (fun _ => []) (fun x => 1 ≤ x.1 ∧ x.1 ≤ A.length ∧ yH A = tK (A.drop x.1) x.2) (fun x => A.length - x.1) (1, (A[0] : Int)) (fun _ => ?_) ?_ ?_ (fun x hx => ?_)
 ·simp only [go_sem]
 ·simp only [go_sem]; simp
 ·exact ⟨by simp, by simp only; omega, hst⟩
 ·obtain ⟨k, m⟩ := x
  obtain ⟨hk1, hk, hq⟩ := hx
  simp only at hk1 hk hq
  simp only [go_sem]
  refine aD ?_
  refine cnd rfl (fun h2 => ?_) (fun h2 => ?_)
  ·simp only [decide_eq_true_eq, Int.ofNat_lt] at h2
   rw [zC A k m h2] at hq
   have q0 := @h2; refine iH ?_
   refine aF (k + 1, mxI m (A[k] : Int)) ?_ ?_ ?_
   ·simp only [go_sem]; simp
   ·exact ⟨by simp, by simp only; omega, hq⟩
   ·simp only; omega
  ·simp only [decide_eq_false_iff_not] at h2
   have e : k = A.length := by omega
   subst e
   rw [List.drop_length, tK] at hq
   refine aD ?_
   exact aA ⟨⟨_, rfl, by simp only [go_sem, hq]⟩, trivial⟩
theorem a6r (d : List TDir) (hd : gL d ≤ 4300000) (hl : (resL d).length ≤ 4300000) : FnC Tryz.prog 150 [.o (.d (.sl (d.map cO)))] (oi (yH (resL d))) := by
 refine ent Tryz.func150 rfl Tryz.call150 rfl (fun C => ?_); simp only [go_sem, st0, Tryz.ntmps150]
 cases hb : nR d
 ·have e := a9V d hb
  have q0 := @hb; refine lK (iL d hd) ?_
  exact aA ⟨⟨_, rfl, by simp only [go_sem, e, yH, tK]⟩, trivial⟩
 ·by_cases h0 : 0 < (resL d).length
  ·have hn : ¬ ((resL d).length : Int) = 0 := by omega
   have q0 := @hb; have q1 := @hn; have q2 := @decide_false; refine a4E (iL d hd) (b1w (resL d) h0 hl) ?_
   exact aA ⟨⟨_, rfl, by simp only [go_sem]⟩, trivial⟩
  ·have hn : ((resL d).length : Int) = 0 := by omega
   have e : resL d = [] := List.eq_nil_of_length_eq_zero (by omega)
   have q0 := @hb; have q1 := @hn; have q2 := @decide_true; refine a0q (iL d hd) ?_
   exact aA ⟨⟨_, rfl, by simp only [go_sem, e, yH, tK]⟩, trivial⟩
theorem a1t (d : List TDir) (hd : gL d ≤ 4300000) (hl : (resL d).length ≤ 4300000) : FnC Tryz.prog 85 [.o (.d (.sl (d.map cO)))] (oi (yH (resL d))) := by
 refine ent Tryz.func85 rfl Tryz.call85 rfl (fun C => ?_); simp only [go_sem, st0, Tryz.ntmps85]
 refine jH (fJ d hd) ?_
 generalize resL d = A at *
 refine bC (α := Nat × Int) (fun x => [(5, oi x.2), (6, oi x.1)]) (fun _ => []) (fun x => x.1 ≤ A.length ∧ yH A = tK (A.drop x.1) x.2) (fun x => A.length - x.1) (0, -1) (fun _ => ?_) ?_ ?_ (fun x hx => ?_)
 ·simp only [go_sem]
 ·simp only [go_sem]; simp
 ·simp [yH]
 ·obtain ⟨k, m⟩ := x
  obtain ⟨hk, hq⟩ := hx
  simp only at hk hq
  simp only [go_sem]
  refine aD ?_
  refine cnd rfl (fun h2 => ?_) (fun h2 => ?_)
  ·simp only [decide_eq_true_eq, Int.ofNat_lt] at h2
   rw [zC A k m h2] at hq
   have q0 := @h2; refine iH ?_
   by_cases hc : m < (A[k] : Int)
   ·rw [if_pos hc] at hq
    refine cnd (b := decide (m < (A[k] : Int))) rfl (fun _ => ?_) (fun hx => ?_)
    ·have q0 := @h2; refine iH ?_
     refine aF (k + 1, (A[k] : Int)) ?_ ?_ ?_
     ·simp only [go_sem]; simp
     ·exact ⟨by simp only; omega, hq⟩
     ·simp only; omega
    ·simp [hc] at hx
   ·rw [if_neg hc] at hq
    refine cnd (b := decide (m < (A[k] : Int))) rfl (fun hx => ?_) (fun _ => ?_)
    ·simp [hc] at hx
    ·have q0 := @h2; refine iH ?_
     refine aF (k + 1, m) ?_ ?_ ?_
     ·simp only [go_sem]; simp
     ·exact ⟨by simp only; omega, hq⟩
     ·simp only; omega
  ·simp only [decide_eq_false_iff_not] at h2
   have e : k = A.length := by omega
   subst e
   rw [List.drop_length, tK] at hq
   refine aD ?_
   exact aA ⟨⟨_, rfl, by simp only [go_sem, hq]⟩, trivial⟩
end Go.Proofs.YtolgdibgnndoaaaGreat
end
