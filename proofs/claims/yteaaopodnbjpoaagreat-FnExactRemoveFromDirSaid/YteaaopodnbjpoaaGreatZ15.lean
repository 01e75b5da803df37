/- Joined texts. -/
import Derived.Test.YteaaopodnbjpoaaGreatZ14
import Derived.Test.YteaaopodnbjpoaaGreatZ06
import Derived.Test.YteaaopodnbjpoaaGreatZ12
import Derived.Test.YteaaopodnbjpoaaGreatZ13
set_option linter.all false
section
set_option maxRecDepth 100000
set_option maxHeartbeats 4000000
namespace Go.Proofs.YteaaopodnbjpoaaGreat
open Go Go.Sx Go.RowKit Go.Proofs
theorem a8b (A B : List Nat) (k : Nat) (hA : k < A.length) (hB : k < B.length) (h : A.take k = B.take k) (e : A[k] = B[k]) : A.take (k + 1) = B.take (k + 1) := by
 rw [List.take_succ_eq_append_getElem hA, List.take_succ_eq_append_getElem hB, h, e]
theorem b2F (A B : List Nat) (hA : A.length ≤ 4300000) (hB : B.length ≤ 4300000) : FnC Tryz.prog 152 [.o (.d (.sl (A.map uG))), .o (.d (.sl (B.map uG)))] (ob (decide (A = B))) := by
 refine ent Tryz.func152 rfl Tryz.call152 rfl (fun C => ?_); simp only [go_sem, st0, Tryz.ntmps152]
 by_cases hl : A.length = B.length
 ·have hli : ((A.length : Nat) : Int) = ((B.length : Nat) : Int) := by omega
  have q0 := @hli; have q1 := @decide_true; refine fI ?_
  refine aM (α := Nat) (fun k => [(5, oi k)]) (fun _ => []) (fun k => k ≤ A.length ∧ A.take k = B.take k) (fun k => A.length - k) 0 (fun _ => ?_) ?_ ?_ (fun k hk => ?_)
  ·simp only [go_sem]
  ·simp only [go_sem]; simp
  ·simp
  ·obtain ⟨hk, hq⟩ := hk
   simp only [go_sem]
   refine aD ?_
   refine cnd rfl (fun h => ?_) (fun h => ?_)
   ·simp only [decide_eq_true_eq, Int.ofNat_lt] at h
    have h2 : k < B.length := by omega
    by_cases he : A[k] = B[k]
    ·have hei : ((A[k] : Nat) : Int) = ((B[k] : Nat) : Int) := by omega
     have q0 := @h; have q1 := @h2; have q2 := @hei; have q3 := @decide_true; refine kC ?_
     refine aC (k + 1) ?_ ?_ ?_
     ·simp only [go_sem]; simp
     ·exact ⟨by omega, a8b A B k h h2 hq he⟩
     ·omega
    ·have hei : ¬ ((A[k] : Nat) : Int) = ((B[k] : Nat) : Int) := by omega
     have hne : decide (A = B) = false := decide_eq_false fun e => he (by subst e; rfl)
     have q0 := @h; have q1 := @h2; have q2 := @hei; have q3 := @decide_false; refine kC ?_
     exact aA ⟨⟨_, rfl, by simp only [go_sem, hne]⟩, trivial⟩
   ·simp only [decide_eq_false_iff_not] at h
    have e : k = A.length := by omega
    subst e
    rw [List.take_length, hl, List.take_length] at hq
    have hy : decide (A = B) = true := decide_eq_true hq
    refine aD ?_
    exact aA ⟨⟨_, rfl, by simp only [go_sem, hy]⟩, trivial⟩
 ·have hli : ¬ ((A.length : Nat) : Int) = ((B.length : Nat) : Int) := by omega
  have hne : decide (A = B) = false := decide_eq_false fun e => hl (by rw [e])
  have q0 := @hli; have q1 := @decide_false; refine fI ?_
  exact aA ⟨⟨_, rfl, by simp only [go_sem, hne]⟩, trivial⟩
theorem iM (d : List TDir) (hd : aY d ≤ 4300000) : FnC Tryz.prog 215 [.o (.d (.sl (d.map aS)))] (.t [(false, [.d (.sl ((resL d).map uG))]), (false, [.d (bv (sO d))])]) := by
 have hd0 : d.length + wsum wDir d ≤ 4300000 := hd
 refine ent Tryz.func215 rfl Tryz.call215 rfl (fun C => ?_); simp only [go_sem, st0, Tryz.ntmps215]
 cases hv : dR d
 ·have e1 : resL d = [] := by simp [resL, hv]
  have e2 : sO d = false := by simp [sO, hv]
  have q0 := @hv; refine eZ (a1l d hd) ?_
  refine aK (Sees.frz 0 rfl) ?_
  simp only [go_sem]
  exact aA ⟨⟨_, rfl, by simp only [go_sem, e1, e2, List.map_nil]⟩, by simp [aU]⟩
 have e1 : resL d = b1G d.length (EE d) := by simp [resL, hv]
 have e2 : sO d = a2Z d.length (EE d) := by simp [sO, hv]
 have hl5 := jK hv
 have hsq : d.length * d.length ≤ 25 := Nat.mul_le_mul hl5 hl5
 have hmul : ((d.length : Nat) : Int) * ((d.length : Nat) : Int) = ((d.length * d.length : Nat) : Int) := by rw [Int.natCast_mul]
 have hends := a7c (yM d) (gV d) (fun x => Iff.rfl) (d.length * d.length + 2) (by omega)
 have hEl := a5f d hv d.length
 have hEok : ∀ x ∈ gV d, x.1 < (List.replicate d.length 0).length ∧ x.2.2 ≤ 1 := fun x hx => by rw [List.length_replicate]; exact a6X d d.length x hx
 have hEl2 : (gV d).length ≤ 90 := by have : gV d = kI d d.length := rfl; rw [this]; omega
 have hbd := a5q (gV d) (List.replicate d.length 0) hEok (fun j => a8h _ j)
 have hlen : ∀ r, (upsN (gV d) r (List.replicate d.length 0)).length = d.length := fun r => by rw [a5p]; simp
 generalize hN2 : d.length * d.length = N2 at *
 have hB : ∀ r, r ≤ N2 + 2 → ∀ j, lv (upsN (gV d) r (List.replicate d.length 0)) j ≤ 1000000 := fun r hr j => by
  have h1 := hbd r j
  have h2 : r * (gV d).length ≤ 27 * 90 := Nat.mul_le_mul (by omega) hEl2
  omega
 have q0 := @hv; refine eZ (a1l d hd) ?_
 refine aM (α := Nat) (fun r => [(4, .o (.s 0)), (12, .o .u), (5, oi r)]) (fun r => [(0, .row 3 1 ((upsN (gV d) r (List.replicate d.length 0)).map uG) true)]) (fun r => r ≤ N2 + 2) (fun r => N2 + 2 - r) 0 (fun _ => ?_) ?_ ?_ (fun r hr => ?_)
 ·simp only [go_sem]
 ·simp only [go_sem]; simp [upsN, uG]
 ·simp
 ·simp only [go_sem]
  have q0 := @hmul; refine fD ?_
  refine cnd rfl (fun h => ?_) (fun h => ?_)
  ·simp only [decide_eq_true_eq] at h
   refine fK (a5g d (upsN (gV d) r (List.replicate d.length 0)) hv hd (hlen r) (hB r hr)) ?_
   refine a3B [(0, 1)] (r + 1) (by simp only [go_sem]; rfl) ?_ ?_ ?_
   ·simp only [go_sem, upsN]; simp
   ·omega
   ·omega
  ·simp only [decide_eq_false_iff_not] at h
   have e : r = N2 + 2 := by omega
   subst e
   have hLl := hlen (N2 + 2)
   have hLB := hB (N2 + 2) (by omega)
   simp only at hends
   generalize upsN (gV d) (N2 + 2) (List.replicate d.length 0) = L at *
   have hUl : (ups (gV d) L).length = d.length := by rw [zP]; exact hLl
   by_cases hs : ups (gV d) L = L
   ·rw [if_pos hs] at hends
    have f1 := a8f hends
    have f2 := a2t hends.clo
    have hy : decide (ups (gV d) L = L) = true := decide_eq_true hs
    have q0 := @hy; refine a4n (a5g d L hv hd hLl hLB) (b2F (ups (gV d) L) L (by omega) (by omega)) ?_
    exact aA ⟨⟨_, rfl, by simp only [go_sem, e1, e2, f1, f2]⟩, by simp [aU]⟩
   ·rw [if_neg hs] at hends
    have f1 := a8g hends
    have f2 := b0d hends
    have hy : decide (ups (gV d) L = L) = false := decide_eq_false hs
    have q0 := @hy; refine a4n (a5g d L hv hd hLl hLB) (b2F (ups (gV d) L) L (by omega) (by omega)) ?_
    refine aK (Sees.frz 2 rfl) ?_
    simp only [go_sem]
    exact aA ⟨⟨_, rfl, by simp only [go_sem, e1, e2, f1, f2, List.map_nil]⟩, by simp [aU]⟩
end Go.Proofs.YteaaopodnbjpoaaGreat
end
section
set_option maxRecDepth 100000
set_option maxHeartbeats 4000000
namespace Go.Proofs.YteaaopodnbjpoaaGreat
theorem b5S (q : List TNode) (x : Int) (i j : Nat) (hi : i < q.length) (hj : j < q.length) (hne : i ≠ j) : vW q[i] x + vW q[j] x ≤ refs q x := by
 induction q generalizing i j with
 | nil => simp at hi
 | cons n q ih =>
  have one : ∀ (q : List TNode) (m : Nat) (h : m < q.length), vW q[m] x ≤ refs q x := by
   intro q
   induction q with
   | nil => intro m h; simp at h
   | cons n q ih =>
    intro m h
    cases m with
    | zero => simp only [List.getElem_cons_zero, refs]; omega
    | succ m => have := ih m (by simpa using h); simp only [List.getElem_cons_succ, refs]; omega
  cases i with
  | zero =>
   cases j with
   | zero => exact (hne rfl).elim
   | succ j => have := one q j (by simpa using hj); simp only [List.getElem_cons_zero, List.getElem_cons_succ, refs]; omega
  | succ i =>
   cases j with
   | zero => have := one q i (by simpa using hi); simp only [List.getElem_cons_zero, List.getElem_cons_succ, refs]; omega
   | succ j =>
    have := ih i j (by simpa using hi) (by simpa using hj) (by omega)
    simp only [List.getElem_cons_succ, refs]; omega
theorem b5T {q : List TNode} (h : okQ q = true) (l : Nat) (hl : l + 1 < q.length) : refs q l = 1 := by
 unfold okQ at h
 simp only [Bool.and_eq_true, List.all_eq_true, List.mem_range] at h
 have := h.1 l (by omega)
 unfold a4x at this
 rw [List.getElem?_eq_getElem (by omega)] at this
 simp only [Bool.and_eq_true, Bool.or_eq_true, decide_eq_true_eq] at this
 rcases this.2 with h | h
 ·omega
 ·exact h
def nb (L : List Bool) (i : Nat) : Bool := L.getD i false
theorem a0B (L : List Bool) (l : Nat) (v : Bool) (x : Nat) (h : l < L.length) : nb (L.set l v) x = if x = l then v else nb L x := by
 unfold nb
 simp only [List.getD_eq_getElem?_getD, List.getElem?_set]
 by_cases e : l = x
 ·subst e; simp [h]
 ·rw [if_neg e, if_neg (fun e' => e e'.symm)]
theorem a6j {q : List TNode} (hq : okQ q = true) {i : Nat} (hi : i < q.length) {L : List Bool} (hL : L.length = q.length) {x : Nat} (hx : vW q[i] x = 0) : nb (kV q i L) x = nb L x := by
 have hok := sJ hq (List.getElem?_eq_getElem hi)
 by_cases h5 : q[i].fOp = 5
 ·obtain ⟨l, hl, hli⟩ := dG hok (.inl h5)
  rw [a1I hi L h5 hl, a0B _ _ _ _ (by omega)]
  split
  ·rename_i e; subst e; simp [vW, two, h5, hl] at hx
  ·rfl
 by_cases h67 : q[i].fOp = 6 ∨ q[i].fOp = 7
 ·obtain ⟨l, hl, hli⟩ := dG hok (.inr h67)
  obtain ⟨m, hm, hmi⟩ := fE hok h67
  have ht : two q[i] = true := by unfold two; rcases h67 with h | h <;> simp [h]
  rw [zO hi L (by omega) h5 h67 hl hm, a0B _ _ _ _ (by simp; omega), a0B _ _ _ _ (by omega)]
  split
  ·rename_i e; subst e; simp [vW, ht, hm] at hx
  ·split
   ·rename_i e; subst e; simp [vW, ht, hl] at hx
   ·rfl
 ·rw [a2r hi L h5 h67]
def a8i (q : List TNode) (m : Nat) : List Bool := negJ q (q.length - m)
theorem a5r (q : List TNode) (m : Nat) : (a8i q m).length = q.length := a1H q _
theorem a7e (q : List TNode) (i : Nat) (h : i < q.length) : a8i q i = kV q i (a8i q (i + 1)) := a2q q i h
theorem b7r {q : List TNode} (hq : okQ q = true) {i : Nat} (hi : i < q.length) {x : Nat} (hx : i ≤ x) : vW q[i] x = 0 := by
 have hok := sJ hq (List.getElem?_eq_getElem hi)
 unfold vW
 have a : (if (two q[i] || decide (q[i].fOp = 5)) && decide (q[i].fLeft = (x : Int)) then 1 else 0) = 0 := by
  split
  ·rename_i h
   simp only [Bool.and_eq_true, Bool.or_eq_true, decide_eq_true_eq] at h
   obtain ⟨l, hl, hli⟩ := dG hok (by unfold two at h; simp only [Bool.or_eq_true, decide_eq_true_eq] at h; omega)
   omega
  ·rfl
 have b : (if two q[i] && decide (q[i].fRight = (x : Int)) then 1 else 0) = 0 := by
  split
  ·rename_i h
   simp only [Bool.and_eq_true, decide_eq_true_eq] at h
   obtain ⟨l, hl, hli⟩ := fE hok (by unfold two at h; simp only [Bool.or_eq_true, decide_eq_true_eq] at h; omega)
   omega
  ·rfl
 omega
theorem a2w {q : List TNode} (hq : okQ q = true) {x : Nat} : ∀ (k m : Nat), m + k ≤ q.length → (∀ j, (hj : j < q.length) → m ≤ j → j < m + k → vW q[j] x = 0) → nb (a8i q m) x = nb (a8i q (m + k)) x
 | 0, m, _, _ => rfl
 | k + 1, m, h, hr => by
  have hm : m < q.length := by omega
  rw [a7e q m hm, a6j hq hm (a5r q (m + 1)) (hr m hm (by omega) (by omega)), a2w hq k (m + 1) (by omega) (fun j hj h1 h2 => hr j hj (by omega) (by omega))]
  congr 2; omega
theorem b2P {q : List TNode} (hq : okQ q = true) (x : Nat) (hx : x < q.length) : nb (mV q) x = nb (a8i q (x + 1)) x := by
 have := a2w hq (x := x) (x + 1) 0 (by omega) (fun j hj _ h2 => b7r hq hj (by omega))
 simpa [a8i, mV] using this
theorem a0C {q : List TNode} (hq : okQ q = true) {i l : Nat} (hi : i < q.length) (hl : l < i) (hr : 1 ≤ vW q[i] l) : nb (mV q) l = nb (kV q i (a8i q (i + 1))) l := by
 rw [b2P hq l (by omega), ← a7e q i hi]
 have h1 := b5T hq l (by omega)
 have := a2w hq (x := l) (i - (l + 1)) (l + 1) (by omega) (fun j hj h1' h2 => by
  have := b5S q l i j hi hj (by omega)
  omega)
 rw [this]
 congr 2; omega
theorem b5U {q : List TNode} (hq : okQ q = true) {i l : Nat} (hi : i < q.length) (h5 : q[i].fOp = 5) (hl : q[i].fLeft = (l : Int)) (hli : l < i) : nb (mV q) l = true := by
 rw [a0C hq hi hli (by simp [vW, h5, hl]), a1I hi _ h5 hl, a0B _ _ _ _ (by rw [a5r]; omega), if_pos rfl]
theorem b5V {q : List TNode} (hq : okQ q = true) {i l m : Nat} (hi : i < q.length) (h67 : q[i].fOp = 6 ∨ q[i].fOp = 7) (hl : q[i].fLeft = (l : Int)) (hm : q[i].fRight = (m : Int)) (hli : l < i) (hmi : m < i) : nb (mV q) l = nb (mV q) i ∧ nb (mV q) m = nb (mV q) i := by
 have ht : two q[i] = true := by unfold two; rcases h67 with h | h <;> simp [h]
 have h5 : ¬ q[i].fOp = 5 := by omega
 have hL := a5r q (i + 1)
 have e := b2P hq i hi
 have g : (a8i q (i + 1))[i]'(by omega) = nb (mV q) i := by
  rw [e]; simp [nb, List.getD_eq_getElem?_getD, hL, hi]
 rw [a0C hq hi hli (by simp [vW, ht, hl]), a0C hq hi hmi (by simp [vW, ht, hm]), zO hi _ (by omega) h5 h67 hl hm]
 rw [a0B _ m _ l (by rw [List.length_set]; omega), a0B _ l _ l (by omega), a0B _ m _ m (by rw [List.length_set]; omega), g]
 simp
theorem b2Q {q : List TNode} (hq : okQ q = true) {f : TFile} {r r' : List TResult}
    (hP : ∀ i, (hi : i < q.length) → (q[i].fOp = 8 ∨ q[i].fOp = 9) → nb (mV q) i = false → ∀ x, hasI (aR q[i].fName r) x = true → hasI (aR q[i].fName r') x = true)
    (hN : ∀ i, (hi : i < q.length) → (q[i].fOp = 8 ∨ q[i].fOp = 9) → nb (mV q) i = true → ∀ x, hasI (aR q[i].fName r) x = hasI (aR q[i].fName r') x) :
    ∀ (k i : Nat), i < k → i < q.length → (nb (mV q) i = true → mt q f r k i = mt q f r' k i) ∧ (nb (mV q) i = false → mt q f r k i = true → mt q f r' k i = true)
 | 0, i, h, _ => by omega
 | k + 1, i, h, hi => by
  have hn := List.getElem?_eq_getElem hi
  have hok := sJ hq hn
  have ih := b2Q hq (f := f) hP hN k
  by_cases h1 : q[i].fOp = 1
  ·simp [mt, hn, h1]
  by_cases h2 : q[i].fOp = 2
  ·simp [mt, hn, h2]
  by_cases h3 : q[i].fOp = 3
  ·simp [mt, hn, h3]
  by_cases h4 : q[i].fOp = 4
  ·simp [mt, hn, h4]
  by_cases h5 : q[i].fOp = 5
  ·obtain ⟨l, hl, hli⟩ := dG hok (.inl h5)
   have := (ih l (by omega) (by omega)).1 (b5U hq hi h5 hl hli)
   have e : mt q f r (k + 1) i = mt q f r' (k + 1) i := by simp [mt, hn, h5, hl, this]
   exact ⟨fun _ => e, fun _ h => by rw [← e]; exact h⟩
  by_cases h67 : q[i].fOp = 6 ∨ q[i].fOp = 7
  ·obtain ⟨l, hl, hli⟩ := dG hok (.inr h67)
   obtain ⟨m, hm, hmi⟩ := fE hok h67
   obtain ⟨n1, n2⟩ := b5V hq hi h67 hl hm hli hmi
   have a := ih l (by omega) (by omega)
   have b := ih m (by omega) (by omega)
   rw [n1] at a
   rw [n2] at b
   refine ⟨fun hx => ?_, fun hx hm2 => ?_⟩
   ·have a1 := a.1 hx
    have b1 := b.1 hx
    rcases h67 with h6 | h7
    ·simp [mt, hn, h6, hl, hm, a1, b1]
    ·simp [mt, hn, h7, hl, hm, a1, b1]
   ·have a1 := a.2 hx
    have b1 := b.2 hx
    rcases h67 with h6 | h7
    ·simp [mt, hn, h6, hl, hm] at hm2 ⊢
     exact ⟨a1 hm2.1, b1 hm2.2⟩
    ·simp [mt, hn, h7, hl, hm] at hm2 ⊢
     exact hm2.imp a1 b1
  have h6 : ¬ q[i].fOp = 6 := fun h => h67 (.inl h)
  have h7 : ¬ q[i].fOp = 7 := fun h => h67 (.inr h)
  have hop := nJ hok
  have h89 : q[i].fOp = 8 ∨ q[i].fOp = 9 := by omega
  refine ⟨fun hx => ?_, fun hx hm2 => ?_⟩
  ·have e := hN i hi h89 hx
   rcases h89 with h8 | h9
   ·simp [mt, hn, h8, e]
   ·simp [mt, hn, h9, e]
  ·have e := hP i hi h89 hx
   rcases h89 with h8 | h9
   ·simp [mt, hn, h8] at hm2 ⊢
    exact e _ hm2
   ·simp [mt, hn, h9] at hm2 ⊢
    exact ⟨hm2.1, e _ hm2.2⟩
def pr (q : List TNode) (R : List TResult) (f : TFile) : Bool := okQ q && mt q f R q.length (q.length - 1)
def gU (l : List TFile) : List Int := l.map TFile.fID
def lK (fs : List TFile) (q : List TNode) (R : List TResult) : List Int := gU (fs.filter (pr q R))
theorem a1K (fs : List TFile) (q : List TNode) (R : List TResult) : (lK fs q R).length ≤ fs.length := by
 unfold lK gU; rw [List.length_map]; exact List.length_filter_le _ _
theorem a1L (nm : ByteArray) : ∀ (d : List TDir) (R : List TResult) (k : Nat), R.map TResult.fName = d.map TDir.fName → aR nm R = (if 0 ≤ dI (fun x : TDir => decide (x.fName = nm)) d k then (R.getD (dI (fun x : TDir => decide (x.fName = nm)) d k - k).toNat ⟨⟨#[]⟩, []⟩).fIDs else [])
 | [], [], k, _ => by simp [aR, dI]
 | [], _ :: _, _, h => by simp at h
 | _ :: _, [], _, h => by simp at h
 | x :: d, y :: R, k, h => by
  simp only [List.map_cons, List.cons.injEq] at h
  have ih := a1L nm d R (k + 1) h.2
  by_cases hx : x.fName = nm
  ·simp [aR, dI, h.1, hx]
  ·have e0 : dI (fun x : TDir => decide (x.fName = nm)) (x :: d) k = dI (fun x : TDir => decide (x.fName = nm)) d (k + 1) := by simp [dI, hx]
   have e1 : aR nm (y :: R) = aR nm R := by simp [aR, h.1, hx]
   rw [e0, e1, ih]
   have hge : dI (fun x : TDir => decide (x.fName = nm)) d (k + 1) < 0 ∨ ((k + 1 : Nat) : Int) ≤ dI (fun x : TDir => decide (x.fName = nm)) d (k + 1) := by
    rcases idxP_fst (fun x : TDir => decide (x.fName = nm)) d (k + 1) with ⟨h, _, _⟩ | ⟨h, _⟩ <;> omega
   by_cases h0 : 0 ≤ dI (fun x : TDir => decide (x.fName = nm)) d (k + 1)
   ·rw [if_pos h0, if_pos h0]
    have e : (dI (fun x : TDir => decide (x.fName = nm)) d (k + 1) - (k : Int)).toNat = (dI (fun x : TDir => decide (x.fName = nm)) d (k + 1) - ((k + 1 : Nat) : Int)).toNat + 1 := by omega
    rw [e, List.getD_cons_succ]
   ·rw [if_neg h0, if_neg h0]
def eX (R : List TResult) (p : Nat) : List Int := (R.getD p ⟨⟨#[]⟩, []⟩).fIDs
theorem resIDs_at {d : List TDir} {R : List TResult} (h : R.map TResult.fName = d.map TDir.fName) (nm : ByteArray) : (placeD d nm = -1 ∧ aR nm R = []) ∨ ∃ p : Nat, placeD d nm = (p : Int) ∧ p < d.length ∧ aR nm R = eX R p := by
 have := a1L nm d R 0 h
 rcases placeD_cases d nm with hp | ⟨p, hp, hl⟩
 ·left
  refine ⟨hp, ?_⟩
  unfold placeD at hp
  rw [this, hp]; simp
 ·right
  refine ⟨p, hp, hl, ?_⟩
  unfold placeD at hp
  rw [this, hp]
  rw [if_pos (by omega)]
  simp [eX]
theorem uM (R : List TResult) (i j : Nat) (x : TResult) (h : i < R.length) : eX (R.set i x) j = if j = i then x.fIDs else eX R j := by
 unfold eX
 simp only [List.getD_eq_getElem?_getD, List.getElem?_set]
 by_cases e : i = j
 ·subst e; simp [h]
 ·rw [if_neg e, if_neg (fun e' => e e'.symm)]
theorem a7d (R : List TResult) (i : Nat) (x : TResult) (d : List TDir) (h : R.map TResult.fName = d.map TDir.fName) (hi : i < d.length) (hx : x.fName = d[i].fName) : (R.set i x).map TResult.fName = d.map TDir.fName := by
 rw [List.map_set, h, hx]
 apply List.ext_getElem?
 intro j
 rw [List.getElem?_set]
 split
 ·rename_i e; subst e; simp [hi]
 ·rfl
theorem b0g {q : List TNode} {i : Nat} (hi : i < q.length) (h89 : q[i].fOp = 8 ∨ q[i].fOp = 9) (b : Bool) (hb : nb (mV q) i = b) : q[i].fName ∈ dM q b := by
 have hn : i < (mV q).length := by rw [a5k]; exact hi
 have hg : (mV q)[i] = b := by rw [← hb]; simp [nb, List.getD_eq_getElem?_getD, hn]
 have hd : jL q[i] = true := by unfold jL inB; rcases h89 with h | h <;> simp [h]
 unfold dM oP
 refine List.mem_flatMap.2 ⟨i, List.mem_range.2 hi, ?_⟩
 unfold sel
 rw [List.getElem?_eq_getElem hi, List.getElem?_eq_getElem hn]
 simp [hd, hg]
theorem b2N (x : Int) (l : List TFile) : hasI (gU l) x = true ↔ ∃ f ∈ l, f.fID = x := by
 unfold hasI gU
 rw [List.any_eq_true]
 constructor
 ·rintro ⟨y, hy, h⟩
  obtain ⟨f, hf, rfl⟩ := List.mem_map.1 hy
  exact ⟨f, hf, of_decide_eq_true h⟩
 ·rintro ⟨f, hf, rfl⟩
  exact ⟨_, List.mem_map.2 ⟨f, hf, rfl⟩, by simp⟩
structure Ev (fs : List TFile) (d : List TDir) (L : List Nat) (ns : List ByteArray) (c : Nat) (k : Nat) (R : List TResult) : Prop where
 nm : R.map TResult.fName = d.map TDir.fName
 cur : ∀ i, (hi : i < d.length) → hasS ns d[i].fName = true → lv L i = k → ∃ p : TFile → Bool, eX R i = gU (fs.filter p) ∧ ∀ f, p f = true → pr d[i].fQuery R f = true
 top : ∀ i, (hi : i < d.length) → hasS ns d[i].fName = true → k < lv L i → eX R i = []
 bd : ∀ i, (eX R i).length ≤ c
 cap : fs.length ≤ c
theorem Ev.len {fs : List TFile} {d : List TDir} {L : List Nat} {ns : List ByteArray} {c k : Nat} {R : List TResult} (h : Ev fs d L ns c k R) : R.length = d.length := by
 have := congrArg List.length h.nm
 simpa using this
def yO (fs : List TFile) (d : List TDir) (i : Nat) (R : List TResult) (x : TDir) : List TResult := R.set i ⟨x.fName, lK fs x.fQuery R⟩
theorem b2O {fs : List TFile} {d : List TDir} {L : List Nat} {ns : List ByteArray} {c k : Nat} {R : List TResult} (h : Ev fs d L ns c k R) (hv : ∀ i, (hi : i < d.length) → okQ d[i].fQuery = true) (hc : Clo d.length (EE d) L) {i j : Nat} (hi : i < d.length) (hin : hasS ns d[i].fName = true) (hik : lv L i = k) (hj : j < d.length) (hjk : lv L j = k) (f : TFile) (hp : pr d[j].fQuery R f = true) : pr d[j].fQuery (yO fs d i R d[i]) f = true := by
 have hq := hv j hj
 have hlen := h.len
 have hl9 := iE hq
 have hnm2 := a7d R i ⟨d[i].fName, lK fs d[i].fQuery R⟩ d h.nm hi rfl
 have grow : ∀ x, hasI (eX R i) x = true → hasI (lK fs d[i].fQuery R) x = true := fun x hx => by
  obtain ⟨p, e, hpp⟩ := h.cur i hi hin hik
  rw [e, b2N] at hx
  obtain ⟨g, hg, rfl⟩ := hx
  rw [List.mem_filter] at hg
  unfold lK
  rw [b2N]
  exact ⟨g, List.mem_filter.2 ⟨hg.1, hpp g hg.2⟩, rfl⟩
 unfold pr at hp ⊢
 rw [hq, Bool.true_and] at hp ⊢
 have key := b2Q hq (f := f) (r := R) (r' := yO fs d i R d[i]) (fun m hm h89 hb x hx => by
  have hmem := b0g hm h89 false hb
  rcases resIDs_at h.nm d[j].fQuery[m].fName with ⟨_, e⟩ | ⟨p, hp1, hp2, e⟩
  ·rw [e] at hx; simp [hasI] at hx
  ·rcases resIDs_at hnm2 d[j].fQuery[m].fName with ⟨e3, _⟩ | ⟨p', hp1', _, e'⟩
   ·omega
   ·have : p' = p := by omega
    subst this
    show hasI (aR _ (R.set i _)) x = true
    rw [e', uM R i p' _ (by omega)]
    rw [e] at hx
    split
    ·rename_i e4; subst e4; exact grow x hx
    ·exact hx) (fun m hm h89 hb x => by
  have hmem := b0g hm h89 true hb
  rcases resIDs_at h.nm d[j].fQuery[m].fName with ⟨e1, e⟩ | ⟨p, hp1, hp2, e⟩
  ·rcases resIDs_at hnm2 d[j].fQuery[m].fName with ⟨_, e'⟩ | ⟨p', hp1', _, _⟩
   ·show _ = hasI (aR _ (R.set i _)) x
    rw [e, e']
   ·omega
  ·rcases resIDs_at hnm2 d[j].fQuery[m].fName with ⟨e3, _⟩ | ⟨p', hp1', _, e'⟩
   ·omega
   ·have : p' = p := by omega
    subst this
    have hee := hc.le j p' 1 ((a5i d j p' 1).2 ⟨d[j], List.getElem?_eq_getElem hj, .inr ⟨rfl, _, hmem, hp1⟩⟩)
    have hne : p' ≠ i := fun e => by subst e; omega
    show _ = hasI (aR _ (R.set i _)) x
    rw [e, e', uM R i p' _ (by omega), if_neg hne]) d[j].fQuery.length (d[j].fQuery.length - 1) (by omega) (by omega)
 cases hb : nb (mV d[j].fQuery) (d[j].fQuery.length - 1) with
 | true => rw [← key.1 hb]; exact hp
 | false => exact key.2 hb hp
theorem Ev.step {fs : List TFile} {d : List TDir} {L : List Nat} {ns : List ByteArray} {c k : Nat} {R : List TResult} (h : Ev fs d L ns c k R) (hv : ∀ i, (hi : i < d.length) → okQ d[i].fQuery = true) (hc : Clo d.length (EE d) L) {i : Nat} (hi : i < d.length) (hin : hasS ns d[i].fName = true) (hik : lv L i = k) : Ev fs d L ns c k (yO fs d i R d[i]) := by
 have hlen := h.len
 refine ⟨a7d R i _ d h.nm hi rfl, fun j hj hjn hjk => ?_, fun j hj hjn hjk => ?_, fun j => ?_, h.cap⟩
 ·unfold yO
  rw [uM R i j _ (by omega)]
  split
  ·rename_i e; subst e
   exact ⟨pr d[j].fQuery R, rfl, fun f hf => b2O h hv hc hi hin hik hj hjk f hf⟩
  ·obtain ⟨p, e, hp⟩ := h.cur j hj hjn hjk
   exact ⟨p, e, fun f hf => b2O h hv hc hi hin hik hj hjk f (hp f hf)⟩
 ·unfold yO
  rw [uM R i j _ (by omega), if_neg (fun e => by subst e; omega)]
  exact h.top j hj hjn hjk
 ·unfold yO
  rw [uM R i j _ (by omega)]
  split
  ·exact Nat.le_trans (a1K fs _ _) h.cap
  ·exact h.bd j
theorem filter_same {α : Type} (p q : α → Bool) (l : List α) (h : ∀ x ∈ l, p x = true → q x = true) : l.filter p = l.filter q ∨ (l.filter p).length < (l.filter q).length := by
 have le : ∀ l : List α, (∀ x ∈ l, p x = true → q x = true) → (l.filter p).length ≤ (l.filter q).length := by
  intro l
  induction l with
  | nil => intro _; simp
  | cons x l ih =>
   intro h
   have := ih fun y hy => h y (List.mem_cons_of_mem _ hy)
   simp only [List.filter_cons]
   cases hp : p x
   ·cases hq : q x <;> simp <;> omega
   ·rw [h x (by simp) hp]; simpa using this
 induction l with
 | nil => exact .inl rfl
 | cons x l ih =>
  have hl := fun y hy => h y (List.mem_cons_of_mem x hy)
  simp only [List.filter_cons]
  cases hp : p x
  ·cases hq : q x
   ·simpa using ih hl
   ·have := le l hl
    right; simp; omega
  ·rw [h x (by simp) hp]
   rcases ih hl with e | e
   ·left; simp [e]
   ·right; simpa using e
def jC : List TResult → Nat
 | [] => 0
 | x :: l => x.fIDs.length + jC l
theorem b5R (R : List TResult) (i : Nat) (x : TResult) (h : i < R.length) : jC (R.set i x) + (eX R i).length = jC R + x.fIDs.length := by
 induction R generalizing i with
 | nil => simp at h
 | cons y l ih =>
  cases i with
  | zero => simp [jC, eX]; omega
  | succ i =>
   have := ih i (by simpa using h)
   simp only [List.set_cons_succ, jC, eX, List.getD_cons_succ] at this ⊢
   omega
theorem b7q (R : List TResult) (c : Nat) (h : ∀ i, (eX R i).length ≤ c) : jC R ≤ R.length * c := by
 induction R with
 | nil => simp [jC]
 | cons x l ih =>
  have h0 := h 0
  have h1 := ih fun i => by simpa [eX] using h (i + 1)
  simp only [eX, List.getD_cons_zero] at h0
  simp only [jC, List.length_cons, Nat.succ_mul]
  omega
theorem Ev.grow {fs : List TFile} {d : List TDir} {L : List Nat} {ns : List ByteArray} {c k : Nat} {R : List TResult} (h : Ev fs d L ns c k R) {i : Nat} (hi : i < d.length) (hin : hasS ns d[i].fName = true) (hik : lv L i = k) (hne : lK fs d[i].fQuery R ≠ eX R i) : jC R < jC (yO fs d i R d[i]) := by
 obtain ⟨p, e, hp⟩ := h.cur i hi hin hik
 have hlen := h.len
 have hs := b5R R i ⟨d[i].fName, lK fs d[i].fQuery R⟩ (by omega)
 rcases filter_same p (pr d[i].fQuery R) fs (fun f _ hf => hp f hf) with e2 | e2
 ·exact (hne (by rw [e]; unfold lK; rw [e2])).elim
 ·have h1 : (eX R i).length < (lK fs d[i].fQuery R).length := by
   rw [e]; unfold lK gU; simpa using e2
  unfold yO
  simp only at hs
  omega
theorem Ev.tot {fs : List TFile} {d : List TDir} {L : List Nat} {ns : List ByteArray} {c k : Nat} {R : List TResult} (h : Ev fs d L ns c k R) : jC R ≤ d.length * c := by
 have := b7q R c h.bd
 rwa [h.len] at this
theorem Ev.next {fs : List TFile} {d : List TDir} {L : List Nat} {ns : List ByteArray} {c k : Nat} {R : List TResult} (h : Ev fs d L ns c k R) : Ev fs d L ns c (k + 1) R :=
 ⟨h.nm, fun i hi hn hk => ⟨fun _ => false, by rw [h.top i hi hn (by omega)]; simp [gU], fun f hf => by cases hf⟩, fun i hi hn hk => h.top i hi hn (by omega), h.bd, h.cap⟩
def passT (fs : List TFile) (d : List TDir) (L : List Nat) (ns : List ByteArray) (k : Nat) : Nat → List TResult → List TResult
 | 0, R => R
 | m + 1, R => match d[m]? with
  | none => passT fs d L ns k m R
  | some x => if lv L m = k ∧ hasS ns x.fName = true then yO fs d m (passT fs d L ns k m R) x else passT fs d L ns k m R
def a0f (fs : List TFile) (d : List TDir) (L : List Nat) (ns : List ByteArray) (k : Nat) : Nat → List TResult × Nat → List TResult × Nat
 | 0, x => x
 | F + 1, x => if jC x.1 < jC (passT fs d L ns k d.length x.1) then a0f fs d L ns k F (passT fs d L ns k d.length x.1, x.2 + 1) else (passT fs d L ns k d.length x.1, x.2 + 1)
def gB (ns : List ByteArray) (r : List TResult) (d : List TDir) : List TResult := d.map fun x => ⟨x.fName, if hasS ns x.fName then [] else aR x.fName r⟩
def allE (fs : List TFile) (d : List TDir) (L : List Nat) (ns : List ByteArray) (c : Nat) (r : List TResult) : Nat → List TResult × Nat
 | 0 => (gB ns r d, 0)
 | k + 1 => a0f fs d L ns k (d.length * c + 1) (allE fs d L ns c r k)
theorem zQ {fs : List TFile} {d : List TDir} {L : List Nat} {ns : List ByteArray} {c k : Nat} {R : List TResult} (h : Ev fs d L ns c k R) {i : Nat} (hi : i < d.length) (he : lK fs d[i].fQuery R = eX R i) : yO fs d i R d[i] = R := by
 have hlen := h.len
 have hnm : (R[i]'(by omega)).fName = d[i].fName := by
  have := congrArg (fun l : List ByteArray => l[i]?) h.nm
  simp only [List.getElem?_map] at this
  rw [List.getElem?_eq_getElem (by omega), List.getElem?_eq_getElem hi] at this
  simpa using this
 have hids : eX R i = (R[i]'(by omega)).fIDs := by
  have : i < R.length := by omega
  simp [eX, List.getD_eq_getElem?_getD, this]
 unfold yO
 rw [he, hids, ← hnm]
 exact List.set_getElem_self _
theorem qZ (fs : List TFile) (d : List TDir) (L : List Nat) (ns : List ByteArray) (k m : Nat) (R : List TResult) (h : m < d.length) : passT fs d L ns k (m + 1) R = if lv L m = k ∧ hasS ns d[m].fName = true then yO fs d m (passT fs d L ns k m R) d[m] else passT fs d L ns k m R := by
 rw [passT, List.getElem?_eq_getElem h]
theorem lJ {fs : List TFile} {d : List TDir} {L : List Nat} {ns : List ByteArray} {c k : Nat} (hv : ∀ i, (hi : i < d.length) → okQ d[i].fQuery = true) (hc : Clo d.length (EE d) L) : ∀ (m : Nat) (R : List TResult), m ≤ d.length → Ev fs d L ns c k R → Ev fs d L ns c k (passT fs d L ns k m R)
 | 0, R, _, h => h
 | m + 1, R, hm, h => by
  have ih := lJ hv hc m R (by omega) h
  rw [qZ fs d L ns k m R (by omega)]
  split
  ·rename_i e; exact ih.step hv hc (by omega) e.2 e.1
  ·exact ih
theorem newR_cases {fs : List TFile} {d : List TDir} {L : List Nat} {ns : List ByteArray} {c k : Nat} {R : List TResult} (h : Ev fs d L ns c k R) {i : Nat} (hi : i < d.length) (hin : hasS ns d[i].fName = true) (hik : lv L i = k) : yO fs d i R d[i] = R ∨ jC R < jC (yO fs d i R d[i]) := by
 by_cases he : lK fs d[i].fQuery R = eX R i
 ·exact .inl (zQ h hi he)
 ·exact .inr (h.grow hi hin hik he)
theorem kL {fs : List TFile} {d : List TDir} {L : List Nat} {ns : List ByteArray} {c k : Nat} (hv : ∀ i, (hi : i < d.length) → okQ d[i].fQuery = true) (hc : Clo d.length (EE d) L) : ∀ (m : Nat) (R : List TResult), m ≤ d.length → Ev fs d L ns c k R → passT fs d L ns k m R = R ∨ jC R < jC (passT fs d L ns k m R)
 | 0, R, _, _ => .inl rfl
 | m + 1, R, hm, h => by
  have ih := kL hv hc m R (by omega) h
  have he := lJ hv hc m R (by omega) h
  rw [qZ fs d L ns k m R (by omega)]
  split
  ·rename_i e
   rcases newR_cases he (by omega) e.2 e.1 with e2 | g
   ·rw [e2]; exact ih
   ·rcases ih with e3 | g3
    ·rw [e3] at g ⊢; exact .inr g
    ·exact .inr (by omega)
  ·exact ih
theorem a2v (ns : List ByteArray) (r : List TResult) (d : List TDir) (i : Nat) (hi : i < d.length) : eX (gB ns r d) i = if hasS ns d[i].fName then [] else aR d[i].fName r := by
 unfold eX gB
 simp only [List.getD_eq_getElem?_getD, List.getElem?_map, List.getElem?_eq_getElem hi]
 rfl
theorem b4b {fs : List TFile} (d : List TDir) (L : List Nat) (ns : List ByteArray) (r : List TResult) : Ev fs d L ns (fs.length + aG r) 0 (gB ns r d) := by
 refine ⟨by simp [gB], fun i hi hn _ => ⟨fun _ => false, by rw [a2v ns r d i hi, if_pos hn]; simp [gU], fun f hf => by cases hf⟩, fun i hi hn _ => by rw [a2v ns r d i hi, if_pos hn], fun i => ?_, by omega⟩
 by_cases hi : i < d.length
 ·rw [a2v ns r d i hi]
  split
  ·simp
  ·have := wI d[i].fName r; omega
 ·have e : eX (gB ns r d) i = [] := by
   unfold eX gB
   simp only [List.getD_eq_getElem?_getD, List.getElem?_map]
   rw [List.getElem?_eq_none (by omega)]; rfl
  rw [e]; simp
theorem b0f {fs : List TFile} {d : List TDir} {L : List Nat} {ns : List ByteArray} {c k : Nat} (hv : ∀ i, (hi : i < d.length) → okQ d[i].fQuery = true) (hc : Clo d.length (EE d) L) : ∀ (F : Nat) (x : List TResult × Nat), Ev fs d L ns c k x.1 → Ev fs d L ns c k (a0f fs d L ns k F x).1
 | 0, x, h => h
 | F + 1, x, h => by
  have hp := lJ hv hc d.length x.1 (Nat.le_refl _) h
  unfold a0f
  split
  ·exact b0f hv hc F _ hp
  ·exact hp
theorem wN {fs : List TFile} {d : List TDir} {L : List Nat} {ns : List ByteArray} {r : List TResult} (hv : ∀ i, (hi : i < d.length) → okQ d[i].fQuery = true) (hc : Clo d.length (EE d) L) : ∀ k, Ev fs d L ns (fs.length + aG r) k (allE fs d L ns (fs.length + aG r) r k).1
 | 0 => b4b d L ns r
 | k + 1 => (b0f hv hc _ _ (wN hv hc k)).next
structure Round (fs : List TFile) (d : List TDir) (L : List Nat) (ns : List ByteArray) (c : Nat) (k : Nat) (T : List TResult × Nat) (x : List TResult × Nat × Bool) : Prop where
 ev : Ev fs d L ns c k x.1
 run : x.2.2 = true → ∃ F, d.length * c + 1 ≤ F + jC x.1 ∧ T = a0f fs d L ns k F (x.1, x.2.1)
 fin : x.2.2 = false → T = (x.1, x.2.1)
theorem Round.start {fs : List TFile} {d : List TDir} {L : List Nat} {ns : List ByteArray} {c k : Nat} {R : List TResult} {n : Nat} (h : Ev fs d L ns c k R) : Round fs d L ns c k (a0f fs d L ns k (d.length * c + 1) (R, n)) (R, n, true) :=
 ⟨h, fun _ => ⟨_, by omega, rfl⟩, fun h => by cases h⟩
theorem Round.pass {fs : List TFile} {d : List TDir} {L : List Nat} {ns : List ByteArray} {c k : Nat} (hv : ∀ i, (hi : i < d.length) → okQ d[i].fQuery = true) (hc : Clo d.length (EE d) L) {T : List TResult × Nat} {R : List TResult} {n : Nat} (h : Round fs d L ns c k T (R, n, true)) : Round fs d L ns c k T (passT fs d L ns k d.length R, n + 1, decide (jC R < jC (passT fs d L ns k d.length R))) := by
 have hp := lJ hv hc d.length R (Nat.le_refl _) h.ev
 obtain ⟨F, hF, hT⟩ := h.run rfl
 have ht := h.ev.tot
 simp only at ht
 cases F with
 | zero => simp only at hF; omega
 | succ F =>
  unfold a0f at hT
  simp only at hT hF
  refine ⟨hp, fun hx => ?_, fun hx => ?_⟩
  ·simp only [decide_eq_true_eq] at hx
   rw [if_pos hx] at hT
   exact ⟨F, by simp only; omega, hT⟩
  ·simp only [decide_eq_false_iff_not] at hx
   rw [if_neg hx] at hT
   exact hT
end Go.Proofs.YteaaopodnbjpoaaGreat
end
section
set_option maxRecDepth 100000
set_option maxHeartbeats 4000000
namespace Go.Proofs.YteaaopodnbjpoaaGreat
open Go Go.Sx Go.RowKit Go.Proofs
def yL : List Nat → Int → Int
 | [], m => m
 | x :: l, m => yL l (if (x : Int) > m then (x : Int) else m)
def a1F (L : List Nat) : Int := yL L (-1)
theorem a2p (L : List Nat) (k : Nat) (m : Int) (h : k < L.length) : yL (L.drop k) m = yL (L.drop (k + 1)) (if (L[k] : Int) > m then (L[k] : Int) else m) := by
 rw [List.drop_eq_getElem_cons h, yL]
theorem a2T (q : List TNode) (f : TFile) (R : List TResult) (hq : bK q ≤ 4300000) (hf : wFile f ≤ 4300000) (hR : aG R ≤ 67108864) : FnC Tryz.prog 274 [.o (.d (.sl (q.map aT))), bC f, .o (.d (.sl (R.map aH)))] (ob (pr q R f)) := by
 refine ent Tryz.func274 rfl Tryz.call274 rfl (fun C => ?_); simp only [go_sem, st0, Tryz.ntmps274]
 cases hv : okQ q
 ·have q0 := @hv; refine eZ (bL q hq) ?_
  exact aA ⟨⟨_, rfl, by simp only [go_sem, pr, hv, Bool.false_and]⟩, trivial⟩
 ·have hl := iE hv
  have hx : (q.length : Int) - 1 = ((q.length - 1 : Nat) : Int) := by omega
  have q0 := @hv; have q1 := @hx; refine sI (bL q hq) (a1C q f R hv hf hR q.length (q.length - 1) (by omega) (by omega)) ?_
  exact aA ⟨⟨_, rfl, by simp only [go_sem, pr, hv, Bool.true_and]⟩, trivial⟩
theorem a2U (q : List TNode) (f : TFile) (R : List TResult) (hq : bK q ≤ 4300000) (hf : wFile f ≤ 4300000) (hR : aG R ≤ 67108864) : FnC Tryz.prog 265 [.o (.d (.sl (q.map aT))), bC f, .o (.d (.sl (R.map aH)))] (ob (pr q R f)) := by
 refine ent Tryz.func265 rfl Tryz.call265 rfl (fun C => ?_); simp only [go_sem, st0, Tryz.ntmps265]
 cases hv : okQ q
 ·have q0 := @hv; refine eZ (bP q hq) ?_
  exact aA ⟨⟨_, rfl, by simp only [go_sem, pr, hv, Bool.false_and]⟩, trivial⟩
 ·have hl := iE hv
  have hx : (q.length : Int) - 1 = ((q.length - 1 : Nat) : Int) := by omega
  have q0 := @hv; have q1 := @hx; refine sI (bP q hq) (a1D q f R hv hf hR q.length (q.length - 1) (by omega) (by omega)) ?_
  exact aA ⟨⟨_, rfl, by simp only [go_sem, pr, hv, Bool.true_and]⟩, trivial⟩
theorem a1G (s : TStore) (q : List TNode) (R : List TResult) (hs : aL s ≤ 4300000) (hq : bK q ≤ 4300000) (hR : aG R ≤ 67108864) : FnC Tryz.prog 226 [cB s, .o (.d (.sl (q.map aT))), .o (.d (.sl (R.map aH)))] (.o (.w 3 1 ((lK s.fFiles q R).map eQ))) := by
 unfold aL cZ at hs
 refine ent Tryz.func226 rfl Tryz.call226 rfl (fun C => ?_); simp only [go_sem, st0, Tryz.ntmps226]
 refine aD ?_
 refine aM (α := Nat) (fun k => [(7, .o (.s 1)), (10, .o .u), (14, oi k)]) (fun k => [(1, .row 3 1 ((gU ((s.fFiles.take k).filter (pr q R))).map eQ) true)]) (fun k => k ≤ s.fFiles.length) (fun k => s.fFiles.length - k) 0 (fun _ => ?_) ?_ ?_ (fun k hk => ?_)
 ·simp only [go_sem]
 ·simp only [go_sem]; simp [gU]
 ·simp
 ·simp only [go_sem]
  refine aD ?_
  refine cnd rfl (fun h => ?_) (fun h => ?_)
  ·simp only [decide_eq_true_eq, Int.ofNat_lt] at h
   have hw := bB wFile s.fFiles h
   have ht : s.fFiles.take (k + 1) = s.fFiles.take k ++ [s.fFiles[k]] := List.take_succ_eq_append_getElem h
   have hl : (gU ((s.fFiles.take k).filter (pr q R))).length ≤ k := by
    unfold gU; rw [List.length_map]
    exact Nat.le_trans (List.length_filter_le _ _) (by rw [List.length_take]; omega)
   have hl1 : (gU ((s.fFiles.take k).filter (pr q R))).length + 1 ≤ 140737488355328 := by omega
   have hl2 : ((gU ((s.fFiles.take k).filter (pr q R))).length + 1) * 8 ≤ 140737488355328 := by omega
   cases hm : pr q R s.fFiles[k]
   ·have hf : gU ((s.fFiles.take (k + 1)).filter (pr q R)) = gU ((s.fFiles.take k).filter (pr q R)) := by rw [ht, List.filter_append]; simp [hm]
    have q0 := @h; have q1 := @hm; refine jZ (a2T q s.fFiles[k] R hq (by omega) hR) ?_
    refine aC (k + 1) ?_ ?_ ?_
    ·simp only [go_sem, hf]; simp
    ·omega
    ·omega
   ·have hf : gU ((s.fFiles.take (k + 1)).filter (pr q R)) = gU ((s.fFiles.take k).filter (pr q R)) ++ [s.fFiles[k].fID] := by rw [ht, List.filter_append]; simp [hm, gU]
    have q0 := @h; have q1 := @hm; refine jZ (a2T q s.fFiles[k] R hq (by omega) hR) ?_
    refine aC (k + 1) ?_ ?_ ?_
    ·simp only [go_sem, hf, List.map_append]; simp
    ·omega
    ·omega
  ·simp only [decide_eq_false_iff_not] at h
   have e : k = s.fFiles.length := by omega
   subst e
   refine aD ?_
   exact aA ⟨⟨_, rfl, by simp only [go_sem, lK, List.take_length]⟩, trivial⟩
theorem oO (s : TStore) (q : List TNode) (R : List TResult) (hs : aL s ≤ 4300000) (hq : bK q ≤ 4300000) (hR : aG R ≤ 67108864) : FnC Tryz.prog 217 [cB s, .o (.d (.sl (q.map aT))), .o (.d (.sl (R.map aH)))] (.o (.w 3 1 ((lK s.fFiles q R).map eQ))) := by
 unfold aL cZ at hs
 refine ent Tryz.func217 rfl Tryz.call217 rfl (fun C => ?_); simp only [go_sem, st0, Tryz.ntmps217]
 refine aD ?_
 refine aM (α := Nat) (fun k => [(7, .o (.s 1)), (9, .o .u), (8, oi k)]) (fun k => [(1, .row 3 1 ((gU ((s.fFiles.take k).filter (pr q R))).map eQ) true)]) (fun k => k ≤ s.fFiles.length) (fun k => s.fFiles.length - k) 0 (fun _ => ?_) ?_ ?_ (fun k hk => ?_)
 ·simp only [go_sem]
 ·simp only [go_sem]; simp [gU]
 ·simp
 ·simp only [go_sem]
  refine aD ?_
  refine cnd rfl (fun h => ?_) (fun h => ?_)
  ·simp only [decide_eq_true_eq, Int.ofNat_lt] at h
   have hw := bB wFile s.fFiles h
   have ht : s.fFiles.take (k + 1) = s.fFiles.take k ++ [s.fFiles[k]] := List.take_succ_eq_append_getElem h
   have hl : (gU ((s.fFiles.take k).filter (pr q R))).length ≤ k := by
    unfold gU; rw [List.length_map]
    exact Nat.le_trans (List.length_filter_le _ _) (by rw [List.length_take]; omega)
   have hl1 : (gU ((s.fFiles.take k).filter (pr q R))).length + 1 ≤ 140737488355328 := by omega
   have hl2 : ((gU ((s.fFiles.take k).filter (pr q R))).length + 1) * 8 ≤ 140737488355328 := by omega
   cases hm : pr q R s.fFiles[k]
   ·have hf : gU ((s.fFiles.take (k + 1)).filter (pr q R)) = gU ((s.fFiles.take k).filter (pr q R)) := by rw [ht, List.filter_append]; simp [hm]
    have q0 := @h; have q1 := @hm; refine jZ (a2U q s.fFiles[k] R hq (by omega) hR) ?_
    refine aC (k + 1) ?_ ?_ ?_
    ·simp only [go_sem, hf]; simp
    ·omega
    ·omega
   ·have hf : gU ((s.fFiles.take (k + 1)).filter (pr q R)) = gU ((s.fFiles.take k).filter (pr q R)) ++ [s.fFiles[k].fID] := by rw [ht, List.filter_append]; simp [hm, gU]
    have q0 := @h; have q1 := @hm; refine jZ (a2U q s.fFiles[k] R hq (by omega) hR) ?_
    refine aC (k + 1) ?_ ?_ ?_
    ·simp only [go_sem, hf, List.map_append]; simp
    ·omega
    ·omega
  ·simp only [decide_eq_false_iff_not] at h
   have e : k = s.fFiles.length := by omega
   subst e
   refine aD ?_
   exact aA ⟨⟨_, rfl, by simp only [go_sem, lK, List.take_length]⟩, trivial⟩
theorem b5J (d : List TDir) (h : sO d = false) : resL d = [] := by
 unfold sO at h
 unfold resL
 split
 ·rename_i hv
  rw [if_pos hv] at h
  apply a8g
  intro hx
  obtain ⟨F, hF⟩ := hx
  rw [a2t hF] at h; cases h
 ·rfl
theorem b7n (A : List Nat) (h : 0 < A.length) (hl : A.length ≤ 4300000) : FnC Tryz.prog 273 [.o (.d (.sl (A.map uG)))] (oi (a1F A)) := by
 have h1 : ¬ (A.length : Int) < 1 := by omega
 have hst : a1F A = yL (A.drop 1) (A[0] : Int) := by
  have := a2p A 0 (-1) h
  rw [List.drop_zero] at this
  unfold a1F
  rw [this, if_pos (by omega)]
 refine ent Tryz.func273 rfl Tryz.call273 rfl (fun C => ?_); simp only [go_sem, st0, Tryz.ntmps273]
 have q0 := @h; have q1 := @h1; have q2 := @decide_false; have q3 := @Int.toNat_zero; have q4 := @Int.le_refl; refine a1b ?_
 refine aM (α := Nat × Int) (fun x => [(3, oi x.2), (4, oi x.1)]) (fun _ => []) (fun x => 1 ≤ x.1 ∧ x.1 ≤ A.length ∧ a1F A = yL (A.drop x.1) x.2) (fun x => A.length - x.1) (1, (A[0] : Int)) (fun _ => ?_) ?_ ?_ (fun x hx => ?_)
 ·simp only [go_sem]
 ·simp only [go_sem]; simp
 ·exact ⟨by simp, by simp only; omega, hst⟩
 ·obtain ⟨k, m⟩ := x
  obtain ⟨hk1, hk, hq⟩ := hx
  simp only at hk1 hk hq
  simp only [go_sem]
  refine aD ?_
  refine cnd rfl (fun h2 => ?_) (fun h2 => ?_)
  ·simp only [decide_eq_true_eq, Int.ofNat_lt] at h2
   rw [a2p A k m h2] at hq
   have q0 := @h2; refine fD ?_
   refine aC (k + 1, mxI m (A[k] : Int)) ?_ ?_ ?_
   ·simp only [go_sem]; simp
   ·exact ⟨by simp, by simp only; omega, hq⟩
   ·simp only; omega
  ·simp only [decide_eq_false_iff_not] at h2
   have e : k = A.length := by omega
   subst e
   rw [List.drop_length, yL] at hq
   refine aD ?_
   exact aA ⟨⟨_, rfl, by simp only [go_sem, hq]⟩, trivial⟩
theorem b1y (d : List TDir) (hd : aY d ≤ 4300000) (hl : (resL d).length ≤ 4300000) : FnC Tryz.prog 225 [.o (.d (.sl (d.map aS)))] (oi (a1F (resL d))) := by
 refine ent Tryz.func225 rfl Tryz.call225 rfl (fun C => ?_); simp only [go_sem, st0, Tryz.ntmps225]
 cases hb : sO d
 ·have e := b5J d hb
  have q0 := @hb; refine eZ (jT d hd) ?_
  exact aA ⟨⟨_, rfl, by simp only [go_sem, e, a1F, yL]⟩, trivial⟩
 ·by_cases h0 : 0 < (resL d).length
  ·have hn : ¬ ((resL d).length : Int) = 0 := by omega
   have q0 := @hb; have q1 := @hn; have q2 := @decide_false; refine a9i (jT d hd) (b7n (resL d) h0 hl) ?_
   exact aA ⟨⟨_, rfl, by simp only [go_sem]⟩, trivial⟩
  ·have hn : ((resL d).length : Int) = 0 := by omega
   have e : resL d = [] := List.eq_nil_of_length_eq_zero (by omega)
   have q0 := @hb; have q1 := @hn; have q2 := @decide_true; refine jP (jT d hd) ?_
   exact aA ⟨⟨_, rfl, by simp only [go_sem, e, a1F, yL]⟩, trivial⟩
theorem a5e (d : List TDir) (hd : aY d ≤ 4300000) (hl : (resL d).length ≤ 4300000) : FnC Tryz.prog 216 [.o (.d (.sl (d.map aS)))] (oi (a1F (resL d))) := by
 refine ent Tryz.func216 rfl Tryz.call216 rfl (fun C => ?_); simp only [go_sem, st0, Tryz.ntmps216]
 refine fK (iM d hd) ?_
 generalize resL d = A at *
 refine aM (α := Nat × Int) (fun x => [(5, oi x.2), (6, oi x.1)]) (fun _ => []) (fun x => x.1 ≤ A.length ∧ a1F A = yL (A.drop x.1) x.2) (fun x => A.length - x.1) (0, -1) (fun _ => ?_) ?_ ?_ (fun x hx => ?_)
 ·simp only [go_sem]
 ·simp only [go_sem]; simp
 ·simp [a1F]
 ·obtain ⟨k, m⟩ := x
  obtain ⟨hk, hq⟩ := hx
  simp only at hk hq
  simp only [go_sem]
  refine aD ?_
  refine cnd rfl (fun h2 => ?_) (fun h2 => ?_)
  ·simp only [decide_eq_true_eq, Int.ofNat_lt] at h2
   rw [a2p A k m h2] at hq
   have q0 := @h2; refine fD ?_
   by_cases hc : m < (A[k] : Int)
   ·rw [if_pos hc] at hq
    refine cnd (b := decide (m < (A[k] : Int))) rfl (fun _ => ?_) (fun hx => ?_)
    ·have q0 := @h2; refine fD ?_
     refine aC (k + 1, (A[k] : Int)) ?_ ?_ ?_
     ·simp only [go_sem]; simp
     ·exact ⟨by simp only; omega, hq⟩
     ·simp only; omega
    ·simp [hc] at hx
   ·rw [if_neg hc] at hq
    refine cnd (b := decide (m < (A[k] : Int))) rfl (fun hx => ?_) (fun _ => ?_)
    ·simp [hc] at hx
    ·have q0 := @h2; refine fD ?_
     refine aC (k + 1, m) ?_ ?_ ?_
     ·simp only [go_sem]; simp
     ·exact ⟨by simp only; omega, hq⟩
     ·simp only; omega
  ·simp only [decide_eq_false_iff_not] at h2
   have e : k = A.length := by omega
   subst e
   rw [List.drop_length, yL] at hq
   refine aD ?_
   exact aA ⟨⟨_, rfl, by simp only [go_sem, hq]⟩, trivial⟩
end Go.Proofs.YteaaopodnbjpoaaGreat
end
section
set_option maxRecDepth 100000
namespace Go.Proofs.YteaaopodnbjpoaaGreat
open Go Go.Sx Go.RowKit Go.Proofs
def eqL {α : Type} (p : α → α → Bool) : List α → List α → Bool
 | [], [] => true
 | x :: xs, y :: ys => p x y && eqL p xs ys
 | _, _ => false
theorem a1M {α : Type} (p : α → α → Bool) : ∀ {a b : List α}, a.length ≠ b.length → eqL p a b = false
 | [], [], h => by simp at h
 | x :: xs, y :: ys, h => by
  have := a1M p (a := xs) (b := ys) (by simpa using h)
  simp [eqL, this]
 | [], _ :: _, _ => rfl
 | _ :: _, [], _ => rfl
@[go_sem] def jA (a b : Int) : Bool := decide (a = b)
@[go_sem] def b5W (a b : TField) : Bool := decide (a.fName = b.fName) && decide (a.fKind = b.fKind)
@[go_sem] def b7s (a b : TAttr) : Bool := decide (a.fName = b.fName) && (decide (a.fValue.fKind = b.fValue.fKind) && (decide (a.fValue.fInt = b.fValue.fInt) && decide (a.fValue.fStr = b.fValue.fStr)))
@[go_sem] def b7t (a b : TNode) : Bool := decide (a.fOp = b.fOp) && (decide (a.fLeft = b.fLeft) && (decide (a.fRight = b.fRight) && (decide (a.fName = b.fName) && (decide (a.fValue.fKind = b.fValue.fKind) && (decide (a.fValue.fInt = b.fValue.fInt) && decide (a.fValue.fStr = b.fValue.fStr))))))
def b7u (a b : TFile) : Bool := decide (a.fID = b.fID) && (decide (a.fOwner = b.fOwner) && ((a.fShared == b.fShared) && (decide (a.fLink = b.fLink) && eqL b7s a.fAttrs b.fAttrs)))
def b5Y (a b : TDir) : Bool := decide (a.fName = b.fName) && eqL b7t a.fQuery b.fQuery
def dO (a b : TResult) : Bool := decide (a.fName = b.fName) && eqL jA a.fIDs b.fIDs
def b0h (a b : TStore) : Bool := eqL b5W a.fSchema b.fSchema && (eqL b7u a.fFiles b.fFiles && decide (a.fNextID = b.fNextID))
def b7L (a b : TSnapshot) : Bool := b0h a.fStore b.fStore && eqL b5Y a.fDirs b.fDirs
def b8J (a b : TCatalog) : Bool := b0h a.fStore b.fStore && (eqL b5Y a.fDirs b.fDirs && eqL dO a.fResults b.fResults)
theorem oU (a b : List Int) (ha : a.length ≤ 4300000) : FnC Tryz.prog 152 [.o (.d (.sl (a.map eQ))), .o (.d (.sl (b.map eQ)))] (ob (eqL jA a b)) := by
 have hal : a.length ≤ 4300000 := by omega
 refine ent Tryz.func152 rfl Tryz.call152 rfl (fun C => ?_); simp only [go_sem, st0, Tryz.ntmps152]
 refine aD ?_
 refine cnd rfl (fun h0 => ?_) (fun h0 => ?_)
 ·have e : eqL jA a b = false := a1M _ (by simp only [Bool.not_eq_true', decide_eq_false_iff_not] at h0; omega)
  refine aD ?_
  exact aA ⟨⟨_, rfl, by simp only [go_sem, e]⟩, trivial⟩
 have h0 : a.length = b.length := by simpa [Int.ofNat_inj] using h0
 refine aD ?_
 refine aM (α := Nat) (fun k => [(5, oi k)]) (fun _ => []) (fun k => k ≤ a.length ∧ eqL jA a b = eqL jA (a.drop k) (b.drop k)) (fun k => a.length - k) 0 (fun _ => ?_) ?_ ?_ (fun k hk => ?_)
 ·simp only [go_sem]
 ·simp only [go_sem]; simp
 ·simp
 ·obtain ⟨hk, hq⟩ := hk
  simp only [go_sem]
  refine aD ?_
  refine cnd rfl (fun h => ?_) (fun h => ?_)
  ·simp only [decide_eq_true_eq, Int.ofNat_lt] at h
   have hb : k < b.length := by omega
   rw [List.drop_eq_getElem_cons h, List.drop_eq_getElem_cons hb, eqL] at hq
   have q0 := @h; have q1 := @hb; refine fI ?_
   refine cnd (b := !(jA a[k] b[k])) (by rfl) (fun h2 => ?_) (fun h2 => ?_)
   ·simp only [Bool.not_eq_true'] at h2
    rw [h2, Bool.false_and] at hq
    refine aD ?_
    exact aA ⟨⟨_, rfl, by simp only [go_sem, hq]⟩, trivial⟩
   ·simp only [Bool.not_eq_false'] at h2
    rw [h2, Bool.true_and] at hq
    refine aD ?_
    refine aC (k + 1) ?_ ?_ ?_
    ·simp only [go_sem]; simp
    ·exact ⟨h, hq⟩
    ·omega
  ·simp only [decide_eq_false_iff_not] at h
   have e : k = a.length := by omega
   subst e
   rw [List.drop_length, List.drop_of_length_le (by omega), eqL] at hq
   refine aD ?_
   exact aA ⟨⟨_, rfl, by simp only [go_sem, hq]⟩, trivial⟩
theorem sS (a b : List Int) (ha : a.length ≤ 4300000) : FnC Tryz.prog 170 [.o (.d (.sl (a.map eQ))), .o (.d (.sl (b.map eQ)))] (ob (eqL jA a b)) := by
 have hal : a.length ≤ 4300000 := by omega
 refine ent Tryz.func170 rfl Tryz.call170 rfl (fun C => ?_); simp only [go_sem, st0, Tryz.ntmps170]
 refine aD ?_
 refine cnd rfl (fun h0 => ?_) (fun h0 => ?_)
 ·have e : eqL jA a b = false := a1M _ (by simp only [Bool.not_eq_true', decide_eq_false_iff_not] at h0; omega)
  refine aD ?_
  exact aA ⟨⟨_, rfl, by simp only [go_sem, e]⟩, trivial⟩
 have h0 : a.length = b.length := by simpa [Int.ofNat_inj] using h0
 refine aD ?_
 refine aM (α := Nat) (fun k => [(13, oi k)]) (fun _ => []) (fun k => k ≤ a.length ∧ eqL jA a b = eqL jA (a.drop k) (b.drop k)) (fun k => a.length - k) 0 (fun _ => ?_) ?_ ?_ (fun k hk => ?_)
 ·simp only [go_sem]
 ·simp only [go_sem]; simp
 ·simp
 ·obtain ⟨hk, hq⟩ := hk
  simp only [go_sem]
  refine aD ?_
  refine cnd rfl (fun h => ?_) (fun h => ?_)
  ·simp only [decide_eq_true_eq, Int.ofNat_lt] at h
   have hb : k < b.length := by omega
   rw [List.drop_eq_getElem_cons h, List.drop_eq_getElem_cons hb, eqL] at hq
   have q0 := @h; have q1 := @hb; refine fI ?_
   refine cnd (b := !(jA a[k] b[k])) (by rfl) (fun h2 => ?_) (fun h2 => ?_)
   ·simp only [Bool.not_eq_true'] at h2
    rw [h2, Bool.false_and] at hq
    refine aD ?_
    exact aA ⟨⟨_, rfl, by simp only [go_sem, hq]⟩, trivial⟩
   ·simp only [Bool.not_eq_false'] at h2
    rw [h2, Bool.true_and] at hq
    refine aD ?_
    refine aC (k + 1) ?_ ?_ ?_
    ·simp only [go_sem]; simp
    ·exact ⟨h, hq⟩
    ·omega
  ·simp only [decide_eq_false_iff_not] at h
   have e : k = a.length := by omega
   subst e
   rw [List.drop_length, List.drop_of_length_le (by omega), eqL] at hq
   refine aD ?_
   exact aA ⟨⟨_, rfl, by simp only [go_sem, hq]⟩, trivial⟩
theorem zW (a b : List TResult) (ha : aG a ≤ 4300000) : FnC Tryz.prog 81 [.o (.d (.sl (a.map aH))), .o (.d (.sl (b.map aH)))] (ob (eqL dO a b)) := by
 have hal : a.length ≤ 4300000 := by unfold aG at ha; omega
 refine ent Tryz.func81 rfl Tryz.call81 rfl (fun C => ?_); simp only [go_sem, st0, Tryz.ntmps81]
 refine aD ?_
 refine cnd rfl (fun h0 => ?_) (fun h0 => ?_)
 ·have e : eqL dO a b = false := a1M _ (by simp only [Bool.not_eq_true', decide_eq_false_iff_not] at h0; omega)
  refine aD ?_
  exact aA ⟨⟨_, rfl, by simp only [go_sem, e]⟩, trivial⟩
 have h0 : a.length = b.length := by simpa [Int.ofNat_inj] using h0
 refine aD ?_
 refine aM (α := Nat) (fun k => [(5, oi k)]) (fun _ => []) (fun k => k ≤ a.length ∧ eqL dO a b = eqL dO (a.drop k) (b.drop k)) (fun k => a.length - k) 0 (fun _ => ?_) ?_ ?_ (fun k hk => ?_)
 ·simp only [go_sem]
 ·simp only [go_sem]; simp
 ·simp
 ·obtain ⟨hk, hq⟩ := hk
  simp only [go_sem]
  refine aD ?_
  refine cnd rfl (fun h => ?_) (fun h => ?_)
  ·simp only [decide_eq_true_eq, Int.ofNat_lt] at h
   have hb : k < b.length := by omega
   rw [List.drop_eq_getElem_cons h, List.drop_eq_getElem_cons hb, eqL] at hq
   have hw := bB wResult a h
   have hv : a[k].fIDs.length ≤ wResult a[k] := by unfold wResult; omega
   have hx : a[k].fIDs.length ≤ 4300000 := by unfold aG at ha; omega
   by_cases h1 : a[k].fName = b[k].fName
   case neg =>
    have h2 : dO a[k] b[k] = false := by simp [dO, h1]
    rw [h2, Bool.false_and] at hq
    have q0 := @h; have q1 := @hb; have q2 := @h1; have q3 := @decide_false; refine kC ?_
    exact aA ⟨⟨_, rfl, by simp only [go_sem, hq]⟩, trivial⟩
   have h3 : dO a[k] b[k] = eqL jA a[k].fIDs b[k].fIDs := by simp [dO, h1]
   have q0 := @h; have q1 := @hb; have q2 := @h1; have q3 := @decide_false; refine a2e (oU a[k].fIDs b[k].fIDs hx) ?_
   refine cnd (b := !(dO a[k] b[k])) (by rw [h3]; try rfl) (fun h2 => ?_) (fun h2 => ?_)
   ·simp only [Bool.not_eq_true'] at h2
    rw [h2, Bool.false_and] at hq
    refine aD ?_
    exact aA ⟨⟨_, rfl, by simp only [go_sem, hq]⟩, trivial⟩
   ·simp only [Bool.not_eq_false'] at h2
    rw [h2, Bool.true_and] at hq
    refine aD ?_
    refine aC (k + 1) ?_ ?_ ?_
    ·simp only [go_sem]; simp
    ·exact ⟨h, hq⟩
    ·omega
  ·simp only [decide_eq_false_iff_not] at h
   have e : k = a.length := by omega
   subst e
   rw [List.drop_length, List.drop_of_length_le (by omega), eqL] at hq
   refine aD ?_
   exact aA ⟨⟨_, rfl, by simp only [go_sem, hq]⟩, trivial⟩
theorem yP (x y : TResult) (h : wResult x ≤ 4300000) : FnC Tryz.prog 169 [zH x, zH y] (ob (dO x y)) := by
 have hx : x.fIDs.length ≤ 4300000 := by unfold wResult at h; omega
 refine ent Tryz.func169 rfl Tryz.call169 rfl (fun C => ?_); simp only [go_sem, st0, Tryz.ntmps169]
 by_cases h1 : x.fName = y.fName
 case neg =>
  have q0 := @h1; have q1 := @decide_false; refine fI ?_
  exact aA ⟨⟨_, rfl, by simp only [go_sem, dO, h1, decide_false, Bool.false_and]⟩, trivial⟩
 have q0 := @h1; have q1 := @decide_false; refine jZ (sS x.fIDs y.fIDs hx) ?_
 exact aA ⟨⟨_, rfl, by simp only [go_sem, dO, h1, Bool.true_and]⟩, trivial⟩
theorem a2x (a b : List TResult) (ha : aG a ≤ 4300000) : FnC Tryz.prog 168 [.o (.d (.sl (a.map aH))), .o (.d (.sl (b.map aH))), .o (.f 169 [])] (ob (eqL dO a b)) := by
 have hal : a.length ≤ 4300000 := by unfold aG at ha; omega
 refine ent Tryz.func168 rfl Tryz.call168 rfl (fun C => ?_); simp only [go_sem, st0, Tryz.ntmps168]
 refine aD ?_
 refine cnd rfl (fun h0 => ?_) (fun h0 => ?_)
 ·have e : eqL dO a b = false := a1M _ (by simp only [Bool.not_eq_true', decide_eq_false_iff_not] at h0; omega)
  refine aD ?_
  exact aA ⟨⟨_, rfl, by simp only [go_sem, e]⟩, trivial⟩
 have h0 : a.length = b.length := by simpa [Int.ofNat_inj] using h0
 refine aD ?_
 refine aM (α := Nat) (fun k => [(17, oi k)]) (fun _ => []) (fun k => k ≤ a.length ∧ eqL dO a b = eqL dO (a.drop k) (b.drop k)) (fun k => a.length - k) 0 (fun _ => ?_) ?_ ?_ (fun k hk => ?_)
 ·simp only [go_sem]
 ·simp only [go_sem]; simp
 ·simp
 ·obtain ⟨hk, hq⟩ := hk
  simp only [go_sem]
  refine aD ?_
  refine cnd rfl (fun h => ?_) (fun h => ?_)
  ·simp only [decide_eq_true_eq, Int.ofNat_lt] at h
   have hb : k < b.length := by omega
   rw [List.drop_eq_getElem_cons h, List.drop_eq_getElem_cons hb, eqL] at hq
   have q0 := @h; have q1 := @hb; refine jZ (yP a[k] b[k] (by have := bB wResult a h; unfold aG at ha; omega)) ?_
   refine cnd (b := !(dO a[k] b[k])) (by rfl) (fun h2 => ?_) (fun h2 => ?_)
   ·simp only [Bool.not_eq_true'] at h2
    rw [h2, Bool.false_and] at hq
    refine aD ?_
    exact aA ⟨⟨_, rfl, by simp only [go_sem, hq]⟩, trivial⟩
   ·simp only [Bool.not_eq_false'] at h2
    rw [h2, Bool.true_and] at hq
    refine aD ?_
    refine aC (k + 1) ?_ ?_ ?_
    ·simp only [go_sem]; simp
    ·exact ⟨h, hq⟩
    ·omega
  ·simp only [decide_eq_false_iff_not] at h
   have e : k = a.length := by omega
   subst e
   rw [List.drop_length, List.drop_of_length_le (by omega), eqL] at hq
   refine aD ?_
   exact aA ⟨⟨_, rfl, by simp only [go_sem, hq]⟩, trivial⟩
theorem zX (a b : List TResult) (ha : aG a ≤ 4300000) : FnC Tryz.prog 98 [.o (.d (.sl (a.map aH))), .o (.d (.sl (b.map aH)))] (ob (eqL dO a b)) := by
 refine ent Tryz.func98 rfl Tryz.call98 rfl (fun C => ?_); simp only [go_sem, st0, Tryz.ntmps98]
 refine fK (a2x a b ha) ?_
 exact aA ⟨⟨_, rfl, by simp only [go_sem]⟩, trivial⟩
end Go.Proofs.YteaaopodnbjpoaaGreat
end
