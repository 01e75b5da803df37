/- Joined texts. -/
import Derived.Test.YtgpoopjfkplilaaGreatDoorZ12
import Derived.Test.YtgpoopjfkplilaaGreatDoorZ07
import Derived.Test.YtgpoopjfkplilaaGreatDoorZ10
import Derived.Test.YtgpoopjfkplilaaGreatDoorZ11
import Derived.Test.YtgpoopjfkplilaaGreatDoorZ01
import Derived.Lib.AtoiErrMem
set_option linter.all false
section
set_option maxRecDepth 100000
set_option maxHeartbeats 4000000
namespace Go.Proofs.YtgpoopjfkplilaaGreatDoor
open Go Go.Sx Go.RowKit Go.Proofs
theorem a6m (q : List TNode) (hq : okQ q = true) (hw : wNodeS q ≤ 4300000) : FnC Tryz.prog 202 [.o (.d (.sl (q.map bH)))] (.o (.d (.sl ((putL (cB q false)).map dL)))) := (a7V q hq hw).pu (by simp only [go_sem, and_self])
theorem a6n (q : List TNode) (hq : okQ q = true) (hw : wNodeS q ≤ 4300000) : FnC Tryz.prog 204 [.o (.d (.sl (q.map bH)))] (.o (.d (.sl ((putL (cB q true)).map dL)))) := (a6u q hq hw).pu (by simp only [go_sem, and_self])
theorem a0K (d : List TDir) (i w : Nat) (names : List ByteArray) (k : Nat) (h : k < names.length) : dH d i w (names.take (k + 1)) = dH d i w (names.take k) ++ (if 0 ≤ placeD d names[k] then [(i, (placeD d names[k]).toNat, w)] else []) := by
 unfold dH
 rw [List.take_succ_eq_append_getElem h, List.flatMap_append]
 simp
theorem nQ (d : List TDir) (i w : Nat) (names : List ByteArray) : (dH d i w names).length ≤ names.length := by
 induction names with
 | nil => simp [dH]
 | cons x l ih =>
  have e : dH d i w (x :: l) = (if 0 ≤ placeD d x then [(i, (placeD d x).toNat, w)] else []) ++ dH d i w l := by simp [dH]
  rw [e, List.length_append, List.length_cons]
  split <;> simp <;> omega
theorem qC (d : List TDir) (i w : Nat) (hi : i < d.length) (hw : w ≤ 1) (names : List ByteArray) (x : Nat × Nat × Nat) (hx : x ∈ dH d i w names) : x.1 < d.length ∧ x.2.2 ≤ 1 := by
 obtain ⟨nm, _, k, _, rfl⟩ := (wZ d i w names x).1 hx
 exact ⟨hi, hw⟩
def iY (d : List TDir) (k : Nat) : List (Nat × Nat × Nat) := (List.range k).flatMap (pF d)
theorem a0L (d : List TDir) (k : Nat) : iY d (k + 1) = iY d k ++ pF d k := by
 simp [iY, List.range_succ, List.flatMap_append]
theorem b0y (d : List TDir) (i : Nat) (h : i < d.length) : pF d i = dH d i 0 (putL (cB d[i].fQuery false)) ++ dH d i 1 (putL (cB d[i].fQuery true)) := by
 unfold pF; rw [List.getElem?_eq_getElem h]
theorem a7S (d : List TDir) (hv : dJ d = true) (i : Nat) : (pF d i).length ≤ 18 := by
 unfold pF
 cases hx : d[i]? with
 | none => simp
 | some x =>
  have hi := (List.getElem?_eq_some_iff.1 hx).1
  have hxe : d[i] = x := (List.getElem?_eq_some_iff.1 hx).2
  have hq := (iI (a0m hv i hi)).2
  rw [hxe] at hq
  have h1 := nQ d i 0 (putL (cB x.fQuery false))
  have h2 := nQ d i 1 (putL (cB x.fQuery true))
  have h3 := uJ (cB x.fQuery false)
  have h4 := uJ (cB x.fQuery true)
  have h5 : (cB x.fQuery false).length ≤ x.fQuery.length := jG _ _ _
  have h6 : (cB x.fQuery true).length ≤ x.fQuery.length := jG _ _ _
  simp only [List.length_append]
  omega
theorem a2f (d : List TDir) (hv : dJ d = true) (k : Nat) : (iY d k).length ≤ 18 * k := by
 induction k with
 | zero => simp [iY]
 | succ k ih => rw [a0L, List.length_append]; have := a7S d hv k; omega
theorem a3x (d : List TDir) (k : Nat) (x : Nat × Nat × Nat) (hx : x ∈ iY d k) : x.1 < d.length ∧ x.2.2 ≤ 1 := by
 unfold iY at hx
 obtain ⟨i, _, h⟩ := List.mem_flatMap.1 hx
 unfold pF at h
 cases hd : d[i]? with
 | none => rw [hd] at h; simp at h
 | some y =>
  rw [hd] at h
  have hi := (List.getElem?_eq_some_iff.1 hd).1
  simp only [List.mem_append] at h
  rcases h with h | h
  ·exact qC d i 0 hi (by omega) _ x h
  ·exact qC d i 1 hi (by omega) _ x h
theorem a9c {i p w : Nat} {L : List Nat} (h : lv L p + w > lv L i) : up1 i p w L = L.set i (lv L p + w) := by unfold up1; rw [if_pos h]
theorem b2h {i p w : Nat} {L : List Nat} (h : ¬ lv L p + w > lv L i) : up1 i p w L = L := by unfold up1; rw [if_neg h]
theorem a2g (d : List TDir) (L : List Nat) (hv : dJ d = true) (hd : jR d ≤ 4300000) (hL : L.length = d.length) (hB : ∀ j, lv L j ≤ 1000000) : FnC Tryz.prog 154 [.o (.d (.sl (d.map eP))), .o (.d (.sl (L.map rH)))] (.o (.w 3 1 ((ups (gQ d) L).map rH))) := by
 have hd0 : d.length + dU nZ d ≤ 4300000 := hd
 have hl5 := wY hv
 refine ent Tryz.func154 rfl Tryz.call154 rfl (fun C => ?_); simp only [go_sem, st0, Tryz.ntmps154]
 refine aD ?_
 refine dB (α := Nat) (fun i => [(5, .o (.s 0)), (13, .o .u), (15, .o .u), (6, oi i)]) (fun i => [(0, .row 3 1 ((ups (iY d i) L).map rH) true)]) (fun i => i ≤ d.length) (fun i => d.length - i) 0 (fun _ => ?_) ?_ ?_ (fun i hi => ?_)
 ·simp only [go_sem]
 ·simp only [go_sem]; simp [iY, ups]
 ·simp
 ·simp only [go_sem]
  refine aD ?_
  refine cnd rfl (fun h => ?_) (fun h => ?_)
  ·simp only [decide_eq_true_eq, Int.ofNat_lt] at h
   have hq := a0m hv i h
   have hwd := eT nZ d h
   have hwq : wNodeS d[i].fQuery ≤ nZ d[i] := by unfold nZ; omega
   have hsuc := a0L d i
   rw [b0y d i h] at hsuc
   have hML : (ups (iY d i) L).length = d.length := by rw [vM]; exact hL
   have hMB := mU (iY d i) L 1000000 (fun x hx => by rw [hL]; exact a3x d i x hx) hB
   have hKl := a2f d hv i
   have hfin : ups (iY d (i + 1)) L = ups (dH d i 1 (putL (cB d[i].fQuery true))) (ups (dH d i 0 (putL (cB d[i].fQuery false))) (ups (iY d i) L)) := by
    rw [hsuc, a1p, a1p]
   have hn1 := uJ (cB d[i].fQuery false)
   have hn2 := uJ (cB d[i].fQuery true)
   have hn3 : (cB d[i].fQuery false).length ≤ d[i].fQuery.length := jG _ _ _
   have hn4 : (cB d[i].fQuery true).length ≤ d[i].fQuery.length := jG _ _ _
   have hq9 := iI hq
   have hMB2 : ∀ j, lv (ups (iY d i) L) j ≤ 1000200 := fun j => by have := hMB j; omega
   generalize ups (iY d i) L = M at *
   have q0 := @h; refine qY (a6m d[i].fQuery hq (by omega)) ?_
   generalize putL (cB d[i].fQuery false) = P at *
   refine dB (α := Nat) (fun k => [(8, oi k)]) (fun k => [(0, .row 3 1 ((ups (dH d i 0 (P.take k)) M).map rH) true)]) (fun k => k ≤ P.length) (fun k => P.length - k) 0 (fun _ => ?_) ?_ ?_ (fun k hk => ?_)
   ·simp only [go_sem]
   ·simp only [go_sem]; simp [dH, ups]
   ·simp
   ·simp only [go_sem]
    refine aD ?_
    refine cnd rfl (fun h1 => ?_) (fun h1 => ?_)
    ·simp only [decide_eq_true_eq, Int.ofNat_lt] at h1
     have ht := a0K d i 0 P k h1
     have hXL : (ups (dH d i 0 (P.take k)) M).length = d.length := by rw [vM]; exact hML
     have hXB := mU (dH d i 0 (P.take k)) M 1000200 (fun x hx => by rw [hML]; exact qC d i 0 h (by omega) _ x hx) hMB2
     have hel := nQ d i 0 (P.take k)
     rw [List.length_take] at hel
     have hup : ups (dH d i 0 (P.take (k + 1))) M = ups (if 0 ≤ placeD d P[k] then [(i, (placeD d P[k]).toNat, 0)] else []) (ups (dH d i 0 (P.take k)) M) := by rw [ht, a1p]
     generalize ups (dH d i 0 (P.take k)) M = X at *
     have hiX : i < X.length := by omega
     have hg := a0n X i hiX
     rcases placeD_cases d P[k] with hp | ⟨p, hp, hpl⟩
     ·rw [if_neg (by omega)] at hup
      have q0 := @h1; have q1 := @hp; have q2 := @decide_true; have q3 := @decide_false; refine a0X (kE d P[k] (by omega)) ?_
      refine aQ (k + 1) ?_ ?_ ?_
      ·simp only [go_sem, hup, ups]; simp
      ·omega
      ·omega
     ·have hpX : p < X.length := by omega
      have hge : (0 : Int) ≤ (p : Int) := by omega
      have hgp := a0n X p hpX
      rw [if_pos (by omega), hp, Int.toNat_natCast] at hup
      simp only [ups] at hup
      by_cases hc : lv X p > lv X i
      ·have hcI : ((lv X i : Nat) : Int) < ((lv X p : Nat) : Int) := by omega
       rw [a9c (by omega), Nat.add_zero] at hup
       have qH := aI @h1 (aI @hp (aI @hge (aI @hpX (aI @hiX (aI @hg (aI @hgp (aI @hcI (aI @decide_true (aI @decide_false @Int.toNat_natCast))))))))); repeat' (with_reducible first | refine nY ?_ | (refine mX ?_; try simp only [go_sem, qH]) | refine kD ?_ | refine rD ?_ | refine cP (kE d P[k] (by omega)) ?_ | refine aO ?_ | fail)
       refine aQ (k + 1) ?_ ?_ ?_
       ·simp only [go_sem, hup, ← b2i]; simp
       ·omega
       ·omega
      ·have hcI : ¬ ((lv X i : Nat) : Int) < ((lv X p : Nat) : Int) := by omega
       rw [b2h (by omega)] at hup
       have qH := aI @h1 (aI @hp (aI @hge (aI @hpX (aI @hiX (aI @hg (aI @hgp (aI @hcI (aI @decide_true (aI @decide_false @Int.toNat_natCast))))))))); repeat' (with_reducible first | refine nY ?_ | (refine mX ?_; try simp only [go_sem, qH]) | refine kD ?_ | refine rD ?_ | refine cP (kE d P[k] (by omega)) ?_ | refine aO ?_ | fail)
       refine aQ (k + 1) ?_ ?_ ?_
       ·simp only [go_sem, hup]; simp
       ·omega
       ·omega
    ·simp only [decide_eq_false_iff_not] at h1
     have e : k = P.length := by omega
     subst e
     rw [List.take_length]
     have hXL : (ups (dH d i 0 P) M).length = d.length := by rw [vM]; exact hML
     have hXB := mU (dH d i 0 P) M 1000200 (fun x hx => by rw [hML]; exact qC d i 0 h (by omega) _ x hx) hMB2
     have hel := nQ d i 0 P
     have hXB2 : ∀ j, lv (ups (dH d i 0 P) M) j ≤ 1000400 := fun j => by have := hXB j; omega
     generalize ups (dH d i 0 P) M = Y at *
     have q0 := @h; refine qY (a6n d[i].fQuery hq (by omega)) ?_
     generalize putL (cB d[i].fQuery true) = N at *
     refine dB (α := Nat) (fun k => [(11, oi k)]) (fun k => [(0, .row 3 1 ((ups (dH d i 1 (N.take k)) Y).map rH) true)]) (fun k => k ≤ N.length) (fun k => N.length - k) 0 (fun _ => ?_) ?_ ?_ (fun k hk => ?_)
     ·simp only [go_sem]
     ·simp only [go_sem]; simp [dH, ups]
     ·simp
     ·simp only [go_sem]
      refine aD ?_
      refine cnd rfl (fun h1 => ?_) (fun h1 => ?_)
      ·simp only [decide_eq_true_eq, Int.ofNat_lt] at h1
       have ht := a0K d i 1 N k h1
       have hZL : (ups (dH d i 1 (N.take k)) Y).length = d.length := by rw [vM]; exact hXL
       have hZB := mU (dH d i 1 (N.take k)) Y 1000400 (fun x hx => by rw [hXL]; exact qC d i 1 h (by omega) _ x hx) hXB2
       have hel := nQ d i 1 (N.take k)
       rw [List.length_take] at hel
       have hup : ups (dH d i 1 (N.take (k + 1))) Y = ups (if 0 ≤ placeD d N[k] then [(i, (placeD d N[k]).toNat, 1)] else []) (ups (dH d i 1 (N.take k)) Y) := by rw [ht, a1p]
       generalize ups (dH d i 1 (N.take k)) Y = X at *
       have hiX : i < X.length := by omega
       have hg := a0n X i hiX
       rcases placeD_cases d N[k] with hp | ⟨p, hp, hpl⟩
       ·rw [if_neg (by omega)] at hup
        have q0 := @h1; have q1 := @hp; have q2 := @decide_true; have q3 := @decide_false; refine a0X (kE d N[k] (by omega)) ?_
        refine aQ (k + 1) ?_ ?_ ?_
        ·simp only [go_sem, hup, ups]; simp
        ·omega
        ·omega
       ·have hpX : p < X.length := by omega
        have hge : (0 : Int) ≤ (p : Int) := by omega
        have hgp := a0n X p hpX
        have hbp := hZB p
        have hs1 : ((lv X p : Nat) : Int) + 1 = ((lv X p + 1 : Nat) : Int) := by omega
        rw [if_pos (by omega), hp, Int.toNat_natCast] at hup
        simp only [ups] at hup
        by_cases hc : lv X p + 1 > lv X i
        ·have hcI : ((lv X i : Nat) : Int) < ((lv X p + 1 : Nat) : Int) := by omega
         rw [a9c hc] at hup
         have qH := aI @h1 (aI @hp (aI @hge (aI @hpX (aI @hiX (aI @hg (aI @hgp (aI @hs1 (aI @hcI (aI @decide_true (aI @decide_false @Int.toNat_natCast)))))))))); repeat' (with_reducible first | refine nY ?_ | (refine mX ?_; try simp only [go_sem, qH]) | refine kD ?_ | refine rD ?_ | refine cP (kE d N[k] (by omega)) ?_ | refine aO ?_ | fail)
         refine aQ (k + 1) ?_ ?_ ?_
         ·simp only [go_sem, hup, ← b2i]; simp
         ·omega
         ·omega
        ·have hcI : ¬ ((lv X i : Nat) : Int) < ((lv X p + 1 : Nat) : Int) := by omega
         rw [b2h hc] at hup
         have qH := aI @h1 (aI @hp (aI @hge (aI @hpX (aI @hiX (aI @hg (aI @hgp (aI @hs1 (aI @hcI (aI @decide_true (aI @decide_false @Int.toNat_natCast)))))))))); repeat' (with_reducible first | refine nY ?_ | (refine mX ?_; try simp only [go_sem, qH]) | refine kD ?_ | refine rD ?_ | refine cP (kE d N[k] (by omega)) ?_ | refine aO ?_ | fail)
         refine aQ (k + 1) ?_ ?_ ?_
         ·simp only [go_sem, hup]; simp
         ·omega
         ·omega
      ·simp only [decide_eq_false_iff_not] at h1
       have e : k = N.length := by omega
       subst e
       rw [List.take_length]
       refine aD ?_
       refine aQ (i + 1) ?_ ?_ ?_
       ·simp only [go_sem, hfin]; simp
       ·omega
       ·omega
  ·simp only [decide_eq_false_iff_not] at h
   have e : i = d.length := by omega
   subst e
   refine aD ?_
   exact aA ⟨⟨_, rfl, by simp only [go_sem, iY, gQ]⟩, trivial⟩
theorem a4Z (A B : List Nat) (k : Nat) (hA : k < A.length) (hB : k < B.length) (h : A.take k = B.take k) (e : A[k] = B[k]) : A.take (k + 1) = B.take (k + 1) := by
 rw [List.take_succ_eq_append_getElem hA, List.take_succ_eq_append_getElem hB, h, e]
theorem a9b (A B : List Nat) (hA : A.length ≤ 4300000) (hB : B.length ≤ 4300000) : FnC Tryz.prog 155 [.o (.d (.sl (A.map rH))), .o (.d (.sl (B.map rH)))] (ob (decide (A = B))) := by
 refine ent Tryz.func155 rfl Tryz.call155 rfl (fun C => ?_); simp only [go_sem, st0, Tryz.ntmps155]
 by_cases hl : A.length = B.length
 ·have hli : ((A.length : Nat) : Int) = ((B.length : Nat) : Int) := by omega
  have q0 := @hli; have q1 := @decide_true; refine jM ?_
  refine dB (α := Nat) (fun k => [(5, oi k)]) (fun _ => []) (fun k => k ≤ A.length ∧ A.take k = B.take k) (fun k => A.length - k) 0 (fun _ => ?_) ?_ ?_ (fun k hk => ?_)
  ·simp only [go_sem]
  ·simp only [go_sem]; simp
  ·simp
  ·obtain ⟨hk, hq⟩ := hk
   simp only [go_sem]
   refine aD ?_
   refine cnd rfl (fun h => ?_) (fun h => ?_)
   ·simp only [decide_eq_true_eq, Int.ofNat_lt] at h
    have h2 : k < B.length := by omega
    by_cases he : A[k] = B[k]
    ·have hei : ((A[k] : Nat) : Int) = ((B[k] : Nat) : Int) := by omega
     have q0 := @h; have q1 := @h2; have q2 := @hei; have q3 := @decide_true; refine jQ ?_
     refine aQ (k + 1) ?_ ?_ ?_
     ·simp only [go_sem]; simp
     ·exact ⟨by omega, a4Z A B k h h2 hq he⟩
     ·omega
    ·have hei : ¬ ((A[k] : Nat) : Int) = ((B[k] : Nat) : Int) := by omega
     have hne : decide (A = B) = false := decide_eq_false fun e => he (by subst e; rfl)
     have q0 := @h; have q1 := @h2; have q2 := @hei; have q3 := @decide_false; refine jQ ?_
     exact aA ⟨⟨_, rfl, by simp only [go_sem, hne]⟩, trivial⟩
   ·simp only [decide_eq_false_iff_not] at h
    have e : k = A.length := by omega
    subst e
    rw [List.take_length, hl, List.take_length] at hq
    have hy : decide (A = B) = true := decide_eq_true hq
    refine aD ?_
    exact aA ⟨⟨_, rfl, by simp only [go_sem, hy]⟩, trivial⟩
 ·have hli : ¬ ((A.length : Nat) : Int) = ((B.length : Nat) : Int) := by omega
  have hne : decide (A = B) = false := decide_eq_false fun e => hl (by rw [e])
  have q0 := @hli; have q1 := @decide_false; refine jM ?_
  exact aA ⟨⟨_, rfl, by simp only [go_sem, hne]⟩, trivial⟩
theorem a2N (d : List TDir) (hd : jR d ≤ 4300000) : FnC Tryz.prog 99 [.o (.d (.sl (d.map eP)))] (.t [(false, [.d (.sl ((resL d).map rH))]), (false, [.d (bv (qD d))])]) := by
 have hd0 : d.length + dU nZ d ≤ 4300000 := hd
 refine ent Tryz.func99 rfl Tryz.call99 rfl (fun C => ?_); simp only [go_sem, st0, Tryz.ntmps99]
 cases hv : dJ d
 ·have e1 : resL d = [] := by simp [resL, hv]
  have e2 : qD d = false := by simp [qD, hv]
  have q0 := @hv; refine qY (yY d hd) ?_
  refine uV (Sees.frz 0 rfl) ?_
  simp only [go_sem]
  exact aA ⟨⟨_, rfl, by simp only [go_sem, e1, e2, List.map_nil]⟩, by simp [bW]⟩
 have e1 : resL d = a7Z d.length (EE d) := by simp [resL, hv]
 have e2 : qD d = a2n d.length (EE d) := by simp [qD, hv]
 have hl5 := wY hv
 have hsq : d.length * d.length ≤ 25 := Nat.mul_le_mul hl5 hl5
 have hmul : ((d.length : Nat) : Int) * ((d.length : Nat) : Int) = ((d.length * d.length : Nat) : Int) := by rw [Int.natCast_mul]
 have hends := b0G (a2i d) (gQ d) (fun x => Iff.rfl) (d.length * d.length + 2) (by omega)
 have hEl := a2f d hv d.length
 have hEok : ∀ x ∈ gQ d, x.1 < (List.replicate d.length 0).length ∧ x.2.2 ≤ 1 := fun x hx => by rw [List.length_replicate]; exact a3x d d.length x hx
 have hEl2 : (gQ d).length ≤ 90 := by have : gQ d = iY d d.length := rfl; rw [this]; omega
 have hbd := a2q (gQ d) (List.replicate d.length 0) hEok (fun j => a5e _ j)
 have hlen : ∀ r, (upsN (gQ d) r (List.replicate d.length 0)).length = d.length := fun r => by rw [a2p]; simp
 generalize hN2 : d.length * d.length = N2 at *
 have hB : ∀ r, r ≤ N2 + 2 → ∀ j, lv (upsN (gQ d) r (List.replicate d.length 0)) j ≤ 1000000 := fun r hr j => by
  have h1 := hbd r j
  have h2 : r * (gQ d).length ≤ 27 * 90 := Nat.mul_le_mul (by omega) hEl2
  omega
 have q0 := @hv; refine qY (yY d hd) ?_
 refine dB (α := Nat) (fun r => [(4, .o (.s 0)), (12, .o .u), (5, oi r)]) (fun r => [(0, .row 3 1 ((upsN (gQ d) r (List.replicate d.length 0)).map rH) true)]) (fun r => r ≤ N2 + 2) (fun r => N2 + 2 - r) 0 (fun _ => ?_) ?_ ?_ (fun r hr => ?_)
 ·simp only [go_sem]
 ·simp only [go_sem]; simp [upsN, rH]
 ·simp
 ·simp only [go_sem]
  have q0 := @hmul; refine iW ?_
  refine cnd rfl (fun h => ?_) (fun h => ?_)
  ·simp only [decide_eq_true_eq] at h
   refine kS (a2g d (upsN (gQ d) r (List.replicate d.length 0)) hv hd (hlen r) (hB r hr)) ?_
   refine a4s [(0, 1)] (r + 1) (by simp only [go_sem]; rfl) ?_ ?_ ?_
   ·simp only [go_sem, upsN]; simp
   ·omega
   ·omega
  ·simp only [decide_eq_false_iff_not] at h
   have e : r = N2 + 2 := by omega
   subst e
   have hLl := hlen (N2 + 2)
   have hLB := hB (N2 + 2) (by omega)
   simp only at hends
   generalize upsN (gQ d) (N2 + 2) (List.replicate d.length 0) = L at *
   have hUl : (ups (gQ d) L).length = d.length := by rw [vM]; exact hLl
   by_cases hs : ups (gQ d) L = L
   ·rw [if_pos hs] at hends
    have f1 := a9l hends
    have f2 := a0p hends.clo
    have hy : decide (ups (gQ d) L = L) = true := decide_eq_true hs
    have q0 := @hy; refine b0r (a2g d L hv hd hLl hLB) (a9b (ups (gQ d) L) L (by omega) (by omega)) ?_
    exact aA ⟨⟨_, rfl, by simp only [go_sem, e1, e2, f1, f2]⟩, by simp [bW]⟩
   ·rw [if_neg hs] at hends
    have f1 := a9m hends
    have f2 := a6B hends
    have hy : decide (ups (gQ d) L = L) = false := decide_eq_false hs
    have q0 := @hy; refine b0r (a2g d L hv hd hLl hLB) (a9b (ups (gQ d) L) L (by omega) (by omega)) ?_
    refine uV (Sees.frz 2 rfl) ?_
    simp only [go_sem]
    exact aA ⟨⟨_, rfl, by simp only [go_sem, e1, e2, f1, f2, List.map_nil]⟩, by simp [bW]⟩
theorem kN (d : List TDir) (hd : jR d ≤ 4300000) : FnC Tryz.prog 55 [.o (.d (.sl (d.map eP)))] (ob (qD d)) := by
 refine ent Tryz.func55 rfl Tryz.call55 rfl (fun C => ?_); simp only [go_sem, st0, Tryz.ntmps55]
 refine kS (a2N d hd) ?_
 exact aA ⟨⟨_, rfl, by simp only [go_sem]⟩, trivial⟩
noncomputable def gZ (x : TSnapshot) : Bool := bL x.fStore && qD x.fDirs
theorem oO (x : TSnapshot) (h : bM x ≤ 1048576) : FnC Tryz.prog 47 [jC x] (ob (gZ x)) := by
 unfold bM at h
 refine ent Tryz.func47 rfl Tryz.call47 rfl (fun C => ?_); simp only [go_sem, st0, Tryz.ntmps47]
 cases hs : bL x.fStore
 ·have q0 := @hs; refine b0r (yV x.fStore (by omega)) (oP x.fDirs (by omega)) ?_
  exact aA ⟨⟨_, rfl, by simp only [go_sem, gZ, hs, Bool.false_and]⟩, trivial⟩
 ·have q0 := @hs; refine b0r (yV x.fStore (by omega)) (oP x.fDirs (by omega)) ?_
  exact aA ⟨⟨_, rfl, by simp only [go_sem, gZ, hs, Bool.true_and]⟩, trivial⟩
theorem a6l (x : TSnapshot) (h : bM x ≤ 1048576) : FnC Tryz.prog 23 [jC x] (ob (gZ x)) := by
 unfold bM at h
 refine ent Tryz.func23 rfl Tryz.call23 rfl (fun C => ?_); simp only [go_sem, st0, Tryz.ntmps23]
 cases hs : bL x.fStore
 ·have q0 := @hs; refine b0r (eF x.fStore (by omega)) (kN x.fDirs (by omega)) ?_
  exact aA ⟨⟨_, rfl, by simp only [go_sem, gZ, hs, Bool.false_and]⟩, trivial⟩
 ·have q0 := @hs; refine b0r (eF x.fStore (by omega)) (kN x.fDirs (by omega)) ?_
  exact aA ⟨⟨_, rfl, by simp only [go_sem, gZ, hs, Bool.true_and]⟩, trivial⟩
def fdT (f : TField) : ByteArray := if aV f.fName 1 then (if f.fKind = 1 then (⟨#[102, 105, 101, 108, 100, 32]⟩ : ByteArray) ++ f.fName ++ ⟨#[32, 105, 110, 116]⟩ else if f.fKind = 2 then (⟨#[102, 105, 101, 108, 100, 32]⟩ : ByteArray) ++ f.fName ++ ⟨#[32, 115, 116, 114, 105, 110, 103]⟩ else ⟨#[]⟩) else ⟨#[]⟩
theorem a4m (f : TField) (hs : f.fName.size ≤ 4300000) : FnC Tryz.prog 48 [b1W f] (os (fdT f)) := by
 have e1 : (⟨#[102, 105, 101, 108, 100, 32]⟩ : ByteArray).size = 6 := rfl
 have e2 : (⟨#[32, 105, 110, 116]⟩ : ByteArray).size = 4 := rfl
 have e3 : (⟨#[32, 115, 116, 114, 105, 110, 103]⟩ : ByteArray).size = 7 := rfl
 have m1 : (⟨#[102, 105, 101, 108, 100, 32]⟩ : ByteArray).size + f.fName.size ≤ maxLen := by unfold maxLen; omega
 have m2 : ((⟨#[102, 105, 101, 108, 100, 32]⟩ : ByteArray) ++ f.fName).size + (⟨#[32, 105, 110, 116]⟩ : ByteArray).size ≤ maxLen := by unfold maxLen; simp only [ByteArray.size_append]; omega
 have m3 : ((⟨#[102, 105, 101, 108, 100, 32]⟩ : ByteArray) ++ f.fName).size + (⟨#[32, 115, 116, 114, 105, 110, 103]⟩ : ByteArray).size ≤ maxLen := by unfold maxLen; simp only [ByteArray.size_append]; omega
 refine ent Tryz.func48 rfl Tryz.call48 rfl (fun C => ?_); simp only [go_sem, st0, Tryz.ntmps48]
 cases h0 : aV f.fName 1
 ·have q0 := @h0; refine qY (aB f.fName) ?_
  exact aA ⟨⟨_, rfl, by simp only [go_sem, fdT, h0, if_false, Bool.false_eq_true]⟩, trivial⟩
 by_cases h1 : f.fKind = 1
 ·have q0 := @h0; have q1 := @h1; have q2 := @decide_true; have q3 := @m1; have q4 := @m2; refine a0h (aB f.fName) ?_
  exact aA ⟨⟨_, rfl, by simp only [go_sem, fdT, h0, h1, if_true]⟩, trivial⟩
 by_cases h2 : f.fKind = 2
 ·have q0 := @h0; have q1 := @h1; have q2 := @h2; have q3 := @decide_true; have q4 := @decide_false; have q5 := @m1; have q6 := @m3; refine a6d (aB f.fName) ?_
  exact aA ⟨⟨_, rfl, by simp only [go_sem, fdT, h0, h1, h2, if_true, if_false]⟩, trivial⟩
 ·have q0 := @h0; have q1 := @h1; have q2 := @h2; have q3 := @decide_true; have q4 := @decide_false; refine a0h (aB f.fName) ?_
  exact aA ⟨⟨_, rfl, by simp only [go_sem, fdT, h0, h1, h2, if_true, if_false]⟩, trivial⟩
def drT (d : TDir) : ByteArray := (⟨#[100, 105, 114, 32]⟩ : ByteArray) ++ d.fName ++ ⟨#[32]⟩ ++ qtx d.fQuery
def nxT (n : Int) : ByteArray := (⟨#[110, 101, 120, 116, 32]⟩ : ByteArray) ++ bU n
def lnA (x : TSnapshot) : List ByteArray := x.fStore.fSchema.map fdT
def lnB (x : TSnapshot) : List ByteArray := lnA x ++ [nxT x.fStore.fNextID]
def lnC (x : TSnapshot) : List ByteArray := lnB x ++ x.fStore.fFiles.map xL
noncomputable def lnX (x : TSnapshot) : List ByteArray := if gZ x then lnC x ++ x.fDirs.map drT else []
theorem a1B {α β : Type} (f : α → β) (l : List α) (k : Nat) (h : k < l.length) : (l.take (k + 1)).map f = (l.take k).map f ++ [f l[k]] := by
 rw [List.take_succ_eq_append_getElem h, List.map_append]; rfl
structure SmX (x : TSnapshot) : Prop where
 wf : a2a x
 sm : bM x ≤ 1048576
theorem SmX.lens {x : TSnapshot} (h : SmX x) : x.fStore.fSchema.length + x.fStore.fFiles.length + x.fDirs.length ≤ 1048576 := by
 have := h.sm
 unfold bM eD bB iR jR at this
 omega
theorem SmX.field {x : TSnapshot} (h : SmX x) {k : Nat} (hk : k < x.fStore.fSchema.length) : x.fStore.fSchema[k].fName.size ≤ 4300000 := by
 have h1 := h.sm
 have h2 := eT lW x.fStore.fSchema hk
 unfold bM eD bB at h1
 have e : lW x.fStore.fSchema[k] = x.fStore.fSchema[k].fName.size := rfl
 omega
theorem SmX.file {x : TSnapshot} (h : SmX x) {k : Nat} (hk : k < x.fStore.fFiles.length) : fG x.fStore.fFiles[k] ≤ 1048576 ∧ a0j x.fStore.fFiles[k] := by
 have h1 := h.sm
 have h2 := eT fG x.fStore.fFiles hk
 unfold bM eD iR at h1
 exact ⟨by omega, h.wf.1.2.1.2 _ (List.getElem_mem hk)⟩
theorem SmX.dir {x : TSnapshot} (h : SmX x) {k : Nat} (hk : k < x.fDirs.length) : x.fDirs[k].fName.size ≤ 1048576 ∧ wNodeS x.fDirs[k].fQuery ≤ 1048576 ∧ ∀ n ∈ x.fDirs[k].fQuery, inR .i64 n.fValue.fInt := by
 have h1 := h.sm
 have h2 := eT nZ x.fDirs hk
 unfold bM jR at h1
 have e : nZ x.fDirs[k] = x.fDirs[k].fName.size + wNodeS x.fDirs[k].fQuery := rfl
 exact ⟨by omega, by omega, fun n hn => ((h.wf.2.2 _ (List.getElem_mem hk)).2.2 n hn).2.2.2.2.2.1⟩
theorem a1C (x : TSnapshot) (hx : SmX x) : FnC Tryz.prog 21 [jC x] (.o (.w 9 1 ((lnX x).map dL))) := by
 have hl := hx.lens
 have la : (lnA x).length = x.fStore.fSchema.length := by simp [lnA]
 have lb : (lnB x).length = x.fStore.fSchema.length + 1 := by simp [lnB, la]
 have lc : (lnC x).length = x.fStore.fSchema.length + 1 + x.fStore.fFiles.length := by simp [lnC, lb]
 have hb : lnA x ++ [nxT x.fStore.fNextID] = lnB x := rfl
 have hc : lnB x ++ x.fStore.fFiles.map xL = lnC x := rfl
 have ha : x.fStore.fSchema.map fdT = lnA x := rfl
 have cn := fO x.fStore.fNextID hx.wf.1.2.2
 have zn := mW x.fStore.fNextID hx.wf.1.2.2
 have e1 : (⟨#[110, 101, 120, 116, 32]⟩ : ByteArray).size = 5 := rfl
 have mn : (⟨#[110, 101, 120, 116, 32]⟩ : ByteArray).size + (bU x.fStore.fNextID).size ≤ maxLen := by unfold maxLen; omega
 have en : (⟨#[110, 101, 120, 116, 32]⟩ : ByteArray) ++ bU x.fStore.fNextID = nxT x.fStore.fNextID := rfl
 have g1 : (lnA x).length + 1 ≤ 140737488355328 := by omega
 have g2 : ((lnA x).length + 1) * 16 ≤ 140737488355328 := by omega
 have cf : ∀ (k : Nat) (h : k < x.fStore.fSchema.length), FnC Tryz.prog 48 [b1W x.fStore.fSchema[k]] (os (fdT x.fStore.fSchema[k])) := fun k h => a4m _ (hx.field h)
 have cg : ∀ (k : Nat) (h : k < x.fStore.fFiles.length), FnC Tryz.prog 50 [a0I x.fStore.fFiles[k]] (os (xL x.fStore.fFiles[k])) := fun k h => xM _ (hx.file h).2 (hx.file h).1
 have cd : ∀ (k : Nat) (h : k < x.fDirs.length), FnC Tryz.prog 51 [.o (.d (.sl (x.fDirs[k].fQuery.map bH)))] (os (qtx x.fDirs[k].fQuery)) := fun k h => wM _ (hx.dir h).2.1 (hx.dir h).2.2
 refine ent Tryz.func21 rfl Tryz.call21 rfl (fun C => ?_); simp only [go_sem, st0, Tryz.ntmps21]
 cases h0 : gZ x
 ·have fin : lnX x = [] := by unfold lnX; rw [h0]; rfl
  have q0 := @h0; refine qY (oO x hx.sm) ?_
  exact aA ⟨⟨_, rfl, by simp only [go_sem, fin]⟩, trivial⟩
 have fin : lnC x ++ x.fDirs.map drT = lnX x := by unfold lnX; rw [h0]; rfl
 have q0 := @h0; refine qY (oO x hx.sm) ?_
 refine dB (α := Nat) (fun k => [(3, .o (.s 1)), (13, .o .u), (18, oi k)]) (fun k => [(1, .row 9 1 (((x.fStore.fSchema.take k).map fdT).map dL) true)]) (fun k => k ≤ x.fStore.fSchema.length) (fun k => x.fStore.fSchema.length - k) 0 (fun _ => ?_) ?_ ?_ (fun k hk => ?_)
 ·simp only [go_sem]
 ·simp only [go_sem]; simp
 ·simp
 simp only [go_sem]
 refine aD ?_
 refine cnd rfl (fun h => ?_) (fun h => ?_)
 ·simp only [decide_eq_true_eq, Int.ofNat_lt] at h
  have hn := a1B fdT x.fStore.fSchema k h
  have l1 : ((x.fStore.fSchema.take k).map fdT).length = k := by simp; omega
  have c := cf k h
  generalize (x.fStore.fSchema.take k).map fdT = l at *
  have q1 : l.length + 1 ≤ 140737488355328 := by omega
  have q2 : (l.length + 1) * 16 ≤ 140737488355328 := by omega
  have q0 := @h; have q1 := @q1; have q2 := @q2; have q3 := @gI; refine a0X c ?_
  refine aQ (k + 1) ?_ ?_ ?_
  ·simp only [go_sem, hn, List.map_append]; simp [dL]
  ·exact h
  ·omega
 simp only [decide_eq_false_iff_not] at h
 have e : k = x.fStore.fSchema.length := by omega
 subst e
 rw [List.take_length, ha]
 have q0 := @mn; have q1 := @en; have q2 := @g1; have q3 := @g2; have q4 := @gI; refine a0h cn ?_
 refine dB (α := Nat) (fun k => [(3, .o (.s 1)), (35, .o .u), (40, oi k)]) (fun k => [(1, .row 9 1 ((lnB x ++ (x.fStore.fFiles.take k).map xL).map dL) true)]) (fun k => k ≤ x.fStore.fFiles.length) (fun k => x.fStore.fFiles.length - k) 0 (fun _ => ?_) ?_ ?_ (fun k hk => ?_)
 ·simp only [go_sem]
 ·simp only [go_sem, ← hb, List.map_append]; simp [dL]
 ·simp
 simp only [go_sem]
 refine aD ?_
 refine cnd rfl (fun h => ?_) (fun h => ?_)
 ·simp only [decide_eq_true_eq, Int.ofNat_lt] at h
  have hn := a1B xL x.fStore.fFiles k h
  have l1 : (lnB x ++ (x.fStore.fFiles.take k).map xL).length = x.fStore.fSchema.length + 1 + k := by rw [List.length_append, lb]; simp; omega
  have hn2 : lnB x ++ (x.fStore.fFiles.take (k + 1)).map xL = (lnB x ++ (x.fStore.fFiles.take k).map xL) ++ [xL x.fStore.fFiles[k]] := by rw [hn, List.append_assoc]
  have c := cg k h
  generalize lnB x ++ (x.fStore.fFiles.take k).map xL = l at *
  have q1 : l.length + 1 ≤ 140737488355328 := by omega
  have q2 : (l.length + 1) * 16 ≤ 140737488355328 := by omega
  have q0 := @h; have q1 := @q1; have q2 := @q2; have q3 := @gI; refine a0X c ?_
  refine aQ (k + 1) ?_ ?_ ?_
  ·simp only [go_sem, hn2]; rw [List.map_append]; simp [dL]
  ·exact h
  ·omega
 simp only [decide_eq_false_iff_not] at h
 have e : k = x.fStore.fFiles.length := by omega
 subst e
 rw [List.take_length, hc]
 refine aD ?_
 refine dB (α := Nat) (fun k => [(3, .o (.s 1)), (53, oi k)]) (fun k => [(1, .row 9 1 ((lnC x ++ (x.fDirs.take k).map drT).map dL) true)]) (fun k => k ≤ x.fDirs.length) (fun k => x.fDirs.length - k) 0 (fun _ => ?_) ?_ ?_ (fun k hk => ?_)
 ·simp only [go_sem]
 ·simp only [go_sem]; simp
 ·simp
 simp only [go_sem]
 refine aD ?_
 refine cnd rfl (fun h => ?_) (fun h => ?_)
 ·simp only [decide_eq_true_eq, Int.ofNat_lt] at h
  have hn := a1B drT x.fDirs k h
  have l1 : (lnC x ++ (x.fDirs.take k).map drT).length = x.fStore.fSchema.length + 1 + x.fStore.fFiles.length + k := by rw [List.length_append, lc]; simp; omega
  have hn2 : lnC x ++ (x.fDirs.take (k + 1)).map drT = (lnC x ++ (x.fDirs.take k).map drT) ++ [drT x.fDirs[k]] := by rw [hn, List.append_assoc]
  have c := cd k h
  have hd := hx.dir h
  have zq := b1h x.fDirs[k].fQuery hd.2.2
  have z1 : (⟨#[100, 105, 114, 32]⟩ : ByteArray).size = 4 := rfl
  have z2 : (⟨#[32]⟩ : ByteArray).size = 1 := rfl
  have m1 : (⟨#[100, 105, 114, 32]⟩ : ByteArray).size + x.fDirs[k].fName.size ≤ maxLen := by unfold maxLen; omega
  have m2 : ((⟨#[100, 105, 114, 32]⟩ : ByteArray) ++ x.fDirs[k].fName).size + (⟨#[32]⟩ : ByteArray).size ≤ maxLen := by unfold maxLen; simp only [ByteArray.size_append]; omega
  have m3 : ((⟨#[100, 105, 114, 32]⟩ : ByteArray) ++ x.fDirs[k].fName ++ ⟨#[32]⟩).size + (qtx x.fDirs[k].fQuery).size ≤ maxLen := by unfold maxLen; simp only [ByteArray.size_append]; omega
  have ed : drT x.fDirs[k] = (⟨#[100, 105, 114, 32]⟩ : ByteArray) ++ x.fDirs[k].fName ++ ⟨#[32]⟩ ++ qtx x.fDirs[k].fQuery := rfl
  rw [ed] at hn2
  generalize lnC x ++ (x.fDirs.take k).map drT = l at *
  have q1 : l.length + 1 ≤ 140737488355328 := by omega
  have q2 : (l.length + 1) * 16 ≤ 140737488355328 := by omega
  have qH := aI @h (aI @q1 (aI @q2 (aI @m1 (aI @m2 (aI @m3 @gI))))); repeat' (with_reducible first | refine nY ?_ | (refine mX ?_; try simp only [go_sem, qH]) | refine kD ?_ | (apply rE [7,9,10,11] [11] [0,1,2,3,4,5,6] [0,1,2,3,4,5,6] ((.c 7 [8] [0,1,2,3,4,8] (.c 9 [] [0] (.c 10 [] [] (.c 11 [] [] .n .n) .n) .n) .n)) (by simp only [go_sem]; rfl) (by simp only [go_sem]; rfl) (by simp only [go_sem]; rfl) (by decide +kernel); (focus simp only [go_sem]; done)) | exact bA | refine aM (uX ?_) ?_ | refine aN (aX ?_) ?_ | refine aP (aX ?_) ?_ | exact bD | exact oH | exact uB | refine rD ?_ | refine cP c ?_ | refine aO ?_ | fail)
  refine aQ (k + 1) ?_ ?_ ?_
  ·simp only [go_sem, hn2]; rw [List.map_append]; simp [dL]
  ·exact h
  ·omega
 simp only [decide_eq_false_iff_not] at h
 have e : k = x.fDirs.length := by omega
 subst e
 rw [List.take_length, fin]
 refine aD ?_
 exact aA ⟨⟨_, rfl, by simp only [go_sem]⟩, trivial⟩
theorem a5x (x : TSnapshot) (hx : SmX x) : FnC Tryz.prog 21 [jC x] (.o (.d (.sl ((lnX x).map dL)))) := (a1C x hx).pu (by simp only [go_sem, and_self])
end Go.Proofs.YtgpoopjfkplilaaGreatDoor
end
section
set_option maxRecDepth 100000
namespace Go.Proofs.YtgpoopjfkplilaaGreatDoor
open Go Go.Sx Go.Wd Go.RowKit Go.Proofs
theorem a0w : ∀ (l m : List UInt8) (a n : Nat), Lib.decFrom a l = some n → Lib.decFrom a (l ++ m) = Lib.decFrom n m
 | [], m, a, n, h => by cases h; rfl
 | b :: l, m, a, n, h => by
  simp only [Lib.decFrom, List.cons_append] at h ⊢
  cases hd : Lib.digitVal b with
  | none => rw [hd] at h; cases h
  | some d => rw [hd] at h; exact a0w l m _ n h
theorem a5t {d : Nat} (h : d < 10) : Lib.digitVal (UInt8.ofNat (48 + d)) = some d := by
 have : (UInt8.ofNat (48 + d)).toNat = 48 + d := by rw [UInt8.toNat_ofNat']; omega
 unfold Lib.digitVal
 rw [this, if_pos (by omega)]
 congr 1; omega
theorem a4i : ∀ (n u : Nat), u ≤ n → Lib.decFrom 0 (zW u) = some u := by
 intro n
 induction n with
 | zero => intro u h; have : u = 0 := by omega
           subst this; rfl
 | succ n ih =>
  intro u h
  by_cases h0 : u = 0
  ·subst h0; rfl
  ·rw [zX h0, a0w _ _ _ _ (ih (u / 10) (by omega))]
   simp only [Lib.decFrom, a5t (Nat.mod_lt u (by omega : 0 < 10))]
   congr 1; omega
theorem a1w {n : Int} (h : 0 ≤ n) : Lib.itoa n = Lib.decDigits n.toNat := by
 unfold Lib.itoa
 rw [if_neg (by omega)]
theorem decDigits_digs (u : Nat) : Lib.decDigits u = if u = 0 then [48] else zW u := by
 unfold zW
 split
 ·rename_i h; subst h; simp [Lib.decDigits]
 ·rfl
theorem mD {n : Int} (h : 0 ≤ n) : Lib.decFrom 0 (Lib.itoa n) = some n.toNat := by
 rw [a1w h, decDigits_digs]
 split
 ·rename_i e; rw [e]; rfl
 ·exact a4i _ _ (Nat.le_refl _)
theorem a8r {n : Int} (h : 0 ≤ n) : Lib.itoa n ≠ [] := by
 rw [a1w h, decDigits_digs]
 split
 ·simp
 ·rename_i e; rw [zX e]; simp
theorem wK {n : Int} (h : 0 ≤ n) : ∀ b ∈ Lib.itoa n, 48 ≤ b.toNat ∧ b.toNat ≤ 57 := by
 intro b hb
 obtain ⟨k, hk⟩ := List.getElem?_of_mem hb
 obtain ⟨d, hd⟩ := Lib.digit_of_decFrom _ _ _ (mD h) k b hk
 have := Lib.digitVal_eq hd
 omega
theorem jS (n : Int) : (bU n).data.toList = Lib.itoa n := by simp [bU]
theorem a9M {n m : Int} (hn : 0 ≤ n) (hm : 0 ≤ m) (h : bU n = bU m) : n = m := by
 have e : Lib.itoa n = Lib.itoa m := by rw [← jS, h, jS]
 have h1 := mD hn
 rw [e, mD hm] at h1
 have := Option.some.inj h1
 omega
theorem a5u {n : Int} (h : 0 ≤ n) (h2 : n ≤ 1000000000) : (bU n).size ≤ 10 := by
 have e : (bU n).size = (Lib.itoa n).length := rfl
 rw [e, a1w h, decDigits_digs]
 split
 ·simp
 ·exact a1D 10 _ (by omega)
open Classical in
noncomputable def pU (s : ByteArray) : Int × Bool := if h : ∃ n : Int, (0 ≤ n ∧ n ≤ 1000000000) ∧ bU n = s then (Classical.choose h, true) else (0, false)
theorem tF {n : Int} {s : ByteArray} (h0 : 0 ≤ n) (h1 : n ≤ 1000000000) (h : bU n = s) : pU s = (n, true) := by
 have hx : ∃ n : Int, (0 ≤ n ∧ n ≤ 1000000000) ∧ bU n = s := ⟨n, ⟨h0, h1⟩, h⟩
 unfold pU
 rw [dif_pos hx]
 have hc := Classical.choose_spec hx
 rw [a9M hc.1.1 h0 (hc.2.trans h.symm)]
theorem a8s {s : ByteArray} (h : ∀ n : Int, 0 ≤ n → n ≤ 1000000000 → bU n ≠ s) : pU s = (0, false) := by
 unfold pU
 rw [dif_neg]
 rintro ⟨n, ⟨h0, h1⟩, h2⟩
 exact h n h0 h1 h2
theorem b6p (s : ByteArray) : 0 ≤ (pU s).1 ∧ (pU s).1 ≤ 1000000000 := by
 unfold pU
 split
 ·rename_i h; exact (Classical.choose_spec h).1
 ·simp
theorem b1d {s : ByteArray} {b : UInt8} (hb : b ∈ s.data.toList) (h : b.toNat < 48 ∨ 57 < b.toNat) : pU s = (0, false) := a8s fun n h0 _ e => by
 rw [← e, jS] at hb
 have := wK h0 b hb
 omega
def v0 : TValue := ⟨0, 0, ⟨#[]⟩⟩
noncomputable def pW (s : ByteArray) : TValue := if (pU s).2 then ⟨1, (pU s).1, ⟨#[]⟩⟩ else if s = ⟨#[45]⟩ then v0 else ⟨2, 0, s⟩
noncomputable def pV (s : ByteArray) : TValue × Bool := if dA (pW s) then (pW s, true) else (v0, false)
theorem a8t (s : ByteArray) : (pV s).1.fStr.size ≤ s.size := by
 have e0 : (⟨#[]⟩ : ByteArray).size = 0 := rfl
 have h : (pW s).fStr.size ≤ s.size := by
  unfold pW
  split
  ·simp only; omega
  ·split
   ·show v0.fStr.size ≤ _; simp only [v0]; omega
   ·exact Nat.le_refl _
 unfold pV
 split
 ·exact h
 ·show v0.fStr.size ≤ _; simp only [v0]; omega
theorem a1x {s : ByteArray} {n : Int} (h : aV s n = true) : s.data.toList ≠ [] ∧ ∀ b ∈ s.data.toList, 97 ≤ b.toNat ∧ b.toNat ≤ 122 := by
 unfold aV inB kZ at h
 simp only [Bool.and_eq_true, decide_eq_true_eq, List.all_eq_true, List.mem_range] at h
 obtain ⟨h1, h2, h3⟩ := h
 have hl : s.size = s.data.toList.length := rfl
 refine ⟨fun e => by have h0 : s.size = 0 := by rw [hl, e]; rfl
                     omega, fun b hb => ?_⟩
 obtain ⟨k, hk⟩ := List.getElem?_of_mem hb
 have hlt : k < s.size := by rw [hl]; exact (List.getElem?_eq_some_iff.1 hk).1
 have := h1 k hlt
 unfold low inB gP at this
 rw [List.getD_eq_getElem?_getD, hk] at this
 simp at this
 omega
theorem b4L {v : TValue} (h : dA v = true) (hk : v.fKind ≠ 0) : pV (jL v) = (v, true) := by
 obtain ⟨k, n, s⟩ := v
 have e : pW (jL ⟨k, n, s⟩) = ⟨k, n, s⟩ := by
  have h' := h
  unfold dA at h'
  simp only at h' hk
  rw [if_neg hk] at h'
  by_cases h1 : k = 1
  ·subst h1
   simp [inB] at h'
   obtain ⟨⟨a1, a2⟩, a3⟩ := h'
   have e : jL ⟨1, n, s⟩ = bU n := by simp [jL, h]
   have ep := tF a1 (by omega) (e.symm)
   unfold pW
   rw [ep, a3]; rfl
  ·rw [if_neg h1] at h'
   by_cases h2 : k = 2
   ·subst h2
    simp at h'
    obtain ⟨a1, a2⟩ := h'
    have e : jL ⟨2, n, s⟩ = s := by simp [jL, h]
    obtain ⟨b1, b2⟩ := a1x a1
    obtain ⟨b, hb⟩ : ∃ b, b ∈ s.data.toList := List.exists_mem_of_ne_nil _ b1
    have hb2 := b2 b hb
    have ep : pU s = (0, false) := b1d hb (.inr (by omega))
    have hne : s ≠ ⟨#[45]⟩ := by
     rintro rfl
     simp at hb
     subst hb
     simp at hb2
    unfold pW
    rw [e, ep, a2]
    simp [hne]
   ·rw [if_neg h2] at h'; cases h'
 unfold pV
 rw [e, if_pos h]
def vT (w : ByteArray) : Int := if w = kw 1 then 1 else if w = kw 2 then 2 else if w = kw 3 then 3 else if w = kw 4 then 4 else if w = kw 5 then 5 else if w = kw 6 then 6 else if w = kw 7 then 7 else if w = kw 8 then 8 else if w = kw 9 then 9 else 0
theorem b3e (w : ByteArray) : 0 ≤ vT w ∧ vT w ≤ 9 := by
 unfold vT
 repeat' split
 all_goals omega
theorem a1y : vT ⟨#[]⟩ = 0 := by decide
def hd (l : List ByteArray) : ByteArray := l.headD ⟨#[]⟩
noncomputable def nodeI : Nat → List ByteArray → List TNode → Bool × List ByteArray × List TNode
 | 0, fs, ns => (false, fs, ns)
 | k + 1, fs, ns =>
  let op := vT (hd fs)
  let f1 := fs.tail
  if op = 2 ∨ op = 8 ∨ op = 9 then (true, f1.tail, ns ++ [⟨op, 0, 0, hd f1, v0⟩])
  else if op = 3 ∨ op = 4 then ((pV (hd f1.tail)).2, f1.tail.tail, ns ++ [⟨op, 0, 0, hd f1, (pV (hd f1.tail)).1⟩])
  else if op = 5 then
   let r := nodeI k f1 ns
   (r.1, r.2.1, r.2.2 ++ [⟨5, (r.2.2.length : Int) - 1, 0, ⟨#[]⟩, v0⟩])
  else if op = 6 ∨ op = 7 then
   let r := nodeI k f1 ns
   if r.1 then
    let t := nodeI k r.2.1 r.2.2
    (t.1, t.2.1, t.2.2 ++ [⟨op, (r.2.2.length : Int) - 1, (t.2.2.length : Int) - 1, ⟨#[]⟩, v0⟩])
   else (false, r.2.1, r.2.2 ++ [⟨op, (r.2.2.length : Int) - 1, (r.2.2.length : Int) - 1, ⟨#[]⟩, v0⟩])
  else (decide (op ≠ 0), f1, ns ++ [⟨op, 0, 0, ⟨#[]⟩, v0⟩])
def part (p : List ByteArray) (i : Nat) : ByteArray := p.getD i ⟨#[]⟩
noncomputable def a8u : Nat → List ByteArray → Nat → List TNode → Int → List TNode × Nat
 | 0, _, _, q, _ => (q, 0)
 | k + 1, p, i, q, deep =>
  let op := vT (part p i)
  if op = 0 ∨ 9 < deep ∨ 9 < q.length then (q, 0)
  else if op = 2 ∨ op = 8 ∨ op = 9 then (q ++ [⟨op, 0, 0, part p (i + 1), v0⟩], 2)
  else if op = 3 ∨ op = 4 then (q ++ [⟨op, 0, 0, part p (i + 1), (pV (part p (i + 2))).1⟩], 3)
  else if op = 5 then
   let r := a8u k p (i + 1) q (deep + 1)
   if r.2 = 0 then (r.1, 0) else (r.1 ++ [⟨5, (r.1.length : Int) - 1, 0, ⟨#[]⟩, v0⟩], 1 + r.2)
  else if op = 6 ∨ op = 7 then
   let r := a8u k p (i + 1) q (deep + 1)
   if r.2 = 0 then (r.1, 0) else
    let t := a8u k p (i + (1 + r.2)) r.1 (deep + 1)
    if t.2 = 0 then (t.1, 0) else (t.1 ++ [⟨op, (r.1.length : Int) - 1, (t.1.length : Int) - 1, ⟨#[]⟩, v0⟩], 1 + r.2 + t.2)
  else (q ++ [⟨op, 0, 0, ⟨#[]⟩, v0⟩], 1)
def tk (q : List TNode) : Nat → Nat → List ByteArray
 | 0, _ => []
 | k + 1, i => match q[i]? with
  | none => []
  | some n =>
   if n.fOp = 2 ∨ n.fOp = 8 ∨ n.fOp = 9 then [kw n.fOp, n.fName]
   else if n.fOp = 3 ∨ n.fOp = 4 then [kw n.fOp, n.fName, jL n.fValue]
   else if n.fOp = 5 then kw 5 :: tk q k n.fLeft.toNat
   else if n.fOp = 6 ∨ n.fOp = 7 then kw n.fOp :: (tk q k n.fLeft.toNat ++ tk q k n.fRight.toNat)
   else [kw 1]
def po (q : List TNode) : Nat → Nat → Nat → List TNode
 | 0, _, _ => []
 | k + 1, i, o => match q[i]? with
  | none => []
  | some n =>
   if n.fOp = 5 then po q k n.fLeft.toNat o ++ [⟨5, ((o + (po q k n.fLeft.toNat o).length : Nat) : Int) - 1, 0, ⟨#[]⟩, v0⟩]
   else if n.fOp = 6 ∨ n.fOp = 7 then
    po q k n.fLeft.toNat o ++ po q k n.fRight.toNat (o + (po q k n.fLeft.toNat o).length) ++
     [⟨n.fOp, ((o + (po q k n.fLeft.toNat o).length : Nat) : Int) - 1, ((o + (po q k n.fLeft.toNat o).length + (po q k n.fRight.toNat (o + (po q k n.fLeft.toNat o).length)).length : Nat) : Int) - 1, ⟨#[]⟩, v0⟩]
   else [n]
theorem a8v {v : TValue} (h : eV v = true) : v = v0 := by
 obtain ⟨k, n, s⟩ := v
 unfold eV at h
 simp only [Bool.and_eq_true, decide_eq_true_eq] at h
 obtain ⟨rfl, rfl, rfl⟩ := h
 rfl
theorem zR {n : TNode} (h : jX n = true) : n.fName = ⟨#[]⟩ ∧ n.fValue = v0 := by
 unfold jX at h
 simp only [Bool.and_eq_true, decide_eq_true_eq] at h
 exact ⟨h.1, a8v h.2⟩
theorem mJ {n : TNode} (h : iH n = true) : n.fLeft = 0 ∧ n.fRight = 0 := by
 unfold iH at h
 simp only [Bool.and_eq_true, decide_eq_true_eq] at h
 exact h
theorem node_shape {n : TNode} {i : Nat} (h : bF n i = true) :
    (n.fOp = 1 ∧ n = ⟨1, 0, 0, ⟨#[]⟩, v0⟩) ∨
    ((n.fOp = 2 ∨ n.fOp = 8 ∨ n.fOp = 9) ∧ n = ⟨n.fOp, 0, 0, n.fName, v0⟩ ∧ aV n.fName 6 = true) ∨
    ((n.fOp = 3 ∨ n.fOp = 4) ∧ n = ⟨n.fOp, 0, 0, n.fName, n.fValue⟩ ∧ dA n.fValue = true ∧ n.fValue.fKind ≠ 0 ∧ aV n.fName 6 = true) ∨
    (n.fOp = 5 ∧ ∃ l : Nat, n.fLeft = l ∧ l < i) ∨
    ((n.fOp = 6 ∨ n.fOp = 7) ∧ ∃ l m : Nat, n.fLeft = l ∧ l < i ∧ n.fRight = m ∧ m < i) := by
 have up : ∀ s : ByteArray, aV s 1 = true → aV s 6 = true := fun s h => by
  unfold aV inB at h ⊢
  simp only [Bool.and_eq_true, decide_eq_true_eq] at h ⊢
  exact ⟨h.1, h.2.1, by omega⟩
 have hop := qB h
 have h0 := h
 unfold bF at h
 rcases hop with o | o | o | o | o | o | o | o | o
 ·simp [o] at h
  obtain ⟨a1, a2⟩ := mJ h.1
  obtain ⟨b1, b2⟩ := zR h.2
  exact .inl ⟨o, by obtain ⟨_, _, _, _, _⟩ := n; simp only at o a1 a2 b1 b2; rw [o, a1, a2, b1, b2]⟩
 ·simp [o] at h
  obtain ⟨a1, a2⟩ := mJ h.2.1
  have b2 := a8v h.2.2
  exact .inr (.inl ⟨.inl o, by obtain ⟨_, _, _, _, _⟩ := n; simp only at a1 a2 b2 ⊢; rw [a1, a2, b2], up _ h.1⟩)
 ·simp [o] at h
  obtain ⟨a1, a2⟩ := mJ h.2.2.2
  exact .inr (.inr (.inl ⟨.inl o, by obtain ⟨_, _, _, _, _⟩ := n; simp only at a1 a2 ⊢; rw [a1, a2], h.2.1, h.2.2.1, up _ h.1⟩))
 ·simp [o] at h
  obtain ⟨a1, a2⟩ := mJ h.2.2.2
  exact .inr (.inr (.inl ⟨.inr o, by obtain ⟨_, _, _, _, _⟩ := n; simp only at a1 a2 ⊢; rw [a1, a2], h.2.1, by rw [h.2.2.1]; decide, up _ h.1⟩))
 ·obtain ⟨l, hl, hli⟩ := fM h0 (.inl o)
  exact .inr (.inr (.inr (.inl ⟨o, l, hl, hli⟩)))
 ·obtain ⟨l, hl, hli⟩ := fM h0 (.inr (.inl o))
  obtain ⟨m, hr2, hmi⟩ := jE h0 (.inl o)
  exact .inr (.inr (.inr (.inr ⟨.inl o, l, m, hl, hli, hr2, hmi⟩)))
 ·obtain ⟨l, hl, hli⟩ := fM h0 (.inr (.inr o))
  obtain ⟨m, hr2, hmi⟩ := jE h0 (.inr o)
  exact .inr (.inr (.inr (.inr ⟨.inr o, l, m, hl, hli, hr2, hmi⟩)))
 ·simp [o] at h
  obtain ⟨a1, a2⟩ := mJ h.2.1
  have b2 := a8v h.2.2
  exact .inr (.inl ⟨.inr (.inl o), by obtain ⟨_, _, _, _, _⟩ := n; simp only at a1 a2 b2 ⊢; rw [a1, a2, b2], h.1⟩)
 ·simp [o] at h
  obtain ⟨a1, a2⟩ := mJ h.2.1
  have b2 := a8v h.2.2
  exact .inr (.inl ⟨.inr (.inr o), by obtain ⟨_, _, _, _, _⟩ := n; simp only at a1 a2 b2 ⊢; rw [a1, a2, b2], h.1⟩)
def sz (q : List TNode) : Nat → Nat → Nat
 | 0, _ => 0
 | k + 1, i => match q[i]? with
  | none => 0
  | some n => if n.fOp = 5 then sz q k n.fLeft.toNat + 1 else if n.fOp = 6 ∨ n.fOp = 7 then sz q k n.fLeft.toNat + sz q k n.fRight.toNat + 1 else 1
theorem a7j (q : List TNode) : ∀ k i, (tk q k i).length ≤ 2 * sz q k i + 1
 | 0, _ => by simp [tk]
 | k + 1, i => by
  unfold tk sz
  split
  ·simp
  ·rename_i n _
   have h1 := a7j q k n.fLeft.toNat
   have h2 := a7j q k n.fRight.toNat
   repeat' split
   all_goals
    simp only [List.length_cons, List.length_append, List.length_nil]
    omega
theorem a8w {q : List TNode} {k i : Nat} (h : i < k) (hk : k ≤ q.length) : tk q k i ≠ [] := by
 cases k with
 | zero => omega
 | succ k =>
  unfold tk
  rw [List.getElem?_eq_getElem (by omega)]
  simp only
  repeat' split
  all_goals simp
theorem a8x (pre l : List ByteArray) (j : Nat) : part (pre ++ l) (pre.length + j) = part l j := by
 simp [part, List.getD_eq_getElem?_getD, List.getElem?_append_right]
end Go.Proofs.YtgpoopjfkplilaaGreatDoor
end
section
set_option maxRecDepth 100000
namespace Go.Proofs.YtgpoopjfkplilaaGreatDoor
open Go Go.Sx Go.Wd Go.RowKit Go.Proofs
def wd (w : ByteArray) : Prop := w.data.toList ≠ [] ∧ (∀ b ∈ w.data.toList, 33 ≤ b.toNat ∧ b.toNat ≤ 126) ∧ w.size ≤ 10
theorem a5r {o : Int} (h : 1 ≤ o ∧ o ≤ 9) : wd (kw o) := by
 rcases (by omega : o = 1 ∨ o = 2 ∨ o = 3 ∨ o = 4 ∨ o = 5 ∨ o = 6 ∨ o = 7 ∨ o = 8 ∨ o = 9) with rfl | rfl | rfl | rfl | rfl | rfl | rfl | rfl | rfl <;> exact ⟨by decide, by decide, by decide⟩
theorem a1c {s : ByteArray} (h : aV s 6 = true) : wd s := by
 obtain ⟨h1, h2⟩ := a1x h
 have := jD h
 exact ⟨h1, fun b hb => by have := h2 b hb; omega, by omega⟩
theorem a5s {s : ByteArray} (h : aV s 1 = true) : wd s := by
 obtain ⟨h1, h2⟩ := a1x h
 have := jD h
 exact ⟨h1, fun b hb => by have := h2 b hb; omega, by omega⟩
theorem xF {n : Int} (h0 : 0 ≤ n) (h1 : n ≤ 1000000000) : wd (bU n) := by
 refine ⟨by rw [jS]; exact a8r h0, fun b hb => ?_, a5u h0 h1⟩
 rw [jS] at hb
 have := wK h0 b hb
 omega
theorem b1a {v : TValue} (h : dA v = true) (hk : v.fKind ≠ 0) : wd (jL v) := by
 have h' := h
 unfold dA at h'
 rw [if_neg hk] at h'
 by_cases h1 : v.fKind = 1
 ·simp [h1, inB] at h'
  have e : jL v = bU v.fInt := by simp [jL, h, h1]
  rw [e]
  exact xF h'.1.1 (by omega)
 ·rw [if_neg h1] at h'
  by_cases h2 : v.fKind = 2
  ·simp [h2] at h'
   have e : jL v = v.fStr := by simp [jL, h, h2]
   rw [e]
   exact a1c h'.1
  ·rw [if_neg h2] at h'; cases h'
theorem b6m {w : ByteArray} (h : wd w) : w.data.toList ≠ [] ∧ ∀ b ∈ w.data.toList, Lib.isSp b = false := by
 refine ⟨h.1, fun b hb => ?_⟩
 have h1 := h.2.1 b hb
 unfold Lib.isSp
 simp only [Bool.or_eq_false_iff, beq_eq_false_iff_ne]
 have key : ∀ n : Nat, n < 33 → b ≠ UInt8.ofNat n := fun n hn e => by
  rw [e, UInt8.toNat_ofNat'] at h1; omega
 exact ⟨⟨⟨⟨⟨key 9 (by omega), key 10 (by omega)⟩, key 11 (by omega)⟩, key 12 (by omega)⟩, key 13 (by omega)⟩, key 32 (by omega)⟩
theorem oG (w : ByteArray) : cat 32 [w] = w := by
 apply lV; unfold cat; rw [List.map_cons, List.map_nil, Lib.join_one]
theorem fP (w : ByteArray) {ws : List ByteArray} (h : ws ≠ []) : cat 32 (w :: ws) = w ++ ⟨#[32]⟩ ++ cat 32 ws := by
 cases ws with
 | nil => exact absurd rfl h
 | cons y r =>
  apply lV
  unfold cat
  rw [List.map_cons, List.map_cons, a5v]
  simp
theorem b3a {a b : List ByteArray} (ha : a ≠ []) (hb : b ≠ []) : cat 32 (a ++ b) = cat 32 a ++ ⟨#[32]⟩ ++ cat 32 b := by
 induction a with
 | nil => exact absurd rfl ha
 | cons x a ih =>
  cases a with
  | nil => rw [oG]; exact fP x hb
  | cons y a =>
   rw [List.cons_append, fP x (by simp), ih (by simp), fP x (by simp)]
   simp only [ByteArray.append_assoc]
theorem xG {ws : List ByteArray} (h : ws ≠ []) : (cat 32 ws).size + 1 = zs ws := by
 induction ws with
 | nil => exact absurd rfl h
 | cons x a ih =>
  cases a with
  | nil => rw [oG, jA, wL]
  | cons y a =>
   have e : (⟨#[32]⟩ : ByteArray).size = 1 := rfl
   have := ih (by simp)
   rw [fP x (by simp), jA]
   simp only [ByteArray.size_append]
   omega
theorem a9L {ws : List ByteArray} (h : ∀ w ∈ ws, wd w) : ∀ b ∈ (cat 32 ws).data.toList, 32 ≤ b.toNat ∧ b.toNat ≤ 126 := by
 induction ws with
 | nil => intro b hb; simp [cat, Lib.join_nil] at hb
 | cons x a ih =>
  have hx := (h x (by simp)).2.1
  cases a with
  | nil =>
   rw [oG]
   intro b hb
   have := hx b hb
   omega
  | cons y a =>
   rw [fP x (by simp)]
   intro b hb
   simp only [ByteArray.data_append, Array.toList_append, List.mem_append] at hb
   rcases hb with (hb | hb) | hb
   ·have := hx b hb; omega
   ·simp at hb; subst hb; decide
   ·exact ih (fun w hw => h w (List.mem_cons_of_mem _ hw)) b hb
theorem b4v {ws : List ByteArray} (h : ∀ w ∈ ws, wd w) : zs ws ≤ 11 * ws.length := by
 induction ws with
 | nil => simp [zs]
 | cons x a ih =>
  have h1 := (h x (by simp)).2.2
  have h2 := ih (fun w hw => h w (List.mem_cons_of_mem _ hw))
  rw [jA, List.length_cons]; omega
def chB (s : ByteArray) (k : Nat) : Bool := inB (gP s k) 32 126
def a1v (s : ByteArray) : Bool := (List.range s.size).all (chB s)
theorem b3b {s : ByteArray} (h : ∀ b ∈ s.data.toList, 32 ≤ b.toNat ∧ b.toNat ≤ 126) : a1v s = true := by
 unfold a1v
 rw [List.all_eq_true]
 intro k hk
 have hk : k < s.data.toList.length := by have := List.mem_range.1 hk; exact this
 have := h _ (List.getElem_mem hk)
 unfold chB inB gP
 rw [List.getD_eq_getElem?_getD, List.getElem?_eq_getElem hk]
 generalize s.data.toList[k] = b at *
 simp
 omega
theorem b3c {s : ByteArray} (h : a1v s = true) {j : Nat} {b : UInt8} (hj : s.data.toList[j]? = some b) : 32 ≤ b.toNat ∧ b.toNat ≤ 126 := by
 unfold a1v at h
 rw [List.all_eq_true] at h
 have hlt : j < s.size := (List.getElem?_eq_some_iff.1 hj).1
 have := h j (List.mem_range.2 hlt)
 unfold chB inB gP at this
 rw [List.getD_eq_getElem?_getD, hj] at this
 simp at this
 omega
def sfO (s : ByteArray) : Bool := decide (s.size ≤ 600) && a1v s && decide ((flds s).length ≤ 24)
def sfL (s : ByteArray) : List ByteArray := if sfO s then flds s else []
theorem b4K {ws : List ByteArray} (h : ∀ w ∈ ws, wd w) (hl : ws.length ≤ 24) (h0 : ws ≠ []) : sfO (cat 32 ws) = true ∧ sfL (cat 32 ws) = ws := by
 have e := b1f ws (fun w hw => b6m (h w hw))
 have hc := b3b (a9L h)
 have hz := b4v h
 have hs := xG h0
 have ho : sfO (cat 32 ws) = true := by
  unfold sfO
  rw [e, hc]
  simp
  omega
 exact ⟨ho, by unfold sfL; rw [ho, e]; rfl⟩
theorem b1b (s : ByteArray) : zs (sfL s) ≤ s.size + 1 := by
 unfold sfL
 split
 ·exact zU s
 ·rw [wL]; omega
theorem a8p (s : ByteArray) : (sfL s).length ≤ 24 ∧ zs (sfL s) ≤ 601 := by
 unfold sfL
 split
 ·rename_i h
  unfold sfO at h
  simp only [Bool.and_eq_true, decide_eq_true_eq] at h
  have := zU s
  omega
 ·exact ⟨by simp, by rw [wL]; omega⟩
theorem b6n {q : List TNode} (hv : okQ q = true) : ∀ k i, i < k → k ≤ q.length → ∀ w ∈ tk q k i, wd w := by
 intro k
 induction k with
 | zero => intro i hi; omega
 | succ k ih =>
  intro i hi hk
  have hlt : i < q.length := by omega
  have hn := List.getElem?_eq_getElem hlt
  have hok := uH hv hn
  generalize q[i] = n at hn hok
  rcases node_shape hok with ⟨h, e⟩ | ⟨h, e, et⟩ | ⟨h, e, ev, ek, et⟩ | ⟨h, l, hl, hli⟩ | ⟨h, l, m, hl, hli, hm, hmi⟩
  ·have ht : tk q (k + 1) i = [kw 1] := by simp [tk, hn, h]
   rw [ht]
   intro w hw
   rw [List.mem_singleton.1 hw]; exact a5r (by omega)
  ·have ht : tk q (k + 1) i = [kw n.fOp, n.fName] := by simp [tk, hn, h]
   rw [ht]
   intro w hw
   simp only [List.mem_cons, List.not_mem_nil, or_false] at hw
   rcases hw with rfl | rfl
   ·exact a5r (by omega)
   ·exact a1c et
  ·have h2 : ¬ (n.fOp = 2 ∨ n.fOp = 8 ∨ n.fOp = 9) := by omega
   have ht : tk q (k + 1) i = [kw n.fOp, n.fName, jL n.fValue] := by simp [tk, hn, h, h2]
   rw [ht]
   intro w hw
   simp only [List.mem_cons, List.not_mem_nil, or_false] at hw
   rcases hw with rfl | rfl | rfl
   ·exact a5r (by omega)
   ·exact a1c et
   ·exact b1a ev ek
  ·have ht : tk q (k + 1) i = kw 5 :: tk q k l := by simp [tk, hn, h, hl]
   rw [ht]
   intro w hw
   rcases List.mem_cons.1 hw with rfl | hw
   ·exact a5r (by omega)
   ·exact ih l (by omega) (by omega) w hw
  ·have h2 : ¬ (n.fOp = 2 ∨ n.fOp = 8 ∨ n.fOp = 9) := by omega
   have h3 : ¬ (n.fOp = 3 ∨ n.fOp = 4) := by omega
   have h5 : n.fOp ≠ 5 := by omega
   have ht : tk q (k + 1) i = kw n.fOp :: (tk q k l ++ tk q k m) := by simp [tk, hn, h, h2, h3, h5, hl, hm]
   rw [ht]
   intro w hw
   rcases List.mem_cons.1 hw with rfl | hw
   ·exact a5r (by omega)
   ·rcases List.mem_append.1 hw with hw | hw
    ·exact ih l (by omega) (by omega) w hw
    ·exact ih m (by omega) (by omega) w hw
theorem b6o {q : List TNode} (hv : okQ q = true) : ∀ k i, i < k → k ≤ q.length → qt q k i = cat 32 (tk q k i) := by
 intro k
 induction k with
 | zero => intro i hi; omega
 | succ k ih =>
  intro i hi hk
  have hlt : i < q.length := by omega
  have hn := List.getElem?_eq_getElem hlt
  have hok := uH hv hn
  generalize q[i] = n at hn hok
  rcases node_shape hok with ⟨h, e⟩ | ⟨h, e, et⟩ | ⟨h, e, ev, ek, et⟩ | ⟨h, l, hl, hli⟩ | ⟨h, l, m, hl, hli, hm, hmi⟩
  ·have ht : tk q (k + 1) i = [kw 1] := by simp [tk, hn, h]
   rw [ht, oG]
   simp [qt, hn, h]
  ·have ht : tk q (k + 1) i = [kw n.fOp, n.fName] := by simp [tk, hn, h]
   rw [ht, fP _ (by simp), oG]
   rcases h with h | h | h <;> simp [qt, hn, h]
  ·have h2 : ¬ (n.fOp = 2 ∨ n.fOp = 8 ∨ n.fOp = 9) := by omega
   have ht : tk q (k + 1) i = [kw n.fOp, n.fName, jL n.fValue] := by simp [tk, hn, h, h2]
   rw [ht, fP _ (by simp), fP _ (by simp), oG]
   rcases h with h | h <;> simp [qt, hn, h, ByteArray.append_assoc]
  ·have ht : tk q (k + 1) i = kw 5 :: tk q k l := by simp [tk, hn, h, hl]
   rw [ht, fP _ (a8w (by omega) (by omega)), ← ih l (by omega) (by omega)]
   simp [qt, hn, h, hl]
  ·have h2 : ¬ (n.fOp = 2 ∨ n.fOp = 8 ∨ n.fOp = 9) := by omega
   have h3 : ¬ (n.fOp = 3 ∨ n.fOp = 4) := by omega
   have h5 : n.fOp ≠ 5 := by omega
   have ht : tk q (k + 1) i = kw n.fOp :: (tk q k l ++ tk q k m) := by simp [tk, hn, h, h2, h3, h5, hl, hm]
   have n1 := a8w (q := q) (k := k) (i := l) (by omega) (by omega)
   have n2 := a8w (q := q) (k := k) (i := m) (by omega) (by omega)
   rw [ht, fP _ (by simp [n1]), b3a n1 n2, ← ih l (by omega) (by omega), ← ih m (by omega) (by omega)]
   rcases h with h | h <;> simp [qt, hn, h, hl, hm, ByteArray.append_assoc]
noncomputable def pQI (s : ByteArray) : List TNode × Bool :=
 let r := nodeI ((sfL s).length + 10) (sfL s) []
 if sfO s && (r.1 && (r.2.1.isEmpty && okQ r.2.2)) then (r.2.2, true) else ([], false)
noncomputable def pQS (s : ByteArray) : List TNode × Bool :=
 let r := a8u 11 (sfL s) 0 [] 0
 if sfO s && (decide (r.2 = (sfL s).length) && (!decide (qtx r.1 = ⟨#[]⟩) && decide (qtx r.1 = cat 32 (sfL s)))) then (r.1, true) else ([], false)
def a4h (q : List TNode) : List ByteArray := tk q q.length (q.length - 1)
theorem a8q {q : List TNode} (hv : okQ q = true) : a4h q ≠ [] := by
 have := iI hv
 exact a8w (by omega) (Nat.le_refl _)
theorem b1c {q : List TNode} (hv : okQ q = true) : qtx q = cat 32 (a4h q) := by
 have := iI hv
 unfold qtx
 rw [if_pos hv]
 exact b6o hv _ _ (by omega) (Nat.le_refl _)
theorem b3d {q : List TNode} (hv : okQ q = true) : ∀ w ∈ a4h q, wd w := by
 have := iI hv
 exact b6n hv _ _ (by omega) (Nat.le_refl _)
end Go.Proofs.YtgpoopjfkplilaaGreatDoor
end
section
set_option maxRecDepth 100000
set_option maxHeartbeats 4000000
namespace Go.Proofs.YtgpoopjfkplilaaGreatDoor
open Go Go.Sx Go.Wd Go.RowKit Go.Proofs
theorem Done.strs {V : View} {w : World} (hm : Mod V w) (l : List ByteArray) (ty : Nat) (hl : l.length ≤ maxLen) : Done V w (.o (.w ty 1 (l.map dL))) (.slice (some ⟨w.heap.size, 0, none⟩) l.length l.length) (w.alloc (.cells (l.map Value.string).toArray ty)) := by
 have hsz : (w.alloc (.cells (l.map Value.string).toArray ty)).heap.size = w.heap.size + 1 := by simp only [World.alloc, Array.size_push]
 have hold : ∀ k, k < w.heap.size → (w.alloc (.cells (l.map Value.string).toArray ty)).heap[k]? = w.heap[k]? := fun k hk => by
  simp only [World.alloc]
  rw [Array.getElem?_push, if_neg (by omega)]
 have hnew : (w.alloc (.cells (l.map Value.string).toArray ty)).heap[w.heap.size]? = some (.cells (l.map Value.string).toArray ty (0, 0)) := by
  simp only [World.alloc]
  rw [Array.getElem?_push, if_pos rfl]
 have hV : V w.heap.size = none := by
  cases h : V w.heap.size with
  | none => rfl
  | some cs => have := hm.lt h; omega
 refine ⟨⟨V, [w.heap.size], View.le.refl V, ?_, (fun b cs h1 h2 => by rw [h1] at h2; cases h2), ?_, by simp, fun b hb => ?_⟩, ⟨rfl, rfl, rfl, by rw [hsz]; omega, fun k hk => hold k hk⟩⟩
 ·intro b cs hbc
  obtain ⟨c, t, fz, h1, h2⟩ := hm b cs hbc
  exact ⟨c, t, fz, by rw [← h1]; exact hold b (Array.getElem?_eq_some_iff.1 h1).1, h2⟩
 ·refine ⟨[.slice (some ⟨w.heap.size, 0, none⟩) l.length l.length], rfl, [[w.heap.size]], rfl, rfl, rfl, fun k a y s h1 h2 h3 => ?_⟩
  match k, h1, h2, h3 with
  | 0, rfl, rfl, rfl =>
   refine ⟨fun r hr => by obtain ⟨x, _, rfl⟩ := List.mem_map.1 hr; rfl, l.map Value.string, l.map fun _ => [], ?_, .inr ⟨w.heap.size, l.length, (l.map Value.string).toArray, by simp, by simp, hl, hnew, by simp, by simp, hV, ?_⟩⟩
   ·rw [a3a]
    refine ⟨by simp, by simp, fun k d y S e1 e2 e3 => ?_⟩
    rw [List.getElem?_map] at e1 e2 e3
    cases hk : l[k]? with
    | none => rw [hk] at e1; cases e1
    | some x =>
     rw [hk] at e1 e2 e3
     cases e1; cases e2; cases e3
     exact .v _ rfl
   ·have : (l.map fun _ => ([] : List Nat)).flatten = [] := by
     rw [List.flatten_eq_nil_iff]
     intro x hx
     obtain ⟨_, _, rfl⟩ := List.mem_map.1 hx
     rfl
    rw [this]
 ·rw [List.mem_singleton.1 hb, hsz]; omega
theorem a9H {w : World} {X : List Nat} (h : tabOK w X) : ∃ m, w.cell? ⟨1, 0, none⟩ = some (.int .i64 m) := by
 obtain ⟨_, cs, ty, fz, h1, m, h2⟩ := h (1, fun cs => ∃ m, cs[0]? = some (.int .i64 m)) (by simp [b1A, a5Q])
 exact ⟨m, by unfold World.cell?; simp only; rw [h1]; simpa using h2⟩
theorem b2Z {w : World} {X : List Nat} (h : tabOK w X) : ∃ te pe, w.cell? ⟨2, 0, none⟩ = some (.iface te pe) := by
 obtain ⟨_, cs, ty, fz, h1, te, pe, h2⟩ := h (2, fun cs => ∃ te pe, cs = #[.iface te pe]) (by simp [b1A, a5Q])
 have h2 : cs = _ := h2
 subst h2
 exact ⟨te, pe, by unfold World.cell?; simp only; rw [h1]; rfl⟩
theorem a0v : ((List.range 256).map fun i => Value.int .u8 (if i = 9 ∨ i = 10 ∨ i = 11 ∨ i = 12 ∨ i = 13 ∨ i = 32 then 1 else 0)) = Lib.asciiSpaceTab.map fun z => Value.int .u8 z := by
 have key : ∀ i : Fin 256, (if i.val = 9 ∨ i.val = 10 ∨ i.val = 11 ∨ i.val = 12 ∨ i.val = 13 ∨ i.val = 32 then (1 : Int) else 0) = if Lib.isSp (UInt8.ofNat i.val) then 1 else 0 := by decide +kernel
 unfold Lib.asciiSpaceTab
 rw [List.map_map]
 apply List.map_congr_left
 intro i hi
 have := key ⟨i, List.mem_range.1 hi⟩
 simp only at this
 rw [this]; rfl
theorem oF : Tryz.prog.globalNamed "strings.asciiSpace" = some 0 := by kernel_rfl
theorem b0X {w : World} {X : List Nat} (h : tabOK w X) : Lib.TabIs Tryz.prog w "strings.asciiSpace" .u8 Lib.asciiSpaceTab := by
 obtain ⟨_, cs, ty, fz, h1, h2⟩ := h (0, fun cs => cs = ((List.range 256).map fun i => Value.int .u8 (if i = 9 ∨ i = 10 ∨ i = 11 ∨ i = 12 ∨ i = 13 ∨ i = 32 then 1 else 0)).toArray) (by simp [b1A, a5Q])
 have h2 : cs = _ := h2
 subst h2
 unfold Lib.TabIs World.var?
 rw [oF, Option.bind_some, h1]
 simp only [a0v]
theorem b0Y : (Tryz.prog.info? (Tryz.laysSplit_ren.t 9)).map (fun i => (i.zero, i.size, i.bytes)) = some (some (.string ByteArray.empty), 1, 16) := by kernel_rfl
theorem a9I : (Tryz.prog.info? (Tryz.laysFields_ren.t 9)).map (fun i => (i.zero, i.size, i.bytes)) = some (some (.string ByteArray.empty), 1, 16) := by kernel_rfl
theorem b0Z (s : ByteArray) (c : UInt8) (hs : s.size ≤ 4294967200) : FnC Tryz.prog 62 [os s, os ⟨#[c]⟩] (.o (.w 9 1 ((pieces c s).map dL))) := by
 refine ⟨Tryz.call62, fun V w vs htab hm hargs => ?_⟩
 obtain ⟨hl, hv⟩ := hargs
 match vs, hl with
 | [y, z], _ =>
  obtain ⟨rfl, _⟩ := aR (hv 1 (os ⟨#[c]⟩) z rfl rfl)
  obtain ⟨rfl, _⟩ := aR (hv 0 (os s) y rfl rfl)
  obtain ⟨m, h1⟩ := a9H htab
  have hlen : (pieces c s).length = Lib.countB s ⟨#[c]⟩ + 1 := by
   rw [← xI]
   exact Lib.splitB_all ⟨#[c]⟩ (Nat.le_refl 1) 0 _ s rfl
  refine (Any.strings_Split Tryz.laysSplit b0Y s ⟨#[c]⟩ m w (by omega) h1 (Nat.le_refl 1)).mono ?_
  rintro e w' ⟨rfl, rfl⟩
  rw [xI, ← hlen]
  have h2 := a1A (pieces c s)
  rw [tK] at h2
  exact ⟨_, rfl, Done.strs hm _ _ (by unfold maxLen; omega)⟩
theorem a9J (s : ByteArray) (hs : s.size ≤ 4294967200) (hc : a1v s = true) : FnC Tryz.prog 197 [os s] (.o (.w 9 1 ((flds s).map dL))) := by
 refine ⟨Tryz.call197, fun V w vs htab hm hargs => ?_⟩
 obtain ⟨hl, hv⟩ := hargs
 match vs, hl with
 | [y], _ =>
  obtain ⟨rfl, _⟩ := aR (hv 0 (os s) y rfl rfl)
  refine (Any.strings_Fields Tryz.laysFields a9I oF s w (by omega) (fun j b hj => by have := b3c hc hj; omega) (b0X htab)).mono ?_
  rintro e w' ⟨rfl, rfl⟩
  have e1 : ((Lib.fields s.data.toList).map fun l => Value.string ⟨l.toArray⟩) = (flds s).map Value.string := by
   unfold flds ofL
   rw [List.map_map]; rfl
  have e2 : (Lib.fields s.data.toList).length = (flds s).length := by unfold flds ofL; rw [List.length_map]
  rw [e1, e2]
  have h2 := a1A (flds s)
  have h3 := zU s
  exact ⟨_, rfl, Done.strs hm _ _ (by unfold maxLen; omega)⟩
theorem a9K (s : ByteArray) (hs : s.size ≤ 10) {V : View} {w : World} (htab : tabOK w []) : Calls Tryz.prog 110 #[.string s] w fun e w' => (∃ v : Value, e = .returned (.tuple #[.int .i64 ((Lib.atoi s.data.toList).getD 0), v]) ∧ ((Lib.atoi s.data.toList).isSome = true → v = .nilIface) ∧ ((Lib.atoi s.data.toList).isSome = false → ∃ te pe, v = .iface te pe)) ∧ Below w.heap.size w w' := by
 cases h : Lib.atoi s.data.toList with
 | some n =>
  refine (Any.strconv_Atoi { Tryz.laysAtoi with } s n (by omega) h w).mono ?_
  rintro e w' ⟨rfl, t, rfl⟩
  exact ⟨⟨_, rfl, fun _ => rfl, fun h => by cases h⟩, Lib.bytesWorld_below _ _ _⟩
 | none =>
  obtain ⟨te, pe, h1⟩ := b2Z htab
  refine (Any.strconv_Atoi_err Tryz.laysAtoi s (by omega) h _ w h1 (.inr ⟨te, pe, rfl⟩)).mono ?_
  rintro e w' ⟨N, rfl, _, _, hb⟩
  exact ⟨⟨_, rfl, (fun h => by cases h), fun _ => ⟨_, _, rfl⟩⟩, hb⟩
end Go.Proofs.YtgpoopjfkplilaaGreatDoor
end
