/- Joined texts. -/
import Derived.Test.YteaaopodnbjpoaaGreatZ17
import Derived.Test.YteaaopodnbjpoaaGreatZ15
import Derived.Test.YteaaopodnbjpoaaGreatZ16
import Derived.Test.YteaaopodnbjpoaaGreatZ11
import Derived.Test.YteaaopodnbjpoaaGreatZ13
import Derived.Test.YteaaopodnbjpoaaGreatZ12
set_option linter.all false
section
set_option maxRecDepth 100000
set_option maxHeartbeats 4000000
namespace Go.Proofs.YteaaopodnbjpoaaGreat
open Go Go.Sx Go.RowKit Go.Proofs Go.Sx.Clos
theorem b3P (q : List TNode) (hl : q.length ≤ 4300000) : FnC Tryz.prog 222 [.o (.d (.sl (q.map bC)))] (.o (.w 9 1 ((putL (qD q)).map bV))) := by
 refine ent Tryz.func222 rfl Tryz.call222 rfl (fun C => ?_); simp only [go_sem, st0, Tryz.ntmps222]
 refine aD ?_
 refine vY 3 0 rfl rfl ?_
 simp only [go_sem]
 refine aN (α := Nat) (fun k => [(3, .o (.d (.sl ((putL (qD (q.take k))).map bV)))), (4, oi k), (5, .o .u)]) (fun _ => []) (fun k => k ≤ q.length) (fun k => q.length - k) 0 (fun _ => ?_) ?_ ?_ (fun k hk => ?_)
 ·simp only [go_sem]
 ·simp only [go_sem]; simp [qD, putL]
 ·simp
 ·simp only [go_sem]
  refine aD ?_
  have hlen : (putL (qD (q.take k))).length ≤ 4300000 := by have h1 := iZ (qD (q.take k)); have h2 := a7V (q.take k); simp at h2; omega
  refine cnd rfl (fun h1 => ?_) (fun h1 => ?_)
  ·simp only [decide_eq_true_eq, Int.ofNat_lt] at h1
   have ht := b2x q k h1
   have q0 := @h1; refine fC (show FnC Tryz.prog _ _ (ob (isD q[k])) from aW q[k].fOp 8 9) ?_
   refine cnd rfl (fun hv => ?_) (fun hv => ?_)
   ·rw [hv] at ht
    simp only [if_true] at ht
    have q0 := @h1; refine fC (oJ (putL (qD (q.take k))) q[k].fName hlen) ?_
    refine aF (k + 1) ?_ ?_ ?_
    ·simp only [go_sem, ht, xY]; simp
    ·omega
    ·omega
   ·rw [hv] at ht
    simp only [Bool.false_eq_true, if_false, List.append_nil] at ht
    have q0 := @h1; refine fU ?_
    refine aF (k + 1) ?_ ?_ ?_
    ·simp only [go_sem, ht]; simp
    ·omega
    ·omega
  ·simp only [decide_eq_false_iff_not] at h1
   have e : k = q.length := by omega
   subst e
   rw [List.take_length] at *
   refine aD ?_
   exact aA ⟨⟨_, rfl, by simp only [go_sem, List.take_length]⟩, trivial⟩
theorem a9F (n : TNode) : FnC Tryz.prog 284 [wK n] (ob (isD n)) := by
 refine ent Tryz.func284 rfl Tryz.call284 rfl (fun C => ?_); simp only [go_sem, st0, Tryz.ntmps284]
 by_cases c8 : n.fOp = 8
 ·have hd : isD n = true := by simp [isD, c8]
  have q0 := @c8; have q1 := @decide_true; refine lF ?_
  exact aA ⟨⟨_, rfl, by simp only [go_sem, hd]⟩, trivial⟩
 by_cases c9 : n.fOp = 9
 ·have hd : isD n = true := by simp [isD, c9]
  have q0 := @c8; have q1 := @c9; have q2 := @decide_true; have q3 := @decide_false; refine mW ?_
  exact aA ⟨⟨_, rfl, by simp only [go_sem, hd]⟩, trivial⟩
 ·have hd : isD n = false := by
   rw [← Bool.not_eq_true]
   simp only [isD, Bool.and_eq_true, decide_eq_true_eq]; omega
  have q0 := @c8; have q1 := @c9; have q2 := @decide_true; have q3 := @decide_false; refine mW ?_
  exact aA ⟨⟨_, rfl, by simp only [go_sem, hd]⟩, trivial⟩
theorem b3Q (q : List TNode) (hl : q.length ≤ 4300000) : FnC Tryz.prog 238 [.o (.d (.sl (q.map bC)))] (.o (.w 9 1 ((eX (qD q)).map bV))) := by
 refine ent Tryz.func238 rfl Tryz.call238 rfl (fun C => ?_); simp only [go_sem, st0, Tryz.ntmps238]
 refine aD ?_
 refine aN (α := Nat) (fun k => [(3, .o (.s 0)), (6, .o .u), (9, oi k)]) (fun k => [(0, .row 9 1 ((qD (q.take k)).map bV) true)]) (fun k => k ≤ q.length) (fun k => q.length - k) 0 (fun _ => ?_) ?_ ?_ (fun k hk => ?_)
 ·simp only [go_sem]
 ·simp only [go_sem]; simp [qD]
 ·simp
 ·simp only [go_sem]
  refine aD ?_
  have hlen : (qD (q.take k)).length ≤ 4300000 := by have h2 := a7V (q.take k); simp at h2; omega
  refine cnd rfl (fun h1 => ?_) (fun h1 => ?_)
  ·simp only [decide_eq_true_eq, Int.ofNat_lt] at h1
   have ht := b2x q k h1
   have hl1 : (qD (q.take k)).length + 1 ≤ 140737488355328 := by omega
   have hl2 : ((qD (q.take k)).length + 1) * 16 ≤ 140737488355328 := by omega
   have q0 := @h1; refine fC (a9F q[k]) ?_
   refine cnd (b := isD q[k]) rfl (fun hv => ?_) (fun hv => ?_)
   ·rw [if_pos hv] at ht
    have q0 := @h1; refine fU ?_
    refine aF (k + 1) ?_ ?_ ?_
    ·simp only [go_sem, ht, List.map_append]; simp
    ·omega
    ·omega
   ·rw [if_neg (by simp [hv]), List.append_nil] at ht
    have q0 := @h1; refine fU ?_
    refine aF (k + 1) ?_ ?_ ?_
    ·simp only [go_sem, ht]; simp
    ·omega
    ·omega
  ·simp only [decide_eq_false_iff_not] at h1
   have e : k = q.length := by omega
   subst e
   rw [List.take_length] at *
   refine gP (kV (qD q) hlen) ?_
   exact aA ⟨⟨_, rfl, by simp only [go_sem, List.take_length]⟩, trivial⟩
theorem b1t (q : List TNode) (hl : q.length ≤ 4300000) : FnC Tryz.prog 238 [.o (.d (.sl (q.map bC)))] (.o (.d (.sl ((eX (qD q)).map bV)))) := (b3Q q hl).pu (by simp only [go_sem, and_self])
theorem b1u (q : List TNode) (hl : q.length ≤ 4300000) : FnC Tryz.prog 222 [.o (.d (.sl (q.map bC)))] (.o (.d (.sl ((putL (qD q)).map bV)))) := (b3P q hl).pu (by simp only [go_sem, and_self])
theorem b3R (l : List ByteArray) (s : ByteArray) : hasS (eX l) s = hasS l s := by rw [Bool.eq_iff_iff, kF, kF, nD]
theorem b1v (l : List TDir) (s : ByteArray) (h : aP l ≤ 4300000) : FnC Tryz.prog 189 [.o (.d (.sl (l.map aM))), os s] (.o (.w 9 1 ((wF l s).map bV))) := by
 have hl : l.length ≤ 4300000 := by unfold aP at h; omega
 refine ent Tryz.func189 rfl Tryz.call189 rfl (fun C => ?_); simp only [go_sem, st0, Tryz.ntmps189]
 refine aD ?_
 refine aN (α := Nat) (fun k => [(5, .o (.s 0)), (8, .o .u), (11, oi k)]) (fun k => [(0, .row 9 1 ((wF (l.take k) s).map bV) true)]) (fun k => k ≤ l.length) (fun k => l.length - k) 0 (fun _ => ?_) ?_ ?_ (fun k hk => ?_)
 ·simp only [go_sem]
 ·simp only [go_sem]; simp [wF]
 ·simp
 ·simp only [go_sem]
  refine aD ?_
  have hlen : (wF (l.take k) s).length ≤ 4300000 := by have h2 := a9J (l.take k) s; simp at h2; omega
  refine cnd rfl (fun h1 => ?_) (fun h1 => ?_)
  ·simp only [decide_eq_true_eq, Int.ofNat_lt] at h1
   have ht := b3U l s k h1
   have hq := a9L l k h1
   have hqa := tQ (qD l[k].fQuery)
   have hqb := a7V l[k].fQuery
   have hl1 : (wF (l.take k) s).length + 1 ≤ 140737488355328 := by omega
   have hl2 : ((wF (l.take k) s).length + 1) * 16 ≤ 140737488355328 := by omega
   have hc := eZ (eX (qD l[k].fQuery)) s (by omega)
   rw [b3R] at hc
   have q0 := @h1; refine a1H (b1t l[k].fQuery (by omega)) hc ?_
   refine cnd (b := hasS (qD l[k].fQuery) s) rfl (fun hv => ?_) (fun hv => ?_)
   ·rw [if_pos hv] at ht
    have q0 := @h1; refine fU ?_
    refine aF (k + 1) ?_ ?_ ?_
    ·simp only [go_sem, ht, List.map_append]; simp
    ·omega
    ·omega
   ·rw [if_neg (by simp [hv]), List.append_nil] at ht
    have q0 := @h1; refine fU ?_
    refine aF (k + 1) ?_ ?_ ?_
    ·simp only [go_sem, ht]; simp
    ·omega
    ·omega
  ·simp only [decide_eq_false_iff_not] at h1
   have e : k = l.length := by omega
   subst e
   rw [List.take_length] at *
   refine aD ?_
   exact aA ⟨⟨_, rfl, by simp only [go_sem, List.take_length]⟩, trivial⟩
theorem a9G (l : List TDir) (s : ByteArray) (h : aP l ≤ 4300000) : FnC Tryz.prog 189 [.o (.d (.sl (l.map aM))), os s] (.o (.d (.sl ((wF l s).map bV)))) := (b1v l s h).pu (by simp only [go_sem, and_self])
end Go.Proofs.YteaaopodnbjpoaaGreat
end
section
set_option maxRecDepth 100000
set_option maxHeartbeats 4000000
namespace Go.Proofs.YteaaopodnbjpoaaGreat
open Go Go.Sx Go.RowKit Go.Proofs Go.Sx.Clos
theorem a6C (l : List TDir) (names : List ByteArray) (h : aP l ≤ 4300000) (hB : pot l names ≤ 4300000) : FnC Tryz.prog 111 [.o (.d (.sl (l.map aM))), .o (.d (.sl (names.map bV)))] (.o (.w 9 1 ((tdS l names).map bV))) := by
 have hl : l.length ≤ 4300000 := by unfold aP at h; omega
 have hnl : names.length ≤ 4300000 := Nat.le_trans (a1y l names) hB
 refine ent Tryz.func111 rfl Tryz.call111 rfl (fun C => ?_); simp only [go_sem, st0, Tryz.ntmps111]
 refine gP (a2x names hnl) ?_
 refine aN (α := Nat × List ByteArray) (fun x => [(5, .o (.s 0)), (6, oi x.1), (10, .o .u)]) (fun x => [(0, .row 9 1 (x.2.map bV) true)]) (fun x => x.1 ≤ x.2.length ∧ Good l names x.2 ∧ ∀ z ∈ x.2.take x.1, ∀ y ∈ wF l z, y ∈ x.2) (fun x => 4300001 - x.1) (0, names) (fun _ => ?_) ?_ ?_ (fun x hx => ?_)
 ·simp only [go_sem]
 ·simp only [go_sem]; simp
 ·exact ⟨Nat.zero_le _, Good.start l names, by simp⟩
 ·obtain ⟨i, o⟩ := x
  obtain ⟨hi, hg, hp⟩ := hx
  simp only at hi hg hp
  have hol : o.length ≤ 4300000 := Nat.le_trans (a1y l o) (Nat.le_trans hg.le hB)
  simp only [go_sem]
  refine aD ?_
  refine cnd rfl (fun h1 => ?_) (fun h1 => ?_)
  ·simp only [decide_eq_true_eq, Int.ofNat_lt] at h1
   have hoi : o[i] ∈ o.take (i + 1) := by rw [List.take_succ_eq_append_getElem h1]; exact List.mem_append_right _ List.mem_cons_self
   have hLl := a9J l o[i]
   have q0 := @h1; refine fC (a9G l o[i] h) ?_
   generalize hL : wF l o[i] = L at *
   refine aN (α := Nat × List ByteArray) (fun y => [(5, .o (.s 0)), (12, .o .u), (18, .o .u), (20, .o .u), (24, oi y.1)]) (fun y => [(0, .row 9 1 (y.2.map bV) true)]) (fun y => y.1 ≤ L.length ∧ Good l names y.2 ∧ y.2.take (i + 1) = o.take (i + 1) ∧ i < y.2.length ∧ (∀ z ∈ L.take y.1, z ∈ y.2) ∧ ∀ z ∈ o.take i, ∀ y' ∈ wF l z, y' ∈ y.2) (fun y => L.length - y.1) (0, o) (fun _ => ?_) ?_ ?_ (fun y hy => ?_)
   ·simp only [go_sem]
   ·simp only [go_sem]; simp
   ·exact ⟨Nat.zero_le _, hg, rfl, h1, by simp, hp⟩
   ·obtain ⟨k, q⟩ := y
    obtain ⟨hk, hgq, htk, hiq, hdn, hpq⟩ := hy
    simp only at hk hgq htk hiq hdn hpq
    have hql : q.length ≤ 4300000 := Nat.le_trans (a1y l q) (Nat.le_trans hgq.le hB)
    simp only [go_sem]
    refine aD ?_
    refine cnd rfl (fun h2 => ?_) (fun h2 => ?_)
    ·simp only [decide_eq_true_eq, Int.ofNat_lt] at h2
     have hqi : o[i] ∈ q := by rw [← htk] at hoi; exact List.mem_of_mem_take hoi
     have hll1 : q.length + 1 ≤ 140737488355328 := by omega
     have hll2 : (q.length + 1) * 16 ≤ 140737488355328 := by omega
     have qH := @h2; repeat' (with_reducible first | refine nY ?_ | (refine mX ?_; try simp only [go_sem, qH]) | refine kD ?_ | refine rD ?_ | refine vL (eZ q L[k] hql) ?_ | refine aO ?_ | fail)
     refine cnd (b := !hasS q L[k]) rfl (fun hv => ?_) (fun hv => ?_)
     ·have hm : ¬ L[k] ∈ q := fun hm => by rw [(kF q L[k]).2 hm] at hv; cases hv
      have q0 := @h2; refine fU ?_
      refine aF (k + 1, q ++ [L[k]]) ?_ ?_ ?_
      ·simp only [go_sem, List.map_append]; simp
      ·refine ⟨h2, hgq.add hqi (by rw [hL]; exact List.getElem_mem h2) hm, ?_, by simp; omega, fun z hz => ?_, fun z hz y' hy' => List.mem_append_left _ (hpq z hz y' hy')⟩
       ·rw [List.take_append_of_le_length (by omega)]; exact htk
       ·rw [List.take_succ_eq_append_getElem h2] at hz
        rcases List.mem_append.1 hz with hz | hz
        ·exact List.mem_append_left _ (hdn z hz)
        ·exact List.mem_append_right _ hz
      ·simp only; omega
     ·have hm : L[k] ∈ q := (kF q L[k]).1 (by simpa using hv)
      have q0 := @h2; refine fU ?_
      refine aF (k + 1, q) ?_ ?_ ?_
      ·simp only [go_sem]; simp
      ·refine ⟨h2, hgq, htk, hiq, fun z hz => ?_, hpq⟩
       rw [List.take_succ_eq_append_getElem h2] at hz
       rcases List.mem_append.1 hz with hz | hz
       ·exact hdn z hz
       ·simp only [List.mem_singleton] at hz; subst hz; exact hm
      ·simp only; omega
    ·simp only [decide_eq_false_iff_not] at h2
     have e : k = L.length := by omega
     subst e
     rw [List.take_length] at hdn
     refine aD ?_
     refine aF (i + 1, q) ?_ ?_ ?_
     ·simp only [go_sem]; simp
     ·refine ⟨hiq, hgq, fun z hz y' hy' => ?_⟩
      simp only at hz
      rw [htk, List.take_succ_eq_append_getElem h1] at hz
      rcases List.mem_append.1 hz with hz | hz
      ·exact hpq z hz y' hy'
      ·simp only [List.mem_singleton] at hz; subst hz; rw [hL] at hy'; exact hdn y' hy'
     ·simp only; omega
  ·simp only [decide_eq_false_iff_not] at h1
   have e : i = o.length := by omega
   subst e
   rw [List.take_length] at hp
   have hd := hg.done hp
   refine gP (kV o hol) ?_
   exact aA ⟨⟨_, rfl, by simp only [go_sem, hd]⟩, trivial⟩
theorem a6D (l : List TDir) (names : List ByteArray) (h : aP l ≤ 4300000) (hB : pot l names ≤ 4300000) : FnC Tryz.prog 161 [.o (.d (.sl (l.map aM))), .o (.d (.sl (names.map bV)))] (.o (.w 9 1 ((tdS l names).map bV))) := by
 have hl : l.length ≤ 4300000 := by unfold aP at h; omega
 have hnl : names.length ≤ 4300000 := Nat.le_trans (a1y l names) hB
 refine ent Tryz.func161 rfl Tryz.call161 rfl (fun C => ?_); simp only [go_sem, st0, Tryz.ntmps161]
 refine aD ?_
 refine vY 5 0 rfl rfl ?_
 simp only [go_sem]
 refine aN (α := Nat) (fun k => [(5, .o (.d (.sl ((putL (names.take k)).map bV)))), (6, oi k)]) (fun _ => []) (fun k => k ≤ names.length) (fun k => names.length - k) 0 (fun _ => ?_) ?_ ?_ (fun k hk => ?_)
 ·simp only [go_sem]
 ·simp only [go_sem]; simp [putL]
 ·simp
 ·simp only [go_sem]
  refine aD ?_
  have hlen : (putL (names.take k)).length ≤ 4300000 := by have h1 := iZ (names.take k); simp at h1; omega
  refine cnd rfl (fun h1 => ?_) (fun h1 => ?_)
  ·simp only [decide_eq_true_eq, Int.ofNat_lt] at h1
   have ht := xY (names.take k) names[k]
   rw [← List.take_succ_eq_append_getElem h1] at ht
   have q0 := @h1; refine fC (oJ (putL (names.take k)) names[k] hlen) ?_
   refine aF (k + 1) ?_ ?_ ?_
   ·simp only [go_sem, ht]; simp
   ·omega
   ·omega
  ·simp only [decide_eq_false_iff_not] at h1
   have e : k = names.length := by omega
   subst e
   rw [List.take_length] at *
   refine aD ?_
   refine aN (α := Nat) (fun r => [(5, .o (.d (.sl ((qW l names r).map bV)))), (7, oi r)]) (fun _ => []) (fun r => r ≤ l.length + 1) (fun r => l.length + 1 - r) 0 (fun _ => ?_) ?_ ?_ (fun r hr => ?_)
   ·simp only [go_sem]
   ·simp only [go_sem]; simp [qW, jK]
   ·simp
   ·simp only [go_sem]
    refine aD ?_
    have hokR := a0q l names r
    have hRl := Nat.le_trans (b2y hokR) hB
    refine cnd rfl (fun h2 => ?_) (fun h2 => ?_)
    ·simp only [decide_eq_true_eq, Int.ofNat_le] at h2
     refine aD ?_
     refine aN (α := Nat) (fun i => [(5, .o (.d (.sl ((round putS (eD (l.take i)) (qW l names r)).map bV)))), (8, oi i)]) (fun _ => []) (fun i => i ≤ l.length) (fun i => l.length - i) 0 (fun _ => ?_) ?_ ?_ (fun i hi => ?_)
     ·simp only [go_sem]
     ·simp only [go_sem]; simp [round, eD]
     ·simp
     ·simp only [go_sem]
      refine aD ?_
      have hokI := b3T l (pot l names) i _ hokR
      refine cnd rfl (fun h3 => ?_) (fun h3 => ?_)
      ·simp only [decide_eq_true_eq, Int.ofNat_lt] at h3
       have ht := b1x l (qW l names r) i h3
       have hq := a9L l i h3
       have hqb := a7V l[i].fQuery
       have hqc := iZ (qD l[i].fQuery)
       generalize round putS (eD (l.take i)) (qW l names r) = O at *
       have q0 := @h3; refine fC (b1u l[i].fQuery (by omega)) ?_
       generalize putL (qD l[i].fQuery) = Q at *
       refine aN (α := Nat) (fun k => [(5, .o (.d (.sl ((askC putS l[i].fName O (Q.take k)).map bV)))), (10, oi k)]) (fun _ => []) (fun k => k ≤ Q.length) (fun k => Q.length - k) 0 (fun _ => ?_) ?_ ?_ (fun k hk => ?_)
       ·simp only [go_sem]
       ·simp only [go_sem]; simp [askC]
       ·simp
       ·simp only [go_sem]
        refine aD ?_
        have hokA := b7o l (pot l names) l[i] (List.getElem_mem h3) (Q.take k) O hokI
        have hAl := Nat.le_trans (b2y hokA) hB
        refine cnd rfl (fun h4 => ?_) (fun h4 => ?_)
        ·simp only [decide_eq_true_eq, Int.ofNat_lt] at h4
         have hin := b8K l[i].fName O Q k h4
         have hout := b7p l[i].fName O Q k h4
         generalize askC putS l[i].fName O (Q.take k) = A at *
         have q0 := @h3; have q1 := @h4; refine mM (iB A Q[k] hAl) ?_
         refine cnd (b := hasS A Q[k]) rfl (fun hv => ?_) (fun hv => ?_)
         ·have hin := hin ((kF A Q[k]).1 hv)
          have q0 := @h3; have q1 := @h4; refine mM (oJ A l[i].fName hAl) ?_
          refine aF (k + 1) ?_ ?_ ?_
          ·simp only [go_sem, hin]; simp
          ·omega
          ·omega
         ·have hout := hout (fun hm => by rw [(kF A Q[k]).2 hm] at hv; cases hv)
          have q0 := @h3; have q1 := @h4; refine lF ?_
          refine aF (k + 1) ?_ ?_ ?_
          ·simp only [go_sem, hout]; simp
          ·omega
          ·omega
        ·simp only [decide_eq_false_iff_not] at h4
         have e : k = Q.length := by omega
         subst e
         rw [List.take_length] at *
         refine aD ?_
         refine aF (i + 1) ?_ ?_ ?_
         ·simp only [go_sem, ht]; simp
         ·omega
         ·omega
      ·simp only [decide_eq_false_iff_not] at h3
       have e : i = l.length := by omega
       subst e
       rw [List.take_length] at *
       refine aD ?_
       refine aF (r + 1) ?_ ?_ ?_
       ·simp only [go_sem]; simp [qW, jK]
       ·omega
       ·omega
    ·simp only [decide_eq_false_iff_not] at h2
     have e : r = l.length + 1 := by omega
     subst e
     refine aD ?_
     exact aA ⟨⟨_, rfl, by simp only [go_sem, tdS]⟩, trivial⟩
theorem a4Z (l : List TDir) (p : TDir → Bool) (S : List ByteArray) (hS : ∀ d ∈ l, p d = true → d.fName ∈ S) : wsm wS ((l.filter p).map TDir.fName) + kI wS (eD l) S ≤ aP l := by
 unfold aP
 induction l with
 | nil => simp [wsm, eD, kI, wsum]
 | cons d l ih =>
  have ih := ih fun d' hd' => hS d' (List.mem_cons_of_mem _ hd')
  have e : wDir d = d.fName.size + bT d.fQuery := rfl
  have ee : wS d.fName = 1 + d.fName.size := rfl
  simp only [eD, List.map_cons, kI, List.filter_cons, List.length_cons, wsum] at ih ⊢
  cases hp : p d with
  | true =>
   have hm := hS d List.mem_cons_self hp
   simp only [hm, if_true, List.map_cons, wsm]; omega
  | false =>
   simp only [Bool.false_eq_true, if_false]
   split <;> omega
theorem a5a (a b : TFile) (l : List TDir) : pot l (a1A a b l) ≤ aP l := by
 have hgen : ∀ p : TDir → Bool, pot l ((l.filter p).map TDir.fName) ≤ aP l := fun p => a4Z l p _ fun d hd hp => List.mem_map.2 ⟨d, List.mem_filter.2 ⟨hd, hp⟩, rfl⟩
 unfold a1A
 split
 ·exact hgen _
 ·have := hgen (fun _ => true)
  rw [List.filter_eq_self.2 (by simp)] at this
  exact this
theorem b7F (l : List TDir) (names : List ByteArray) : pJ (tdS l names) ≤ pot l names := by
 have h := (a0q l names (l.length + 1)).2
 unfold tdS
 rw [← b5P]
 unfold pot at *
 omega
def a7U (a b : TFile) (l : List TDir) : List ByteArray := tdS l (a1A a b l)
theorem b8I (a b : TFile) (l : List TDir) : pJ (a7U a b l) ≤ aP l := Nat.le_trans (b7F l _) (a5a a b l)
theorem b1r (l : List TDir) (a b : TFile) (h : aP l + (wFile a + wFile b) ≤ 4300000) : FnC Tryz.prog 180 [.o (.d (.sl (l.map aM))), dC a, dC b] (.o (.w 9 1 ((a7U a b l).map bV))) := by
 have hp := a5a a b l
 refine ent Tryz.func180 rfl Tryz.call180 rfl (fun C => ?_); simp only [go_sem, st0, Tryz.ntmps180]
 refine a3S (a5e l a b h) (a6C l (a1A a b l) (by omega) (by omega)) ?_
 exact aA ⟨⟨_, rfl, by simp only [go_sem, a7U]⟩, trivial⟩
theorem b1s (l : List TDir) (a b : TFile) (h : aP l + (wFile a + wFile b) ≤ 4300000) : FnC Tryz.prog 157 [.o (.d (.sl (l.map aM))), dC a, dC b] (.o (.w 9 1 ((a7U a b l).map bV))) := by
 have hp := a5a a b l
 refine ent Tryz.func157 rfl Tryz.call157 rfl (fun C => ?_); simp only [go_sem, st0, Tryz.ntmps157]
 refine a3S (a5f l a b h) (a6D l (a1A a b l) (by omega) (by omega)) ?_
 exact aA ⟨⟨_, rfl, by simp only [go_sem, a7U]⟩, trivial⟩
end Go.Proofs.YteaaopodnbjpoaaGreat
end
section
set_option maxRecDepth 100000
set_option maxHeartbeats 4000000
namespace Go.Proofs.YteaaopodnbjpoaaGreat
open Go Go.Sx Go.RowKit Go.Proofs Go.Sx.Clos
theorem a0N (l : List TDir) (s : ByteArray) : pot l [s] ≤ aP l + s.size + 1 := by
 have h := a4Z l (fun _ => false) [s] (by simp)
 unfold pot
 simp only [wsm, wS] at h ⊢
 omega
theorem a3f (l : List TDir) (s : ByteArray) : (tdS l [s]).length ≤ aP l + s.size + 1 := by
 have h := b7F l [s]
 have h1 := a0N l s
 unfold pJ at h
 omega
theorem a3W (l : List TDir) (names : List ByteArray) (h : aP l ≤ 4300000) (hB : pot l names ≤ 4300000) : FnC Tryz.prog 111 [.o (.d (.sl (l.map aM))), .o (.d (.sl (names.map bV)))] (.o (.d (.sl ((tdS l names).map bV)))) := (a6C l names h hB).pu (by simp only [go_sem, and_self])
theorem a3X (l : List TDir) (names : List ByteArray) (h : aP l ≤ 4300000) (hB : pot l names ≤ 4300000) : FnC Tryz.prog 161 [.o (.d (.sl (l.map aM))), .o (.d (.sl (names.map bV)))] (.o (.d (.sl ((tdS l names).map bV)))) := (a6D l names h hB).pu (by simp only [go_sem, and_self])
theorem qN (d : List TDir) (x : TDir) (h : aP d + wDir x ≤ 4200000) : FnC Tryz.prog 159 [.o (.d (.sl (d.map aM))), a0W x] (.t [(false, [.d (.sl ((jR d x).map aM))]), (false, [.d (bv (mQ d x))])]) := (b1h d x h).pu (by simp only [go_sem, and_self])
theorem qO (d : List TDir) (x : TDir) (h : aP d + wDir x ≤ 4200000) : FnC Tryz.prog 182 [.o (.d (.sl (d.map aM))), a0W x] (.t [(false, [.d (.sl ((jR d x).map aM))]), (false, [.d (bv (mQ d x))])]) := (b1g d x h).pu (by simp only [go_sem, and_self])
noncomputable def oF (c : TCatalog) (x : TDir) : Bool := kH c && (mQ c.fDirs x && lH (jR c.fDirs x))
def a2R (c : TCatalog) (x : TDir) : List ByteArray := tdS (jR c.fDirs x) [x.fName]
noncomputable def a0d (c : TCatalog) (x : TDir) : TCatalog := goC (oF c x) c c.fStore (jR c.fDirs x) (a2R c x)
noncomputable def a0e (c : TCatalog) (x : TDir) : List TDiff := goD (oF c x) c c.fStore (jR c.fDirs x) (a2R c x)
theorem a5r (c : TCatalog) (x : TDir) (h : wCatalog c + wDir x ≤ 2000000) : FnC Tryz.prog 108 [bK c, a0W x] (.t [(true, (jV (a0d c x)).cells), (false, [.w 100 3 ((a0e c x).map dH)]), (false, [.d (bv (oF c x))])]) := by
 have hc : wCatalog c = aL c.fStore + aP c.fDirs + aH c.fResults := rfl
 have hw := b1j c.fDirs x
 have hx : wDir x = x.fName.size + bT x.fQuery := rfl
 have hp := a0N (jR c.fDirs x) x.fName
 have hn : (a2R c x).length ≤ 4300000 := by have := a3f (jR c.fDirs x) x.fName; unfold a2R; omega
 refine ent Tryz.func108 rfl Tryz.call108 rfl (fun C => ?_); simp only [go_sem, st0, Tryz.ntmps108]
 cases h2 : mQ c.fDirs x
 ·have e : oF c x = false := by simp [oF, h2]
  have q0 := @h2; refine b8i (qO c.fDirs x (by omega)) (bI c (by omega)) (jO (jR c.fDirs x) (by omega)) (dP c (by omega)) ?_
  exact aA ⟨⟨_, rfl, by simp only [go_sem, a0d, a0e, e, iT, iU, List.map_nil]; try simp⟩, by simp [aK]⟩
 cases h1 : kH c
 ·have e : oF c x = false := by simp [oF, h1]
  have q0 := @h1; have q1 := @h2; refine b4M (qO c.fDirs x (by omega)) (bI c (by omega)) (jO (jR c.fDirs x) (by omega)) (dP c (by omega)) ?_
  exact aA ⟨⟨_, rfl, by simp only [go_sem, a0d, a0e, e, iT, iU, List.map_nil]; try simp⟩, by simp [aK]⟩
 cases h3 : lH (jR c.fDirs x)
 ·have e : oF c x = false := by simp [oF, h3]
  have q0 := @h1; have q1 := @h2; have q2 := @h3; refine b6D (qO c.fDirs x (by omega)) (bI c (by omega)) (jO (jR c.fDirs x) (by omega)) (dP c (by omega)) ?_
  exact aA ⟨⟨_, rfl, by simp only [go_sem, a0d, a0e, e, iT, iU, List.map_nil]; try simp⟩, by simp [aK]⟩
 ·have e : oF c x = true := by simp [oF, h1, h2, h3]
  have hev : evB c.fStore (jR c.fDirs x) = true := by unfold evB; rw [h3, b7z h1]; rfl
  have hk := a3i c c.fStore (jR c.fDirs x) (a2R c x) hev (by omega) (by omega) (by omega) hn
  have ha := a3W (jR c.fDirs x) [x.fName] (by omega) (by omega)
  unfold a2R at hk
  have qH := aI @h1 (aI @h2 @h3); repeat' (with_reducible first | refine nY ?_ | (refine mX ?_; try simp only [go_sem, qH]) | refine kD ?_ | (apply rE [7,8,9,13] [] [0,1,2,3,4,5,6] [0,1,2,3,4,5,6] ((.c 7 [] [0,1,2,3,4] (.c 8 [] [0,1,2,3] (.c 9 [10,11,12] [10,11,12] (.c 13 [14,15] [14,15] .n .n) .n) .n) .n)) (by simp only [go_sem]; rfl) (by simp only [go_sem]; rfl) (by simp only [go_sem]; rfl) (by decide +kernel); (focus simp only [go_sem]; done)) | exact dO | refine cB (uX ?_) ?_ | refine cK (aX ?_) ?_ | refine cO (aX ?_) ?_ | exact bZ | exact oH | exact uB | refine rD ?_ | refine cP (qO c.fDirs x (by omega)) ?_ | refine cP (bI c (by omega)) ?_ | refine cP (jO (jR c.fDirs x) (by omega)) ?_ | refine cP ha ?_ | refine cP hk ?_ | refine aO ?_ | fail)
  exact aA ⟨⟨_, rfl, by simp only [go_sem, a0d, a0e, a2R, e]; try simp⟩, by simp [aK]⟩
theorem a5s (c : TCatalog) (x : TDir) (h : wCatalog c + wDir x ≤ 2000000) : FnC Tryz.prog 88 [bK c, a0W x] (.t [(true, (bK (a0d c x)).cells), (false, [.d (.sl ((a0e c x).map dH))]), (false, [.d (bv (oF c x))])]) := by
 have hc : wCatalog c = aL c.fStore + aP c.fDirs + aH c.fResults := rfl
 have hw := b1j c.fDirs x
 have hx : wDir x = x.fName.size + bT x.fQuery := rfl
 have hp := a0N (jR c.fDirs x) x.fName
 have hn : (a2R c x).length ≤ 4300000 := by have := a3f (jR c.fDirs x) x.fName; unfold a2R; omega
 refine ent Tryz.func88 rfl Tryz.call88 rfl (fun C => ?_); simp only [go_sem, st0, Tryz.ntmps88]
 cases h1 : kH c
 ·have e : oF c x = false := by simp [oF, h1]
  have q0 := @h1; refine b8i (bG c (by omega)) (qN c.fDirs x (by omega)) (bE c (by omega)) (jN (jR c.fDirs x) (by omega)) ?_
  first | refine aB (Sees.frz 1 rfl) ?_ | refine aB (Sees.frz 2 rfl) ?_ | refine aB (Sees.frz 3 rfl) ?_ | refine aB (Sees.frz 4 rfl) ?_ | refine aB (Sees.frz 5 rfl) ?_
  simp only [go_sem]
  exact aA ⟨⟨_, rfl, by simp only [go_sem, a0d, a0e, e, iT, iU, List.map_nil]; try simp⟩, by simp [aK]⟩
 cases h2 : mQ c.fDirs x
 ·have e : oF c x = false := by simp [oF, h2]
  have q0 := @h1; have q1 := @h2; refine b4M (bG c (by omega)) (qN c.fDirs x (by omega)) (bE c (by omega)) (jN (jR c.fDirs x) (by omega)) ?_
  first | refine aB (Sees.frz 1 rfl) ?_ | refine aB (Sees.frz 2 rfl) ?_ | refine aB (Sees.frz 3 rfl) ?_ | refine aB (Sees.frz 4 rfl) ?_ | refine aB (Sees.frz 5 rfl) ?_
  simp only [go_sem]
  exact aA ⟨⟨_, rfl, by simp only [go_sem, a0d, a0e, e, iT, iU, List.map_nil]; try simp⟩, by simp [aK]⟩
 cases h3 : lH (jR c.fDirs x)
 ·have e : oF c x = false := by simp [oF, h3]
  have q0 := @h1; have q1 := @h2; have q2 := @h3; refine b6D (bG c (by omega)) (qN c.fDirs x (by omega)) (bE c (by omega)) (jN (jR c.fDirs x) (by omega)) ?_
  first | refine aB (Sees.frz 1 rfl) ?_ | refine aB (Sees.frz 2 rfl) ?_ | refine aB (Sees.frz 3 rfl) ?_ | refine aB (Sees.frz 4 rfl) ?_ | refine aB (Sees.frz 5 rfl) ?_
  simp only [go_sem]
  exact aA ⟨⟨_, rfl, by simp only [go_sem, a0d, a0e, e, iT, iU, List.map_nil]; try simp⟩, by simp [aK]⟩
 ·have e : oF c x = true := by simp [oF, h1, h2, h3]
  have ha := a3X (jR c.fDirs x) [x.fName] (by omega) (by omega)
  have hk := mG c c.fStore (jR c.fDirs x) (a2R c x) (by omega) (by omega) (by omega) hn
  unfold a2R at hk
  have qH := aI @h1 (aI @h2 @h3); repeat' (with_reducible first | refine nY ?_ | (refine mX ?_; try simp only [go_sem, qH]) | refine kD ?_ | (apply rE [7,8,9,13,14] [] [0,1,2,3,4,5,6] [0,1,2,3,4,5,6] ((.c 7 [] [0,1,2,3,4] (.c 8 [] [0,1,2,3] (.c 9 [10,11,12] [10,11,12] (.c 13 [] [10,11,12] (.c 14 [15] [12,15] .n .n) .n) (.c 13 [] [0,1,2,3] (.c 9 [10,11,12] [10,11,12] (.c 14 [15] [12,15] .n .n) .n) .n)) (.c 13 [] [0,1,2,3,4] (.c 8 [] [0,1,2,3] (.c 9 [10,11,12] [10,11,12] (.c 14 [15] [12,15] .n .n) .n) .n) .n)) (.c 13 [] [0,1,2,3,4,5,6] (.c 7 [] [0,1,2,3,4] (.c 8 [] [0,1,2,3] (.c 9 [10,11,12] [10,11,12] (.c 14 [15] [12,15] .n .n) .n) .n) .n) .n))) (by simp only [go_sem]; rfl) (by simp only [go_sem]; rfl) (by simp only [go_sem]; rfl) (by decide +kernel); (focus simp only [go_sem]; done)) | exact dO | refine cB (uX ?_) ?_ | refine cK (aX ?_) ?_ | refine cO (aX ?_) ?_ | exact bZ | (refine a3m [(3, 4)] (by simp only [go_sem]; rfl) ?_; exact rfl) | exact oH | exact uB | refine rD ?_ | refine cP (bG c (by omega)) ?_ | refine cP (qN c.fDirs x (by omega)) ?_ | refine cP (bE c (by omega)) ?_ | refine cP (jN (jR c.fDirs x) (by omega)) ?_ | refine cP ha ?_ | refine cP hk ?_ | refine aO ?_ | fail)
  exact aA ⟨⟨_, rfl, by simp only [go_sem, a0d, a0e, a2R, e, a3g, a3h]; try simp⟩, by simp [aK]⟩
end Go.Proofs.YteaaopodnbjpoaaGreat
end
section
namespace Go.Proofs.YteaaopodnbjpoaaGreat
open Go Go.Sx Go.RowKit Go.Proofs Go.Sx.Clos
def nZ (d : List TDir) (s : ByteArray) : Bool := bJ d && decide (0 ≤ placeD d s)
def rmD (d : List TDir) (s : ByteArray) : List TDir := if nZ d s then fJ (placeD d s).toNat d else d
theorem b5T {α : Type} (p : α → Bool) : ∀ (l : List α) (h : fstIx p l < l.length), p l[fstIx p l] = true
 | [], h => by simp [fstIx] at h
 | x :: l, h => by
  cases hx : p x with
  | true =>
   have e : fstIx p (x :: l) = 0 := by unfold fstIx; rw [hx]; rfl
   simp only [e, List.getElem_cons_zero, hx]
  | false =>
   have e : fstIx p (x :: l) = fstIx p l + 1 := by rw [fstIx, hx]; rfl
   rw [e, List.length_cons] at h
   simp only [e, List.getElem_cons_succ]
   exact b5T p l (by omega)
theorem a9M (s : ByteArray) : ∀ l : List TDir, (l.map TDir.fName).Pairwise ltS → fstIx (eqD s) l < l.length → l.filter (fun e => !eqD s e) = fJ (fstIx (eqD s) l) l
 | [], _, h => by simp [fstIx] at h
 | e :: l, h, hl => by
  rw [List.map_cons, List.pairwise_cons] at h
  obtain ⟨h1, h2⟩ := h
  cases hx : eqD s e with
  | true =>
   have e0 : fstIx (eqD s) (e :: l) = 0 := by unfold fstIx; rw [hx]; rfl
   have hes : e.fName = s := by simpa [eqD] using hx
   rw [e0, List.filter_cons, hx]
   have : l.filter (fun e => !eqD s e) = l := List.filter_eq_self.2 fun y hy => by
    have h3 := h1 y.fName (List.mem_map.2 ⟨y, hy, rfl⟩)
    have hn : y.fName ≠ s := fun e' => by rw [hes, e'] at h3; exact qE _ h3
    simp [eqD, hn]
   simp [this, fJ]
  | false =>
   have e1 : fstIx (eqD s) (e :: l) = fstIx (eqD s) l + 1 := by rw [fstIx, hx]; rfl
   rw [e1, List.length_cons] at hl
   have ih := a9M s l h2 (by omega)
   rw [e1, List.filter_cons, hx, ih]
   simp [fJ]
theorem b7s {d : List TDir} (h : (d.map TDir.fName).Pairwise ltS) {i j : Nat} (hi : i < d.length) (hj : j < d.length) (e : d[i].fName = d[j].fName) : i = j := by
 have key : ∀ a b (ha : a < d.length) (hb : b < d.length), a < b → d[a].fName ≠ d[b].fName := fun a b ha hb hab he => by
  have := List.pairwise_iff_getElem.1 h a b (by simpa using ha) (by simpa using hb) hab
  simp only [List.getElem_map] at this
  rw [he] at this
  exact qE _ this
 rcases Nat.lt_trichotomy i j with h1 | h1 | h1
 ·exact absurd e (key i j hi hj h1)
 ·exact h1
 ·exact absurd e.symm (key j i hj hi h1)
theorem a2K {d : List TDir} {s : ByteArray} {k : Nat} (h : placeD d s = (k : Int)) : ∃ hk : k < d.length, d[k].fName = s := by
 rcases placeD_fst d s with ⟨h1, _⟩ | ⟨h1, h2⟩
 ·omega
 ·have e : k = fstIx (eqD s) d := by omega
  subst e
  exact ⟨h2, by simpa [eqD] using b5T _ _ h2⟩
theorem b4d {d : List TDir} (h : (d.map TDir.fName).Pairwise ltS) {s : ByteArray} {k : Nat} (hk : k < d.length) (e : d[k].fName = s) : placeD d s = (k : Int) := by
 rcases placeD_cases d s with h1 | ⟨j, h1, h2⟩
 ·rcases placeD_fst d s with ⟨_, h3⟩ | ⟨h3, _⟩
  ·exfalso
   have : ∀ l : List TDir, fstIx (eqD s) l = l.length → ∀ x ∈ l, x.fName ≠ s := by
    intro l
    induction l with
    | nil => intro _ x hx; simp at hx
    | cons y l ih =>
     intro hl x hx
     cases hy : eqD s y with
     | true => rw [show fstIx (eqD s) (y :: l) = 0 by unfold fstIx; rw [hy]; rfl] at hl; simp at hl
     | false =>
      rw [show fstIx (eqD s) (y :: l) = fstIx (eqD s) l + 1 by rw [fstIx, hy]; rfl, List.length_cons] at hl
      rcases List.mem_cons.1 hx with rfl | hx
      ·simpa [eqD] using hy
      ·exact ih (by omega) x hx
   exact this d h3 d[k] (List.getElem_mem hk) e
  ·omega
 ·obtain ⟨h3, h4⟩ := a2K h1
  rw [h1, b7s h h3 hk (by rw [h4, e])]
theorem b8L {d : List TDir} (p : Nat) (h : (d.map TDir.fName).Pairwise ltS) : ((fJ p d).map TDir.fName).Pairwise ltS := by
 refine h.sublist (List.Sublist.map _ ?_)
 conv => rhs; rw [← List.take_append_drop p d]
 refine List.Sublist.append_left ?_ _
 rw [← List.drop_drop]
 exact List.drop_sublist _ _
def shl (p k : Nat) : Nat := if k < p then k else k + 1
theorem a3p {α : Type} {p k : Nat} {l : List α} (h : p < l.length) (hk : k < (fJ p l).length) : ∃ h' : shl p k < l.length, (fJ p l)[k] = l[shl p k] := by
 have hl := wC h
 unfold shl
 by_cases e : k < p
 ·exact ⟨by rw [if_pos e]; omega, by rw [a7Q h hk e]; simp [e]⟩
 ·exact ⟨by rw [if_neg e]; omega, by rw [b1l h hk e]; simp [e]⟩
theorem b1z {d : List TDir} {p : Nat} (hp : p < d.length) (h : bJ d = true) : bJ (fJ p d) = true := by
 have hpw := b8L p (yX h)
 have hl := wC hp
 unfold bJ at h ⊢
 rw [Bool.and_eq_true, List.all_eq_true, decide_eq_true_eq] at h ⊢
 refine ⟨fun k hk => ?_, by omega⟩
 have hk := List.mem_range.1 hk
 obtain ⟨h', e⟩ := a3p hp hk
 have h1 := h.1 (shl p k) (List.mem_range.2 h')
 unfold jI at h1 ⊢
 rw [List.getElem?_eq_getElem h'] at h1
 rw [List.getElem?_eq_getElem hk, e]
 simp only [Bool.and_eq_true] at h1 ⊢
 refine ⟨h1.1, ?_, h1.2.2⟩
 by_cases h0 : 0 < k
 ·rw [kQ TDir.fName _ k h0 hk]
  have := List.pairwise_iff_getElem.1 hpw (k - 1) k (by simp only [List.length_map]; omega) (by simpa using hk) (by omega)
  simp only [List.getElem_map] at this
  exact (oO _ _).2 this
 ·exact qU TDir.fName _ k h0
theorem b7t {d : List TDir} {p : Nat} (hp : p < d.length) (h : lH d = true) : lH (fJ p d) = true := by
 obtain ⟨hv, hleast⟩ := pX h
 have hpw := yX hv
 have hl := wC hp
 unfold lH
 rw [if_pos (b1z hp hv)]
 have hF := hleast.clo
 generalize resL d = F at hF
 have hFl := hF.len
 have hlv : ∀ j, j < d.length - 1 → lv (fJ p F) j = lv F (shl p j) := fun j hj => by
  have hc := wC (l := F) (p := p) (by omega)
  have hj' : j < (fJ p F).length := by omega
  obtain ⟨h', e⟩ := a3p (by omega) hj'
  unfold lv
  rw [List.getD_eq_getElem?_getD, List.getD_eq_getElem?_getD, List.getElem?_eq_getElem hj', List.getElem?_eq_getElem h', e]
 refine yT (L := fJ p F) ⟨?_, fun i k w he => ?_⟩
 ·rw [wC (by omega), hl, hFl]
 ·have hb := (tK (fJ p d)).ok i k w he
  rw [hlv k (by omega), hlv i (by omega)]
  obtain ⟨x, hx, he⟩ := (a0k _ i k w).1 he
  have hi := (List.getElem?_eq_some_iff.1 hx).1
  obtain ⟨hsi, ei⟩ := a3p hp hi
  rw [List.getElem?_eq_getElem hi, ei] at hx
  have mv : ∀ nm, placeD (fJ p d) nm = (k : Int) → placeD d nm = ((shl p k : Nat) : Int) := fun nm hn => by
   obtain ⟨hk, e⟩ := a2K hn
   obtain ⟨hsk, ek⟩ := a3p hp hk
   exact b4d hpw hsk (by rw [← ek, e])
  refine hF.le _ _ _ ((a0k d _ _ w).2 ⟨x, by rw [List.getElem?_eq_getElem hsi, hx], ?_⟩)
  rcases he with ⟨rfl, nm, q1, q2⟩ | ⟨rfl, nm, q1, q2⟩
  ·exact .inl ⟨rfl, nm, q1, mv nm q2⟩
  ·exact .inr ⟨rfl, nm, q1, mv nm q2⟩
theorem a9N {d : List TDir} {s : ByteArray} (h : nZ d s = true) : ∃ k : Nat, placeD d s = (k : Int) ∧ k < d.length ∧ fstIx (eqD s) d = k ∧ rmD d s = fJ k d := by
 have h' := h
 unfold nZ at h'
 rw [Bool.and_eq_true, decide_eq_true_eq] at h'
 rcases placeD_fst d s with ⟨h1, _⟩ | ⟨h1, h2⟩
 ·omega
 ·exact ⟨_, h1, h2, rfl, by unfold rmD; rw [if_pos h, h1, Int.toNat_natCast]⟩
theorem b8M {d : List TDir} {s : ByteArray} (h : lH d = true) (hr : nZ d s = true) : lH (rmD d s) = true := by
 obtain ⟨k, _, hk, _, e⟩ := a9N hr
 rw [e]; exact b7t hk h
theorem b7u {d : List TDir} {s : ByteArray} (hr : nZ d s = true) : d.filter (fun e => !eqD s e) = rmD d s := by
 obtain ⟨k, _, hk, ek, e⟩ := a9N hr
 have hv : bJ d = true := by unfold nZ at hr; rw [Bool.and_eq_true] at hr; exact hr.1
 rw [e, a9M s d (yX hv) (by omega), ek]
theorem b2B (d : List TDir) (s : ByteArray) : aP (rmD d s) ≤ aP d := by
 unfold rmD
 split
 ·have h := b5L wDir (placeD d s).toNat d
  have hl : (fJ (placeD d s).toNat d).length ≤ d.length := by simp [fJ]; omega
  unfold aP; omega
 ·omega
end Go.Proofs.YteaaopodnbjpoaaGreat
end
section
namespace Go.Proofs.YteaaopodnbjpoaaGreat
open Go Go.Sx Go.RowKit Go.Proofs Go.Lib
set_option maxHeartbeats 4000000 in
set_option maxRecDepth 1000000 in
theorem a7Y (b c i n : Nat) (F : List Value) (w : World) (hi : i < n) (hn : n ≤ c) (hc63 : c ≤ 9223372036854775807) (hF : F.length = n * 2) (hR : RowAt w w b 73 (c * 2) F) (h1F : ∀ v ∈ F, v.oneCell' = true) :
    Calls Tryz.prog 186 #[.slice (some ⟨b, 0, none⟩) n c, .int .i64 i, .int .i64 ((i : Int) + 1)] w fun e w' =>
     e = .returned (.slice (some ⟨b, 0, none⟩) (n - 1) c) ∧ ∃ G, RowAt w w' b 73 (c * 2) (F.take (i * 2) ++ F.drop ((i + 1) * 2) ++ G) := by
 obtain ⟨i0, hi0, hzs⟩ : ∃ i0, Tryz.prog.info? 73 = some i0 ∧ i0.size = 2 := ⟨Tryz.t73, by kernel_rfl, rfl⟩
 have hdl : (F.drop ((i + 1) * 2)).length = (n - (i + 1)) * 2 := by rw [List.length_drop, hF, Nat.sub_mul]
 have h1D : ∀ v ∈ F.drop ((i + 1) * 2), v.oneCell' = true := fun v hv => h1F v (List.mem_of_mem_drop hv)
 have hsrc : ∀ a cc, (n - (i + 1) ≠ 0 → a = ⟨b, (i + 1) * 2, none⟩) → Src Tryz.prog i0.size 38 (.slice (some a) (n - (i + 1)) cc) (n - (i + 1)) (F.drop ((i + 1) * 2)) w.drew := fun a cc ha => by
  have hRd := hR.drew
  refine Src.ofSlice w.drew Tryz.underlying38 a (n - (i + 1)) cc _ (by rw [hzs, hdl]) (fun j u hj => ?_) h1D
  have hjl := (List.getElem?_eq_some_iff.1 hj).1
  rw [hdl] at hjl
  rw [ha (by intro e; rw [e] at hjl; omega), Addr.add_lit]
  exact hRd.cell (by rwa [List.getElem?_drop] at hj)
 have hsub : i + (n - (i + 1)) = n - 1 := by omega
 have hle1 : i * 2 + (n - (i + 1)) * 2 ≤ c * 2 := by rw [← Nat.add_mul]; exact Nat.mul_le_mul_right _ (by omega)
 have hle2 : i * 2 ≤ n * 2 := Nat.mul_le_mul_right _ (by omega)
 have hRd := hR.drew
 have hrun : ∀ a cc ty, (n - (i + 1) ≠ 0 → a = ⟨b, (i + 1) * 2, none⟩) → (Builtin.append_ #[38, 38] ty #[.slice (some ⟨b, 0, none⟩) i c, .slice (some a) (n - (i + 1)) cc]).run Tryz.prog w.drew = .ok (.slice (some ⟨b, 0, none⟩) (n - 1) c) (w.drew.setCells b (i * 2) (F.drop ((i + 1) * 2))) := fun a cc ty ha => by
  have h := run_append_room_src w.drew 38 38 ty 73 i0 Tryz.underlying38 hi0 b 0 i c _ (n - (i + 1)) _ (hsrc a cc ha) (by omega) (fun j hj => hRd.there (by rw [hdl] at hj; rw [hzs]; omega)) (fun j hj => hRd.frozen _)
  rw [hzs, Nat.zero_add, hsub] at h
  exact h
 have hR1 := hRd.set (F.drop ((i + 1) * 2)) (s := i * 2) (by rw [hF]; exact hle2) (by rw [hdl]; exact hle1)
 obtain ⟨W1, hW1⟩ : ∃ W1, W1 = w.drew.setCells b (i * 2) (F.drop ((i + 1) * 2)) := ⟨_, rfl⟩
 rw [← hW1] at hrun hR1
 have hlF1 : (F.take (i * 2) ++ F.drop ((i + 1) * 2) ++ F.drop (i * 2 + (F.drop ((i + 1) * 2)).length)).length = n * 2 := by
  simp only [List.length_append, List.length_take, List.length_drop, hF]
  have h1 : (i + 1) * 2 ≤ n * 2 := Nat.mul_le_mul_right _ hi
  rw [Nat.add_mul] at h1 ⊢
  omega
 have hn1 : (n - 1) * 2 + 2 = n * 2 := by
  have : (n - 1 + 1) * 2 = n * 2 := by congr 1; omega
  rw [Nat.add_mul] at this; omega
 have hnc : n * 2 ≤ c * 2 := Nat.mul_le_mul_right _ hn
 have hzl := rQ (.agg #[.string ⟨#[]⟩, .slice none 0 0] : Value).cells 1
 have hz5 : (.agg #[.string ⟨#[]⟩, .slice none 0 0] : Value).cells.size = 2 := rfl
 rw [hz5] at hzl
 have hcl : ∀ ty cc, (Builtin.clear_ #[38] ty #[.slice (some ⟨b, (n - 1) * 2, none⟩) 1 cc]).run Tryz.prog W1 = .ok (.tuple #[]) (W1.setCells b ((n - 1) * 2) (Builtin.zeroCells (.agg #[.string ⟨#[]⟩, .slice none 0 0] : Value).cells 1).toList) :=
  fun ty cc => a2H W1 _ _ ty _ Tryz.underlying38 (fun w => Tryz.zeroValue73 w) b ((n - 1) * 2) _ _ (by omega) (fun t ht => hR1.there (by rw [hz5] at ht; omega)) (fun t ht => hR1.frozen _) (zP (by intro v hv; simp [Value.cells] at hv; rcases hv with rfl | rfl <;> rfl) _)
 have HE : Aside (∃ G, RowAt w (W1.setCells b ((n - 1) * 2) (Builtin.zeroCells (.agg #[.string ⟨#[]⟩, .slice none 0 0] : Value).cells 1).toList) b 73 (c * 2) (F.take (i * 2) ++ F.drop ((i + 1) * 2) ++ G)) := by
  have h := hR1.set (Builtin.zeroCells (.agg #[.string ⟨#[]⟩, .slice none 0 0] : Value).cells 1).toList (s := (n - 1) * 2) (by rw [hlF1]; omega) (by rw [hzl]; omega)
  have hd1 : (F.take (i * 2) ++ F.drop ((i + 1) * 2)).length = (n - 1) * 2 := by
   simp only [List.length_append, List.length_take, hdl, hF]
   have h2 : i * 2 + (n - (i + 1)) * 2 = (n - 1) * 2 := by rw [← Nat.add_mul, hsub]
   omega
  rw [List.take_append_of_le_length (by rw [hd1]; omega), List.take_of_length_le (by rw [hd1]; omega), List.append_assoc] at h
  exact ⟨_, h⟩
 have hb3 : (i : Int) + 1 ≤ (n : Int) := by omega
 have hb1 : (0 : Int) ≤ (i : Int) + 1 := by omega
 have hb4 : ¬ ((i : Int) = (i : Int) + 1) := by omega
 have hb5 : (i : Int) ≤ (i : Int) + 1 := by omega
 have htn : ((i : Int) + 1).toNat = i + 1 := by omega
 have hin : i ≤ n := by omega
 have hic : i ≤ c := by omega
 have hb6 : ((n - 1 : Nat) : Int) ≤ (n : Int) := by omega
 have hb7 : n - (n - 1) = 1 := by omega
 have hb8 : ¬ (c = n - 1) := by omega
 have mixed := fol
 clear hR hRd hR1 hsrc h1F h1D hlF1 hzl hz5 hn1 hnc hle1 hle2
 by_cases hci : c = i + 1
 ·have hni : n = i + 1 := by omega
  subst hni
  subst hci
  have hnil : F.drop ((i + 1) * 2) = [] := List.eq_nil_of_length_eq_zero (by rw [hdl, Nat.sub_self, Nat.zero_mul])
  have hW0 : W1 = w.drew := by rw [hW1, hnil]; rfl
  rw [hW0] at hcl HE
  simp only [Nat.add_sub_cancel] at hcl HE
  clear hW1 hW0 hF hdl hrun hnil
  go_enter Tryz.func186, Tryz.ntmps186
  go_wp2_with fail
  go_region_law_o (fail)
  go_wp2
  go_ret
  exact ⟨rfl, HE.out⟩
 ·clear hW1 hF hdl
  go_enter Tryz.func186, Tryz.ntmps186
  go_wp2_with fail
  go_region_law_o (refine uC rfl _ _ 38 38 rfl (.slice (some ⟨b, 0, none⟩) i c) (.slice (some ⟨b, (i + 1) * 2, none⟩) (n - (i + 1)) (c - (i + 1))) (by simp [Act.eval, Act.put]) (by simp [Act.eval, Act.put]) (hrun ⟨b, (i + 1) * 2, none⟩ (c - (i + 1)) _ (fun _ => rfl)) ?_)
  go_wp2
  go_ret
  exact ⟨rfl, HE.out⟩
theorem a5g (l : List TDir) (i : Nat) (hi : i < l.length) (hl : l.length ≤ 8388608) :
    FnI Tryz.prog 186 73 2 (l.map aM) [oi i, oi ((i : Int) + 1)] false ((fJ i l).map aM) := by
 refine ⟨Tryz.call186, fun V w y S vs hm hrow hnd hlt hargs => ?_⟩
 have hl1 : vs.length = 2 := by have := hargs.1; simpa using this
 match vs, hl1 with
 | [v1, v2], _ =>
  obtain ⟨_, e1⟩ : ∃ S, Lay V (.v (.int .i64 i)) v1 S := hargs.2 0 _ v1 rfl rfl
  obtain ⟨_, e2⟩ : ∃ S, Lay V (.v (.int .i64 ((i : Int) + 1))) v2 S := hargs.2 1 _ v2 rfl rfl
  cases e1; cases e2
  obtain ⟨hu, h⟩ := a1x hrow
  have hi' : i < (l.map aM).length := by simpa using hi
  rcases h with ⟨_, hnil, _⟩ | ⟨b, cap, ys, Ss, rfl, e3, e4, hR, el, eL, eV, rfl⟩
  ·rw [hnil] at hi'; exact absurd hi' (by simp)
  ·have hup2 := eL.take (i * 2)
   have hup3 := eL.drop ((i + 1) * 2)
   rw [← tZ i hu] at hup2
   rw [← nE (i + 1) hu] at hup3
   have hL := hup2.append hup3
   rw [← List.flatten_append] at hL
   refine (a7Y b cap i (l.map aM).length ys w hi' e3 (by unfold maxLen at e4; omega) el hR eL.oneCell).mono ?_
   rintro e w' ⟨rfl, G, hG⟩
   have hlen : ((l.map aM).take i ++ (l.map aM).drop (i + 1)).length = (l.map aM).length - 1 := by simp; omega
   have hrw := b1p (V := V) (cap := cap) (fun r hr => by
    rcases List.mem_append.1 hr with h' | h'
    ·exact hu r (List.mem_of_mem_take h')
    ·exact hu r (List.mem_of_mem_drop h')) hL hG (by rw [hlen]; omega) e4 eV
   rw [hlen] at hrw
   have hsub : (Ss.take (i * 2) ++ Ss.drop ((i + 1) * 2)).Sublist Ss := by
    conv => rhs; rw [← List.take_append_drop (i * 2) Ss]
    refine List.Sublist.append_left ?_ _
    rw [Nat.add_mul, ← List.drop_drop]
    exact List.drop_sublist _ _
   have hfs := a2J hsub
   refine ⟨_, rfl, (fun h => (by cases h)), ⟨hG.grown, b :: (Ss.take (i * 2) ++ Ss.drop ((i + 1) * 2)).flatten, ?_, ?_, (fun n hn => .inl ?_), (fun h => (by cases h))⟩⟩
   ·rw [b2w]; exact hrw
   ·exact hnd.sublist (hfs.cons_cons b)
   ·exact (hfs.cons_cons b).subset hn
end Go.Proofs.YteaaopodnbjpoaaGreat
end
section
set_option maxRecDepth 100000
set_option maxHeartbeats 4000000
namespace Go.Proofs.YteaaopodnbjpoaaGreat
open Go Go.Sx Go.RowKit Go.Proofs Go.Sx.Clos
theorem b3Z (d : List TDir) (s : ByteArray) (h : aP d ≤ 4200000) : FnC Tryz.prog 109 [.o (.d (.sl (d.map aM))), os s] (.t [(false, [.w 73 2 ((rmD d s).map aM)]), (false, [.d (bv (nZ d s))])]) := by
 have hl : d.length ≤ 4200000 := by unfold aP at h; omega
 have ha := a1n d s (by omega)
 refine ent Tryz.func109 rfl Tryz.call109 rfl (fun C => ?_); simp only [go_sem, st0, Tryz.ntmps109]
 cases h1 : bJ d
 ·have e : nZ d s = false := by simp [nZ, h1]
  have q0 := @h1; refine a1I (lQ d (by omega)) ha (gI d (by omega)) ?_
  exact aA ⟨⟨_, rfl, by simp only [go_sem, rmD, e]; try simp⟩, by simp [aK]⟩
 rcases placeD_cases d s with e1 | ⟨p, e1, e2⟩
 ·have e : nZ d s = false := by simp [nZ, e1]
  have hm : (-1 : Int) < 0 := by omega
  rw [e1] at ha
  have q0 := @h1; have q1 := @hm; have q2 := @decide_true; refine a8K (lQ d (by omega)) ha (gI d (by omega)) ?_
  exact aA ⟨⟨_, rfl, by simp only [go_sem, rmD, e]; try simp⟩, by simp [aK]⟩
 ·have e : nZ d s = true := by simp [nZ, h1, e1]
  have hm : ¬ (p : Int) < 0 := by omega
  rw [e1] at ha
  have qH := aI @h1 (aI @hm @decide_false); repeat' (with_reducible first | refine nY ?_ | (refine mX ?_; try simp only [go_sem, qH]) | refine kD ?_ | refine rD ?_ | refine cP (lQ d (by omega)) ?_ | refine cP ha ?_ | refine cP (gI d (by omega)) ?_ | refine vI (a5g d p e2 (by omega)) ?_ | refine vJ (a5g d p e2 (by omega)) ?_ | refine aO ?_ | fail)
  exact aA ⟨⟨_, rfl, by simp only [go_sem, rmD, e, e1, Int.toNat_natCast, if_true]; try simp⟩, by simp [aK]⟩
theorem b4a (s : ByteArray) (l : List TDir) (k : Nat) (h : k < l.length) : (l.take (k + 1)).filter (fun e => !eqD s e) = (l.take k).filter (fun e => !eqD s e) ++ (if eqD s l[k] then [] else [l[k]]) := by
 simp only [List.take_succ_eq_append_getElem h, List.filter_append, List.filter_cons, List.filter_nil]
 cases eqD s l[k] <;> rfl
theorem b4b (d : List TDir) (s : ByteArray) (h : aP d ≤ 4200000) : FnC Tryz.prog 162 [.o (.d (.sl (d.map aM))), os s] (.t [(false, [.w 73 2 ((rmD d s).map aM)]), (false, [.d (bv (nZ d s))])]) := by
 have hl : d.length ≤ 4200000 := by unfold aP at h; omega
 have ha := jZ d s (by omega)
 refine ent Tryz.func162 rfl Tryz.call162 rfl (fun C => ?_); simp only [go_sem, st0, Tryz.ntmps162]
 cases h1 : bJ d
 ·have e : nZ d s = false := by simp [nZ, h1]
  have q0 := @h1; refine a1I (nN d (by omega)) ha (iJ d (by omega)) ?_
  exact aA ⟨⟨_, rfl, by simp only [go_sem, rmD, e]; try simp⟩, by simp [aK]⟩
 rcases placeD_cases d s with e1 | ⟨p, e1, e2⟩
 ·have e : nZ d s = false := by simp [nZ, e1]
  have hm : (-1 : Int) < 0 := by omega
  rw [e1] at ha
  have q0 := @h1; have q1 := @hm; have q2 := @decide_true; refine a8K (nN d (by omega)) ha (iJ d (by omega)) ?_
  exact aA ⟨⟨_, rfl, by simp only [go_sem, rmD, e]; try simp⟩, by simp [aK]⟩
 ·have e : nZ d s = true := by simp [nZ, h1, e1]
  have hm : ¬ (p : Int) < 0 := by omega
  have hfl := b7u e
  have hww := b2B d s
  have hcp := nN (rmD d s) (by omega)
  rw [e1] at ha
  have q0 := @h1; have q1 := @hm; have q2 := @decide_false; refine a5m ha (iJ d (by omega)) ?_
  refine b0w 0 rfl ?_
  simp only [go_sem]
  refine aN (α := Nat) (fun k => [(6, .o (.s 0)), (7, oi k), (19, .o .u)]) (fun k => [(0, .row 73 2 (((d.take k).filter (fun e => !eqD s e)).map aM) false)]) (fun k => k ≤ d.length) (fun k => d.length - k) 0 (fun _ => ?_) ?_ ?_ (fun k hk => ?_)
  ·simp only [go_sem]
  ·simp only [go_sem]; simp
  ·simp
  ·simp only [go_sem]
   refine aD ?_
   refine cnd rfl (fun h2 => ?_) (fun h2 => ?_)
   ·simp only [decide_eq_true_eq, Int.ofNat_lt] at h2
    have ht := b4a s d k h2
    have hlen : ((d.take k).filter (fun e => !eqD s e)).length ≤ 4200000 := Nat.le_trans (List.length_filter_le _ _) (by simp; omega)
    have hl1 : ((d.take k).filter (fun e => !eqD s e)).length + 1 ≤ 140737488355328 := by omega
    have hl2 : (((d.take k).filter (fun e => !eqD s e)).length + 1) * 40 ≤ 140737488355328 := by omega
    by_cases h3 : d[k].fName = s
    ·have h3' : eqD s d[k] = true := by simp [eqD, h3]
     rw [h3'] at ht
     have q0 := @h2; have q1 := @h3; have q2 := @decide_true; refine mO ?_
     refine aF (k + 1) ?_ ?_ ?_
     ·simp only [go_sem, ht, List.map_append]; simp
     ·omega
     ·omega
    ·have h3' : eqD s d[k] = false := by simp [eqD, h3]
     rw [h3'] at ht
     have q0 := @h2; have q1 := @h3; have q2 := @decide_false; refine mO ?_
     refine aF (k + 1) ?_ ?_ ?_
     ·simp only [go_sem, ht, List.map_append]; simp [aM]
     ·omega
     ·omega
   ·simp only [decide_eq_false_iff_not] at h2
    have ek : k = d.length := by omega
    subst ek
    rw [List.take_length, hfl]
    refine gP hcp ?_
    exact aA ⟨⟨_, rfl, by simp only [go_sem, e]; try simp⟩, by simp [aK]⟩
end Go.Proofs.YteaaopodnbjpoaaGreat
end
section
set_option maxRecDepth 100000
set_option maxHeartbeats 4000000
namespace Go.Proofs.YteaaopodnbjpoaaGreat
open Go Go.Sx Go.RowKit Go.Proofs
theorem rV (s : TStore) (f : TFile) (hs : aL s ≤ 4300000) (hf : wFile f ≤ 4300000) : FnC Tryz.prog 176 [cZ s, dC f] (.t [(true, (xI (nS s f)).cells), (false, [.d (iv (a1w s f))]), (false, [.d (bv (iQ s f))])]) := by
 have h1 : aT s.fSchema ≤ 4300000 := by unfold aL at hs; omega
 have h2 : s.fFiles.length ≤ 4300000 := by unfold aL bY at hs; omega
 have h3 : f.fAttrs.length ≤ 4300000 := by unfold wFile dN at hf; omega
 have hm : (mkF s f) = ⟨s.fNextID, f.fOwner, f.fShared, f.fLink, f.fAttrs⟩ := rfl
 refine ent Tryz.func176 rfl Tryz.call176 rfl (fun C => ?_); simp only [go_sem, st0, Tryz.ntmps176]
 cases hv : bR s
 ·have e : iQ s f = false := by simp [iQ, hv]
  have q0 := @hv; refine a1I (fP s hs) (mZ f h3) (eO s hs) ?_
  exact aA ⟨⟨_, rfl, by simp only [go_sem, nS, a1w, e]; try simp⟩, by simp [aK]⟩
 by_cases hl : s.fFiles.length < 12
 case neg =>
  have e : iQ s f = false := by simp [iQ, hl]
  have hz : (12 : Int) ≤ (s.fFiles.length : Int) := by omega
  have q0 := @hv; have q1 := @hz; have q2 := @decide_true; refine a8K (fP s hs) (mZ f h3) (eO s hs) ?_
  exact aA ⟨⟨_, rfl, by simp only [go_sem, nS, a1w, e]; try simp⟩, by simp [aK]⟩
 have hz : ¬ (12 : Int) ≤ (s.fFiles.length : Int) := by omega
 cases ho : eU s.fSchema (mkF s f)
 ·have e : iQ s f = false := by simp [iQ, ho]
  have hk := gN s.fSchema (mkF s f) h1 hf
  rw [ho, hm] at hk
  have qH := aI @hv (aI @hz @decide_false); repeat' (with_reducible first | refine nY ?_ | (refine mX ?_; try simp only [go_sem, qH]) | refine kD ?_ | refine rD ?_ | refine cP (fP s hs) ?_ | refine cP (mZ f h3) ?_ | refine cP (eO s hs) ?_ | refine vR hk ?_ | refine vD hk ?_ | refine aO ?_ | fail)
  exact aA ⟨⟨_, rfl, by simp only [go_sem, nS, a1w, e]; try simp⟩, by simp [aK]⟩
 ·have e : iQ s f = true := by simp [iQ, hv, hl, ho]
  have hid := a2a ho
  have hid2 : 1 ≤ s.fNextID ∧ s.fNextID ≤ 60 := hid
  have hk := gN s.fSchema (mkF s f) h1 hf
  rw [ho, hm] at hk
  have qH := aI @hv (aI @hz @decide_false); repeat' (with_reducible first | refine nY ?_ | (refine mX ?_; try simp only [go_sem, qH]) | refine kD ?_ | (apply rE [3] [] [0,1,2] [0,1,2] ((.c 3 [4,5] [1,2,4,5] .n .n)) (by simp only [go_sem]; rfl) (by simp only [go_sem]; rfl) (by simp only [go_sem]; rfl) (by decide +kernel); (focus simp only [go_sem]; done)) | exact dO | refine cB (uX ?_) ?_ | refine cK (aX ?_) ?_ | refine cO (aX ?_) ?_ | exact bZ | exact oH | exact uB | refine rD ?_ | refine cP (fP s hs) ?_ | refine cP (mZ f h3) ?_ | refine cP (eO s hs) ?_ | refine vR hk ?_ | refine vG hk ?_ | refine aO ?_ | fail)
  exact aA ⟨⟨_, rfl, by simp only [go_sem, nS, a1w, e, if_true, List.map_append, mkF]; try simp [bB]⟩, by simp [aK]⟩
theorem a5F (s : TStore) (f : TFile) (hs : aL s ≤ 4300000) (hf : wFile f ≤ 4300000) : FnC Tryz.prog 153 [cZ s, dC f] (.t [(true, (xI (nS s f)).cells), (false, [.d (iv (a1w s f))]), (false, [.d (bv (iQ s f))])]) := by
 have h1 : aT s.fSchema ≤ 4300000 := by unfold aL at hs; omega
 have h2 : s.fFiles.length ≤ 4300000 := by unfold aL bY at hs; omega
 have h3 : f.fAttrs.length ≤ 4300000 := by unfold wFile dN at hf; omega
 have hm : (mkF s f) = ⟨s.fNextID, f.fOwner, f.fShared, f.fLink, f.fAttrs⟩ := rfl
 refine ent Tryz.func153 rfl Tryz.call153 rfl (fun C => ?_); simp only [go_sem, st0, Tryz.ntmps153]
 cases hv : bR s
 ·have e : iQ s f = false := by simp [iQ, hv]
  have qH := @hv; repeat' (with_reducible first | refine nY ?_ | (refine mX ?_; try simp only [go_sem, qH]) | refine kD ?_ | refine rD ?_ | refine cP (kU s hs) ?_ | refine cP (pV f h3) ?_ | refine vR (bL s hs) ?_ | refine vD (bL s hs) ?_ | refine aO ?_ | fail)
  exact aA ⟨⟨_, rfl, by simp only [go_sem, nS, a1w, e]; try simp⟩, by simp [aK]⟩
 by_cases hl : s.fFiles.length < 12
 case neg =>
  have e : iQ s f = false := by simp [iQ, hl]
  have hz : (12 : Int) ≤ (s.fFiles.length : Int) := by omega
  have qH := aI @hv (aI @hz @decide_true); repeat' (with_reducible first | refine nY ?_ | (refine mX ?_; try simp only [go_sem, qH]) | refine kD ?_ | refine rD ?_ | refine cP (kU s hs) ?_ | refine cP (pV f h3) ?_ | refine vR (bL s hs) ?_ | refine vD (bL s hs) ?_ | refine aO ?_ | fail)
  exact aA ⟨⟨_, rfl, by simp only [go_sem, nS, a1w, e]; try simp⟩, by simp [aK]⟩
 have hz : ¬ (12 : Int) ≤ (s.fFiles.length : Int) := by omega
 cases ho : eU s.fSchema (mkF s f)
 ·have e : iQ s f = false := by simp [iQ, ho]
  have hk := fI s.fSchema (mkF s f) h1 hf
  rw [ho, hm] at hk
  have qH := aI @hv (aI @hz @decide_false); repeat' (with_reducible first | refine nY ?_ | (refine mX ?_; try simp only [go_sem, qH]) | refine kD ?_ | refine rD ?_ | refine cP (kU s hs) ?_ | refine cP (pV f h3) ?_ | refine vR (bL s hs) ?_ | refine vD (bL s hs) ?_ | refine vR hk ?_ | refine vD hk ?_ | refine aO ?_ | fail)
  exact aA ⟨⟨_, rfl, by simp only [go_sem, nS, a1w, e]; try simp⟩, by simp [aK]⟩
 ·have e : iQ s f = true := by simp [iQ, hv, hl, ho]
  have hid := a2a ho
  have hid2 : 1 ≤ s.fNextID ∧ s.fNextID ≤ 60 := hid
  have hk := fI s.fSchema (mkF s f) h1 hf
  rw [ho, hm] at hk
  have qH := aI @hv (aI @hz @decide_false); repeat' (with_reducible first | refine nY ?_ | (refine mX ?_; try simp only [go_sem, qH]) | refine kD ?_ | (apply rE [3] [] [0,1,2] [0,1,2] ((.c 3 [4,5] [1,2,4,5] .n .n)) (by simp only [go_sem]; rfl) (by simp only [go_sem]; rfl) (by simp only [go_sem]; rfl) (by decide +kernel); (focus simp only [go_sem]; done)) | exact dO | refine cB (uX ?_) ?_ | refine cK (aX ?_) ?_ | refine cO (aX ?_) ?_ | exact bZ | exact oH | exact uB | refine rD ?_ | refine cP (kU s hs) ?_ | refine cP (pV f h3) ?_ | refine vR (bL s hs) ?_ | refine vG (bL s hs) ?_ | refine vR hk ?_ | refine vG hk ?_ | refine aO ?_ | fail)
  exact aA ⟨⟨_, rfl, by simp only [go_sem, nS, a1w, e, if_true, List.map_append, mkF]; try simp [bB]⟩, by simp [aK]⟩
end Go.Proofs.YteaaopodnbjpoaaGreat
end
section
set_option maxRecDepth 100000
set_option maxHeartbeats 4000000
namespace Go.Proofs.YteaaopodnbjpoaaGreat
open Go Go.Sx Go.RowKit Go.Proofs
theorem qG (s : TStore) (f : TFile) (hs : aL s ≤ 4300000) (hf : wFile f ≤ 4300000) : FnC Tryz.prog 153 [cZ s, dC f] (.t [(true, (cZ (nS s f)).cells), (false, [.d (iv (a1w s f))]), (false, [.d (bv (iQ s f))])]) := (a5F s f hs hf).pu (by simp only [go_sem, and_self])
noncomputable def b1A (c : TCatalog) (f : TFile) : List TResult := (evX (nS c.fStore f) c.fDirs c.fResults (dirNs c.fDirs)).1
noncomputable def rU (c : TCatalog) (f : TFile) : Bool := kH c && iQ c.fStore f
noncomputable def uE (c : TCatalog) (f : TFile) : TCatalog := if rU c f then ⟨nS c.fStore f, c.fDirs, b1A c f⟩ else c
noncomputable def a1B (c : TCatalog) (f : TFile) : Int := if rU c f then a1w c.fStore f else 0
noncomputable def wH (c : TCatalog) (f : TFile) : List TDiff := if rU c f then gF c.fResults (b1A c f) else []
theorem b8N {c : TCatalog} {f : TFile} (h1 : kH c = true) (h2 : iQ c.fStore f = true) : evB (nS c.fStore f) c.fDirs = true := by
 unfold kH at h1
 rw [Bool.and_eq_true] at h1
 have h3 := h1.1
 unfold evB at h3 ⊢
 rw [Bool.and_eq_true] at h3 ⊢
 exact ⟨h3.1, b8G h2⟩
theorem b1B (c : TCatalog) (f : TFile) (h : wCatalog c + wFile f ≤ 4299999) : FnC Tryz.prog 103 [bK c, dC f] (.t [(true, (jV (uE c f)).cells), (false, [.d (iv (a1B c f))]), (false, [.w 100 3 ((wH c f).map dH)]), (false, [.d (bv (rU c f))])]) := by
 have hc : wCatalog c = aL c.fStore + aP c.fDirs + aH c.fResults := rfl
 have hw := b1o c.fStore f
 have hl : c.fDirs.length ≤ 4300000 := by unfold aP at hc; omega
 have hn : (dirNs c.fDirs).length ≤ 4300000 := by rw [lN]; exact hl
 refine ent Tryz.func103 rfl Tryz.call103 rfl (fun C => ?_); simp only [go_sem, st0, Tryz.ntmps103]
 cases h2 : iQ c.fStore f
 ·have e : rU c f = false := by simp [rU, h2]
  have e1 : uE c f = c := by simp [uE, e]
  have e2 : a1B c f = 0 := by simp [a1B, e]
  have e3 : wH c f = [] := by simp [wH, e]
  have q0 := @h2; refine a1I (rV c.fStore f (by omega) (by omega)) (bI c (by omega)) (dP c (by omega)) ?_
  exact aA ⟨⟨_, rfl, by simp only [go_sem, e, e1, e2, e3, List.map_nil]; try simp⟩, by simp [aK]⟩
 cases h1 : kH c
 ·have e : rU c f = false := by simp [rU, h1]
  have e1 : uE c f = c := by simp [uE, e]
  have e2 : a1B c f = 0 := by simp [a1B, e]
  have e3 : wH c f = [] := by simp [wH, e]
  have q0 := @h1; have q1 := @h2; refine a8J (rV c.fStore f (by omega) (by omega)) (bI c (by omega)) (dP c (by omega)) ?_
  exact aA ⟨⟨_, rfl, by simp only [go_sem, e, e1, e2, e3, List.map_nil]; try simp⟩, by simp [aK]⟩
 ·have e : rU c f = true := by simp [rU, h1, h2]
  have hev := b8N h1 h2
  have e1 : uE c f = ⟨nS c.fStore f, c.fDirs, (evX (nS c.fStore f) c.fDirs c.fResults (dirNs c.fDirs)).1⟩ := by simp [uE, e, b1A]
  have e2 : a1B c f = a1w c.fStore f := by simp [a1B, e]
  have e3 : wH c f = gF c.fResults (evX (nS c.fStore f) c.fDirs c.fResults (dirNs c.fDirs)).1 := by simp [wH, e, b1A]
  have hk := b1T c (nS c.fStore f) c.fDirs (dirNs c.fDirs) (by omega) (by omega) (by omega) hn
  unfold chC chD at hk
  rw [hev] at hk
  simp only [if_true] at hk
  have qH := aI @h1 @h2; repeat' (with_reducible first | refine nY ?_ | (refine mX ?_; try simp only [go_sem, qH]) | refine kD ?_ | (apply rE [6,7,12,13] [] [0,1,2,3,4,5] [0,1,2,3,4,5] ((.c 6 [] [0,1,2,3] (.c 7 [8,9,10,11] [8,9,10,11] (.c 12 [] [8,9,10,11] (.c 13 [14,15] [10,11,14,15] .n .n) .n) (.c 12 [] [0,1,2,3] (.c 7 [8,9,10,11] [8,9,10,11] (.c 13 [14,15] [10,11,14,15] .n .n) .n) .n)) (.c 12 [] [0,1,2,3,4,5] (.c 6 [] [0,1,2,3] (.c 7 [8,9,10,11] [8,9,10,11] (.c 13 [14,15] [10,11,14,15] .n .n) .n) .n) .n))) (by simp only [go_sem]; rfl) (by simp only [go_sem]; rfl) (by simp only [go_sem]; rfl) (by decide +kernel); (focus simp only [go_sem]; done)) | exact dO | refine cB (uX ?_) ?_ | refine cK (aX ?_) ?_ | refine cO (aX ?_) ?_ | exact bZ | (refine a3m [(6, 7), (7, 8), (8, 9), (9, 10), (10, 11)] (by simp only [go_sem]; rfl) ?_; exact rfl) | exact oH | exact uB | refine rD ?_ | refine cP (rV c.fStore f (by omega) (by omega)) ?_ | refine cP (bI c (by omega)) ?_ | refine cP (a0P c.fDirs hl) ?_ | refine cP hk ?_ | refine aO ?_ | fail)
  exact aA ⟨⟨_, rfl, by simp only [go_sem, e, e1, e2, e3]; try simp⟩, by simp [aK]⟩
theorem b1C (c : TCatalog) (f : TFile) (h : wCatalog c + wFile f ≤ 4299999) : FnC Tryz.prog 83 [bK c, dC f] (.t [(true, (bK (uE c f)).cells), (false, [.d (iv (a1B c f))]), (false, [.d (.sl ((wH c f).map dH))]), (false, [.d (bv (rU c f))])]) := by
 have hc : wCatalog c = aL c.fStore + aP c.fDirs + aH c.fResults := rfl
 have hw := b1o c.fStore f
 have hl : c.fDirs.length ≤ 4300000 := by unfold aP at hc; omega
 have hn : (dirNs c.fDirs).length ≤ 4300000 := by rw [lN]; exact hl
 refine ent Tryz.func83 rfl Tryz.call83 rfl (fun C => ?_); simp only [go_sem, st0, Tryz.ntmps83]
 cases h1 : kH c
 ·have e : rU c f = false := by simp [rU, h1]
  have e1 : uE c f = c := by simp [uE, e]
  have e2 : a1B c f = 0 := by simp [a1B, e]
  have e3 : wH c f = [] := by simp [wH, e]
  have q0 := @h1; refine a1I (bG c (by omega)) (qG c.fStore f (by omega) (by omega)) (bE c (by omega)) ?_
  first | refine aB (Sees.frz 1 rfl) ?_ | refine aB (Sees.frz 2 rfl) ?_ | refine aB (Sees.frz 3 rfl) ?_ | refine aB (Sees.frz 4 rfl) ?_ | refine aB (Sees.frz 5 rfl) ?_
  simp only [go_sem]
  exact aA ⟨⟨_, rfl, by simp only [go_sem, e, e1, e2, e3, List.map_nil]; try simp⟩, by simp [aK]⟩
 cases h2 : iQ c.fStore f
 ·have e : rU c f = false := by simp [rU, h2]
  have e1 : uE c f = c := by simp [uE, e]
  have e2 : a1B c f = 0 := by simp [a1B, e]
  have e3 : wH c f = [] := by simp [wH, e]
  have q0 := @h1; have q1 := @h2; refine a8J (bG c (by omega)) (qG c.fStore f (by omega) (by omega)) (bE c (by omega)) ?_
  first | refine aB (Sees.frz 1 rfl) ?_ | refine aB (Sees.frz 2 rfl) ?_ | refine aB (Sees.frz 3 rfl) ?_ | refine aB (Sees.frz 4 rfl) ?_ | refine aB (Sees.frz 5 rfl) ?_
  simp only [go_sem]
  exact aA ⟨⟨_, rfl, by simp only [go_sem, e, e1, e2, e3, List.map_nil]; try simp⟩, by simp [aK]⟩
 ·have e : rU c f = true := by simp [rU, h1, h2]
  have e1 : uE c f = ⟨nS c.fStore f, c.fDirs, (evX (nS c.fStore f) c.fDirs c.fResults (dirNs c.fDirs)).1⟩ := by simp [uE, e, b1A]
  have e2 : a1B c f = a1w c.fStore f := by simp [a1B, e]
  have e3 : wH c f = gF c.fResults (evX (nS c.fStore f) c.fDirs c.fResults (dirNs c.fDirs)).1 := by simp [wH, e, b1A]
  have qH := aI @h1 @h2; repeat' (with_reducible first | refine nY ?_ | (refine mX ?_; try simp only [go_sem, qH]) | refine kD ?_ | (apply rE [6,7,11,12] [] [0,1,2,3,4,5] [0,1,2,3,4,5] ((.c 6 [] [0,1,2,3] (.c 7 [8,9,10] [8,9,10] (.c 11 [] [8,9,10] (.c 12 [13] [10,13] .n .n) .n) (.c 11 [] [0,1,2,3] (.c 7 [8,9,10] [8,9,10] (.c 12 [13] [10,13] .n .n) .n) .n)) (.c 11 [] [0,1,2,3,4,5] (.c 6 [] [0,1,2,3] (.c 7 [8,9,10] [8,9,10] (.c 12 [13] [10,13] .n .n) .n) .n) .n))) (by simp only [go_sem]; rfl) (by simp only [go_sem]; rfl) (by simp only [go_sem]; rfl) (by decide +kernel); (focus simp only [go_sem]; done)) | exact dO | refine cB (uX ?_) ?_ | refine cK (aX ?_) ?_ | refine cO (aX ?_) ?_ | exact bZ | exact oH | exact uB | refine rD ?_ | refine cP (bG c (by omega)) ?_ | refine cP (qG c.fStore f (by omega) (by omega)) ?_ | refine cP (bE c (by omega)) ?_ | refine cP (sQ c.fDirs hl) ?_ | refine cP (mG c (nS c.fStore f) c.fDirs (dirNs c.fDirs) (by omega) (by omega) (by omega) hn) ?_ | refine aO ?_ | fail)
  exact aA ⟨⟨_, rfl, by simp only [go_sem, e, e1, e2, e3]; try simp⟩, by simp [aK]⟩
end Go.Proofs.YteaaopodnbjpoaaGreat
end
