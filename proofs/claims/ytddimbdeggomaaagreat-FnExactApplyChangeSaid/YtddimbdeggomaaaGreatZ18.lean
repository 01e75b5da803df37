/- Joined texts. -/
import Derived.Test.YtddimbdeggomaaaGreatZ17
import Derived.Test.YtddimbdeggomaaaGreatZ15
set_option linter.all false
section
set_option maxRecDepth 100000
set_option maxHeartbeats 4000000
namespace Go.Proofs.YtddimbdeggomaaaGreat
open Go Go.Sx Go.RowKit Go.Proofs Go.Sx.Clos
theorem b3u (q : List TNode) (hl : q.length ≤ 4300000) : FnC Tryz.prog 196 [.o (.d (.sl (q.map aW)))] (.o (.w 9 1 ((putL (qD q)).map bW))) := by
 refine ent Tryz.func196 rfl Tryz.call196 rfl (fun C => ?_); simp only [go_sem, st0, Tryz.ntmps196]
 refine aD ?_
 refine wC 3 0 rfl rfl ?_
 simp only [go_sem]
 refine aN (α := Nat) (fun k => [(3, .o (.d (.sl ((putL (qD (q.take k))).map bW)))), (4, oi k), (5, .o .u)]) (fun _ => []) (fun k => k ≤ q.length) (fun k => q.length - k) 0 (fun _ => ?_) ?_ ?_ (fun k hk => ?_)
 ·simp only [go_sem]
 ·simp only [go_sem]; simp [qD, putL]
 ·simp
 ·simp only [go_sem]
  refine aD ?_
  have hlen : (putL (qD (q.take k))).length ≤ 4300000 := by have h1 := jA (qD (q.take k)); have h2 := a7I (q.take k); simp at h2; omega
  refine cnd rfl (fun h1 => ?_) (fun h1 => ?_)
  ·simp only [decide_eq_true_eq, Int.ofNat_lt] at h1
   have ht := b2a q k h1
   have q0 := @h1; refine fE (show FnC Tryz.prog _ _ (ob (isD q[k])) from bA q[k].fOp 8 9) ?_
   refine cnd rfl (fun hv => ?_) (fun hv => ?_)
   ·rw [hv] at ht
    simp only [if_true] at ht
    have q0 := @h1; refine fE (oO (putL (qD (q.take k))) q[k].fName hlen) ?_
    refine aF (k + 1) ?_ ?_ ?_
    ·simp only [go_sem, ht, yD]; simp
    ·omega
    ·omega
   ·rw [hv] at ht
    simp only [Bool.false_eq_true, if_false, List.append_nil] at ht
    have q0 := @h1; refine gF ?_
    refine aF (k + 1) ?_ ?_ ?_
    ·simp only [go_sem, ht]; simp
    ·omega
    ·omega
  ·simp only [decide_eq_false_iff_not] at h1
   have e : k = q.length := by omega
   subst e
   rw [List.take_length] at *
   refine aD ?_
   exact aA ⟨⟨_, rfl, by simp only [go_sem, List.take_length]⟩, trivial⟩
theorem a9q (n : TNode) : FnC Tryz.prog 304 [wM n] (ob (isD n)) := by
 refine ent Tryz.func304 rfl Tryz.call304 rfl (fun C => ?_); simp only [go_sem, st0, Tryz.ntmps304]
 by_cases c8 : n.fOp = 8
 ·have hd : isD n = true := by simp [isD, c8]
  have q0 := @c8; have q1 := @decide_true; refine lL ?_
  exact aA ⟨⟨_, rfl, by simp only [go_sem, hd]⟩, trivial⟩
 by_cases c9 : n.fOp = 9
 ·have hd : isD n = true := by simp [isD, c9]
  have q0 := @c8; have q1 := @c9; have q2 := @decide_true; have q3 := @decide_false; refine mR ?_
  exact aA ⟨⟨_, rfl, by simp only [go_sem, hd]⟩, trivial⟩
 ·have hd : isD n = false := by
   rw [← Bool.not_eq_true]
   simp only [isD, Bool.and_eq_true, decide_eq_true_eq]; omega
  have q0 := @c8; have q1 := @c9; have q2 := @decide_true; have q3 := @decide_false; refine mR ?_
  exact aA ⟨⟨_, rfl, by simp only [go_sem, hd]⟩, trivial⟩
theorem b3v (q : List TNode) (hl : q.length ≤ 4300000) : FnC Tryz.prog 272 [.o (.d (.sl (q.map aW)))] (.o (.w 9 1 ((eQ (qD q)).map bW))) := by
 refine ent Tryz.func272 rfl Tryz.call272 rfl (fun C => ?_); simp only [go_sem, st0, Tryz.ntmps272]
 refine aD ?_
 refine aN (α := Nat) (fun k => [(3, .o (.s 0)), (6, .o .u), (9, oi k)]) (fun k => [(0, .row 9 1 ((qD (q.take k)).map bW) true)]) (fun k => k ≤ q.length) (fun k => q.length - k) 0 (fun _ => ?_) ?_ ?_ (fun k hk => ?_)
 ·simp only [go_sem]
 ·simp only [go_sem]; simp [qD]
 ·simp
 ·simp only [go_sem]
  refine aD ?_
  have hlen : (qD (q.take k)).length ≤ 4300000 := by have h2 := a7I (q.take k); simp at h2; omega
  refine cnd rfl (fun h1 => ?_) (fun h1 => ?_)
  ·simp only [decide_eq_true_eq, Int.ofNat_lt] at h1
   have ht := b2a q k h1
   have hl1 : (qD (q.take k)).length + 1 ≤ 140737488355328 := by omega
   have hl2 : ((qD (q.take k)).length + 1) * 16 ≤ 140737488355328 := by omega
   have q0 := @h1; refine fE (a9q q[k]) ?_
   refine cnd (b := isD q[k]) rfl (fun hv => ?_) (fun hv => ?_)
   ·rw [if_pos hv] at ht
    have q0 := @h1; refine gF ?_
    refine aF (k + 1) ?_ ?_ ?_
    ·simp only [go_sem, ht, List.map_append]; simp
    ·omega
    ·omega
   ·rw [if_neg (by simp [hv]), List.append_nil] at ht
    have q0 := @h1; refine gF ?_
    refine aF (k + 1) ?_ ?_ ?_
    ·simp only [go_sem, ht]; simp
    ·omega
    ·omega
  ·simp only [decide_eq_false_iff_not] at h1
   have e : k = q.length := by omega
   subst e
   rw [List.take_length] at *
   refine gP (kS (qD q) hlen) ?_
   exact aA ⟨⟨_, rfl, by simp only [go_sem, List.take_length]⟩, trivial⟩
theorem b0Y (q : List TNode) (hl : q.length ≤ 4300000) : FnC Tryz.prog 272 [.o (.d (.sl (q.map aW)))] (.o (.d (.sl ((eQ (qD q)).map bW)))) := (b3v q hl).pu (by simp only [go_sem, and_self])
theorem b0Z (q : List TNode) (hl : q.length ≤ 4300000) : FnC Tryz.prog 196 [.o (.d (.sl (q.map aW)))] (.o (.d (.sl ((putL (qD q)).map bW)))) := (b3u q hl).pu (by simp only [go_sem, and_self])
theorem b3w (l : List ByteArray) (s : ByteArray) : hasS (eQ l) s = hasS l s := by rw [Bool.eq_iff_iff, jZ, jZ, mZ]
theorem b1a (l : List TDir) (s : ByteArray) (h : aP l ≤ 4300000) : FnC Tryz.prog 204 [.o (.d (.sl (l.map aM))), os s] (.o (.w 9 1 ((wI l s).map bW))) := by
 have hl : l.length ≤ 4300000 := by unfold aP at h; omega
 refine ent Tryz.func204 rfl Tryz.call204 rfl (fun C => ?_); simp only [go_sem, st0, Tryz.ntmps204]
 refine aD ?_
 refine aN (α := Nat) (fun k => [(5, .o (.s 0)), (8, .o .u), (11, oi k)]) (fun k => [(0, .row 9 1 ((wI (l.take k) s).map bW) true)]) (fun k => k ≤ l.length) (fun k => l.length - k) 0 (fun _ => ?_) ?_ ?_ (fun k hk => ?_)
 ·simp only [go_sem]
 ·simp only [go_sem]; simp [wI]
 ·simp
 ·simp only [go_sem]
  refine aD ?_
  have hlen : (wI (l.take k) s).length ≤ 4300000 := by have h2 := a9u (l.take k) s; simp at h2; omega
  refine cnd rfl (fun h1 => ?_) (fun h1 => ?_)
  ·simp only [decide_eq_true_eq, Int.ofNat_lt] at h1
   have ht := b3z l s k h1
   have hq := a9w l k h1
   have hqa := uF (qD l[k].fQuery)
   have hqb := a7I l[k].fQuery
   have hl1 : (wI (l.take k) s).length + 1 ≤ 140737488355328 := by omega
   have hl2 : ((wI (l.take k) s).length + 1) * 16 ≤ 140737488355328 := by omega
   have hc := eU (eQ (qD l[k].fQuery)) s (by omega)
   rw [b3w] at hc
   have q0 := @h1; refine a3Q (b0Y l[k].fQuery (by omega)) hc ?_
   refine cnd (b := hasS (qD l[k].fQuery) s) rfl (fun hv => ?_) (fun hv => ?_)
   ·rw [if_pos hv] at ht
    have q0 := @h1; refine gF ?_
    refine aF (k + 1) ?_ ?_ ?_
    ·simp only [go_sem, ht, List.map_append]; simp
    ·omega
    ·omega
   ·rw [if_neg (by simp [hv]), List.append_nil] at ht
    have q0 := @h1; refine gF ?_
    refine aF (k + 1) ?_ ?_ ?_
    ·simp only [go_sem, ht]; simp
    ·omega
    ·omega
  ·simp only [decide_eq_false_iff_not] at h1
   have e : k = l.length := by omega
   subst e
   rw [List.take_length] at *
   refine aD ?_
   exact aA ⟨⟨_, rfl, by simp only [go_sem, List.take_length]⟩, trivial⟩
theorem a9r (l : List TDir) (s : ByteArray) (h : aP l ≤ 4300000) : FnC Tryz.prog 204 [.o (.d (.sl (l.map aM))), os s] (.o (.d (.sl ((wI l s).map bW)))) := (b1a l s h).pu (by simp only [go_sem, and_self])
end Go.Proofs.YtddimbdeggomaaaGreat
end
section
set_option maxRecDepth 100000
set_option maxHeartbeats 4000000
namespace Go.Proofs.YtddimbdeggomaaaGreat
open Go Go.Sx Go.RowKit Go.Proofs Go.Sx.Clos
theorem a6u (l : List TDir) (names : List ByteArray) (h : aP l ≤ 4300000) (hB : pot l names ≤ 4300000) : FnC Tryz.prog 139 [.o (.d (.sl (l.map aM))), .o (.d (.sl (names.map bW)))] (.o (.w 9 1 ((tdS l names).map bW))) := by
 have hl : l.length ≤ 4300000 := by unfold aP at h; omega
 have hnl : names.length ≤ 4300000 := Nat.le_trans (a1B l names) hB
 refine ent Tryz.func139 rfl Tryz.call139 rfl (fun C => ?_); simp only [go_sem, st0, Tryz.ntmps139]
 refine gP (a2y names hnl) ?_
 refine aN (α := Nat × List ByteArray) (fun x => [(5, .o (.s 0)), (6, oi x.1), (10, .o .u)]) (fun x => [(0, .row 9 1 (x.2.map bW) true)]) (fun x => x.1 ≤ x.2.length ∧ Good l names x.2 ∧ ∀ z ∈ x.2.take x.1, ∀ y ∈ wI l z, y ∈ x.2) (fun x => 4300001 - x.1) (0, names) (fun _ => ?_) ?_ ?_ (fun x hx => ?_)
 ·simp only [go_sem]
 ·simp only [go_sem]; simp
 ·exact ⟨Nat.zero_le _, Good.start l names, by simp⟩
 ·obtain ⟨i, o⟩ := x
  obtain ⟨hi, hg, hp⟩ := hx
  simp only at hi hg hp
  have hol : o.length ≤ 4300000 := Nat.le_trans (a1B l o) (Nat.le_trans hg.le hB)
  simp only [go_sem]
  refine aD ?_
  refine cnd rfl (fun h1 => ?_) (fun h1 => ?_)
  ·simp only [decide_eq_true_eq, Int.ofNat_lt] at h1
   have hoi : o[i] ∈ o.take (i + 1) := by rw [List.take_succ_eq_append_getElem h1]; exact List.mem_append_right _ List.mem_cons_self
   have hLl := a9u l o[i]
   have q0 := @h1; refine fE (a9r l o[i] h) ?_
   generalize hL : wI l o[i] = L at *
   refine aN (α := Nat × List ByteArray) (fun y => [(5, .o (.s 0)), (12, .o .u), (18, .o .u), (20, .o .u), (24, oi y.1)]) (fun y => [(0, .row 9 1 (y.2.map bW) true)]) (fun y => y.1 ≤ L.length ∧ Good l names y.2 ∧ y.2.take (i + 1) = o.take (i + 1) ∧ i < y.2.length ∧ (∀ z ∈ L.take y.1, z ∈ y.2) ∧ ∀ z ∈ o.take i, ∀ y' ∈ wI l z, y' ∈ y.2) (fun y => L.length - y.1) (0, o) (fun _ => ?_) ?_ ?_ (fun y hy => ?_)
   ·simp only [go_sem]
   ·simp only [go_sem]; simp
   ·exact ⟨Nat.zero_le _, hg, rfl, h1, by simp, hp⟩
   ·obtain ⟨k, q⟩ := y
    obtain ⟨hk, hgq, htk, hiq, hdn, hpq⟩ := hy
    simp only at hk hgq htk hiq hdn hpq
    have hql : q.length ≤ 4300000 := Nat.le_trans (a1B l q) (Nat.le_trans hgq.le hB)
    simp only [go_sem]
    refine aD ?_
    refine cnd rfl (fun h2 => ?_) (fun h2 => ?_)
    ·simp only [decide_eq_true_eq, Int.ofNat_lt] at h2
     have hqi : o[i] ∈ q := by rw [← htk] at hoi; exact List.mem_of_mem_take hoi
     have hll1 : q.length + 1 ≤ 140737488355328 := by omega
     have hll2 : (q.length + 1) * 16 ≤ 140737488355328 := by omega
     have qH := @h2; repeat' (with_reducible first | refine nY ?_ | (refine mX ?_; try simp only [go_sem, qH]) | refine kD ?_ | refine rD ?_ | refine vL (eU q L[k] hql) ?_ | refine aO ?_ | fail)
     refine cnd (b := !hasS q L[k]) rfl (fun hv => ?_) (fun hv => ?_)
     ·have hm : ¬ L[k] ∈ q := fun hm => by rw [(jZ q L[k]).2 hm] at hv; cases hv
      have q0 := @h2; refine gF ?_
      refine aF (k + 1, q ++ [L[k]]) ?_ ?_ ?_
      ·simp only [go_sem, List.map_append]; simp
      ·refine ⟨h2, hgq.add hqi (by rw [hL]; exact List.getElem_mem h2) hm, ?_, by simp; omega, fun z hz => ?_, fun z hz y' hy' => List.mem_append_left _ (hpq z hz y' hy')⟩
       ·rw [List.take_append_of_le_length (by omega)]; exact htk
       ·rw [List.take_succ_eq_append_getElem h2] at hz
        rcases List.mem_append.1 hz with hz | hz
        ·exact List.mem_append_left _ (hdn z hz)
        ·exact List.mem_append_right _ hz
      ·simp only; omega
     ·have hm : L[k] ∈ q := (jZ q L[k]).1 (by simpa using hv)
      have q0 := @h2; refine gF ?_
      refine aF (k + 1, q) ?_ ?_ ?_
      ·simp only [go_sem]; simp
      ·refine ⟨h2, hgq, htk, hiq, fun z hz => ?_, hpq⟩
       rw [List.take_succ_eq_append_getElem h2] at hz
       rcases List.mem_append.1 hz with hz | hz
       ·exact hdn z hz
       ·simp only [List.mem_singleton] at hz; subst hz; exact hm
      ·simp only; omega
    ·simp only [decide_eq_false_iff_not] at h2
     have e : k = L.length := by omega
     subst e
     rw [List.take_length] at hdn
     refine aD ?_
     refine aF (i + 1, q) ?_ ?_ ?_
     ·simp only [go_sem]; simp
     ·refine ⟨hiq, hgq, fun z hz y' hy' => ?_⟩
      simp only at hz
      rw [htk, List.take_succ_eq_append_getElem h1] at hz
      rcases List.mem_append.1 hz with hz | hz
      ·exact hpq z hz y' hy'
      ·simp only [List.mem_singleton] at hz; subst hz; rw [hL] at hy'; exact hdn y' hy'
     ·simp only; omega
  ·simp only [decide_eq_false_iff_not] at h1
   have e : i = o.length := by omega
   subst e
   rw [List.take_length] at hp
   have hd := hg.done hp
   refine gP (kS o hol) ?_
   exact aA ⟨⟨_, rfl, by simp only [go_sem, hd]⟩, trivial⟩
theorem a6v (l : List TDir) (names : List ByteArray) (h : aP l ≤ 4300000) (hB : pot l names ≤ 4300000) : FnC Tryz.prog 135 [.o (.d (.sl (l.map aM))), .o (.d (.sl (names.map bW)))] (.o (.w 9 1 ((tdS l names).map bW))) := by
 have hl : l.length ≤ 4300000 := by unfold aP at h; omega
 have hnl : names.length ≤ 4300000 := Nat.le_trans (a1B l names) hB
 refine ent Tryz.func135 rfl Tryz.call135 rfl (fun C => ?_); simp only [go_sem, st0, Tryz.ntmps135]
 refine aD ?_
 refine wC 5 0 rfl rfl ?_
 simp only [go_sem]
 refine aN (α := Nat) (fun k => [(5, .o (.d (.sl ((putL (names.take k)).map bW)))), (6, oi k)]) (fun _ => []) (fun k => k ≤ names.length) (fun k => names.length - k) 0 (fun _ => ?_) ?_ ?_ (fun k hk => ?_)
 ·simp only [go_sem]
 ·simp only [go_sem]; simp [putL]
 ·simp
 ·simp only [go_sem]
  refine aD ?_
  have hlen : (putL (names.take k)).length ≤ 4300000 := by have h1 := jA (names.take k); simp at h1; omega
  refine cnd rfl (fun h1 => ?_) (fun h1 => ?_)
  ·simp only [decide_eq_true_eq, Int.ofNat_lt] at h1
   have ht := yD (names.take k) names[k]
   rw [← List.take_succ_eq_append_getElem h1] at ht
   have q0 := @h1; refine fE (oO (putL (names.take k)) names[k] hlen) ?_
   refine aF (k + 1) ?_ ?_ ?_
   ·simp only [go_sem, ht]; simp
   ·omega
   ·omega
  ·simp only [decide_eq_false_iff_not] at h1
   have e : k = names.length := by omega
   subst e
   rw [List.take_length] at *
   refine aD ?_
   refine aN (α := Nat) (fun r => [(5, .o (.d (.sl ((rH l names r).map bW)))), (7, oi r)]) (fun _ => []) (fun r => r ≤ l.length + 1) (fun r => l.length + 1 - r) 0 (fun _ => ?_) ?_ ?_ (fun r hr => ?_)
   ·simp only [go_sem]
   ·simp only [go_sem]; simp [rH, jL]
   ·simp
   ·simp only [go_sem]
    refine aD ?_
    have hokR := a0q l names r
    have hRl := Nat.le_trans (b2b hokR) hB
    refine cnd rfl (fun h2 => ?_) (fun h2 => ?_)
    ·simp only [decide_eq_true_eq, Int.ofNat_le] at h2
     refine aD ?_
     refine aN (α := Nat) (fun i => [(5, .o (.d (.sl ((round putS (eD (l.take i)) (rH l names r)).map bW)))), (8, oi i)]) (fun _ => []) (fun i => i ≤ l.length) (fun i => l.length - i) 0 (fun _ => ?_) ?_ ?_ (fun i hi => ?_)
     ·simp only [go_sem]
     ·simp only [go_sem]; simp [round, eD]
     ·simp
     ·simp only [go_sem]
      refine aD ?_
      have hokI := b3y l (pot l names) i _ hokR
      refine cnd rfl (fun h3 => ?_) (fun h3 => ?_)
      ·simp only [decide_eq_true_eq, Int.ofNat_lt] at h3
       have ht := b1d l (rH l names r) i h3
       have hq := a9w l i h3
       have hqb := a7I l[i].fQuery
       have hqc := jA (qD l[i].fQuery)
       generalize round putS (eD (l.take i)) (rH l names r) = O at *
       have q0 := @h3; refine fE (b0Z l[i].fQuery (by omega)) ?_
       generalize putL (qD l[i].fQuery) = Q at *
       refine aN (α := Nat) (fun k => [(5, .o (.d (.sl ((askC putS l[i].fName O (Q.take k)).map bW)))), (10, oi k)]) (fun _ => []) (fun k => k ≤ Q.length) (fun k => Q.length - k) 0 (fun _ => ?_) ?_ ?_ (fun k hk => ?_)
       ·simp only [go_sem]
       ·simp only [go_sem]; simp [askC]
       ·simp
       ·simp only [go_sem]
        refine aD ?_
        have hokA := b6L l (pot l names) l[i] (List.getElem_mem h3) (Q.take k) O hokI
        have hAl := Nat.le_trans (b2b hokA) hB
        refine cnd rfl (fun h4 => ?_) (fun h4 => ?_)
        ·simp only [decide_eq_true_eq, Int.ofNat_lt] at h4
         have hin := b8g l[i].fName O Q k h4
         have hout := b6M l[i].fName O Q k h4
         generalize askC putS l[i].fName O (Q.take k) = A at *
         have q0 := @h3; have q1 := @h4; refine nO (iA A Q[k] hAl) ?_
         refine cnd (b := hasS A Q[k]) rfl (fun hv => ?_) (fun hv => ?_)
         ·have hin := hin ((jZ A Q[k]).1 hv)
          have q0 := @h3; have q1 := @h4; refine nO (oO A l[i].fName hAl) ?_
          refine aF (k + 1) ?_ ?_ ?_
          ·simp only [go_sem, hin]; simp
          ·omega
          ·omega
         ·have hout := hout (fun hm => by rw [(jZ A Q[k]).2 hm] at hv; cases hv)
          have q0 := @h3; have q1 := @h4; refine lL ?_
          refine aF (k + 1) ?_ ?_ ?_
          ·simp only [go_sem, hout]; simp
          ·omega
          ·omega
        ·simp only [decide_eq_false_iff_not] at h4
         have e : k = Q.length := by omega
         subst e
         rw [List.take_length] at *
         refine aD ?_
         refine aF (i + 1) ?_ ?_ ?_
         ·simp only [go_sem, ht]; simp
         ·omega
         ·omega
      ·simp only [decide_eq_false_iff_not] at h3
       have e : i = l.length := by omega
       subst e
       rw [List.take_length] at *
       refine aD ?_
       refine aF (r + 1) ?_ ?_ ?_
       ·simp only [go_sem]; simp [rH, jL]
       ·omega
       ·omega
    ·simp only [decide_eq_false_iff_not] at h2
     have e : r = l.length + 1 := by omega
     subst e
     refine aD ?_
     exact aA ⟨⟨_, rfl, by simp only [go_sem, tdS]⟩, trivial⟩
theorem a4V (l : List TDir) (p : TDir → Bool) (S : List ByteArray) (hS : ∀ d ∈ l, p d = true → d.fName ∈ S) : wsm wS ((l.filter p).map TDir.fName) + kE wS (eD l) S ≤ aP l := by
 unfold aP
 induction l with
 | nil => simp [wsm, eD, kE, wsum]
 | cons d l ih =>
  have ih := ih fun d' hd' => hS d' (List.mem_cons_of_mem _ hd')
  have e : wDir d = d.fName.size + bQ d.fQuery := rfl
  have ee : wS d.fName = 1 + d.fName.size := rfl
  simp only [eD, List.map_cons, kE, List.filter_cons, List.length_cons, wsum] at ih ⊢
  cases hp : p d with
  | true =>
   have hm := hS d List.mem_cons_self hp
   simp only [hm, if_true, List.map_cons, wsm]; omega
  | false =>
   simp only [Bool.false_eq_true, if_false]
   split <;> omega
theorem a4W (a b : TFile) (l : List TDir) : pot l (a1D a b l) ≤ aP l := by
 have hgen : ∀ p : TDir → Bool, pot l ((l.filter p).map TDir.fName) ≤ aP l := fun p => a4V l p _ fun d hd hp => List.mem_map.2 ⟨d, List.mem_filter.2 ⟨hd, hp⟩, rfl⟩
 unfold a1D
 split
 ·exact hgen _
 ·have := hgen (fun _ => true)
  rw [List.filter_eq_self.2 (by simp)] at this
  exact this
theorem b7h (l : List TDir) (names : List ByteArray) : pQ (tdS l names) ≤ pot l names := by
 have h := (a0q l names (l.length + 1)).2
 unfold tdS
 rw [← b5q]
 unfold pot at *
 omega
def a7H (a b : TFile) (l : List TDir) : List ByteArray := tdS l (a1D a b l)
theorem b8e (a b : TFile) (l : List TDir) : pQ (a7H a b l) ≤ aP l := Nat.le_trans (b7h l _) (a4W a b l)
theorem b0V (l : List TDir) (a b : TFile) (h : aP l + (wFile a + wFile b) ≤ 4300000) : FnC Tryz.prog 131 [.o (.d (.sl (l.map aM))), dC a, dC b] (.o (.w 9 1 ((a7H a b l).map bW))) := by
 have hp := a4W a b l
 refine ent Tryz.func131 rfl Tryz.call131 rfl (fun C => ?_); simp only [go_sem, st0, Tryz.ntmps131]
 refine a8x (a5a l a b h) (a6u l (a1D a b l) (by omega) (by omega)) ?_
 exact aA ⟨⟨_, rfl, by simp only [go_sem, a7H]⟩, trivial⟩
theorem b0W (l : List TDir) (a b : TFile) (h : aP l + (wFile a + wFile b) ≤ 4300000) : FnC Tryz.prog 129 [.o (.d (.sl (l.map aM))), dC a, dC b] (.o (.w 9 1 ((a7H a b l).map bW))) := by
 have hp := a4W a b l
 refine ent Tryz.func129 rfl Tryz.call129 rfl (fun C => ?_); simp only [go_sem, st0, Tryz.ntmps129]
 refine a8x (a5b l a b h) (a6v l (a1D a b l) (by omega) (by omega)) ?_
 exact aA ⟨⟨_, rfl, by simp only [go_sem, a7H]⟩, trivial⟩
end Go.Proofs.YtddimbdeggomaaaGreat
end
section
set_option maxRecDepth 100000
set_option maxHeartbeats 4000000
namespace Go.Proofs.YtddimbdeggomaaaGreat
open Go Go.Sx Go.RowKit Go.Proofs Go.Sx.Clos
theorem a0N (l : List TDir) (s : ByteArray) : pot l [s] ≤ aP l + s.size + 1 := by
 have h := a4V l (fun _ => false) [s] (by simp)
 unfold pot
 simp only [wsm, wS] at h ⊢
 omega
theorem a3f (l : List TDir) (s : ByteArray) : (tdS l [s]).length ≤ aP l + s.size + 1 := by
 have h := b7h l [s]
 have h1 := a0N l s
 unfold pQ at h
 omega
theorem a3S (l : List TDir) (names : List ByteArray) (h : aP l ≤ 4300000) (hB : pot l names ≤ 4300000) : FnC Tryz.prog 139 [.o (.d (.sl (l.map aM))), .o (.d (.sl (names.map bW)))] (.o (.d (.sl ((tdS l names).map bW)))) := (a6u l names h hB).pu (by simp only [go_sem, and_self])
theorem a3T (l : List TDir) (names : List ByteArray) (h : aP l ≤ 4300000) (hB : pot l names ≤ 4300000) : FnC Tryz.prog 135 [.o (.d (.sl (l.map aM))), .o (.d (.sl (names.map bW)))] (.o (.d (.sl ((tdS l names).map bW)))) := (a6v l names h hB).pu (by simp only [go_sem, and_self])
theorem qY (d : List TDir) (x : TDir) (h : aP d + wDir x ≤ 4200000) : FnC Tryz.prog 133 [.o (.d (.sl (d.map aM))), wQ x] (.t [(false, [.d (.sl ((jQ d x).map aM))]), (false, [.d (bv (mJ d x))])]) := (b0L d x h).pu (by simp only [go_sem, and_self])
theorem qZ (d : List TDir) (x : TDir) (h : aP d + wDir x ≤ 4200000) : FnC Tryz.prog 137 [.o (.d (.sl (d.map aM))), wQ x] (.t [(false, [.d (.sl ((jQ d x).map aM))]), (false, [.d (bv (mJ d x))])]) := (b0K d x h).pu (by simp only [go_sem, and_self])
noncomputable def nQ (c : TCatalog) (x : TDir) : Bool := lM c && (mJ c.fDirs x && kZ (jQ c.fDirs x))
def a2T (c : TCatalog) (x : TDir) : List ByteArray := tdS (jQ c.fDirs x) [x.fName]
noncomputable def vC (c : TCatalog) (x : TDir) : TCatalog := goC (nQ c x) c c.fStore (jQ c.fDirs x) (a2T c x)
noncomputable def xH (c : TCatalog) (x : TDir) : List TDiff := goD (nQ c x) c c.fStore (jQ c.fDirs x) (a2T c x)
theorem zL (c : TCatalog) (x : TDir) (h : wCatalog c + wDir x ≤ 2000000) : FnC Tryz.prog 58 [bH c, wQ x] (.t [(true, (kQ (vC c x)).cells), (false, [.w 158 3 ((xH c x).map dG)]), (false, [.d (bv (nQ c x))])]) := by
 have hc : wCatalog c = aL c.fStore + aP c.fDirs + aH c.fResults := rfl
 have hw := b0N c.fDirs x
 have hx : wDir x = x.fName.size + bQ x.fQuery := rfl
 have hp := a0N (jQ c.fDirs x) x.fName
 have hn : (a2T c x).length ≤ 4300000 := by have := a3f (jQ c.fDirs x) x.fName; unfold a2T; omega
 refine ent Tryz.func58 rfl Tryz.call58 rfl (fun C => ?_); simp only [go_sem, st0, Tryz.ntmps58]
 cases h2 : mJ c.fDirs x
 ·have e : nQ c x = false := by simp [nQ, h2]
  have q0 := @h2; refine b7I (qZ c.fDirs x (by omega)) (bN c (by omega)) (jO (jQ c.fDirs x) (by omega)) (fB c (by omega)) ?_
  exact aA ⟨⟨_, rfl, by simp only [go_sem, vC, xH, e, iM, iN, List.map_nil]; try simp⟩, by simp [aK]⟩
 cases h1 : lM c
 ·have e : nQ c x = false := by simp [nQ, h1]
  have q0 := @h1; have q1 := @h2; refine b4r (qZ c.fDirs x (by omega)) (bN c (by omega)) (jO (jQ c.fDirs x) (by omega)) (fB c (by omega)) ?_
  exact aA ⟨⟨_, rfl, by simp only [go_sem, vC, xH, e, iM, iN, List.map_nil]; try simp⟩, by simp [aK]⟩
 cases h3 : kZ (jQ c.fDirs x)
 ·have e : nQ c x = false := by simp [nQ, h3]
  have q0 := @h1; have q1 := @h2; have q2 := @h3; refine b6d (qZ c.fDirs x (by omega)) (bN c (by omega)) (jO (jQ c.fDirs x) (by omega)) (fB c (by omega)) ?_
  exact aA ⟨⟨_, rfl, by simp only [go_sem, vC, xH, e, iM, iN, List.map_nil]; try simp⟩, by simp [aK]⟩
 ·have e : nQ c x = true := by simp [nQ, h1, h2, h3]
  have hev : evB c.fStore (jQ c.fDirs x) = true := by unfold evB; rw [h3, b7a h1]; rfl
  have hk := a3g c c.fStore (jQ c.fDirs x) (a2T c x) hev (by omega) (by omega) (by omega) hn
  have ha := a3S (jQ c.fDirs x) [x.fName] (by omega) (by omega)
  unfold a2T at hk
  have qH := aI @h1 (aI @h2 @h3); repeat' (with_reducible first | refine nY ?_ | (refine mX ?_; try simp only [go_sem, qH]) | refine kD ?_ | (apply rE [7,8,9,13] [] [0,1,2,3,4,5,6] [0,1,2,3,4,5,6] ((.c 7 [] [0,1,2,3,4] (.c 8 [] [0,1,2,3] (.c 9 [10,11,12] [10,11,12] (.c 13 [14,15] [14,15] .n .n) .n) .n) .n)) (by simp only [go_sem]; rfl) (by simp only [go_sem]; rfl) (by simp only [go_sem]; rfl) (by decide +kernel); (focus simp only [go_sem]; done)) | exact dN | refine cB (uX ?_) ?_ | refine cK (aX ?_) ?_ | refine cO (aX ?_) ?_ | exact bZ | exact oH | exact uB | refine rD ?_ | refine cP (qZ c.fDirs x (by omega)) ?_ | refine cP (bN c (by omega)) ?_ | refine cP (jO (jQ c.fDirs x) (by omega)) ?_ | refine cP ha ?_ | refine cP hk ?_ | refine aO ?_ | fail)
  exact aA ⟨⟨_, rfl, by simp only [go_sem, vC, xH, a2T, e]; try simp⟩, by simp [aK]⟩
theorem zM (c : TCatalog) (x : TDir) (h : wCatalog c + wDir x ≤ 2000000) : FnC Tryz.prog 56 [bH c, wQ x] (.t [(true, (bH (vC c x)).cells), (false, [.d (.sl ((xH c x).map dG))]), (false, [.d (bv (nQ c x))])]) := by
 have hc : wCatalog c = aL c.fStore + aP c.fDirs + aH c.fResults := rfl
 have hw := b0N c.fDirs x
 have hx : wDir x = x.fName.size + bQ x.fQuery := rfl
 have hp := a0N (jQ c.fDirs x) x.fName
 have hn : (a2T c x).length ≤ 4300000 := by have := a3f (jQ c.fDirs x) x.fName; unfold a2T; omega
 refine ent Tryz.func56 rfl Tryz.call56 rfl (fun C => ?_); simp only [go_sem, st0, Tryz.ntmps56]
 cases h1 : lM c
 ·have e : nQ c x = false := by simp [nQ, h1]
  have q0 := @h1; refine b7I (bO c (by omega)) (qY c.fDirs x (by omega)) (bF c (by omega)) (jN (jQ c.fDirs x) (by omega)) ?_
  first | refine aC (Sees.frz 1 rfl) ?_ | refine aC (Sees.frz 2 rfl) ?_ | refine aC (Sees.frz 3 rfl) ?_ | refine aC (Sees.frz 4 rfl) ?_ | refine aC (Sees.frz 5 rfl) ?_
  simp only [go_sem]
  exact aA ⟨⟨_, rfl, by simp only [go_sem, vC, xH, e, iM, iN, List.map_nil]; try simp⟩, by simp [aK]⟩
 cases h2 : mJ c.fDirs x
 ·have e : nQ c x = false := by simp [nQ, h2]
  have q0 := @h1; have q1 := @h2; refine b4r (bO c (by omega)) (qY c.fDirs x (by omega)) (bF c (by omega)) (jN (jQ c.fDirs x) (by omega)) ?_
  first | refine aC (Sees.frz 1 rfl) ?_ | refine aC (Sees.frz 2 rfl) ?_ | refine aC (Sees.frz 3 rfl) ?_ | refine aC (Sees.frz 4 rfl) ?_ | refine aC (Sees.frz 5 rfl) ?_
  simp only [go_sem]
  exact aA ⟨⟨_, rfl, by simp only [go_sem, vC, xH, e, iM, iN, List.map_nil]; try simp⟩, by simp [aK]⟩
 cases h3 : kZ (jQ c.fDirs x)
 ·have e : nQ c x = false := by simp [nQ, h3]
  have q0 := @h1; have q1 := @h2; have q2 := @h3; refine b6d (bO c (by omega)) (qY c.fDirs x (by omega)) (bF c (by omega)) (jN (jQ c.fDirs x) (by omega)) ?_
  first | refine aC (Sees.frz 1 rfl) ?_ | refine aC (Sees.frz 2 rfl) ?_ | refine aC (Sees.frz 3 rfl) ?_ | refine aC (Sees.frz 4 rfl) ?_ | refine aC (Sees.frz 5 rfl) ?_
  simp only [go_sem]
  exact aA ⟨⟨_, rfl, by simp only [go_sem, vC, xH, e, iM, iN, List.map_nil]; try simp⟩, by simp [aK]⟩
 ·have e : nQ c x = true := by simp [nQ, h1, h2, h3]
  have ha := a3T (jQ c.fDirs x) [x.fName] (by omega) (by omega)
  have hk := lV c c.fStore (jQ c.fDirs x) (a2T c x) (by omega) (by omega) (by omega) hn
  unfold a2T at hk
  have qH := aI @h1 (aI @h2 @h3); repeat' (with_reducible first | refine nY ?_ | (refine mX ?_; try simp only [go_sem, qH]) | refine kD ?_ | (apply rE [7,8,9,13,14] [] [0,1,2,3,4,5,6] [0,1,2,3,4,5,6] ((.c 7 [] [0,1,2,3,4] (.c 8 [] [0,1,2,3] (.c 9 [10,11,12] [10,11,12] (.c 13 [] [10,11,12] (.c 14 [15] [12,15] .n .n) .n) (.c 13 [] [0,1,2,3] (.c 9 [10,11,12] [10,11,12] (.c 14 [15] [12,15] .n .n) .n) .n)) (.c 13 [] [0,1,2,3,4] (.c 8 [] [0,1,2,3] (.c 9 [10,11,12] [10,11,12] (.c 14 [15] [12,15] .n .n) .n) .n) .n)) (.c 13 [] [0,1,2,3,4,5,6] (.c 7 [] [0,1,2,3,4] (.c 8 [] [0,1,2,3] (.c 9 [10,11,12] [10,11,12] (.c 14 [15] [12,15] .n .n) .n) .n) .n) .n))) (by simp only [go_sem]; rfl) (by simp only [go_sem]; rfl) (by simp only [go_sem]; rfl) (by decide +kernel); (focus simp only [go_sem]; done)) | exact dN | refine cB (uX ?_) ?_ | refine cK (aX ?_) ?_ | refine cO (aX ?_) ?_ | exact bZ | (refine a3k [(3, 4)] (by simp only [go_sem]; rfl) ?_; exact rfl) | exact oH | exact uB | refine rD ?_ | refine cP (bO c (by omega)) ?_ | refine cP (qY c.fDirs x (by omega)) ?_ | refine cP (bF c (by omega)) ?_ | refine cP (jN (jQ c.fDirs x) (by omega)) ?_ | refine cP ha ?_ | refine cP hk ?_ | refine aO ?_ | fail)
  exact aA ⟨⟨_, rfl, by simp only [go_sem, vC, xH, a2T, e, a0Q, a0R]; try simp⟩, by simp [aK]⟩
theorem b6Y (c : TCatalog) (x : TDir) (h : wCatalog c + wDir x ≤ 2000000) : aL (vC c x).fStore ≤ 8600000 ∧ aP (vC c x).fDirs ≤ 8600000 ∧ aH (vC c x).fResults ≤ 8600000 ∧ fV (xH c x) ≤ 8600000 := by
 have hc : wCatalog c = aL c.fStore + aP c.fDirs + aH c.fResults := rfl
 have hw := b0N c.fDirs x
 exact b6j _ c _ _ _ (fun e => by unfold nQ at e; rw [Bool.and_eq_true] at e; exact e.1) (by omega) (by omega) (by omega)
end Go.Proofs.YtddimbdeggomaaaGreat
end
