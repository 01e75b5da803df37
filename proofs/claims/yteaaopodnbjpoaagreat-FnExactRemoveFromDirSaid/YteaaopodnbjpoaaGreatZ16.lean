/- Joined texts. -/
import Derived.Test.YteaaopodnbjpoaaGreatZ15
import Derived.Test.YteaaopodnbjpoaaGreatZ10
import Derived.Test.YteaaopodnbjpoaaGreatZ13
import Derived.Test.YteaaopodnbjpoaaGreatZ11
import Derived.Test.YteaaopodnbjpoaaGreatZ12
set_option linter.all false
section
set_option maxRecDepth 100000
set_option maxHeartbeats 4000000
namespace Go.Proofs.YteaaopodnbjpoaaGreat
open Go Go.Sx Go.RowKit Go.Proofs
def qX (d : List TDir) (L : List Nat) : Nat := (a1F L + 1).toNat
noncomputable def evX (s : TStore) (d : List TDir) (r : List TResult) (ns : List ByteArray) : List TResult × Nat := if sO d && dC s then allE s.fFiles d (resL d) ns (s.fFiles.length + aG r) r (qX d (resL d)) else ([], 0)
noncomputable def evB (s : TStore) (d : List TDir) : Bool := sO d && dC s
theorem uC {d : List TDir} (h : sO d = true) : dR d = true ∧ Least d.length (EE d) (resL d) := by
 unfold sO at h
 split at h
 ·rename_i hv
  refine ⟨hv, ?_⟩
  unfold a2Z at h
  split at h
  ·rename_i hx
   have hex : ∃ L, Least d.length (EE d) L := by
    have hends := a7c (yM d) (gV d) (fun x => Iff.rfl) (d.length * d.length + 2) (by omega)
    simp only at hends
    split at hends
    ·exact ⟨_, hends⟩
    ·exact (hends hx).elim
   obtain ⟨L, hL⟩ := hex
   have e : resL d = L := by unfold resL; rw [if_pos hv]; exact a8f hL
   rw [e]; exact hL
  ·cases h
 ·cases h
theorem yJ {d : List TDir} (h : dR d = true) (i : Nat) (hi : i < d.length) : d[i].fName.size ≤ 6 := by
 unfold dR at h
 simp only [Bool.and_eq_true, List.all_eq_true, List.mem_range] at h
 have := h.1 i hi
 unfold kT at this
 rw [List.getElem?_eq_getElem hi] at this
 simp only [Bool.and_eq_true] at this
 have := zG this.1
 omega
theorem lX {s : TStore} (h : dC s = true) : s.fFiles.length ≤ 12 := by
 unfold dC at h
 simp only [Bool.and_eq_true, decide_eq_true_eq] at h
 omega
theorem wJ {α : Type} (w : α → Nat) (c : Nat) : ∀ l : List α, (∀ i, (h : i < l.length) → w l[i] ≤ c) → wsum w l ≤ l.length * c
 | [], _ => by simp [wsum]
 | x :: l, h => by
  have h0 := h 0 (by simp)
  have h1 := wJ w c l fun i hi => h (i + 1) (by simpa using hi)
  simp only [List.getElem_cons_zero] at h0
  simp only [wsum, List.length_cons, Nat.succ_mul]
  omega
theorem Ev.get {fs : List TFile} {d : List TDir} {L : List Nat} {ns : List ByteArray} {c k : Nat} {R : List TResult} (h : Ev fs d L ns c k R) (i : Nat) (hi : i < d.length) : (R[i]'(by rw [h.len]; exact hi)).fName = d[i].fName ∧ (R[i]'(by rw [h.len]; exact hi)).fIDs = eX R i := by
 have hlen := h.len
 have hR : i < R.length := by omega
 refine ⟨?_, ?_⟩
 ·have := congrArg (fun l : List ByteArray => l[i]?) h.nm
  simp only [List.getElem?_map] at this
  rw [List.getElem?_eq_getElem hR, List.getElem?_eq_getElem hi] at this
  simpa using this
 ·simp [eX, List.getD_eq_getElem?_getD, hR]
theorem Ev.w {fs : List TFile} {d : List TDir} {L : List Nat} {ns : List ByteArray} {c k : Nat} {R : List TResult} (h : Ev fs d L ns c k R) (hv : dR d = true) (hc : c ≤ 4300012) : aG R ≤ 67108864 := by
 have hlen := h.len
 have h5 := jK hv
 have hb := wJ wResult 4300018 R fun i hi => by
  obtain ⟨e1, e2⟩ := h.get i (by omega)
  have h1 := yJ hv i (by omega)
  have h2 := h.bd i
  unfold wResult
  rw [e1, e2]
  omega
 unfold aG
 have : R.length * 4300018 ≤ 5 * 4300018 := Nat.mul_le_mul_right _ (by omega)
 omega
theorem b5I (R : List TResult) (i : Nat) (nm : ByteArray) (l : List Int) : (R.map aH).set i [sv nm, .sl (l.map eQ)] = (R.set i ⟨nm, l⟩).map aH := by rw [List.map_set]; rfl
theorem wK (a b : List Int) : eqL jA a b = decide (a = b) := by
 induction a generalizing b with
 | nil => cases b <;> simp [eqL]
 | cons x a ih =>
  cases b with
  | nil => simp [eqL]
  | cons y b =>
   simp only [eqL, ih, jA]
   by_cases h1 : x = y <;> by_cases h2 : a = b <;> simp [h1, h2]
theorem yK (ns : List ByteArray) (r : List TResult) (d : List TDir) (k : Nat) (h : k < d.length) : gB ns r (d.take (k + 1)) = gB ns r (d.take k) ++ [⟨d[k].fName, if hasS ns d[k].fName then [] else aR d[k].fName r⟩] := by
 unfold gB; rw [List.take_succ_eq_append_getElem h, List.map_append]; rfl
theorem a0x (ns : List ByteArray) (r : List TResult) (d : List TDir) (k : Nat) : (gB ns r (d.take k)).length ≤ k := by unfold gB; simp; omega
theorem b7k (d : List TDir) (k : Nat) (h : k < d.length) : hasS (dirNs d) d[k].fName = true := by
 rw [kK]
 exact List.mem_map.2 ⟨d[k], List.getElem_mem h, rfl⟩
def chB (fs : List TFile) (d : List TDir) (L : List Nat) (ns : List ByteArray) (k i : Nat) (R : List TResult) : Bool := decide (jC R < jC (passT fs d L ns k i R))
theorem b7l (l : List Nat) (m : Int) : m ≤ yL l m := by
 induction l generalizing m with
 | nil => simp [yL]
 | cons x l ih =>
  simp only [yL]
  split
  ·have := ih (x : Int); omega
  ·exact ih m
theorem b7m (l : List Nat) (m c : Int) (hm : m ≤ c) (h : ∀ x ∈ l, (x : Int) ≤ c) : yL l m ≤ c := by
 induction l generalizing m with
 | nil => exact hm
 | cons x l ih =>
  simp only [yL]
  refine ih _ ?_ fun y hy => h y (List.mem_cons_of_mem _ hy)
  split
  ·exact h x (by simp)
  ·exact hm
theorem b1x {d : List TDir} {L : List Nat} (h : Least d.length (EE d) L) : a1F L ≤ (d.length : Int) := by
 obtain ⟨G, hG, hs⟩ := a2u (yM d) h.clo
 refine b7m L (-1) _ (by omega) fun x hx => ?_
 obtain ⟨i, hi, rfl⟩ := List.mem_iff_getElem.1 hx
 have h1 := h.le G hG i
 have h2 := hs i (by rw [← h.clo.len]; exact hi)
 rw [sP L i hi]
 omega
theorem a6V (fs : List TFile) (d : List TDir) (L : List Nat) (ns : List ByteArray) (k : Nat) : ∀ (F : Nat) (x : List TResult × Nat), (a0f fs d L ns k F x).2 ≤ x.2 + F
 | 0, x => by simp [a0f]
 | F + 1, x => by
  unfold a0f
  split
  ·have := a6V fs d L ns k F (passT fs d L ns k d.length x.1, x.2 + 1)
   simp only at this
   omega
  ·simp only; omega
theorem a1E (fs : List TFile) (d : List TDir) (L : List Nat) (ns : List ByteArray) (c : Nat) (r : List TResult) : ∀ k, (allE fs d L ns c r k).2 ≤ k * (d.length * c + 1)
 | 0 => by simp [allE]
 | k + 1 => by
  have h1 := a1E fs d L ns c r k
  have h2 := a6V fs d L ns k (d.length * c + 1) (allE fs d L ns c r k)
  simp only [allE, Nat.succ_mul]
  omega
theorem uE (d : List TDir) (L : List Nat) (k : Nat) : (k : Int) ≤ a1F L ↔ k < qX d L := by
 have : -1 ≤ a1F L := b7l L (-1)
 unfold qX
 omega
theorem a5d {fs : List TFile} {d : List TDir} {L : List Nat} {ns : List ByteArray} {k i : Nat} {R : List TResult} (h : passT fs d L ns k (i + 1) R = passT fs d L ns k i R) : chB fs d L ns k (i + 1) R = chB fs d L ns k i R := by unfold chB; rw [h]
theorem a6W (s : TStore) (d : List TDir) (r : List TResult) (ns : List ByteArray) (hs : aL s ≤ 4300000) (hd : aY d ≤ 4300000) (hr : aG r ≤ 4300000) (hns : ns.length ≤ 4300000) : FnC Tryz.prog 166 [cB s, .o (.d (.sl (d.map aS))), .o (.d (.sl (r.map aH))), .o (.d (.sl (ns.map dD)))] (.t [(false, [.w 141 2 ((evX s d r ns).1.map aH)]), (false, [.d (iv ((evX s d r ns).2 : Nat))]), (false, [.d (bv (evB s d))])]) := by
 have hd0 : d.length + wsum wDir d ≤ 4300000 := hd
 have hs0 : aN s.fSchema + (s.fFiles.length + wsum wFile s.fFiles) ≤ 4300000 := hs
 refine ent Tryz.func166 rfl Tryz.call166 rfl (fun C => ?_); simp only [go_sem, st0, Tryz.ntmps166]
 cases hb : sO d
 ·have e1 : evX s d r ns = ([], 0) := by simp [evX, hb]
  have e2 : evB s d = false := by simp [evB, hb]
  have q0 := @hb; refine eZ (jT d hd) ?_
  exact aA ⟨⟨_, rfl, by simp only [go_sem, e1, e2, List.map_nil]; simp⟩, by simp [aU]⟩
 cases hst : dC s
 ·have e1 : evX s d r ns = ([], 0) := by simp [evX, hst]
  have e2 : evB s d = false := by simp [evB, hst]
  have q0 := @hb; have q1 := @hst; refine sI (jT d hd) (fU s hs) ?_
  exact aA ⟨⟨_, rfl, by simp only [go_sem, e1, e2, List.map_nil]; simp⟩, by simp [aU]⟩
 obtain ⟨hv, hleast⟩ := uC hb
 have hclo := hleast.clo
 have hvq := fun i (hi : i < d.length) => kU hv i hi
 have h5 := jK hv
 have h12 := lX hst
 have hLl := hclo.len
 obtain ⟨CC, hCC⟩ : ∃ c, s.fFiles.length + aG r = c := ⟨_, rfl⟩
 have hC2 : CC ≤ 4300012 := by omega
 have e1 : evX s d r ns = allE s.fFiles d (resL d) ns CC r (qX d (resL d)) := by simp [evX, hb, hst, hCC]
 have e2 : evB s d = true := by simp [evB, hb, hst]
 have q0 := @hb; have q1 := @hst; refine sI (jT d hd) (fU s hs) ?_
 refine aM (α := Nat) (fun k => [(13, .o (.s 2)), (35, .o .u), (38, oi k)]) (fun k => [(2, .row 141 2 ((gB ns r (d.take k)).map aH) true)]) (fun k => k ≤ d.length) (fun k => d.length - k) 0 (fun _ => ?_) ?_ ?_ (fun k hk => ?_)
 ·simp only [go_sem]
 ·simp only [go_sem]; simp [gB]
 ·simp
 ·simp only [go_sem]
  refine aD ?_
  refine cnd rfl (fun h => ?_) (fun h => ?_)
  ·simp only [decide_eq_true_eq, Int.ofNat_lt] at h
   have hsl := a0x ns r d k
   have hl1 : (gB ns r (d.take k)).length + 1 ≤ 140737488355328 := by omega
   have hl2 : ((gB ns r (d.take k)).length + 1) * 40 ≤ 140737488355328 := by omega
   have hsu := yK ns r d k h
   cases hn : hasS ns d[k].fName
   ·rw [hn] at hsu
    have q0 := @h; have q1 := @hn; have q2 := @hl1; have q3 := @hl2; refine a1a (eT ns d[k].fName hns) (oC r d[k].fName (by omega)) ?_
    refine aC (k + 1) ?_ ?_ ?_
    ·simp only [go_sem, hsu, List.map_append]; simp [aH]
    ·omega
    ·omega
   ·rw [hn] at hsu
    have q0 := @h; have q1 := @hn; have q2 := @hl1; have q3 := @hl2; refine a2e (eT ns d[k].fName hns) ?_
    refine aC (k + 1) ?_ ?_ ?_
    ·simp only [go_sem, hsu, List.map_append]; simp [aH]
    ·omega
    ·omega
  ·simp only [decide_eq_false_iff_not] at h
   have e : k = d.length := by omega
   subst e
   rw [List.take_length]
   generalize hL : resL d = L at *
   refine aD ?_
   refine aM (α := Nat) (fun k => [(17, oi ((allE s.fFiles d L ns CC r k).2 : Nat)), (18, oi k)]) (fun k => [(2, .row 141 2 ((allE s.fFiles d L ns CC r k).1.map aH) true)]) (fun k => k ≤ qX d L) (fun k => qX d L - k) 0 (fun _ => ?_) ?_ ?_ (fun k hk => ?_)
   ·simp only [go_sem]
   ·simp only [go_sem]; simp [allE]
   ·simp
   ·simp only [go_sem]
    have q0 := @hL; refine eZ (b1y d hd (by rw [hL]; omega)) ?_
    refine cnd rfl (fun hlev => ?_) (fun hlev => ?_)
    ·simp only [decide_eq_true_eq] at hlev
     have hkK := (uE d L k).1 hlev
     have hev := wN (fs := s.fFiles) (ns := ns) (r := r) hvq hclo k
     rw [hCC] at hev
     have htop := b1x hleast
     have hcnt := a1E s.fFiles d L ns CC r k
     have hnm : d.length * CC ≤ 5 * 4300012 := Nat.mul_le_mul h5 hC2
     have hcnt2 : k * (d.length * CC + 1) ≤ 5 * 21500061 := Nat.mul_le_mul (by omega) (by omega)
     have hround : Round s.fFiles d L ns CC k (allE s.fFiles d L ns CC r (k + 1)) ((allE s.fFiles d L ns CC r k).1, (allE s.fFiles d L ns CC r k).2, true) := Round.start hev
     generalize hT : allE s.fFiles d L ns CC r (k + 1) = T at *
     generalize allE s.fFiles d L ns CC r k = X at *
     refine aD ?_
     refine aM (α := List TResult × Nat × Bool) (fun x => [(17, oi (x.2.1 : Nat)), (19, ob x.2.2)]) (fun x => [(2, .row 141 2 (x.1.map aH) true)]) (fun x => Round s.fFiles d L ns CC k T (x.1, x.2.1, x.2.2) ∧ x.2.1 ≤ X.2 + jC x.1 + (if x.2.2 then 0 else 1)) (fun x => if x.2.2 then d.length * CC + 1 - jC x.1 else 0) (X.1, X.2, true) (fun _ => ?_) ?_ ?_ (fun x hx => ?_)
     ·simp only [go_sem]
     ·simp only [go_sem]; simp
     ·exact ⟨hround, by simp⟩
     ·obtain ⟨R, c, b⟩ := x
      obtain ⟨hx, hcb⟩ := hx
      simp only at hcb
      simp only [go_sem]
      refine aD ?_
      refine cnd rfl (fun hbt => ?_) (fun hbt => ?_)
      ·subst hbt
       have hRe : Ev s.fFiles d L ns CC k R := hx.ev
       have hRt := hRe.tot
       simp only [if_true, Nat.add_zero] at hcb
       have hcI : c ≤ 1000000000 := by omega
       have hpass := hx.pass hvq hclo
       refine aD ?_
       refine aM (α := Nat) (fun i => [(19, ob (chB s.fFiles d L ns k i R)), (71, oi i)]) (fun i => [(2, .row 141 2 ((passT s.fFiles d L ns k i R).map aH) true)]) (fun i => i ≤ d.length) (fun i => d.length - i) 0 (fun _ => ?_) ?_ ?_ (fun i hi => ?_)
       ·simp only [go_sem]
       ·simp only [go_sem]; simp [chB, passT]
       ·simp
       ·simp only [go_sem]
        refine aD ?_
        refine cnd rfl (fun h => ?_) (fun h => ?_)
        ·simp only [decide_eq_true_eq, Int.ofNat_lt] at h
         have hEv := lJ hvq hclo i R (by omega) hRe
         have hcs := kL hvq hclo i R (by omega) hRe
         have hsu := qZ s.fFiles d L ns k i R h
         have hchk : passT s.fFiles d L ns k (i + 1) R = passT s.fFiles d L ns k i R → chB s.fFiles d L ns k (i + 1) R = chB s.fFiles d L ns k i R := a5d
         have hchn : jC R < jC (passT s.fFiles d L ns k (i + 1) R) → chB s.fFiles d L ns k (i + 1) R = true := fun hx => by unfold chB; exact decide_eq_true hx
         have hw := hEv.w hv hC2
         obtain ⟨g1, g2⟩ := hEv.get i h
         have hPl := hEv.len
         have hbd := hEv.bd i
         have hwd := bB wDir d h
         have hwq : bK d[i].fQuery ≤ wDir d[i] := by unfold wDir; omega
         have hgrow := fun hin hik hne => hEv.grow h hin hik hne
         have hsame := fun he => zQ hEv h he
         generalize passT s.fFiles d L ns k i R = P at *
         generalize hP2 : passT s.fFiles d L ns k (i + 1) R = P2 at *
         have hiP : i < P.length := by omega
         have hiL : i < L.length := by omega
         have hg := sP L i hiL
         have hsl := a1K s.fFiles d[i].fQuery P
         by_cases hik : lv L i = k
         ·have hkI : ((lv L i : Nat) : Int) = ((k : Nat) : Int) := by omega
          cases hn : hasS ns d[i].fName
          ·rw [if_neg (fun h => by rw [hn] at h; cases h.2)] at hsu
           have q0 := @h; have q1 := @hiP; have q2 := @hiL; have q3 := @hg; have q4 := @hkI; have q5 := @hn; have q6 := @decide_true; have q7 := @decide_false; refine a1d (eT ns d[i].fName hns) ?_
           refine aC (i + 1) ?_ ?_ ?_
           ·simp only [go_sem, hP2, hchk hsu, hsu]; simp
           ·omega
           ·omega
          ·rw [if_pos ⟨hik, hn⟩] at hsu
           by_cases he : lK s.fFiles d[i].fQuery P = eX P i
           ·have hE : eqL jA (lK s.fFiles d[i].fQuery P) (eX P i) = true := by rw [wK]; exact decide_eq_true he
            have hPP : P2 = P := by rw [hsu, hsame he]
            have qH := aI @h (aI @hiP (aI @hiL (aI @hg (aI @hkI (aI @g1 (aI @g2 (aI @hE (aI @hn (aI @decide_true @decide_false))))))))); repeat' (with_reducible first | refine nY ?_ | (refine mX ?_; try simp only [go_sem, qH]) | refine kD ?_ | refine rD ?_ | refine cP (eT ns d[i].fName hns) ?_ | refine vR (a1G s d[i].fQuery P hs (by omega) hw) ?_ | refine vD (a1G s d[i].fQuery P hs (by omega) hw) ?_ | refine vL (sS (lK s.fFiles d[i].fQuery P) (eX P i) (by omega)) ?_ | refine aO ?_ | fail)
            refine aC (i + 1) ?_ ?_ ?_
            ·simp only [go_sem, hP2, hchk hPP, hPP]; simp
            ·omega
            ·omega
           ·have hE : eqL jA (lK s.fFiles d[i].fQuery P) (eX P i) = false := by rw [wK]; exact decide_eq_false he
            have hlt := hgrow hn hik he
            have hch2 : chB s.fFiles d L ns k (i + 1) R = true := hchn (by
             rw [hsu]
             rcases hcs with e | e
             ·rw [← e]; exact hlt
             ·omega)
            have qH := aI @h (aI @hiP (aI @hiL (aI @hg (aI @hkI (aI @g1 (aI @g2 (aI @hE (aI @hn (aI @decide_true @decide_false))))))))); repeat' (with_reducible first | refine nY ?_ | (refine mX ?_; try simp only [go_sem, qH]) | refine kD ?_ | refine rD ?_ | refine cP (eT ns d[i].fName hns) ?_ | refine vR (a1G s d[i].fQuery P hs (by omega) hw) ?_ | refine vD (a1G s d[i].fQuery P hs (by omega) hw) ?_ | refine vL (sS (lK s.fFiles d[i].fQuery P) (eX P i) (by omega)) ?_ | refine aO ?_ | fail)
            refine aC (i + 1) ?_ ?_ ?_
            ·simp only [go_sem, hP2, hch2, hsu, yO, ← b5I]; simp
            ·omega
            ·omega
         ·rw [if_neg (fun h => hik h.1)] at hsu
          have hkI : ¬ ((lv L i : Nat) : Int) = ((k : Nat) : Int) := by omega
          have q0 := @h; have q1 := @hiP; have q2 := @hiL; have q3 := @hg; have q4 := @hkI; have q5 := @decide_true; have q6 := @decide_false; refine a9j ?_
          refine aC (i + 1) ?_ ?_ ?_
          ·simp only [go_sem, hP2, hchk hsu, hsu]; simp
          ·omega
          ·omega
        ·simp only [decide_eq_false_iff_not] at h
         have e : i = d.length := by omega
         subst e
         have hPe := lJ hvq hclo d.length R (Nat.le_refl _) hRe
         have hPt := hPe.tot
         refine aD ?_
         refine aC (passT s.fFiles d L ns k d.length R, c + 1, chB s.fFiles d L ns k d.length R) ?_ ?_ ?_
         ·simp only [go_sem]; simp
         ·refine ⟨hpass, ?_⟩
          simp only
          have hpc := kL hvq hclo d.length R (Nat.le_refl _) hRe
          cases hcb2 : chB s.fFiles d L ns k d.length R with
          | false =>
           have h9 : jC R ≤ jC (passT s.fFiles d L ns k d.length R) := by
            rcases hpc with e | e
            ·rw [e]; exact Nat.le_refl _
            ·omega
           simp only [Bool.false_eq_true, if_false]; omega
          | true =>
           have := of_decide_eq_true hcb2
           simp only [if_true]; omega
         ·simp only [if_true]
          cases hcb3 : chB s.fFiles d L ns k d.length R with
          | false => simp only [Bool.false_eq_true, if_false]; omega
          | true =>
           have := of_decide_eq_true hcb3
           simp only [if_true]; omega
      ·subst hbt
       have hTe := hx.fin rfl
       simp only at hTe
       refine aD ?_
       refine aC (k + 1) ?_ ?_ ?_
       ·simp only [go_sem, hT, hTe]; simp
       ·omega
       ·omega
    ·simp only [decide_eq_false_iff_not] at hlev
     have hkK : ¬ k < qX d L := fun h => hlev ((uE d L k).2 h)
     have e : k = qX d L := by omega
     subst e
     refine aD ?_
     exact aA ⟨⟨_, rfl, by simp only [go_sem, e1, e2]; try simp⟩, by simp [aU]⟩
theorem a9P (s : TStore) (d : List TDir) (r : List TResult) (ns : List ByteArray) (hs : aL s ≤ 4300000) (hd : aY d ≤ 4300000) (hr : aG r ≤ 4300000) (hns : ns.length ≤ 4300000) : FnC Tryz.prog 218 [cB s, .o (.d (.sl (d.map aS))), .o (.d (.sl (r.map aH))), .o (.d (.sl (ns.map dD)))] (.t [(false, [.d (.sl ((evX s d r ns).1.map aH))]), (false, [.d (bv (evB s d))])]) := by
 have hd0 : d.length + wsum wDir d ≤ 4300000 := hd
 have hs0 : aN s.fSchema + (s.fFiles.length + wsum wFile s.fFiles) ≤ 4300000 := hs
 refine ent Tryz.func218 rfl Tryz.call218 rfl (fun C => ?_); simp only [go_sem, st0, Tryz.ntmps218]
 cases hb : sO d
 ·have e1 : evX s d r ns = ([], 0) := by simp [evX, hb]
  have e2 : evB s d = false := by simp [evB, hb]
  have q0 := @hb; refine eZ (iM d hd) ?_
  refine aK (Sees.frz 1 rfl) ?_
  simp only [go_sem]
  exact aA ⟨⟨_, rfl, by simp only [go_sem, e1, e2, List.map_nil]; try simp⟩, by simp [aU]⟩
 cases hst : dC s
 ·have e1 : evX s d r ns = ([], 0) := by simp [evX, hst]
  have e2 : evB s d = false := by simp [evB, hst]
  have q0 := @hb; have q1 := @hst; refine sI (iM d hd) (dP s hs) ?_
  refine aK (Sees.frz 1 rfl) ?_
  simp only [go_sem]
  exact aA ⟨⟨_, rfl, by simp only [go_sem, e1, e2, List.map_nil]; try simp⟩, by simp [aU]⟩
 obtain ⟨hv, hleast⟩ := uC hb
 have hclo := hleast.clo
 have hvq := fun i (hi : i < d.length) => kU hv i hi
 have h5 := jK hv
 have h12 := lX hst
 have hLl := hclo.len
 obtain ⟨CC, hCC⟩ : ∃ c, s.fFiles.length + aG r = c := ⟨_, rfl⟩
 have hC2 : CC ≤ 4300012 := by omega
 have e1 : evX s d r ns = allE s.fFiles d (resL d) ns CC r (qX d (resL d)) := by simp [evX, hb, hst, hCC]
 have e2 : evB s d = true := by simp [evB, hb, hst]
 have q0 := @hb; have q1 := @hst; refine sI (iM d hd) (dP s hs) ?_
 refine b8q 1 rfl ?_
 simp only [go_sem]
 refine aM (α := Nat) (fun k => [(12, .o (.s 1)), (32, .o .u), (13, oi k)]) (fun k => [(1, .row 141 2 ((gB ns r (d.take k)).map aH) false)]) (fun k => k ≤ d.length) (fun k => d.length - k) 0 (fun _ => ?_) ?_ ?_ (fun k hk => ?_)
 ·simp only [go_sem]
 ·simp only [go_sem]; simp [gB]
 ·simp
 ·simp only [go_sem]
  refine aD ?_
  refine cnd rfl (fun h => ?_) (fun h => ?_)
  ·simp only [decide_eq_true_eq, Int.ofNat_lt] at h
   have hsl := a0x ns r d k
   have hl1 : (gB ns r (d.take k)).length + 1 ≤ 140737488355328 := by omega
   have hl2 : ((gB ns r (d.take k)).length + 1) * 40 ≤ 140737488355328 := by omega
   have hsu := yK ns r d k h
   cases hn : hasS ns d[k].fName
   ·rw [hn] at hsu
    have qH := aI @h (aI @hn (aI @hl1 @hl2)); repeat' (with_reducible first | refine nY ?_ | (refine mX ?_; try simp only [go_sem, qH]) | refine kD ?_ | (apply rE [11,13,14] [] [0,1,2,3,4,5,6,7,8,9,10] [0,1,2,3,4,5,6,7,8,9,10] ((.c 11 [12] [0,1,2,3,4,12] (.c 13 [] [0,1,2,3,4,12] (.c 14 [] [] .n .n) .n) (.c 13 [] [0,1,2,3,4,5,6,7,8,9,10] (.c 11 [12] [0,1,2,3,4,12] (.c 14 [] [] .n .n) .n) .n))) (by simp only [go_sem]; rfl) (by simp only [go_sem]; rfl) (by simp only [go_sem]; rfl) (by decide +kernel); (focus simp only [go_sem]; done)) | exact bU | refine bF (uX ?_) ?_ | refine bG (aX ?_) ?_ | refine bH (aX ?_) ?_ | exact bE | exact oH | exact uB | refine rD ?_ | refine cP (gY ns d[k].fName hns) ?_ | refine cP (iY r d[k].fName (by omega)) ?_ | refine aO ?_ | fail)
    refine aC (k + 1) ?_ ?_ ?_
    ·simp only [go_sem, hsu, List.map_append]; simp [aH]
    ·omega
    ·omega
   ·rw [hn] at hsu
    have qH := aI @h (aI @hn (aI @hl1 @hl2)); repeat' (with_reducible first | refine nY ?_ | (refine mX ?_; try simp only [go_sem, qH]) | refine kD ?_ | (apply rE [11,13,14] [] [0,1,2,3,4,5,6,7,8,9,10] [0,1,2,3,4,5,6,7,8,9,10] ((.c 11 [12] [0,1,2,3,4,12] (.c 13 [] [0,1,2,3,4,12] (.c 14 [] [] .n .n) .n) (.c 13 [] [0,1,2,3,4,5,6,7,8,9,10] (.c 11 [12] [0,1,2,3,4,12] (.c 14 [] [] .n .n) .n) .n))) (by simp only [go_sem]; rfl) (by simp only [go_sem]; rfl) (by simp only [go_sem]; rfl) (by decide +kernel); (focus simp only [go_sem]; done)) | exact bU | refine bF (uX ?_) ?_ | refine bG (aX ?_) ?_ | refine bH (aX ?_) ?_ | exact bE | exact oH | exact uB | refine rD ?_ | refine cP (gY ns d[k].fName hns) ?_ | refine cP (iY r d[k].fName (by omega)) ?_ | refine aO ?_ | fail)
    refine aC (k + 1) ?_ ?_ ?_
    ·simp only [go_sem, hsu, List.map_append]; simp [aH]
    ·omega
    ·omega
  ·simp only [decide_eq_false_iff_not] at h
   have e : k = d.length := by omega
   subst e
   rw [List.take_length]
   generalize hL : resL d = L at *
   refine aD ?_
   refine aM (α := Nat) (fun k => [(15, oi k)]) (fun k => [(1, .row 141 2 ((allE s.fFiles d L ns CC r k).1.map aH) false)]) (fun k => k ≤ qX d L) (fun k => qX d L - k) 0 (fun _ => ?_) ?_ ?_ (fun k hk => ?_)
   ·simp only [go_sem]
   ·simp only [go_sem]; simp [allE]
   ·simp
   ·simp only [go_sem]
    have q0 := @hL; refine eZ (a5e d hd (by rw [hL]; omega)) ?_
    refine cnd rfl (fun hlev => ?_) (fun hlev => ?_)
    ·simp only [decide_eq_true_eq] at hlev
     have hkK := (uE d L k).1 hlev
     have hev := wN (fs := s.fFiles) (ns := ns) (r := r) hvq hclo k
     rw [hCC] at hev
     have htop := b1x hleast
     have hcnt := a1E s.fFiles d L ns CC r k
     have hnm : d.length * CC ≤ 5 * 4300012 := Nat.mul_le_mul h5 hC2
     have hcnt2 : k * (d.length * CC + 1) ≤ 5 * 21500061 := Nat.mul_le_mul (by omega) (by omega)
     have hround : Round s.fFiles d L ns CC k (allE s.fFiles d L ns CC r (k + 1)) ((allE s.fFiles d L ns CC r k).1, (allE s.fFiles d L ns CC r k).2, true) := Round.start hev
     generalize hT : allE s.fFiles d L ns CC r (k + 1) = T at *
     generalize allE s.fFiles d L ns CC r k = X at *
     refine aD ?_
     refine aM (α := List TResult × Nat × Bool) (fun x => [(16, ob x.2.2)]) (fun x => [(1, .row 141 2 (x.1.map aH) false)]) (fun x => Round s.fFiles d L ns CC k T (x.1, x.2.1, x.2.2) ∧ x.2.1 ≤ X.2 + jC x.1 + (if x.2.2 then 0 else 1)) (fun x => if x.2.2 then d.length * CC + 1 - jC x.1 else 0) (X.1, X.2, true) (fun _ => ?_) ?_ ?_ (fun x hx => ?_)
     ·simp only [go_sem]
     ·simp only [go_sem]; simp
     ·exact ⟨hround, by simp⟩
     ·obtain ⟨R, c, b⟩ := x
      obtain ⟨hx, hcb⟩ := hx
      simp only at hcb
      simp only [go_sem]
      refine aD ?_
      refine cnd rfl (fun hbt => ?_) (fun hbt => ?_)
      ·subst hbt
       have hRe : Ev s.fFiles d L ns CC k R := hx.ev
       have hRt := hRe.tot
       simp only [if_true, Nat.add_zero] at hcb
       have hcI : c ≤ 1000000000 := by omega
       have hpass := hx.pass hvq hclo
       refine aD ?_
       refine aM (α := Nat) (fun i => [(16, ob (chB s.fFiles d L ns k i R)), (17, oi i)]) (fun i => [(1, .row 141 2 ((passT s.fFiles d L ns k i R).map aH) false)]) (fun i => i ≤ d.length) (fun i => d.length - i) 0 (fun _ => ?_) ?_ ?_ (fun i hi => ?_)
       ·simp only [go_sem]
       ·simp only [go_sem]; simp [chB, passT]
       ·simp
       ·simp only [go_sem]
        refine aD ?_
        refine cnd rfl (fun h => ?_) (fun h => ?_)
        ·simp only [decide_eq_true_eq, Int.ofNat_lt] at h
         have hEv := lJ hvq hclo i R (by omega) hRe
         have hcs := kL hvq hclo i R (by omega) hRe
         have hsu := qZ s.fFiles d L ns k i R h
         have hchk : passT s.fFiles d L ns k (i + 1) R = passT s.fFiles d L ns k i R → chB s.fFiles d L ns k (i + 1) R = chB s.fFiles d L ns k i R := a5d
         have hchn : jC R < jC (passT s.fFiles d L ns k (i + 1) R) → chB s.fFiles d L ns k (i + 1) R = true := fun hx => by unfold chB; exact decide_eq_true hx
         have hw := hEv.w hv hC2
         obtain ⟨g1, g2⟩ := hEv.get i h
         have hPl := hEv.len
         have hbd := hEv.bd i
         have hwd := bB wDir d h
         have hwq : bK d[i].fQuery ≤ wDir d[i] := by unfold wDir; omega
         have hgrow := fun hin hik hne => hEv.grow h hin hik hne
         have hsame := fun he => zQ hEv h he
         generalize passT s.fFiles d L ns k i R = P at *
         generalize hP2 : passT s.fFiles d L ns k (i + 1) R = P2 at *
         have hiP : i < P.length := by omega
         have hiL : i < L.length := by omega
         have hg := sP L i hiL
         have hsl := a1K s.fFiles d[i].fQuery P
         by_cases hik : lv L i = k
         ·have hkI : ((lv L i : Nat) : Int) = ((k : Nat) : Int) := by omega
          cases hn : hasS ns d[i].fName
          ·rw [if_neg (fun h => by rw [hn] at h; cases h.2)] at hsu
           have q0 := @h; have q1 := @hiP; have q2 := @hiL; have q3 := @hg; have q4 := @hkI; have q5 := @hn; have q6 := @decide_true; have q7 := @decide_false; refine a1d (gY ns d[i].fName hns) ?_
           refine aC (i + 1) ?_ ?_ ?_
           ·simp only [go_sem, hP2, hchk hsu, hsu]; simp
           ·omega
           ·omega
          ·rw [if_pos ⟨hik, hn⟩] at hsu
           by_cases he : lK s.fFiles d[i].fQuery P = eX P i
           ·have hE : eqL jA (lK s.fFiles d[i].fQuery P) (eX P i) = true := by rw [wK]; exact decide_eq_true he
            have hPP : P2 = P := by rw [hsu, hsame he]
            have qH := aI @h (aI @hiP (aI @hiL (aI @hg (aI @hkI (aI @g1 (aI @g2 (aI @hE (aI @hn (aI @decide_true @decide_false))))))))); repeat' (with_reducible first | refine nY ?_ | (refine mX ?_; try simp only [go_sem, qH]) | refine kD ?_ | refine rT [7] [98] ?_ | refine dF (aX ?_) (uX ?_) | refine dY (aX ?_) ?_ | (refine uA ?_; simp only [go_sem, qH]; (repeat' first | omega | refine And.intro ?_ ?_ | refine cP (gY ns d[i].fName hns) ?_ | (refine mX ?_; simp only [go_sem, qH] <;> fail)); done) | refine rD ?_ | refine cP (gY ns d[i].fName hns) ?_ | refine vR (oO s d[i].fQuery P hs (by omega) hw) ?_ | refine vG (oO s d[i].fQuery P hs (by omega) hw) ?_ | refine vL (oU (lK s.fFiles d[i].fQuery P) (eX P i) (by omega)) ?_ | refine aO ?_ | fail)
            refine aC (i + 1) ?_ ?_ ?_
            ·simp only [go_sem, hP2, hchk hPP, hPP]; simp
            ·omega
            ·omega
           ·have hE : eqL jA (lK s.fFiles d[i].fQuery P) (eX P i) = false := by rw [wK]; exact decide_eq_false he
            have hlt := hgrow hn hik he
            have hch2 : chB s.fFiles d L ns k (i + 1) R = true := hchn (by
             rw [hsu]
             rcases hcs with e | e
             ·rw [← e]; exact hlt
             ·omega)
            have qH := aI @h (aI @hiP (aI @hiL (aI @hg (aI @hkI (aI @g1 (aI @g2 (aI @hE (aI @hn (aI @decide_true @decide_false))))))))); repeat' (with_reducible first | refine nY ?_ | (refine mX ?_; try simp only [go_sem, qH]) | refine kD ?_ | refine rT [7] [98] ?_ | refine dF (aX ?_) (uX ?_) | refine dY (aX ?_) ?_ | (refine uA ?_; simp only [go_sem, qH]; (repeat' first | omega | refine And.intro ?_ ?_ | refine cP (gY ns d[i].fName hns) ?_ | (refine mX ?_; simp only [go_sem, qH] <;> fail)); done) | refine rD ?_ | refine cP (gY ns d[i].fName hns) ?_ | refine vR (oO s d[i].fQuery P hs (by omega) hw) ?_ | refine vG (oO s d[i].fQuery P hs (by omega) hw) ?_ | refine vL (oU (lK s.fFiles d[i].fQuery P) (eX P i) (by omega)) ?_ | refine aO ?_ | fail)
            refine aC (i + 1) ?_ ?_ ?_
            ·simp only [go_sem, hP2, hch2, hsu, yO, ← b5I]; simp
            ·omega
            ·omega
         ·rw [if_neg (fun h => hik h.1)] at hsu
          have hkI : ¬ ((lv L i : Nat) : Int) = ((k : Nat) : Int) := by omega
          have q0 := @h; have q1 := @hiP; have q2 := @hiL; have q3 := @hg; have q4 := @hkI; have q5 := @decide_true; have q6 := @decide_false; refine a9j ?_
          refine aC (i + 1) ?_ ?_ ?_
          ·simp only [go_sem, hP2, hchk hsu, hsu]; simp
          ·omega
          ·omega
        ·simp only [decide_eq_false_iff_not] at h
         have e : i = d.length := by omega
         subst e
         have hPe := lJ hvq hclo d.length R (Nat.le_refl _) hRe
         have hPt := hPe.tot
         refine aD ?_
         refine aC (passT s.fFiles d L ns k d.length R, c + 1, chB s.fFiles d L ns k d.length R) ?_ ?_ ?_
         ·simp only [go_sem]; simp
         ·refine ⟨hpass, ?_⟩
          simp only
          have hpc := kL hvq hclo d.length R (Nat.le_refl _) hRe
          cases hcb2 : chB s.fFiles d L ns k d.length R with
          | false =>
           have h9 : jC R ≤ jC (passT s.fFiles d L ns k d.length R) := by
            rcases hpc with e | e
            ·rw [e]; exact Nat.le_refl _
            ·omega
           simp only [Bool.false_eq_true, if_false]; omega
          | true =>
           have := of_decide_eq_true hcb2
           simp only [if_true]; omega
         ·simp only [if_true]
          cases hcb3 : chB s.fFiles d L ns k d.length R with
          | false => simp only [Bool.false_eq_true, if_false]; omega
          | true =>
           have := of_decide_eq_true hcb3
           simp only [if_true]; omega
      ·subst hbt
       have hTe := hx.fin rfl
       simp only at hTe
       refine aD ?_
       refine aC (k + 1) ?_ ?_ ?_
       ·simp only [go_sem, hT, hTe]; simp
       ·omega
       ·omega
    ·simp only [decide_eq_false_iff_not] at hlev
     have hkK : ¬ k < qX d L := fun h => hlev ((uE d L k).2 h)
     have e : k = qX d L := by omega
     subst e
     refine aD ?_
     refine aK (Sees.frz 1 rfl) ?_
     simp only [go_sem]
     exact aA ⟨⟨_, rfl, by simp only [go_sem, e1, e2]; try simp⟩, by simp [aU]⟩
theorem b4d (s : TStore) (d : List TDir) (hs : aL s ≤ 4300000) (hd : aY d ≤ 4300000) : FnC Tryz.prog 151 [cB s, .o (.d (.sl (d.map aS)))] (.t [(false, [.w 141 2 ((evX s d [] (dirNs d)).1.map aH)]), (false, [.d (iv ((evX s d [] (dirNs d)).2 : Nat))]), (false, [.d (bv (evB s d))])]) := by
 have hd0 : d.length + wsum wDir d ≤ 4300000 := hd
 have hs0 : aN s.fSchema + (s.fFiles.length + wsum wFile s.fFiles) ≤ 4300000 := hs
 refine ent Tryz.func151 rfl Tryz.call151 rfl (fun C => ?_); simp only [go_sem, st0, Tryz.ntmps151]
 have hr : aG [] ≤ 4300000 := by simp [aG, wsum]
 generalize hrr : ([] : List TResult) = r at *
 have hns : (dirNs d).length ≤ 4300000 := by rw [zM]; omega
 have hhas : ∀ i, (hi : i < d.length) → hasS (dirNs d) d[i].fName = true := b7k d
 generalize dirNs d = ns at *
 cases hb : sO d
 ·have e1 : evX s d r ns = ([], 0) := by simp [evX, hb]
  have e2 : evB s d = false := by simp [evB, hb]
  have q0 := @hb; refine eZ (iM d hd) ?_
  exact aA ⟨⟨_, rfl, by simp only [go_sem, e1, e2, List.map_nil]; simp⟩, by simp [aU]⟩
 cases hst : dC s
 ·have e1 : evX s d r ns = ([], 0) := by simp [evX, hst]
  have e2 : evB s d = false := by simp [evB, hst]
  have q0 := @hb; have q1 := @hst; refine sI (iM d hd) (dP s hs) ?_
  exact aA ⟨⟨_, rfl, by simp only [go_sem, e1, e2, List.map_nil]; simp⟩, by simp [aU]⟩
 obtain ⟨hv, hleast⟩ := uC hb
 have hclo := hleast.clo
 have hvq := fun i (hi : i < d.length) => kU hv i hi
 have h5 := jK hv
 have h12 := lX hst
 have hLl := hclo.len
 obtain ⟨CC, hCC⟩ : ∃ c, s.fFiles.length + aG r = c := ⟨_, rfl⟩
 have hC2 : CC ≤ 4300012 := by omega
 have e1 : evX s d r ns = allE s.fFiles d (resL d) ns CC r (qX d (resL d)) := by simp [evX, hb, hst, hCC]
 have e2 : evB s d = true := by simp [evB, hb, hst]
 have q0 := @hb; have q1 := @hst; refine sI (iM d hd) (dP s hs) ?_
 refine aM (α := Nat) (fun k => [(9, .o (.s 1)), (29, .o .u), (10, oi k)]) (fun k => [(1, .row 141 2 ((gB ns r (d.take k)).map aH) true)]) (fun k => k ≤ d.length) (fun k => d.length - k) 0 (fun _ => ?_) ?_ ?_ (fun k hk => ?_)
 ·simp only [go_sem]
 ·simp only [go_sem]; simp [gB]
 ·simp
 ·simp only [go_sem]
  refine aD ?_
  refine cnd rfl (fun h => ?_) (fun h => ?_)
  ·simp only [decide_eq_true_eq, Int.ofNat_lt] at h
   have hsl := a0x ns r d k
   have hl1 : (gB ns r (d.take k)).length + 1 ≤ 140737488355328 := by omega
   have hl2 : ((gB ns r (d.take k)).length + 1) * 40 ≤ 140737488355328 := by omega
   have hsu := yK ns r d k h
   rw [hhas k h] at hsu
   have q0 := @h; have q1 := @hl1; have q2 := @hl2; refine lT ?_
   refine aC (k + 1) ?_ ?_ ?_
   ·simp only [go_sem, hsu, List.map_append]; simp [aH]
   ·omega
   ·omega
  ·simp only [decide_eq_false_iff_not] at h
   have e : k = d.length := by omega
   subst e
   rw [List.take_length]
   generalize hL : resL d = L at *
   refine aD ?_
   refine aM (α := Nat) (fun k => [(11, oi ((allE s.fFiles d L ns CC r k).2 : Nat)), (12, oi k)]) (fun k => [(1, .row 141 2 ((allE s.fFiles d L ns CC r k).1.map aH) true)]) (fun k => k ≤ qX d L) (fun k => qX d L - k) 0 (fun _ => ?_) ?_ ?_ (fun k hk => ?_)
   ·simp only [go_sem]
   ·simp only [go_sem]; simp [allE]
   ·simp
   ·simp only [go_sem]
    have q0 := @hL; refine eZ (a5e d hd (by rw [hL]; omega)) ?_
    refine cnd rfl (fun hlev => ?_) (fun hlev => ?_)
    ·simp only [decide_eq_true_eq] at hlev
     have hkK := (uE d L k).1 hlev
     have hev := wN (fs := s.fFiles) (ns := ns) (r := r) hvq hclo k
     rw [hCC] at hev
     have htop := b1x hleast
     have hcnt := a1E s.fFiles d L ns CC r k
     have hnm : d.length * CC ≤ 5 * 4300012 := Nat.mul_le_mul h5 hC2
     have hcnt2 : k * (d.length * CC + 1) ≤ 5 * 21500061 := Nat.mul_le_mul (by omega) (by omega)
     have hround : Round s.fFiles d L ns CC k (allE s.fFiles d L ns CC r (k + 1)) ((allE s.fFiles d L ns CC r k).1, (allE s.fFiles d L ns CC r k).2, true) := Round.start hev
     generalize hT : allE s.fFiles d L ns CC r (k + 1) = T at *
     generalize allE s.fFiles d L ns CC r k = X at *
     refine aD ?_
     refine aM (α := List TResult × Nat × Bool) (fun x => [(11, oi (x.2.1 : Nat)), (13, ob x.2.2)]) (fun x => [(1, .row 141 2 (x.1.map aH) true)]) (fun x => Round s.fFiles d L ns CC k T (x.1, x.2.1, x.2.2) ∧ x.2.1 ≤ X.2 + jC x.1 + (if x.2.2 then 0 else 1)) (fun x => if x.2.2 then d.length * CC + 1 - jC x.1 else 0) (X.1, X.2, true) (fun _ => ?_) ?_ ?_ (fun x hx => ?_)
     ·simp only [go_sem]
     ·simp only [go_sem]; simp
     ·exact ⟨hround, by simp⟩
     ·obtain ⟨R, c, b⟩ := x
      obtain ⟨hx, hcb⟩ := hx
      simp only at hcb
      simp only [go_sem]
      refine aD ?_
      refine cnd rfl (fun hbt => ?_) (fun hbt => ?_)
      ·subst hbt
       have hRe : Ev s.fFiles d L ns CC k R := hx.ev
       have hRt := hRe.tot
       simp only [if_true, Nat.add_zero] at hcb
       have hcI : c ≤ 1000000000 := by omega
       have hpass := hx.pass hvq hclo
       refine aD ?_
       refine aM (α := Nat) (fun i => [(13, ob (chB s.fFiles d L ns k i R)), (14, oi i)]) (fun i => [(1, .row 141 2 ((passT s.fFiles d L ns k i R).map aH) true)]) (fun i => i ≤ d.length) (fun i => d.length - i) 0 (fun _ => ?_) ?_ ?_ (fun i hi => ?_)
       ·simp only [go_sem]
       ·simp only [go_sem]; simp [chB, passT]
       ·simp
       ·simp only [go_sem]
        refine aD ?_
        refine cnd rfl (fun h => ?_) (fun h => ?_)
        ·simp only [decide_eq_true_eq, Int.ofNat_lt] at h
         have hEv := lJ hvq hclo i R (by omega) hRe
         have hcs := kL hvq hclo i R (by omega) hRe
         have hsu := qZ s.fFiles d L ns k i R h
         have hchk : passT s.fFiles d L ns k (i + 1) R = passT s.fFiles d L ns k i R → chB s.fFiles d L ns k (i + 1) R = chB s.fFiles d L ns k i R := a5d
         have hchn : jC R < jC (passT s.fFiles d L ns k (i + 1) R) → chB s.fFiles d L ns k (i + 1) R = true := fun hx => by unfold chB; exact decide_eq_true hx
         have hw := hEv.w hv hC2
         obtain ⟨g1, g2⟩ := hEv.get i h
         have hPl := hEv.len
         have hbd := hEv.bd i
         have hwd := bB wDir d h
         have hwq : bK d[i].fQuery ≤ wDir d[i] := by unfold wDir; omega
         have hgrow := fun hin hik hne => hEv.grow h hin hik hne
         have hsame := fun he => zQ hEv h he
         generalize passT s.fFiles d L ns k i R = P at *
         generalize hP2 : passT s.fFiles d L ns k (i + 1) R = P2 at *
         have hiP : i < P.length := by omega
         have hiL : i < L.length := by omega
         have hg := sP L i hiL
         have hsl := a1K s.fFiles d[i].fQuery P
         by_cases hik : lv L i = k
         ·have hkI : ((lv L i : Nat) : Int) = ((k : Nat) : Int) := by omega
          have hn := hhas i h
          ·rw [if_pos ⟨hik, hn⟩] at hsu
           by_cases he : lK s.fFiles d[i].fQuery P = eX P i
           ·have hE : eqL jA (lK s.fFiles d[i].fQuery P) (eX P i) = true := by rw [wK]; exact decide_eq_true he
            have hPP : P2 = P := by rw [hsu, hsame he]
            have qH := aI @h (aI @hiP (aI @hiL (aI @hg (aI @hkI (aI @g1 (aI @g2 (aI @hE (aI @hn (aI @decide_true @decide_false))))))))); repeat' (with_reducible first | refine nY ?_ | (refine mX ?_; try simp only [go_sem, qH]) | refine kD ?_ | refine rT [7] [74] ?_ | refine dF (aX ?_) (uX ?_) | refine dY (aX ?_) ?_ | (refine uA ?_; simp only [go_sem, qH]; (repeat' first | omega | refine And.intro ?_ ?_ | refine cP (eT ns d[i].fName hns) ?_ | (refine mX ?_; simp only [go_sem, qH] <;> fail)); done) | refine rD ?_ | refine cP (eT ns d[i].fName hns) ?_ | refine vR (oO s d[i].fQuery P hs (by omega) hw) ?_ | refine vG (oO s d[i].fQuery P hs (by omega) hw) ?_ | refine vL (oU (lK s.fFiles d[i].fQuery P) (eX P i) (by omega)) ?_ | refine aO ?_ | fail)
            refine aC (i + 1) ?_ ?_ ?_
            ·simp only [go_sem, hP2, hchk hPP, hPP]; simp
            ·omega
            ·omega
           ·have hE : eqL jA (lK s.fFiles d[i].fQuery P) (eX P i) = false := by rw [wK]; exact decide_eq_false he
            have hlt := hgrow hn hik he
            have hch2 : chB s.fFiles d L ns k (i + 1) R = true := hchn (by
             rw [hsu]
             rcases hcs with e | e
             ·rw [← e]; exact hlt
             ·omega)
            have qH := aI @h (aI @hiP (aI @hiL (aI @hg (aI @hkI (aI @g1 (aI @g2 (aI @hE (aI @hn (aI @decide_true @decide_false))))))))); repeat' (with_reducible first | refine nY ?_ | (refine mX ?_; try simp only [go_sem, qH]) | refine kD ?_ | refine rT [7] [74] ?_ | refine dF (aX ?_) (uX ?_) | refine dY (aX ?_) ?_ | (refine uA ?_; simp only [go_sem, qH]; (repeat' first | omega | refine And.intro ?_ ?_ | refine cP (eT ns d[i].fName hns) ?_ | (refine mX ?_; simp only [go_sem, qH] <;> fail)); done) | refine rD ?_ | refine cP (eT ns d[i].fName hns) ?_ | refine vR (oO s d[i].fQuery P hs (by omega) hw) ?_ | refine vG (oO s d[i].fQuery P hs (by omega) hw) ?_ | refine vL (oU (lK s.fFiles d[i].fQuery P) (eX P i) (by omega)) ?_ | refine aO ?_ | fail)
            refine aC (i + 1) ?_ ?_ ?_
            ·simp only [go_sem, hP2, hch2, hsu, yO, ← b5I]; simp
            ·omega
            ·omega
         ·rw [if_neg (fun h => hik h.1)] at hsu
          have hkI : ¬ ((lv L i : Nat) : Int) = ((k : Nat) : Int) := by omega
          have q0 := @h; have q1 := @hiP; have q2 := @hiL; have q3 := @hg; have q4 := @hkI; have q5 := @decide_true; have q6 := @decide_false; refine a9j ?_
          refine aC (i + 1) ?_ ?_ ?_
          ·simp only [go_sem, hP2, hchk hsu, hsu]; simp
          ·omega
          ·omega
        ·simp only [decide_eq_false_iff_not] at h
         have e : i = d.length := by omega
         subst e
         have hPe := lJ hvq hclo d.length R (Nat.le_refl _) hRe
         have hPt := hPe.tot
         refine aD ?_
         refine aC (passT s.fFiles d L ns k d.length R, c + 1, chB s.fFiles d L ns k d.length R) ?_ ?_ ?_
         ·simp only [go_sem]; simp
         ·refine ⟨hpass, ?_⟩
          simp only
          have hpc := kL hvq hclo d.length R (Nat.le_refl _) hRe
          cases hcb2 : chB s.fFiles d L ns k d.length R with
          | false =>
           have h9 : jC R ≤ jC (passT s.fFiles d L ns k d.length R) := by
            rcases hpc with e | e
            ·rw [e]; exact Nat.le_refl _
            ·omega
           simp only [Bool.false_eq_true, if_false]; omega
          | true =>
           have := of_decide_eq_true hcb2
           simp only [if_true]; omega
         ·simp only [if_true]
          cases hcb3 : chB s.fFiles d L ns k d.length R with
          | false => simp only [Bool.false_eq_true, if_false]; omega
          | true =>
           have := of_decide_eq_true hcb3
           simp only [if_true]; omega
      ·subst hbt
       have hTe := hx.fin rfl
       simp only at hTe
       refine aD ?_
       refine aC (k + 1) ?_ ?_ ?_
       ·simp only [go_sem, hT, hTe]; simp
       ·omega
       ·omega
    ·simp only [decide_eq_false_iff_not] at hlev
     have hkK : ¬ k < qX d L := fun h => hlev ((uE d L k).2 h)
     have e : k = qX d L := by omega
     subst e
     refine aD ?_
     exact aA ⟨⟨_, rfl, by simp only [go_sem, e1, e2]; try simp⟩, by simp [aU]⟩
theorem a5s (s : TStore) (d : List TDir) (hs : aL s ≤ 4300000) (hd : aY d ≤ 4300000) : FnC Tryz.prog 166 [cB s, .o (.d (.sl (d.map aS))), .o (.d (.sl [])), .o (.d (.sl ((dirNs d).map dD)))] (.t [(false, [.w 141 2 ((evX s d [] (dirNs d)).1.map aH)]), (false, [.d (iv ((evX s d [] (dirNs d)).2 : Nat))]), (false, [.d (bv (evB s d))])]) :=
 a6W s d [] (dirNs d) hs hd (by simp [aG, wsum]) (by rw [zM]; unfold aY at hd; omega)
theorem a3a (s : TStore) (d : List TDir) (hs : aL s ≤ 4300000) (hd : aY d ≤ 4300000) : FnC Tryz.prog 97 [cB s, .o (.d (.sl (d.map aS)))] (.t [(false, [.w 141 2 ((evX s d [] (dirNs d)).1.map aH)]), (false, [.d (bv (evB s d))])]) := by
 have hl : d.length ≤ 4300000 := by unfold aY at hd; omega
 refine ent Tryz.func97 rfl Tryz.call97 rfl (fun C => ?_); simp only [go_sem, st0, Tryz.ntmps97]
 have qH := trivial; repeat' (with_reducible first | refine nY ?_ | (refine mX ?_; try simp only [go_sem]) | refine kD ?_ | refine rT [3, 4] [13, 14] ?_ | refine dF (aX ?_) (uX ?_) | refine dY (aX ?_) ?_ | (refine uA ?_; simp only [go_sem]; (repeat' first | omega | refine And.intro ?_ ?_ | refine cP (a5s s d hs hd) ?_ | refine cP (yG d hl) ?_ | (refine mX ?_; simp only [go_sem] <;> fail)); done) | refine rD ?_ | refine cP (a5s s d hs hd) ?_ | refine cP (yG d hl) ?_ | refine aO ?_ | fail)
 exact aA ⟨⟨_, rfl, by simp only [go_sem]⟩, by simp [aU]⟩
theorem a3b (s : TStore) (d : List TDir) (hs : aL s ≤ 4300000) (hd : aY d ≤ 4300000) : FnC Tryz.prog 80 [cB s, .o (.d (.sl (d.map aS)))] (.t [(false, [.w 141 2 ((evX s d [] (dirNs d)).1.map aH)]), (false, [.d (bv (evB s d))])]) := by
 refine ent Tryz.func80 rfl Tryz.call80 rfl (fun C => ?_); simp only [go_sem, st0, Tryz.ntmps80]
 refine fK (b4d s d hs hd) ?_
 exact aA ⟨⟨_, rfl, by simp only [go_sem]⟩, by simp [aU]⟩
theorem b1H (s : TStore) (d : List TDir) : aG (evX s d [] (dirNs d)).1 ≤ 95 := by
 unfold evX
 split
 ·rename_i hb
  rw [Bool.and_eq_true] at hb
  obtain ⟨hv, hleast⟩ := uC hb.1
  have h5 := jK hv
  have h12 := lX hb.2
  have hev := wN (fs := s.fFiles) (ns := dirNs d) (r := []) (fun i (hi : i < d.length) => kU hv i hi) hleast.clo (qX d (resL d))
  have h0 : aG [] = 0 := by simp [aG, wsum]
  revert hev
  generalize (allE s.fFiles d (resL d) (dirNs d) (s.fFiles.length + aG []) [] (qX d (resL d))).1 = X
  rw [h0]
  intro hev
  have hlen := hev.len
  have hb2 := wJ wResult 18 X fun i hi => by
   obtain ⟨e1, e2⟩ := hev.get i (by omega)
   have h1 := yJ hv i (by omega)
   have h2 := hev.bd i
   unfold wResult
   rw [e1, e2]
   omega
  unfold aG
  have := Nat.mul_le_mul_right 18 h5
  rw [hlen] at hb2 ⊢
  omega
 ·simp [aG, wsum]
theorem b7M (s : TStore) (d : List TDir) : aG (evX s d [] (dirNs d)).1 ≤ 4300000 := Nat.le_trans (b1H s d) (by decide)
noncomputable def curB (c : TCatalog) : Bool := evB c.fStore c.fDirs && eqL dO (evX c.fStore c.fDirs [] (dirNs c.fDirs)).1 c.fResults
theorem jM (c : TCatalog) (h : wCatalog c ≤ 4300000) : FnC Tryz.prog 47 [bZ c] (ob (curB c)) := by
 unfold wCatalog at h
 refine ent Tryz.func47 rfl Tryz.call47 rfl (fun C => ?_); simp only [go_sem, st0, Tryz.ntmps47]
 cases hb : evB c.fStore c.fDirs
 all_goals
  have q0 := @hb; refine a4n (a3a c.fStore c.fDirs (by omega) (by omega)) (zX (evX c.fStore c.fDirs [] (dirNs c.fDirs)).1 c.fResults (b7M _ _)) ?_
  exact aA ⟨⟨_, rfl, by simp only [go_sem, curB, hb, Bool.true_and, Bool.false_and]⟩, trivial⟩
theorem lU (c : TCatalog) (h : wCatalog c ≤ 4300000) : FnC Tryz.prog 40 [bZ c] (ob (curB c)) := by
 unfold wCatalog at h
 refine ent Tryz.func40 rfl Tryz.call40 rfl (fun C => ?_); simp only [go_sem, st0, Tryz.ntmps40]
 cases hb : evB c.fStore c.fDirs
 all_goals
  have q0 := @hb; refine a4n (a3b c.fStore c.fDirs (by omega) (by omega)) (zW (evX c.fStore c.fDirs [] (dirNs c.fDirs)).1 c.fResults (b7M _ _)) ?_
  exact aA ⟨⟨_, rfl, by simp only [go_sem, curB, hb, Bool.true_and, Bool.false_and]⟩, trivial⟩
theorem b7f (a b : List TResult) (h : eqL dO a b = true) : a = b := by
 induction a generalizing b with
 | nil => cases b with
  | nil => rfl
  | cons y b => simp [eqL] at h
 | cons x a ih =>
  cases b with
  | nil => simp [eqL] at h
  | cons y b =>
   simp only [eqL, dO, wK, Bool.and_eq_true, decide_eq_true_eq] at h
   obtain ⟨⟨e1, e2⟩, e3⟩ := h
   rw [ih b e3]
   cases x; cases y; simp only at e1 e2; subst e1; subst e2; rfl
theorem b9A {c : TCatalog} (h : curB c = true) : aG c.fResults ≤ 95 := by
 unfold curB at h
 rw [Bool.and_eq_true] at h
 rw [← b7f _ _ h.2]
 exact b1H _ _
theorem b9B {c : TCatalog} (h : curB c = true) : sO c.fDirs = true := by
 unfold curB evB at h
 simp only [Bool.and_eq_true] at h
 exact h.1.1
theorem b8H (s : TStore) (d : List TDir) (r : List TResult) (ns : List ByteArray) (hr : aG r ≤ 95) : aG (evX s d r ns).1 ≤ 600 := by
 unfold evX
 split
 ·rename_i hb
  rw [Bool.and_eq_true] at hb
  obtain ⟨hv, hleast⟩ := uC hb.1
  have h12 := lX hb.2
  have hev := wN (fs := s.fFiles) (ns := ns) (r := r) (fun i (hi : i < d.length) => kU hv i hi) hleast.clo (qX d (resL d))
  revert hev
  generalize (allE s.fFiles d (resL d) ns (s.fFiles.length + aG r) r (qX d (resL d))).1 = R
  intro hev
  have hlen := hev.len
  have h5 := jK hv
  have hb3 := wJ wResult 113 R fun i hi => by
   obtain ⟨e1, e2⟩ := hev.get i (by omega)
   have h1 := yJ hv i (by omega)
   have h2 := hev.bd i
   unfold wResult
   rw [e1, e2]
   omega
  unfold aG
  have : R.length * 113 ≤ 5 * 113 := Nat.mul_le_mul_right _ (by omega)
  omega
 ·simp [aG, wsum]
theorem b7g (a b : List TResult) (ha : aG a ≤ 95) (hb : aG b ≤ 600) : nK (iH a b) ≤ 60000 := by
 have h := b2E a b
 have h1 : b.length ≤ 600 := by unfold aG at hb; omega
 have h2 : b.length * aG a ≤ 600 * 95 := Nat.mul_le_mul h1 ha
 omega
theorem a1v (s : TStore) (d : List TDir) (r : List TResult) (ns : List ByteArray) (hs : aL s ≤ 4300000) (hd : aY d ≤ 4300000) (hr : aG r ≤ 4300000) (hns : ns.length ≤ 4300000) : FnC Tryz.prog 187 [cB s, .o (.d (.sl (d.map aS))), .o (.d (.sl (r.map aH))), .o (.d (.sl (ns.map dD)))] (.t [(false, [.w 141 2 ((evX s d r ns).1.map aH)]), (false, [.d (bv (evB s d))])]) := by
 refine ent Tryz.func187 rfl Tryz.call187 rfl (fun C => ?_); simp only [go_sem, st0, Tryz.ntmps187]
 refine fK (a6W s d r ns hs hd hr hns) ?_
 exact aA ⟨⟨_, rfl, by simp only [go_sem]⟩, by simp [aU]⟩
theorem b5C (s : TStore) (d : List TDir) (r : List TResult) (ns : List ByteArray) (hr : aG r ≤ 4300000) : aG (evX s d r ns).1 ≤ 67108864 := by
 unfold evX
 split
 ·rename_i hb
  rw [Bool.and_eq_true] at hb
  obtain ⟨hv, hleast⟩ := uC hb.1
  have h12 := lX hb.2
  have hev := wN (fs := s.fFiles) (ns := ns) (r := r) (fun i (hi : i < d.length) => kU hv i hi) hleast.clo (qX d (resL d))
  exact hev.w hv (by omega)
 ·simp [aG, wsum]
noncomputable def chC (c : TCatalog) (s : TStore) (d : List TDir) (ns : List ByteArray) : TCatalog := if evB s d then ⟨s, d, (evX s d c.fResults ns).1⟩ else c
noncomputable def chD (c : TCatalog) (s : TStore) (d : List TDir) (ns : List ByteArray) : List TDiff := if evB s d then iH c.fResults (evX s d c.fResults ns).1 else []
theorem b7h (c : TCatalog) (s : TStore) (d : List TDir) (ns : List ByteArray) (hc : wCatalog c ≤ 4300000) (hs : aL s ≤ 4300000) (hd : aY d ≤ 4300000) (hns : ns.length ≤ 4300000) : FnC Tryz.prog 110 [bZ c, cB s, .o (.d (.sl (d.map aS))), .o (.d (.sl (ns.map dD)))] (.t [(true, (mG (chC c s d ns)).cells), (false, [.w 100 3 ((chD c s d ns).map jW)]), (false, [.d (bv (evB s d))])]) := by
 have hr : aG c.fResults ≤ 4300000 := by unfold wCatalog at hc; omega
 refine ent Tryz.func110 rfl Tryz.call110 rfl (fun C => ?_); simp only [go_sem, st0, Tryz.ntmps110]
 cases hb : evB s d
 ·have e1 : chC c s d ns = c := by simp [chC, hb]
  have e2 : chD c s d ns = [] := by simp [chD, hb]
  have q0 := @hb; refine a4n (a1v s d c.fResults ns hs hd hr hns) (gL c hc) ?_
  exact aA ⟨⟨_, rfl, by simp only [go_sem, e1, e2, List.map_nil]; try simp⟩, by simp [aU]⟩
 ·have e1 : chC c s d ns = ⟨s, d, (evX s d c.fResults ns).1⟩ := by simp [chC, hb]
  have e2 : chD c s d ns = iH c.fResults (evX s d c.fResults ns).1 := by simp [chD, hb]
  have hw := b5C s d c.fResults ns hr
  have qH := @hb; repeat' (with_reducible first | refine nY ?_ | (refine mX ?_; try simp only [go_sem, qH]) | refine kD ?_ | (apply rE [1,3,9,10] [] [0,2,4,6,7,8] [0,2,4,6,7,8] ((.c 1 [] [2,4,6,7,8] (.c 3 [5] [4,5,6,7,8] (.c 9 [] [4,5] (.c 10 [11,12] [11,12] .n .n) .n) .n) .n)) (by simp only [go_sem]; rfl) (by simp only [go_sem]; rfl) (by simp only [go_sem]; rfl) (by decide +kernel); (focus simp only [go_sem]; done)) | exact bU | refine bF (uX ?_) ?_ | refine bG (aX ?_) ?_ | refine bH (aX ?_) ?_ | exact bE | exact oH | exact uB | refine rD ?_ | refine cP (a1v s d c.fResults ns hs hd hr hns) ?_ | refine cP (nM s hs) ?_ | refine cP (a6Q d hd) ?_ | refine vR (a1w c.fResults (evX s d c.fResults ns).1 hr hw) ?_ | refine vG (a1w c.fResults (evX s d c.fResults ns).1 hr hw) ?_ | refine aO ?_ | fail)
  exact aA ⟨⟨_, rfl, by simp only [go_sem, e1, e2]; try simp⟩, by simp [aU]⟩
theorem a9J (c : TCatalog) (s : TStore) (d : List TDir) (ns : List ByteArray) (hc : wCatalog c ≤ 4300000) (hs : aL s ≤ 4300000) (hd : aY d ≤ 4300000) (hns : ns.length ≤ 4300000) : FnC Tryz.prog 154 [bZ c, cB s, .o (.d (.sl (d.map aS))), .o (.d (.sl (ns.map dD)))] (.t [(true, (bZ ⟨s, d, (evX s d c.fResults ns).1⟩).cells), (false, [.w 100 3 ((iH c.fResults (evX s d c.fResults ns).1).map jW)])]) := by
 have hr : aG c.fResults ≤ 4300000 := by unfold wCatalog at hc; omega
 have hw := b5C s d c.fResults ns hr
 refine ent Tryz.func154 rfl Tryz.call154 rfl (fun C => ?_); simp only [go_sem, st0, Tryz.ntmps154]
 have qH := trivial; repeat' (with_reducible first | refine nY ?_ | (refine mX ?_; try simp only [go_sem]) | refine kD ?_ | (apply rE [7,8] [] [0,1,2,3,4,5,6] [0,1,2,3,4,5,6] ((.c 7 [] [0,1,2,3] (.c 8 [9] [9] .n .n) .n)) (by simp only [go_sem]; rfl) (by simp only [go_sem]; rfl) (by simp only [go_sem]; rfl) (by decide +kernel); (focus simp only [go_sem]; done)) | exact bU | refine bF (uX ?_) ?_ | refine bG (aX ?_) ?_ | refine bH (aX ?_) ?_ | exact bE | exact oH | (refine uA ?_; simp only [go_sem]; (repeat' first | omega | refine And.intro ?_ ?_); done) | refine rD ?_ | refine cP (a9P s d c.fResults ns hs hd hr hns) ?_ | refine cP (a7U c.fResults (evX s d c.fResults ns).1 hr hw) ?_ | refine aO ?_ | fail)
 exact aA ⟨⟨_, rfl, by simp only [go_sem]⟩, by simp [aU]⟩
theorem nO (c : TCatalog) (h : wCatalog c ≤ 4300000) : FnC Tryz.prog 39 [bZ c] (bZ c) := (b5y c h).pu (by simp only [go_sem, and_self])
theorem a7T (c : TCatalog) (s : TStore) (d : List TDir) (ns : List ByteArray) (hc : wCatalog c ≤ 4300000) (hs : aL s ≤ 4300000) (hd : aY d ≤ 4300000) (hns : ns.length ≤ 4300000) : FnC Tryz.prog 154 [bZ c, cB s, .o (.d (.sl (d.map aS))), .o (.d (.sl (ns.map dD)))] (.t [(true, (bZ ⟨s, d, (evX s d c.fResults ns).1⟩).cells), (false, [.d (.sl ((iH c.fResults (evX s d c.fResults ns).1).map jW))])]) := (a9J c s d ns hc hs hd hns).pu (by simp only [go_sem, and_self])
noncomputable def goC (b : Bool) (c : TCatalog) (s : TStore) (d : List TDir) (ns : List ByteArray) : TCatalog := if b then ⟨s, d, (evX s d c.fResults ns).1⟩ else c
noncomputable def goD (b : Bool) (c : TCatalog) (s : TStore) (d : List TDir) (ns : List ByteArray) : List TDiff := if b then iH c.fResults (evX s d c.fResults ns).1 else []
theorem a4R (c : TCatalog) (s : TStore) (d : List TDir) (ns : List ByteArray) : goC false c s d ns = c := rfl
theorem a4S (c : TCatalog) (s : TStore) (d : List TDir) (ns : List ByteArray) : goD false c s d ns = [] := rfl
theorem b2C (c : TCatalog) (s : TStore) (d : List TDir) (ns : List ByteArray) : goC true c s d ns = ⟨s, d, (evX s d c.fResults ns).1⟩ := rfl
theorem b2D (c : TCatalog) (s : TStore) (d : List TDir) (ns : List ByteArray) : goD true c s d ns = iH c.fResults (evX s d c.fResults ns).1 := rfl
theorem b7i (c : TCatalog) (s : TStore) (d : List TDir) (ns : List ByteArray) (hev : evB s d = true) (hc : wCatalog c ≤ 4300000) (hs : aL s ≤ 4300000) (hd : aY d ≤ 4300000) (hns : ns.length ≤ 4300000) : FnC Tryz.prog 110 [bZ c, cB s, .o (.d (.sl (d.map aS))), .o (.d (.sl (ns.map dD)))] (.t [(true, (mG (goC true c s d ns)).cells), (false, [.w 100 3 ((goD true c s d ns).map jW)]), (false, [.d (bv true)])]) := by
 have h := b7h c s d ns hc hs hd hns
 unfold chC chD at h
 rw [hev] at h
 exact h
theorem c0s (b : Bool) (c : TCatalog) (s : TStore) (d : List TDir) (ns : List ByteArray) (hb : b = true → curB c = true) (hs : aL s ≤ 8600000) (hd : aY d ≤ 8600000) (hc : wCatalog c ≤ 4300000) : aL (goC b c s d ns).fStore ≤ 8600000 ∧ aY (goC b c s d ns).fDirs ≤ 8600000 ∧ aG (goC b c s d ns).fResults ≤ 8600000 ∧ nK (goD b c s d ns) ≤ 8600000 := by
 have h0 : wCatalog c = aL c.fStore + aY c.fDirs + aG c.fResults := rfl
 cases b
 ·simp only [a4R, a4S]
  exact ⟨by omega, by omega, by omega, by simp [nK, wsum]⟩
 ·simp only [b2C, b2D]
  have hr := b9A (hb rfl)
  have hx := b8H s d c.fResults ns hr
  have hd2 := b7g c.fResults (evX s d c.fResults ns).1 hr hx
  exact ⟨hs, hd, by omega, by omega⟩
end Go.Proofs.YteaaopodnbjpoaaGreat
end
