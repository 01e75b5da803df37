/- Joined texts. -/
import Derived.Test.YtakopfjdmmnjcaaGreatDoorZ21
import Derived.Test.YtakopfjdmmnjcaaGreatDoorZ09
import Derived.Test.YtakopfjdmmnjcaaGreatDoorZ14
import Derived.Test.YtakopfjdmmnjcaaGreatDoorZ10
import Derived.Test.YtakopfjdmmnjcaaGreatDoorZ18
import Derived.Test.YtakopfjdmmnjcaaGreatDoorZ07
import Derived.Test.YtakopfjdmmnjcaaGreatDoorZ16
import Derived.Test.YtakopfjdmmnjcaaGreatDoorZ11
import Derived.Test.YtakopfjdmmnjcaaGreatDoorZ19
set_option linter.all false
section
set_option maxRecDepth 100000
set_option maxHeartbeats 4000000
namespace Go.Proofs.YtakopfjdmmnjcaaGreatDoor
open Go Go.Sx Go.RowKit Go.Proofs
def wO (d : List TDir) (L : List Nat) : Nat := (a0y L + 1).toNat
noncomputable def evX (s : TStore) (d : List TDir) (r : List TResult) (ns : List ByteArray) : List TResult × Nat := if mP d && bU s then allE s.fFiles d (resL d) ns (s.fFiles.length + bL r) r (wO d (resL d)) else ([], 0)
noncomputable def evB (s : TStore) (d : List TDir) : Bool := mP d && bU s
theorem a0w {d : List TDir} (h : mP d = true) : dV d = true ∧ Least d.length (EE d) (resL d) := by
 unfold mP at h
 split at h
 ·rename_i hv
  refine ⟨hv, ?_⟩
  unfold a1M at h
  split at h
  ·rename_i hx
   have hex : ∃ L, Least d.length (EE d) L := by
    have hends := a5l (wL d) (gH d) (fun x => Iff.rfl) (d.length * d.length + 2) (by omega)
    simp only at hends
    split at hends
    ·exact ⟨_, hends⟩
    ·exact (hends hx).elim
   obtain ⟨L, hL⟩ := hex
   have e : resL d = L := by unfold resL; rw [if_pos hv]; exact a6s hL
   rw [e]; exact hL
  ·cases h
 ·cases h
theorem a1T {d : List TDir} (h : dV d = true) (i : Nat) (hi : i < d.length) : d[i].fName.size ≤ 6 := by
 unfold dV at h
 simp only [Bool.and_eq_true, List.all_eq_true, List.mem_range] at h
 have := h.1 i hi
 unfold jL at this
 rw [List.getElem?_eq_getElem hi] at this
 simp only [Bool.and_eq_true] at this
 have := b1L this.1
 omega
theorem qQ {s : TStore} (h : bU s = true) : s.fFiles.length ≤ 12 := by
 unfold bU at h
 simp only [Bool.and_eq_true, decide_eq_true_eq] at h
 omega
theorem yX {α : Type} (w : α → Nat) (c : Nat) : ∀ l : List α, (∀ i, (h : i < l.length) → w l[i] ≤ c) → bG w l ≤ l.length * c
 | [], _ => by simp [bG]
 | x :: l, h => by
  have h0 := h 0 (by simp)
  have h1 := yX w c l fun i hi => h (i + 1) (by simpa using hi)
  simp only [List.getElem_cons_zero] at h0
  simp only [bG, List.length_cons, Nat.succ_mul]
  omega
theorem Ev.get {fs : List TFile} {d : List TDir} {L : List Nat} {ns : List ByteArray} {c k : Nat} {R : List TResult} (h : Ev fs d L ns c k R) (i : Nat) (hi : i < d.length) : (R[i]'(by rw [h.len]; exact hi)).fName = d[i].fName ∧ (R[i]'(by rw [h.len]; exact hi)).fIDs = fA R i := by
 have hlen := h.len
 have hR : i < R.length := by omega
 refine ⟨?_, ?_⟩
 ·have := congrArg (fun l : List ByteArray => l[i]?) h.nm
  simp only [List.getElem?_map] at this
  rw [List.getElem?_eq_getElem hR, List.getElem?_eq_getElem hi] at this
  simpa using this
 ·simp [fA, List.getD_eq_getElem?_getD, hR]
theorem Ev.w {fs : List TFile} {d : List TDir} {L : List Nat} {ns : List ByteArray} {c k : Nat} {R : List TResult} (h : Ev fs d L ns c k R) (hv : dV d = true) (hc : c ≤ 4300012) : bL R ≤ 67108864 := by
 have hlen := h.len
 have h5 := kE hv
 have hb := yX jY 4300018 R fun i hi => by
  obtain ⟨e1, e2⟩ := h.get i (by omega)
  have h1 := a1T hv i (by omega)
  have h2 := h.bd i
  unfold jY
  rw [e1, e2]
  omega
 unfold bL
 have : R.length * 4300018 ≤ 5 * 4300018 := Nat.mul_le_mul_right _ (by omega)
 omega
theorem b5O (R : List TResult) (i : Nat) (nm : ByteArray) (l : List Int) : (R.map bD).set i [sv nm, .sl (l.map eZ)] = (R.set i ⟨nm, l⟩).map bD := by rw [List.map_set]; rfl
theorem a2A (a b : List Int) : eqL jH a b = decide (a = b) := by
 induction a generalizing b with
 | nil => cases b <;> simp [eqL]
 | cons x a ih =>
  cases b with
  | nil => simp [eqL]
  | cons y b =>
   simp only [eqL, ih, jH]
   by_cases h1 : x = y <;> by_cases h2 : a = b <;> simp [h1, h2]
theorem a1U (ns : List ByteArray) (r : List TResult) (d : List TDir) (k : Nat) (h : k < d.length) : iH ns r (d.take (k + 1)) = iH ns r (d.take k) ++ [⟨d[k].fName, if pV ns d[k].fName then [] else bP d[k].fName r⟩] := by
 unfold iH; rw [List.take_succ_eq_append_getElem h, List.map_append]; rfl
theorem a3M (ns : List ByteArray) (r : List TResult) (d : List TDir) (k : Nat) : (iH ns r (d.take k)).length ≤ k := by unfold iH; simp; omega
theorem b5v (d : List TDir) (k : Nat) (h : k < d.length) : pV (dirNs d) d[k].fName = true := by
 rw [a3y]
 exact List.mem_map.2 ⟨d[k], List.getElem_mem h, rfl⟩
def chB (fs : List TFile) (d : List TDir) (L : List Nat) (ns : List ByteArray) (k i : Nat) (R : List TResult) : Bool := decide (jP R < jP (passT fs d L ns k i R))
theorem b5w (l : List Nat) (m : Int) : m ≤ wP l m := by
 induction l generalizing m with
 | nil => simp [wP]
 | cons x l ih =>
  simp only [wP]
  split
  ·have := ih (x : Int); omega
  ·exact ih m
theorem b5x (l : List Nat) (m c : Int) (hm : m ≤ c) (h : ∀ x ∈ l, (x : Int) ≤ c) : wP l m ≤ c := by
 induction l generalizing m with
 | nil => exact hm
 | cons x l ih =>
  simp only [wP]
  refine ih _ ?_ fun y hy => h y (List.mem_cons_of_mem _ hy)
  split
  ·exact h x (by simp)
  ·exact hm
theorem b3V {d : List TDir} {L : List Nat} (h : Least d.length (EE d) L) : a0y L ≤ (d.length : Int) := by
 obtain ⟨G, hG, hs⟩ := a1k (wL d) h.clo
 refine b5x L (-1) _ (by omega) fun x hx => ?_
 obtain ⟨i, hi, rfl⟩ := List.mem_iff_getElem.1 hx
 have h1 := h.le G hG i
 have h2 := hs i (by rw [← h.clo.len]; exact hi)
 rw [uJ L i hi]
 omega
theorem a5p (fs : List TFile) (d : List TDir) (L : List Nat) (ns : List ByteArray) (k : Nat) : ∀ (F : Nat) (x : List TResult × Nat), (xY fs d L ns k F x).2 ≤ x.2 + F
 | 0, x => by simp [xY]
 | F + 1, x => by
  unfold xY
  split
  ·have := a5p fs d L ns k F (passT fs d L ns k d.length x.1, x.2 + 1)
   simp only at this
   omega
  ·simp only; omega
theorem a3N (fs : List TFile) (d : List TDir) (L : List Nat) (ns : List ByteArray) (c : Nat) (r : List TResult) : ∀ k, (allE fs d L ns c r k).2 ≤ k * (d.length * c + 1)
 | 0 => by simp [allE]
 | k + 1 => by
  have h1 := a3N fs d L ns c r k
  have h2 := a5p fs d L ns k (d.length * c + 1) (allE fs d L ns c r k)
  simp only [allE, Nat.succ_mul]
  omega
theorem a0x (d : List TDir) (L : List Nat) (k : Nat) : (k : Int) ≤ a0y L ↔ k < wO d L := by
 have : -1 ≤ a0y L := b5w L (-1)
 unfold wO
 omega
theorem a8s {fs : List TFile} {d : List TDir} {L : List Nat} {ns : List ByteArray} {k i : Nat} {R : List TResult} (h : passT fs d L ns k (i + 1) R = passT fs d L ns k i R) : chB fs d L ns k (i + 1) R = chB fs d L ns k i R := by unfold chB; rw [h]
theorem b2h (s : TStore) (d : List TDir) (r : List TResult) (ns : List ByteArray) (hs : aW s ≤ 4300000) (hd : gN d ≤ 4300000) (hr : bL r ≤ 4300000) (hns : ns.length ≤ 4300000) : FnC Tryz.prog 112 [bX s, .o (.d (.sl (d.map bY))), .o (.d (.sl (r.map bD))), .o (.d (.sl (ns.map iV)))] (.t [(false, [.w 126 2 ((evX s d r ns).1.map bD)]), (false, [.d (iv ((evX s d r ns).2 : Nat))]), (false, [.d (bv (evB s d))])]) := by
 have hd0 : d.length + bG lN d ≤ 4300000 := hd
 have hs0 : bJ s.fSchema + (s.fFiles.length + bG bV s.fFiles) ≤ 4300000 := hs
 refine ent Tryz.func112 rfl Tryz.call112 rfl (fun C => ?_); simp only [go_sem, st0, Tryz.ntmps112]
 cases hb : mP d
 ·have e1 : evX s d r ns = ([], 0) := by simp [evX, hb]
  have e2 : evB s d = false := by simp [evB, hb]
  have q0 := @hb; refine lF (iT d hd) ?_
  exact aA ⟨⟨_, rfl, by simp only [go_sem, e1, e2, List.map_nil]; simp⟩, by simp [cO]⟩
 cases hst : bU s
 ·have e1 : evX s d r ns = ([], 0) := by simp [evX, hst]
  have e2 : evB s d = false := by simp [evB, hst]
  have q0 := @hb; have q1 := @hst; refine yM (iT d hd) (kV s hs) ?_
  exact aA ⟨⟨_, rfl, by simp only [go_sem, e1, e2, List.map_nil]; simp⟩, by simp [cO]⟩
 obtain ⟨hv, hleast⟩ := a0w hb
 have hclo := hleast.clo
 have hvq := fun i (hi : i < d.length) => lY hv i hi
 have h5 := kE hv
 have h12 := qQ hst
 have hLl := hclo.len
 obtain ⟨CC, hCC⟩ : ∃ c, s.fFiles.length + bL r = c := ⟨_, rfl⟩
 have hC2 : CC ≤ 4300012 := by omega
 have e1 : evX s d r ns = allE s.fFiles d (resL d) ns CC r (wO d (resL d)) := by simp [evX, hb, hst, hCC]
 have e2 : evB s d = true := by simp [evB, hb, hst]
 have q0 := @hb; have q1 := @hst; refine yM (iT d hd) (kV s hs) ?_
 refine aY (α := Nat) (fun k => [(13, .o (.s 2)), (35, .o .u), (38, oi k)]) (fun k => [(2, .row 126 2 ((iH ns r (d.take k)).map bD) true)]) (fun k => k ≤ d.length) (fun k => d.length - k) 0 (fun _ => ?_) ?_ ?_ (fun k hk => ?_)
 ·simp only [go_sem]
 ·simp only [go_sem]; simp [iH]
 ·simp
 ·simp only [go_sem]
  refine aD ?_
  refine cnd rfl (fun h => ?_) (fun h => ?_)
  ·simp only [decide_eq_true_eq, Int.ofNat_lt] at h
   have hsl := a3M ns r d k
   have hl1 : (iH ns r (d.take k)).length + 1 ≤ 140737488355328 := by omega
   have hl2 : ((iH ns r (d.take k)).length + 1) * 40 ≤ 140737488355328 := by omega
   have hsu := a1U ns r d k h
   cases hn : pV ns d[k].fName
   ·rw [hn] at hsu
    have q0 := @h; have q1 := @hn; have q2 := @hl1; have q3 := @hl2; refine a2Y (fV ns d[k].fName hns) (xX r d[k].fName (by omega)) ?_
    refine aF (k + 1) ?_ ?_ ?_
    ·simp only [go_sem, hsu, List.map_append]; simp [bD]
    ·omega
    ·omega
   ·rw [hn] at hsu
    have q0 := @h; have q1 := @hn; have q2 := @hl1; have q3 := @hl2; refine a2X (fV ns d[k].fName hns) ?_
    refine aF (k + 1) ?_ ?_ ?_
    ·simp only [go_sem, hsu, List.map_append]; simp [bD]
    ·omega
    ·omega
  ·simp only [decide_eq_false_iff_not] at h
   have e : k = d.length := by omega
   subst e
   rw [List.take_length]
   generalize hL : resL d = L at *
   refine aD ?_
   refine aY (α := Nat) (fun k => [(17, oi ((allE s.fFiles d L ns CC r k).2 : Nat)), (18, oi k)]) (fun k => [(2, .row 126 2 ((allE s.fFiles d L ns CC r k).1.map bD) true)]) (fun k => k ≤ wO d L) (fun k => wO d L - k) 0 (fun _ => ?_) ?_ ?_ (fun k hk => ?_)
   ·simp only [go_sem]
   ·simp only [go_sem]; simp [allE]
   ·simp
   ·simp only [go_sem]
    have q0 := @hL; refine lF (a9N d hd (by rw [hL]; omega)) ?_
    refine cnd rfl (fun hlev => ?_) (fun hlev => ?_)
    ·simp only [decide_eq_true_eq] at hlev
     have hkK := (a0x d L k).1 hlev
     have hev := a0B (fs := s.fFiles) (ns := ns) (r := r) hvq hclo k
     rw [hCC] at hev
     have htop := b3V hleast
     have hcnt := a3N s.fFiles d L ns CC r k
     have hnm : d.length * CC ≤ 5 * 4300012 := Nat.mul_le_mul h5 hC2
     have hcnt2 : k * (d.length * CC + 1) ≤ 5 * 21500061 := Nat.mul_le_mul (by omega) (by omega)
     have hround : Round s.fFiles d L ns CC k (allE s.fFiles d L ns CC r (k + 1)) ((allE s.fFiles d L ns CC r k).1, (allE s.fFiles d L ns CC r k).2, true) := Round.start hev
     generalize hT : allE s.fFiles d L ns CC r (k + 1) = T at *
     generalize allE s.fFiles d L ns CC r k = X at *
     refine aD ?_
     refine aY (α := List TResult × Nat × Bool) (fun x => [(17, oi (x.2.1 : Nat)), (19, ob x.2.2)]) (fun x => [(2, .row 126 2 (x.1.map bD) true)]) (fun x => Round s.fFiles d L ns CC k T (x.1, x.2.1, x.2.2) ∧ x.2.1 ≤ X.2 + jP x.1 + (if x.2.2 then 0 else 1)) (fun x => if x.2.2 then d.length * CC + 1 - jP x.1 else 0) (X.1, X.2, true) (fun _ => ?_) ?_ ?_ (fun x hx => ?_)
     ·simp only [go_sem]
     ·simp only [go_sem]; simp
     ·exact ⟨hround, by simp⟩
     ·obtain ⟨R, c, b⟩ := x
      obtain ⟨hx, hcb⟩ := hx
      simp only at hcb
      simp only [go_sem]
      refine aD ?_
      refine cnd rfl (fun hbt => ?_) (fun hbt => ?_)
      ·subst hbt
       have hRe : Ev s.fFiles d L ns CC k R := hx.ev
       have hRt := hRe.tot
       simp only [if_true, Nat.add_zero] at hcb
       have hcI : c ≤ 1000000000 := by omega
       have hpass := hx.pass hvq hclo
       refine aD ?_
       refine aY (α := Nat) (fun i => [(19, ob (chB s.fFiles d L ns k i R)), (71, oi i)]) (fun i => [(2, .row 126 2 ((passT s.fFiles d L ns k i R).map bD) true)]) (fun i => i ≤ d.length) (fun i => d.length - i) 0 (fun _ => ?_) ?_ ?_ (fun i hi => ?_)
       ·simp only [go_sem]
       ·simp only [go_sem]; simp [chB, passT]
       ·simp
       ·simp only [go_sem]
        refine aD ?_
        refine cnd rfl (fun h => ?_) (fun h => ?_)
        ·simp only [decide_eq_true_eq, Int.ofNat_lt] at h
         have hEv := mR hvq hclo i R (by omega) hRe
         have hcs := mU hvq hclo i R (by omega) hRe
         have hsu := uN s.fFiles d L ns k i R h
         have hchk : passT s.fFiles d L ns k (i + 1) R = passT s.fFiles d L ns k i R → chB s.fFiles d L ns k (i + 1) R = chB s.fFiles d L ns k i R := a8s
         have hchn : jP R < jP (passT s.fFiles d L ns k (i + 1) R) → chB s.fFiles d L ns k (i + 1) R = true := fun hx => by unfold chB; exact decide_eq_true hx
         have hw := hEv.w hv hC2
         obtain ⟨g1, g2⟩ := hEv.get i h
         have hPl := hEv.len
         have hbd := hEv.bd i
         have hwd := dF lN d h
         have hwq : eU d[i].fQuery ≤ lN d[i] := by unfold lN; omega
         have hgrow := fun hin hik hne => hEv.grow h hin hik hne
         have hsame := fun he => a1n hEv h he
         generalize passT s.fFiles d L ns k i R = P at *
         generalize hP2 : passT s.fFiles d L ns k (i + 1) R = P2 at *
         have hiP : i < P.length := by omega
         have hiL : i < L.length := by omega
         have hg := uJ L i hiL
         have hsl := a3O s.fFiles d[i].fQuery P
         by_cases hik : lv L i = k
         ·have hkI : ((lv L i : Nat) : Int) = ((k : Nat) : Int) := by omega
          cases hn : pV ns d[i].fName
          ·rw [if_neg (fun h => by rw [hn] at h; cases h.2)] at hsu
           have q0 := @h; have q1 := @hiP; have q2 := @hiL; have q3 := @hg; have q4 := @hkI; have q5 := @hn; have q6 := @decide_true; have q7 := @decide_false; refine a2Z (fV ns d[i].fName hns) ?_
           refine aF (i + 1) ?_ ?_ ?_
           ·simp only [go_sem, hP2, hchk hsu, hsu]; simp
           ·omega
           ·omega
          ·rw [if_pos ⟨hik, hn⟩] at hsu
           by_cases he : lZ s.fFiles d[i].fQuery P = fA P i
           ·have hE : eqL jH (lZ s.fFiles d[i].fQuery P) (fA P i) = true := by rw [a2A]; exact decide_eq_true he
            have hPP : P2 = P := by rw [hsu, hsame he]
            have qH := aI @h (aI @hiP (aI @hiL (aI @hg (aI @hkI (aI @g1 (aI @g2 (aI @hE (aI @hn (aI @decide_true @decide_false))))))))); repeat' (with_reducible first | refine nY ?_ | (refine mX ?_; try simp only [go_sem, qH]) | refine kD ?_ | refine rD ?_ | refine cP (fV ns d[i].fName hns) ?_ | refine vR (a0z s d[i].fQuery P hs (by omega) hw) ?_ | refine vD (a0z s d[i].fQuery P hs (by omega) hw) ?_ | refine vL (xZ (lZ s.fFiles d[i].fQuery P) (fA P i) (by omega)) ?_ | refine aO ?_ | fail)
            refine aF (i + 1) ?_ ?_ ?_
            ·simp only [go_sem, hP2, hchk hPP, hPP]; simp
            ·omega
            ·omega
           ·have hE : eqL jH (lZ s.fFiles d[i].fQuery P) (fA P i) = false := by rw [a2A]; exact decide_eq_false he
            have hlt := hgrow hn hik he
            have hch2 : chB s.fFiles d L ns k (i + 1) R = true := hchn (by
             rw [hsu]
             rcases hcs with e | e
             ·rw [← e]; exact hlt
             ·omega)
            have qH := aI @h (aI @hiP (aI @hiL (aI @hg (aI @hkI (aI @g1 (aI @g2 (aI @hE (aI @hn (aI @decide_true @decide_false))))))))); repeat' (with_reducible first | refine nY ?_ | (refine mX ?_; try simp only [go_sem, qH]) | refine kD ?_ | refine rD ?_ | refine cP (fV ns d[i].fName hns) ?_ | refine vR (a0z s d[i].fQuery P hs (by omega) hw) ?_ | refine vD (a0z s d[i].fQuery P hs (by omega) hw) ?_ | refine vL (xZ (lZ s.fFiles d[i].fQuery P) (fA P i) (by omega)) ?_ | refine aO ?_ | fail)
            refine aF (i + 1) ?_ ?_ ?_
            ·simp only [go_sem, hP2, hch2, hsu, xK, ← b5O]; simp
            ·omega
            ·omega
         ·rw [if_neg (fun h => hik h.1)] at hsu
          have hkI : ¬ ((lv L i : Nat) : Int) = ((k : Nat) : Int) := by omega
          have q0 := @h; have q1 := @hiP; have q2 := @hiL; have q3 := @hg; have q4 := @hkI; have q5 := @decide_true; have q6 := @decide_false; refine a7o ?_
          refine aF (i + 1) ?_ ?_ ?_
          ·simp only [go_sem, hP2, hchk hsu, hsu]; simp
          ·omega
          ·omega
        ·simp only [decide_eq_false_iff_not] at h
         have e : i = d.length := by omega
         subst e
         have hPe := mR hvq hclo d.length R (Nat.le_refl _) hRe
         have hPt := hPe.tot
         refine aD ?_
         refine aF (passT s.fFiles d L ns k d.length R, c + 1, chB s.fFiles d L ns k d.length R) ?_ ?_ ?_
         ·simp only [go_sem]; simp
         ·refine ⟨hpass, ?_⟩
          simp only
          have hpc := mU hvq hclo d.length R (Nat.le_refl _) hRe
          cases hcb2 : chB s.fFiles d L ns k d.length R with
          | false =>
           have h9 : jP R ≤ jP (passT s.fFiles d L ns k d.length R) := by
            rcases hpc with e | e
            ·rw [e]; exact Nat.le_refl _
            ·omega
           simp only [Bool.false_eq_true, if_false]; omega
          | true =>
           have := of_decide_eq_true hcb2
           simp only [if_true]; omega
         ·simp only [if_true]
          cases hcb3 : chB s.fFiles d L ns k d.length R with
          | false => simp only [Bool.false_eq_true, if_false]; omega
          | true =>
           have := of_decide_eq_true hcb3
           simp only [if_true]; omega
      ·subst hbt
       have hTe := hx.fin rfl
       simp only at hTe
       refine aD ?_
       refine aF (k + 1) ?_ ?_ ?_
       ·simp only [go_sem, hT, hTe]; simp
       ·omega
       ·omega
    ·simp only [decide_eq_false_iff_not] at hlev
     have hkK : ¬ k < wO d L := fun h => hlev ((a0x d L k).2 h)
     have e : k = wO d L := by omega
     subst e
     refine aD ?_
     exact aA ⟨⟨_, rfl, by simp only [go_sem, e1, e2]; try simp⟩, by simp [cO]⟩
theorem b2j (s : TStore) (d : List TDir) (hs : aW s ≤ 4300000) (hd : gN d ≤ 4300000) : FnC Tryz.prog 114 [bX s, .o (.d (.sl (d.map bY)))] (.t [(false, [.w 126 2 ((evX s d [] (dirNs d)).1.map bD)]), (false, [.d (iv ((evX s d [] (dirNs d)).2 : Nat))]), (false, [.d (bv (evB s d))])]) := by
 have hd0 : d.length + bG lN d ≤ 4300000 := hd
 have hs0 : bJ s.fSchema + (s.fFiles.length + bG bV s.fFiles) ≤ 4300000 := hs
 refine ent Tryz.func114 rfl Tryz.call114 rfl (fun C => ?_); simp only [go_sem, st0, Tryz.ntmps114]
 have hr : bL [] ≤ 4300000 := by simp [bL, bG]
 generalize hrr : ([] : List TResult) = r at *
 have hns : (dirNs d).length ≤ 4300000 := by rw [a1c]; omega
 have hhas : ∀ i, (hi : i < d.length) → pV (dirNs d) d[i].fName = true := b5v d
 generalize dirNs d = ns at *
 cases hb : mP d
 ·have e1 : evX s d r ns = ([], 0) := by simp [evX, hb]
  have e2 : evB s d = false := by simp [evB, hb]
  have q0 := @hb; refine lF (jX d hd) ?_
  exact aA ⟨⟨_, rfl, by simp only [go_sem, e1, e2, List.map_nil]; simp⟩, by simp [cO]⟩
 cases hst : bU s
 ·have e1 : evX s d r ns = ([], 0) := by simp [evX, hst]
  have e2 : evB s d = false := by simp [evB, hst]
  have q0 := @hb; have q1 := @hst; refine yM (jX d hd) (dR s hs) ?_
  exact aA ⟨⟨_, rfl, by simp only [go_sem, e1, e2, List.map_nil]; simp⟩, by simp [cO]⟩
 obtain ⟨hv, hleast⟩ := a0w hb
 have hclo := hleast.clo
 have hvq := fun i (hi : i < d.length) => lY hv i hi
 have h5 := kE hv
 have h12 := qQ hst
 have hLl := hclo.len
 obtain ⟨CC, hCC⟩ : ∃ c, s.fFiles.length + bL r = c := ⟨_, rfl⟩
 have hC2 : CC ≤ 4300012 := by omega
 have e1 : evX s d r ns = allE s.fFiles d (resL d) ns CC r (wO d (resL d)) := by simp [evX, hb, hst, hCC]
 have e2 : evB s d = true := by simp [evB, hb, hst]
 have q0 := @hb; have q1 := @hst; refine yM (jX d hd) (dR s hs) ?_
 refine aY (α := Nat) (fun k => [(9, .o (.s 1)), (29, .o .u), (10, oi k)]) (fun k => [(1, .row 126 2 ((iH ns r (d.take k)).map bD) true)]) (fun k => k ≤ d.length) (fun k => d.length - k) 0 (fun _ => ?_) ?_ ?_ (fun k hk => ?_)
 ·simp only [go_sem]
 ·simp only [go_sem]; simp [iH]
 ·simp
 ·simp only [go_sem]
  refine aD ?_
  refine cnd rfl (fun h => ?_) (fun h => ?_)
  ·simp only [decide_eq_true_eq, Int.ofNat_lt] at h
   have hsl := a3M ns r d k
   have hl1 : (iH ns r (d.take k)).length + 1 ≤ 140737488355328 := by omega
   have hl2 : ((iH ns r (d.take k)).length + 1) * 40 ≤ 140737488355328 := by omega
   have hsu := a1U ns r d k h
   rw [hhas k h] at hsu
   have q0 := @h; have q1 := @hl1; have q2 := @hl2; refine jJ ?_
   refine aF (k + 1) ?_ ?_ ?_
   ·simp only [go_sem, hsu, List.map_append]; simp [bD]
   ·omega
   ·omega
  ·simp only [decide_eq_false_iff_not] at h
   have e : k = d.length := by omega
   subst e
   rw [List.take_length]
   generalize hL : resL d = L at *
   refine aD ?_
   refine aY (α := Nat) (fun k => [(11, oi ((allE s.fFiles d L ns CC r k).2 : Nat)), (12, oi k)]) (fun k => [(1, .row 126 2 ((allE s.fFiles d L ns CC r k).1.map bD) true)]) (fun k => k ≤ wO d L) (fun k => wO d L - k) 0 (fun _ => ?_) ?_ ?_ (fun k hk => ?_)
   ·simp only [go_sem]
   ·simp only [go_sem]; simp [allE]
   ·simp
   ·simp only [go_sem]
    have q0 := @hL; refine lF (a9O d hd (by rw [hL]; omega)) ?_
    refine cnd rfl (fun hlev => ?_) (fun hlev => ?_)
    ·simp only [decide_eq_true_eq] at hlev
     have hkK := (a0x d L k).1 hlev
     have hev := a0B (fs := s.fFiles) (ns := ns) (r := r) hvq hclo k
     rw [hCC] at hev
     have htop := b3V hleast
     have hcnt := a3N s.fFiles d L ns CC r k
     have hnm : d.length * CC ≤ 5 * 4300012 := Nat.mul_le_mul h5 hC2
     have hcnt2 : k * (d.length * CC + 1) ≤ 5 * 21500061 := Nat.mul_le_mul (by omega) (by omega)
     have hround : Round s.fFiles d L ns CC k (allE s.fFiles d L ns CC r (k + 1)) ((allE s.fFiles d L ns CC r k).1, (allE s.fFiles d L ns CC r k).2, true) := Round.start hev
     generalize hT : allE s.fFiles d L ns CC r (k + 1) = T at *
     generalize allE s.fFiles d L ns CC r k = X at *
     refine aD ?_
     refine aY (α := List TResult × Nat × Bool) (fun x => [(11, oi (x.2.1 : Nat)), (13, ob x.2.2)]) (fun x => [(1, .row 126 2 (x.1.map bD) true)]) (fun x => Round s.fFiles d L ns CC k T (x.1, x.2.1, x.2.2) ∧ x.2.1 ≤ X.2 + jP x.1 + (if x.2.2 then 0 else 1)) (fun x => if x.2.2 then d.length * CC + 1 - jP x.1 else 0) (X.1, X.2, true) (fun _ => ?_) ?_ ?_ (fun x hx => ?_)
     ·simp only [go_sem]
     ·simp only [go_sem]; simp
     ·exact ⟨hround, by simp⟩
     ·obtain ⟨R, c, b⟩ := x
      obtain ⟨hx, hcb⟩ := hx
      simp only at hcb
      simp only [go_sem]
      refine aD ?_
      refine cnd rfl (fun hbt => ?_) (fun hbt => ?_)
      ·subst hbt
       have hRe : Ev s.fFiles d L ns CC k R := hx.ev
       have hRt := hRe.tot
       simp only [if_true, Nat.add_zero] at hcb
       have hcI : c ≤ 1000000000 := by omega
       have hpass := hx.pass hvq hclo
       refine aD ?_
       refine aY (α := Nat) (fun i => [(13, ob (chB s.fFiles d L ns k i R)), (14, oi i)]) (fun i => [(1, .row 126 2 ((passT s.fFiles d L ns k i R).map bD) true)]) (fun i => i ≤ d.length) (fun i => d.length - i) 0 (fun _ => ?_) ?_ ?_ (fun i hi => ?_)
       ·simp only [go_sem]
       ·simp only [go_sem]; simp [chB, passT]
       ·simp
       ·simp only [go_sem]
        refine aD ?_
        refine cnd rfl (fun h => ?_) (fun h => ?_)
        ·simp only [decide_eq_true_eq, Int.ofNat_lt] at h
         have hEv := mR hvq hclo i R (by omega) hRe
         have hcs := mU hvq hclo i R (by omega) hRe
         have hsu := uN s.fFiles d L ns k i R h
         have hchk : passT s.fFiles d L ns k (i + 1) R = passT s.fFiles d L ns k i R → chB s.fFiles d L ns k (i + 1) R = chB s.fFiles d L ns k i R := a8s
         have hchn : jP R < jP (passT s.fFiles d L ns k (i + 1) R) → chB s.fFiles d L ns k (i + 1) R = true := fun hx => by unfold chB; exact decide_eq_true hx
         have hw := hEv.w hv hC2
         obtain ⟨g1, g2⟩ := hEv.get i h
         have hPl := hEv.len
         have hbd := hEv.bd i
         have hwd := dF lN d h
         have hwq : eU d[i].fQuery ≤ lN d[i] := by unfold lN; omega
         have hgrow := fun hin hik hne => hEv.grow h hin hik hne
         have hsame := fun he => a1n hEv h he
         generalize passT s.fFiles d L ns k i R = P at *
         generalize hP2 : passT s.fFiles d L ns k (i + 1) R = P2 at *
         have hiP : i < P.length := by omega
         have hiL : i < L.length := by omega
         have hg := uJ L i hiL
         have hsl := a3O s.fFiles d[i].fQuery P
         by_cases hik : lv L i = k
         ·have hkI : ((lv L i : Nat) : Int) = ((k : Nat) : Int) := by omega
          have hn := hhas i h
          ·rw [if_pos ⟨hik, hn⟩] at hsu
           by_cases he : lZ s.fFiles d[i].fQuery P = fA P i
           ·have hE : eqL jH (lZ s.fFiles d[i].fQuery P) (fA P i) = true := by rw [a2A]; exact decide_eq_true he
            have hPP : P2 = P := by rw [hsu, hsame he]
            have qH := aI @h (aI @hiP (aI @hiL (aI @hg (aI @hkI (aI @g1 (aI @g2 (aI @hE (aI @hn (aI @decide_true @decide_false))))))))); repeat' (with_reducible first | refine nY ?_ | (refine mX ?_; try simp only [go_sem, qH]) | refine kD ?_ | refine rT [7] [74] ?_ | refine dB (aX ?_) (uX ?_) | refine dS (aX ?_) ?_ | (refine uA ?_; simp only [go_sem, qH]; (repeat' first | omega | refine And.intro ?_ ?_ | refine cP (fV ns d[i].fName hns) ?_ | (refine mX ?_; simp only [go_sem, qH] <;> fail)); done) | refine rD ?_ | refine cP (fV ns d[i].fName hns) ?_ | refine vR (a0A s d[i].fQuery P hs (by omega) hw) ?_ | refine vG (a0A s d[i].fQuery P hs (by omega) hw) ?_ | refine vL (a1X (lZ s.fFiles d[i].fQuery P) (fA P i) (by omega)) ?_ | refine aO ?_ | fail)
            refine aF (i + 1) ?_ ?_ ?_
            ·simp only [go_sem, hP2, hchk hPP, hPP]; simp
            ·omega
            ·omega
           ·have hE : eqL jH (lZ s.fFiles d[i].fQuery P) (fA P i) = false := by rw [a2A]; exact decide_eq_false he
            have hlt := hgrow hn hik he
            have hch2 : chB s.fFiles d L ns k (i + 1) R = true := hchn (by
             rw [hsu]
             rcases hcs with e | e
             ·rw [← e]; exact hlt
             ·omega)
            have qH := aI @h (aI @hiP (aI @hiL (aI @hg (aI @hkI (aI @g1 (aI @g2 (aI @hE (aI @hn (aI @decide_true @decide_false))))))))); repeat' (with_reducible first | refine nY ?_ | (refine mX ?_; try simp only [go_sem, qH]) | refine kD ?_ | refine rT [7] [74] ?_ | refine dB (aX ?_) (uX ?_) | refine dS (aX ?_) ?_ | (refine uA ?_; simp only [go_sem, qH]; (repeat' first | omega | refine And.intro ?_ ?_ | refine cP (fV ns d[i].fName hns) ?_ | (refine mX ?_; simp only [go_sem, qH] <;> fail)); done) | refine rD ?_ | refine cP (fV ns d[i].fName hns) ?_ | refine vR (a0A s d[i].fQuery P hs (by omega) hw) ?_ | refine vG (a0A s d[i].fQuery P hs (by omega) hw) ?_ | refine vL (a1X (lZ s.fFiles d[i].fQuery P) (fA P i) (by omega)) ?_ | refine aO ?_ | fail)
            refine aF (i + 1) ?_ ?_ ?_
            ·simp only [go_sem, hP2, hch2, hsu, xK, ← b5O]; simp
            ·omega
            ·omega
         ·rw [if_neg (fun h => hik h.1)] at hsu
          have hkI : ¬ ((lv L i : Nat) : Int) = ((k : Nat) : Int) := by omega
          have q0 := @h; have q1 := @hiP; have q2 := @hiL; have q3 := @hg; have q4 := @hkI; have q5 := @decide_true; have q6 := @decide_false; refine a7o ?_
          refine aF (i + 1) ?_ ?_ ?_
          ·simp only [go_sem, hP2, hchk hsu, hsu]; simp
          ·omega
          ·omega
        ·simp only [decide_eq_false_iff_not] at h
         have e : i = d.length := by omega
         subst e
         have hPe := mR hvq hclo d.length R (Nat.le_refl _) hRe
         have hPt := hPe.tot
         refine aD ?_
         refine aF (passT s.fFiles d L ns k d.length R, c + 1, chB s.fFiles d L ns k d.length R) ?_ ?_ ?_
         ·simp only [go_sem]; simp
         ·refine ⟨hpass, ?_⟩
          simp only
          have hpc := mU hvq hclo d.length R (Nat.le_refl _) hRe
          cases hcb2 : chB s.fFiles d L ns k d.length R with
          | false =>
           have h9 : jP R ≤ jP (passT s.fFiles d L ns k d.length R) := by
            rcases hpc with e | e
            ·rw [e]; exact Nat.le_refl _
            ·omega
           simp only [Bool.false_eq_true, if_false]; omega
          | true =>
           have := of_decide_eq_true hcb2
           simp only [if_true]; omega
         ·simp only [if_true]
          cases hcb3 : chB s.fFiles d L ns k d.length R with
          | false => simp only [Bool.false_eq_true, if_false]; omega
          | true =>
           have := of_decide_eq_true hcb3
           simp only [if_true]; omega
      ·subst hbt
       have hTe := hx.fin rfl
       simp only at hTe
       refine aD ?_
       refine aF (k + 1) ?_ ?_ ?_
       ·simp only [go_sem, hT, hTe]; simp
       ·omega
       ·omega
    ·simp only [decide_eq_false_iff_not] at hlev
     have hkK : ¬ k < wO d L := fun h => hlev ((a0x d L k).2 h)
     have e : k = wO d L := by omega
     subst e
     refine aD ?_
     exact aA ⟨⟨_, rfl, by simp only [go_sem, e1, e2]; try simp⟩, by simp [cO]⟩
theorem a3Q (s : TStore) (d : List TDir) (hs : aW s ≤ 4300000) (hd : gN d ≤ 4300000) : FnC Tryz.prog 112 [bX s, .o (.d (.sl (d.map bY))), .o (.d (.sl [])), .o (.d (.sl ((dirNs d).map iV)))] (.t [(false, [.w 126 2 ((evX s d [] (dirNs d)).1.map bD)]), (false, [.d (iv ((evX s d [] (dirNs d)).2 : Nat))]), (false, [.d (bv (evB s d))])]) :=
 b2h s d [] (dirNs d) hs hd (by simp [bL, bG]) (by rw [a1c]; unfold gN at hd; omega)
theorem a8w (s : TStore) (d : List TDir) (hs : aW s ≤ 4300000) (hd : gN d ≤ 4300000) : FnC Tryz.prog 96 [bX s, .o (.d (.sl (d.map bY)))] (.t [(false, [.w 126 2 ((evX s d [] (dirNs d)).1.map bD)]), (false, [.d (bv (evB s d))])]) := by
 have hl : d.length ≤ 4300000 := by unfold gN at hd; omega
 refine ent Tryz.func96 rfl Tryz.call96 rfl (fun C => ?_); simp only [go_sem, st0, Tryz.ntmps96]
 have qH := trivial; repeat' (with_reducible first | refine nY ?_ | (refine mX ?_; try simp only [go_sem]) | refine kD ?_ | refine rT [3, 4] [13, 14] ?_ | refine dB (aX ?_) (uX ?_) | refine dS (aX ?_) ?_ | (refine uA ?_; simp only [go_sem]; (repeat' first | omega | refine And.intro ?_ ?_ | refine cP (a3Q s d hs hd) ?_ | refine cP (a1G d hl) ?_ | (refine mX ?_; simp only [go_sem] <;> fail)); done) | refine rD ?_ | refine cP (a3Q s d hs hd) ?_ | refine cP (a1G d hl) ?_ | refine aO ?_ | fail)
 exact aA ⟨⟨_, rfl, by simp only [go_sem]⟩, by simp [cO]⟩
theorem a8x (s : TStore) (d : List TDir) (hs : aW s ≤ 4300000) (hd : gN d ≤ 4300000) : FnC Tryz.prog 98 [bX s, .o (.d (.sl (d.map bY)))] (.t [(false, [.w 126 2 ((evX s d [] (dirNs d)).1.map bD)]), (false, [.d (bv (evB s d))])]) := by
 refine ent Tryz.func98 rfl Tryz.call98 rfl (fun C => ?_); simp only [go_sem, st0, Tryz.ntmps98]
 refine iE (b2j s d hs hd) ?_
 exact aA ⟨⟨_, rfl, by simp only [go_sem]⟩, by simp [cO]⟩
theorem b7j (s : TStore) (d : List TDir) : bL (evX s d [] (dirNs d)).1 ≤ 95 := by
 unfold evX
 split
 ·rename_i hb
  rw [Bool.and_eq_true] at hb
  obtain ⟨hv, hleast⟩ := a0w hb.1
  have h5 := kE hv
  have h12 := qQ hb.2
  have hev := a0B (fs := s.fFiles) (ns := dirNs d) (r := []) (fun i (hi : i < d.length) => lY hv i hi) hleast.clo (wO d (resL d))
  have h0 : bL [] = 0 := by simp [bL, bG]
  revert hev
  generalize (allE s.fFiles d (resL d) (dirNs d) (s.fFiles.length + bL []) [] (wO d (resL d))).1 = X
  rw [h0]
  intro hev
  have hlen := hev.len
  have hb2 := yX jY 18 X fun i hi => by
   obtain ⟨e1, e2⟩ := hev.get i (by omega)
   have h1 := a1T hv i (by omega)
   have h2 := hev.bd i
   unfold jY
   rw [e1, e2]
   omega
  unfold bL
  have := Nat.mul_le_mul_right 18 h5
  rw [hlen] at hb2 ⊢
  omega
 ·simp [bL, bG]
noncomputable def b9g (c : TCatalog) : Bool := evB c.fStore c.fDirs && eqL a5s (evX c.fStore c.fDirs [] (dirNs c.fDirs)).1 c.fResults
noncomputable def chC (c : TCatalog) (s : TStore) (d : List TDir) (ns : List ByteArray) : TCatalog := if evB s d then ⟨s, d, (evX s d c.fResults ns).1⟩ else c
noncomputable def chD (c : TCatalog) (s : TStore) (d : List TDir) (ns : List ByteArray) : List TDiff := if evB s d then b5N c.fResults (evX s d c.fResults ns).1 else []
noncomputable def goC (b : Bool) (c : TCatalog) (s : TStore) (d : List TDir) (ns : List ByteArray) : TCatalog := if b then ⟨s, d, (evX s d c.fResults ns).1⟩ else c
noncomputable def goD (b : Bool) (c : TCatalog) (s : TStore) (d : List TDir) (ns : List ByteArray) : List TDiff := if b then b5N c.fResults (evX s d c.fResults ns).1 else []
def isA (n : TNode) : Bool := decide (2 ≤ n.fOp) && decide (n.fOp ≤ 4)
def qA (q : List TNode) : List ByteArray := (q.filter isA).map TNode.fName
def b8q (q : List TNode) : Bool := q.any fun n => decide (n.fOp = 9)
def b9i (ch qa : List ByteArray) : Bool := qa.any (pV ch)
def b9j (a b : TFile) (d : TDir) : Bool := b9i (chg a b) (qA d.fQuery) || (b8q d.fQuery && !decide (a.fLink = b.fLink))
def b9k (a b : TFile) (l : List TDir) : List ByteArray := (l.filter (b9j a b)).map TDir.fName
def b9l (a b : TFile) (l : List TDir) : List ByteArray := if a.fID = b.fID then b9k a b l else dirNs l
end Go.Proofs.YtakopfjdmmnjcaaGreatDoor
end
section
set_option maxRecDepth 100000
set_option maxHeartbeats 4000000
namespace Go.Proofs.YtakopfjdmmnjcaaGreatDoor
open Go Go.Sx Go.RowKit Go.Proofs Go.Sx.Clos
def isD (n : TNode) : Bool := decide (8 ≤ n.fOp) && decide (n.fOp ≤ 9)
def qD (q : List TNode) : List ByteArray := (q.filter isD).map TNode.fName
def eD (l : List TDir) : List (ByteArray × List ByteArray) := l.map fun d => (d.fName, putL (qD d.fQuery))
theorem b7k (l : List TDir) : (eD l).length = l.length := by simp [eD]
def wS (s : ByteArray) : Nat := 1 + s.size
def pot (l : List TDir) (o : List ByteArray) : Nat := wsm wS o + kW wS (eD l) o
def nmD (l : List TDir) (y : ByteArray) : Prop := ∃ e ∈ eD l, e.1 = y
theorem b7l (l : List TDir) (d : TDir) (h : d ∈ l) : nmD l d.fName := ⟨_, List.mem_map.2 ⟨d, h, rfl⟩, rfl⟩
theorem a6D (a b : List ByteArray) : wsm wS (a ++ b) = wsm wS a + wsm wS b := by
 induction a with
 | nil => simp [wsm]
 | cons x a ih => simp only [List.cons_append, wsm, ih]; omega
theorem a8y (o : List ByteArray) (s : ByteArray) : wsm wS (kC o s) ≤ wsm wS o + wS s := by
 unfold kC
 split
 ·omega
 ·unfold iX
  have h := congrArg (wsm wS) (List.take_append_drop (eP (geS s) o) o)
  rw [a6D] at h
  rw [a6D]
  simp only [wsm]
  omega
theorem b4e (o : List ByteArray) (s : ByteArray) (h : o.Pairwise ltS) (hs : s ∈ o) : kC o s = o :=
 qO yS xA (qP s h) h fun x => by
  rw [sH]
  constructor
  ·rintro (rfl | h)
   ·exact hs
   ·exact h
  ·exact .inr
def okS (l : List TDir) (B : Nat) (o : List ByteArray) : Prop := o.Pairwise ltS ∧ pot l o ≤ B
theorem b5E {l : List TDir} {B : Nat} (o : List ByteArray) (s : ByteArray) (h : okS l B o) (hs : nmD l s) : okS l B (kC o s) := by
 refine ⟨qP s h.1, Nat.le_trans ?_ h.2⟩
 by_cases hm : s ∈ o
 ·rw [b4e o s h.1 hm]; exact Nat.le_refl _
 ·have h1 := a8y o s
  have h2 := a1a wS (eD l) (S := o) (T := kC o s) (fun x hx => (sH o s x).2 (.inr hx)) hs ((sH o s s).2 (.inl rfl)) hm
  unfold pot; omega
theorem b2k (l : List ByteArray) : ∀ a : List ByteArray, wsm wS (l.foldl kC a) ≤ wsm wS a + wsm wS l := by
 induction l with
 | nil => intro a; simp [wsm]
 | cons y l ih =>
  intro a
  have h1 := ih (kC a y)
  have h2 := a8y a y
  simp only [List.foldl_cons, wsm]; omega
theorem b4f (l : List TDir) (names : List ByteArray) : okS l (pot l names) (putL names) := by
 refine ⟨a7S names, ?_⟩
 have h1 := b2k names []
 have h2 := a1E wS (eD l) (S := names) (T := putL names) (fun x hx => (pU names x).2 hx)
 simp only [wsm] at h1
 unfold pot putL at *
 omega
def b0Z (l : List TDir) (names : List ByteArray) (n : Nat) : List ByteArray := jF kC (eD l) n (putL names)
def tdS (l : List TDir) (names : List ByteArray) : List ByteArray := b0Z l names (l.length + 1)
theorem a9P (l : List TDir) (names : List ByteArray) (n : Nat) : okS l (pot l names) (b0Z l names n) :=
 a3x (Nm := nmD l) (fun o s h hs => b5E o s h hs) (eD l) (fun e he => ⟨e, he, rfl⟩) (b4f l names) n
def b5F (l : List TDir) (s : ByteArray) : List ByteArray := (l.filter fun d => pV (qD d.fQuery) s).map TDir.fName
theorem a8z (l : List TDir) (s y : ByteArray) : y ∈ b5F l s ↔ ∃ d ∈ l, s ∈ qD d.fQuery ∧ d.fName = y := by
 unfold b5F
 rw [List.mem_map]
 constructor
 ·rintro ⟨d, hd, rfl⟩
  rw [List.mem_filter] at hd
  exact ⟨d, hd.1, (a3y _ _).1 hd.2, rfl⟩
 ·rintro ⟨d, hd, hs, rfl⟩
  exact ⟨d, List.mem_filter.2 ⟨hd, (a3y _ _).2 hs⟩, rfl⟩
structure Good (l : List TDir) (names o : List ByteArray) : Prop where
 ext : ∀ x ∈ names, x ∈ o
 least : ∀ T, Closed (eD l) T → (∀ x ∈ names, x ∈ T) → ∀ x ∈ o, x ∈ T
 le : pot l o ≤ pot l names
theorem Good.start (l : List TDir) (names : List ByteArray) : Good l names names := ⟨fun _ h => h, fun _ _ h => h, Nat.le_refl _⟩
theorem Good.add {l : List TDir} {names o : List ByteArray} (g : Good l names o) {x y : ByteArray} (hx : x ∈ o) (hy : y ∈ b5F l x) (hn : ¬ y ∈ o) : Good l names (o ++ [y]) := by
 obtain ⟨d, hd, hq, rfl⟩ := (a8z l x y).1 hy
 refine ⟨fun z hz => List.mem_append_left _ (g.ext z hz), fun T hT h z hz => ?_, ?_⟩
 ·rcases List.mem_append.1 hz with h1 | h1
  ·exact g.least T hT h z h1
  ·simp only [List.mem_singleton] at h1
   subst h1
   exact hT _ (List.mem_map.2 ⟨d, hd, rfl⟩) ⟨x, (pU _ _).2 hq, g.least T hT h x hx⟩
 ·have h1 := a1a wS (eD l) (S := o) (T := o ++ [d.fName]) (fun z hz => List.mem_append_left _ hz) (b7l l d hd) (by simp) hn
  have h2 := g.le
  have h3 := a6D o [d.fName]
  simp only [wsm] at h3
  unfold pot at *
  omega
theorem Good.done {l : List TDir} {names o : List ByteArray} (g : Good l names o) (hc : ∀ x ∈ o, ∀ y ∈ b5F l x, y ∈ o) : gD o = tdS l names := by
 refine qO yS xA (a6m o) (a9P l names (l.length + 1)).1 fun x => ?_
 rw [sG]
 have h := a7R (put := kC) sH (eD l) (S := putL names) (O := o) (fun x hx => g.ext x ((pU _ _).1 hx)) (fun e he hx => by
  obtain ⟨d, hd, rfl⟩ := List.mem_map.1 he
  obtain ⟨x, hx, ho⟩ := hx
  exact hc x ho _ ((a8z l x _).2 ⟨d, hd, (pU _ _).1 hx, rfl⟩)) (fun T hT hs => g.least T hT fun x hx => hs x ((pU _ _).2 hx)) x
 rw [b7k] at h
 exact h
def b9h (a b : TFile) (l : List TDir) : List ByteArray := tdS l (b9l a b l)
end Go.Proofs.YtakopfjdmmnjcaaGreatDoor
end
section
set_option maxRecDepth 100000
set_option maxHeartbeats 4000000
namespace Go.Proofs.YtakopfjdmmnjcaaGreatDoor
open Go Go.Sx Go.RowKit Go.Proofs
noncomputable def b8n (c : TCatalog) (f : TFile) : Bool := b9g c && b5L c.fStore f
def b8o (c : TCatalog) (f : TFile) : List ByteArray := b9h (gU f.fID c.fStore.fFiles) f c.fDirs
noncomputable def b9H (c : TCatalog) (f : TFile) : TCatalog := goC (b8n c f) c (b8k c.fStore f) c.fDirs (b8o c f)
noncomputable def b9I (c : TCatalog) (f : TFile) : List TDiff := goD (b8n c f) c (b8k c.fStore f) c.fDirs (b8o c f)
def b9G (f : TFile) (u : Int) : Bool := inB u 0 2 && decide (f.fOwner = u)
def a1l (f : TFile) (u : Int) : Bool := inB u 0 2 && (decide (f.fOwner = u) || f.fShared)
theorem a1Q (f : TFile) (u : Int) : FnC Tryz.prog 70 [jQ f, oi u] (ob (a1l f u)) := by
 refine ent Tryz.func70 rfl Tryz.call70 rfl (fun C => ?_); simp only [go_sem, st0, Tryz.ntmps70]
 cases h : inB u 0 2
 ·have q0 := @h; refine lF (jM u) ?_
  exact aA ⟨⟨_, rfl, by simp only [go_sem, a1l, h, Bool.false_and]⟩, trivial⟩
 by_cases h2 : f.fOwner = u
 ·have q0 := @h; have q1 := @h2; have q2 := @decide_true; refine rV (jM u) ?_
  exact aA ⟨⟨_, rfl, by simp only [go_sem, a1l, h, h2, decide_true, Bool.true_and, Bool.true_or]⟩, trivial⟩
 ·have q0 := @h; have q1 := @h2; have q2 := @decide_false; refine rV (jM u) ?_
  exact aA ⟨⟨_, rfl, by simp only [go_sem, a1l, h, h2, decide_false, Bool.true_and, Bool.false_or]⟩, trivial⟩
theorem a1R (f : TFile) (u : Int) : FnC Tryz.prog 73 [jQ f, oi u] (ob (a1l f u)) := by
 refine ent Tryz.func73 rfl Tryz.call73 rfl (fun C => ?_); simp only [go_sem, st0, Tryz.ntmps73]
 cases h : inB u 0 2
 ·have q0 := @h; refine lF (bO u 0 2) ?_
  exact aA ⟨⟨_, rfl, by simp only [go_sem, a1l, h, Bool.false_and]⟩, trivial⟩
 by_cases h2 : f.fOwner = u
 ·have q0 := @h; have q1 := @h2; have q2 := @decide_true; refine rV (bO u 0 2) ?_
  exact aA ⟨⟨_, rfl, by simp only [go_sem, a1l, h, h2, decide_true, Bool.true_and, Bool.true_or]⟩, trivial⟩
 ·have q0 := @h; have q1 := @h2; have q2 := @decide_false; refine rV (bO u 0 2) ?_
  exact aA ⟨⟨_, rfl, by simp only [go_sem, a1l, h, h2, decide_false, Bool.true_and, Bool.false_or]⟩, trivial⟩
def visF (u : Int) (l : List TFile) : List TFile := l.filter fun f => a1l f u
def b3S (f : TFile) : TFile := ⟨f.fID, f.fOwner, f.fShared, 0, f.fAttrs⟩
def uL (L : List TFile) (f : TFile) : TFile := if 0 ≤ ixF f.fLink L then f else b3S f
def nM (L : List TFile) (k : Nat) : List TFile := (L.take k).map (uL L) ++ L.drop k
def vis (s : TStore) (u : Int) : TStore := ⟨s.fSchema, (visF u s.fFiles).map (uL (visF u s.fFiles)), s.fNextID⟩
theorem a5n (u : Int) (l : List TFile) (k : Nat) (h : k < l.length) : visF u (l.take (k + 1)) = visF u (l.take k) ++ (if a1l l[k] u then [l[k]] else []) := by
 simp only [visF, List.take_succ_eq_append_getElem h, List.filter_append, List.filter_cons, List.filter_nil]
theorem wM (u : Int) (l : List TFile) : (visF u l).length ≤ l.length := List.length_filter_le _ _
theorem b0S (id : Int) : ∀ (l m : List TFile) (k : Nat), l.map TFile.fID = m.map TFile.fID → idxP (fun f : TFile => decide (f.fID = id)) l k = idxP (fun f : TFile => decide (f.fID = id)) m k
 | [], [], _, _ => rfl
 | [], _ :: _, _, h => by simp at h
 | _ :: _, [], _, h => by simp at h
 | x :: l, y :: m, k, h => by
  simp only [List.map_cons, List.cons.injEq] at h
  unfold idxP
  rw [h.1, b0S id l m (k + 1) h.2]
theorem b0T {l m : List TFile} (id : Int) (h : l.map TFile.fID = m.map TFile.fID) : ixF id l = ixF id m := b0S id l m 0 h
theorem b5t (L : List TFile) (f : TFile) : (uL L f).fID = f.fID := by unfold uL; split <;> rfl
theorem a3K (L : List TFile) (k : Nat) : (nM L k).map TFile.fID = L.map TFile.fID := by
 unfold nM
 rw [List.map_append, List.map_map]
 have : (TFile.fID ∘ uL L) = TFile.fID := funext fun f => b5t L f
 rw [this, ← List.map_append, List.take_append_drop]
theorem a3L (L : List TFile) (k : Nat) : (nM L k).length = L.length := by
 have := congrArg List.length (a3K L k)
 simpa using this
theorem b0U (L : List TFile) (k : Nat) (h : k < L.length) : (nM L k)[k]'(by rw [a3L]; exact h) = L[k] := by
 unfold nM
 rw [List.getElem_append_right (by simp; omega), List.getElem_drop]
 congr 1
 simp; omega
theorem a5o (L : List TFile) (k : Nat) (h : k < L.length) : nM L (k + 1) = (nM L k).set k (uL L L[k]) := by
 unfold nM
 rw [List.take_succ_eq_append_getElem h, List.map_append, List.set_append_right _ _ (by simp; omega)]
 have e : k - ((L.take k).map (uL L)).length = 0 := by simp; omega
 rw [e, List.drop_eq_getElem_cons h, List.set_cons_zero, List.append_assoc]
 rfl
theorem a8p (L : List TFile) : nM L L.length = L.map (uL L) := by simp [nM]
theorem b7h (L : List TFile) (f : TFile) : bV (uL L f) = bV f := by unfold uL; split <;> rfl
theorem a8q {α : Type} (w : α → Nat) (g : α → α) (h : ∀ x, w (g x) = w x) : ∀ l : List α, bG w (l.map g) = bG w l
 | [] => rfl
 | x :: l => by simp only [List.map_cons, bG, h, a8q w g h l]
theorem a1P {α : Type} (w : α → Nat) (p : α → Bool) : ∀ l : List α, bG w (l.filter p) ≤ bG w l
 | [] => by simp [bG]
 | x :: l => by
  have := a1P w p l
  rw [List.filter_cons]
  split <;> simp only [bG] <;> omega
theorem a8r (s : TStore) (u : Int) : aW (vis s u) ≤ aW s := by
 have h1 := wM u s.fFiles
 have h2 := a1P bV (fun f => a1l f u) s.fFiles
 have h3 := a8q bV (uL (visF u s.fFiles)) (b7h _) (visF u s.fFiles)
 unfold aW fT vis
 simp only [List.length_map, h3]
 unfold visF at *
 omega
theorem a9L (s : TStore) (u : Int) (h : aW s ≤ 4300000) : FnC Tryz.prog 42 [bX s, oi u] (a3c (vis s u)) := by
 have h1 : s.fSchema.length ≤ 4300000 := by unfold aW bJ at h; omega
 have h2 : s.fFiles.length + bG bV s.fFiles ≤ 4300000 := by unfold aW fT at h; omega
 refine ent Tryz.func42 rfl Tryz.call42 rfl (fun C => ?_); simp only [go_sem, st0, Tryz.ntmps42]
 have qH := trivial; repeat' (with_reducible first | refine nY ?_ | (refine mX ?_; try simp only [go_sem]) | refine kD ?_ | (apply rE [2,6,7] [] [0,1,3,4] [0,1,3,4] ((.c 2 [5] [3,4,5] (.c 6 [] [3,4,5] (.c 7 [] [] .n .n) .n) (.c 6 [] [0,1,3,4] (.c 2 [5] [3,4,5] (.c 7 [] [] .n .n) .n) .n))) (by simp only [go_sem]; rfl) (by simp only [go_sem]; rfl) (by simp only [go_sem]; rfl) (by decide +kernel); (focus simp only [go_sem]; done)) | exact aT | refine aK (uX ?_) ?_ | refine aL (aX ?_) ?_ | refine aM (aX ?_) ?_ | exact bH | (refine a0k [(2, 3)] (by simp only [go_sem]; rfl) ?_; exact rfl) | exact oH | (refine uA ?_; simp only [go_sem]; (repeat' first | omega | refine And.intro ?_ ?_); done) | refine rD ?_ | refine cP (a4a s.fSchema h1) ?_ | refine aO ?_ | fail)
 refine a2l 3 1 53 5 rfl rfl ?_
 simp only [go_sem]
 refine aY (α := Nat) (fun k => [(19, oi k)]) (fun k => [(4, .row 53 5 ((visF u (s.fFiles.take k)).map dM) true)]) (fun k => k ≤ s.fFiles.length) (fun k => s.fFiles.length - k) 0 (fun _ => ?_) ?_ ?_ (fun k hk => ?_)
 ·simp only [go_sem]
 ·simp only [go_sem]; simp [visF]
 ·simp
 ·simp only [go_sem]
  refine aD ?_
  refine cnd rfl (fun h3 => ?_) (fun h3 => ?_)
  ·simp only [decide_eq_true_eq, Int.ofNat_lt] at h3
   have hw := dF bV s.fFiles h3
   have hx : s.fFiles[k].fAttrs.length ≤ 4300000 := by
    have e : s.fFiles[k].fAttrs.length ≤ bV s.fFiles[k] := by unfold bV fG; omega
    omega
   have ht := a5n u s.fFiles k h3
   have hn : (visF u (s.fFiles.take k)).length ≤ 4300000 := by have := wM u (s.fFiles.take k); simp at this; omega
   cases hc : a1l s.fFiles[k] u
   ·rw [hc] at ht
    have q0 := @h3; have q1 := @hc; refine a2W (a1Q s.fFiles[k] u) ?_
    refine aF (k + 1) ?_ ?_ ?_
    ·simp only [go_sem, ht]; simp
    ·omega
    ·omega
   ·rw [hc] at ht
    have qH := aI @h3 @hc; repeat' (with_reducible first | refine nY ?_ | (refine mX ?_; try simp only [go_sem, qH]) | refine kD ?_ | (apply rE [3,4,5,7] [] [0,1,2] [0,1,2] ((.c 3 [] [0,1] (.c 4 [] [0,1] (.c 5 [6] [6] (.c 7 [] [] .n .n) .n) .n) .n)) (by simp only [go_sem]; rfl) (by simp only [go_sem]; rfl) (by simp only [go_sem]; rfl) (by decide +kernel); (focus simp only [go_sem]; done)) | exact aT | refine aK (uX ?_) ?_ | refine aL (aX ?_) ?_ | refine aM (aX ?_) ?_ | exact bH | exact oH | exact uB | refine rD ?_ | refine cP (a1Q s.fFiles[k] u) ?_ | refine cP (a4T s.fFiles[k] hx) ?_ | refine aO ?_ | fail)
    refine aF (k + 1) ?_ ?_ ?_
    ·simp only [go_sem, ht, List.map_append]; simp [dM]
    ·omega
    ·omega
  ·simp only [decide_eq_false_iff_not] at h3
   have e : k = s.fFiles.length := by omega
   subst e
   rw [List.take_length]
   have hL : (visF u s.fFiles).length ≤ 4300000 := by have := wM u s.fFiles; omega
   unfold vis
   generalize visF u s.fFiles = L at *
   refine aD ?_
   refine aY (α := Nat) (fun k => [(37, oi k)]) (fun k => [(4, .row 53 5 ((nM L k).map dM) true)]) (fun k => k ≤ L.length) (fun k => L.length - k) 0 (fun _ => ?_) ?_ ?_ (fun k hk => ?_)
   ·simp only [go_sem]
   ·simp only [go_sem]; simp [nM]
   ·simp
   ·simp only [go_sem]
    have hln := a3L L k
    have q0 := @hln; refine fF ?_
    refine cnd rfl (fun h4 => ?_) (fun h4 => ?_)
    ·simp only [decide_eq_true_eq, Int.ofNat_lt] at h4
     have h4' : k < (nM L k).length := by omega
     have hat := b0U L k h4
     have hst := a5o L k h4
     have hfa := a0X ⟨s.fSchema, nM L k, s.fNextID⟩ L[k].fLink (by simp only; omega)
     rw [show ixF L[k].fLink (TStore.fFiles ⟨s.fSchema, nM L k, s.fNextID⟩) = ixF L[k].fLink L from b0T _ (a3K L k)] at hfa
     rcases ixF_cases L[k].fLink L with e | ⟨p, e, _⟩
     ·have hy : (-1 : Int) < 0 := by omega
      have hfx : uL L L[k] = b3S L[k] := by unfold uL; rw [if_neg (by omega)]
      rw [e] at hfa
      rw [hfx] at hst
      have qH := aI @h4 (aI @h4' (aI @hat (aI @hy @decide_true))); repeat' (with_reducible first | refine nY ?_ | (refine mX ?_; try simp only [go_sem, qH]) | refine kD ?_ | refine rD ?_ | refine vL hfa ?_ | refine aO ?_ | fail)
      refine aF (k + 1) ?_ ?_ ?_
      ·simp only [go_sem, hst]; simp [dM, b3S]
      ·omega
      ·omega
     ·have hy : ¬ (p : Int) < 0 := by omega
      have hfx : uL L L[k] = L[k] := by unfold uL; rw [if_pos (by omega)]
      rw [e] at hfa
      rw [hfx] at hst
      have hsame : (nM L k).set k L[k] = nM L k := by rw [← hat]; exact List.set_getElem_self _
      rw [hsame] at hst
      have qH := aI @h4 (aI @h4' (aI @hat (aI @hy @decide_false))); repeat' (with_reducible first | refine nY ?_ | (refine mX ?_; try simp only [go_sem, qH]) | refine kD ?_ | refine rD ?_ | refine vL hfa ?_ | refine aO ?_ | fail)
      refine aF (k + 1) ?_ ?_ ?_
      ·simp only [go_sem, hst]; simp
      ·omega
      ·omega
    ·simp only [decide_eq_false_iff_not] at h4
     have e : k = L.length := by omega
     subst e
     rw [a8p]
     refine aD ?_
     exact aA ⟨⟨_, rfl, by simp only [go_sem]⟩, trivial⟩
theorem a9M (s : TStore) (u : Int) (h : aW s ≤ 4300000) : FnC Tryz.prog 44 [bX s, oi u] (a3c (vis s u)) := by
 have h1 : s.fSchema.length ≤ 4300000 := by unfold aW bJ at h; omega
 have h2 : s.fFiles.length + bG bV s.fFiles ≤ 4300000 := by unfold aW fT at h; omega
 refine ent Tryz.func44 rfl Tryz.call44 rfl (fun C => ?_); simp only [go_sem, st0, Tryz.ntmps44]
 have qH := trivial; repeat' (with_reducible first | refine nY ?_ | (refine mX ?_; try simp only [go_sem]) | refine kD ?_ | (apply rE [0,3,7,8] [] [1,2,4,5] [1,2,4,5] ((.c 0 [] [1,2,4,5] (.c 3 [6] [4,5,6] (.c 7 [] [4,5,6] (.c 8 [] [] .n .n) .n) (.c 7 [] [1,2,4,5] (.c 3 [6] [4,5,6] (.c 8 [] [] .n .n) .n) .n)) (.c 7 [] [1,2,4,5] (.c 0 [] [1,2,4,5] (.c 3 [6] [4,5,6] (.c 8 [] [] .n .n) .n) .n) .n))) (by simp only [go_sem]; rfl) (by simp only [go_sem]; rfl) (by simp only [go_sem]; rfl) (by decide +kernel); (focus simp only [go_sem]; done)) | exact aT | refine aK (uX ?_) ?_ | refine aL (aX ?_) ?_ | refine aM (aX ?_) ?_ | exact bH | (refine a0k [(2, 3)] (by simp only [go_sem]; rfl) ?_; exact rfl) | exact oH | (refine uA ?_; simp only [go_sem]; (repeat' first | omega | refine And.intro ?_ ?_); done) | refine rD ?_ | refine aO ?_ | fail)
 refine a2l 3 1 53 5 rfl rfl ?_
 simp only [go_sem]
 refine aY (α := Nat) (fun k => [(6, oi k)]) (fun k => [(4, .row 53 5 ((visF u (s.fFiles.take k)).map dM) true)]) (fun k => k ≤ s.fFiles.length) (fun k => s.fFiles.length - k) 0 (fun _ => ?_) ?_ ?_ (fun k hk => ?_)
 ·simp only [go_sem]
 ·simp only [go_sem]; simp [visF]
 ·simp
 ·simp only [go_sem]
  refine aD ?_
  refine cnd rfl (fun h3 => ?_) (fun h3 => ?_)
  ·simp only [decide_eq_true_eq, Int.ofNat_lt] at h3
   have hw := dF bV s.fFiles h3
   have hx : s.fFiles[k].fAttrs.length ≤ 4300000 := by
    have e : s.fFiles[k].fAttrs.length ≤ bV s.fFiles[k] := by unfold bV fG; omega
    omega
   have ht := a5n u s.fFiles k h3
   have hn : (visF u (s.fFiles.take k)).length ≤ 4300000 := by have := wM u (s.fFiles.take k); simp at this; omega
   cases hc : a1l s.fFiles[k] u
   ·rw [hc] at ht
    have q0 := @h3; have q1 := @hc; refine a2W (a1R s.fFiles[k] u) ?_
    refine aF (k + 1) ?_ ?_ ?_
    ·simp only [go_sem, ht]; simp
    ·omega
    ·omega
   ·rw [hc] at ht
    have qH := aI @h3 @hc; repeat' (with_reducible first | refine nY ?_ | (refine mX ?_; try simp only [go_sem, qH]) | refine kD ?_ | (apply rE [7,8,9,11] [] [0,1,2,3,4,5,6] [0,1,2,3,4,5,6] ((.c 7 [] [0,1] (.c 8 [] [0,1] (.c 9 [10] [10] (.c 11 [] [] .n .n) .n) .n) .n)) (by simp only [go_sem]; rfl) (by simp only [go_sem]; rfl) (by simp only [go_sem]; rfl) (by decide +kernel); (focus simp only [go_sem]; done)) | exact aT | refine aK (uX ?_) ?_ | refine aL (aX ?_) ?_ | refine aM (aX ?_) ?_ | exact bH | exact oH | exact uB | refine rD ?_ | refine cP (a1R s.fFiles[k] u) ?_ | refine cP (pM s.fFiles[k] hx) ?_ | refine aO ?_ | fail)
    refine aF (k + 1) ?_ ?_ ?_
    ·simp only [go_sem, ht, List.map_append]; simp [dM]
    ·omega
    ·omega
  ·simp only [decide_eq_false_iff_not] at h3
   have e : k = s.fFiles.length := by omega
   subst e
   rw [List.take_length]
   have hL : (visF u s.fFiles).length ≤ 4300000 := by have := wM u s.fFiles; omega
   unfold vis
   generalize visF u s.fFiles = L at *
   refine aD ?_
   refine aY (α := Nat) (fun k => [(7, oi k)]) (fun k => [(4, .row 53 5 ((nM L k).map dM) true)]) (fun k => k ≤ L.length) (fun k => L.length - k) 0 (fun _ => ?_) ?_ ?_ (fun k hk => ?_)
   ·simp only [go_sem]
   ·simp only [go_sem]; simp [nM]
   ·simp
   ·simp only [go_sem]
    have hln := a3L L k
    have q0 := @hln; refine fF ?_
    refine cnd rfl (fun h4 => ?_) (fun h4 => ?_)
    ·simp only [decide_eq_true_eq, Int.ofNat_lt] at h4
     have h4' : k < (nM L k).length := by omega
     have hat := b0U L k h4
     have hst := a5o L k h4
     have hfa := qN ⟨s.fSchema, nM L k, s.fNextID⟩ L[k].fLink (by simp only; omega)
     rw [show ixF L[k].fLink (TStore.fFiles ⟨s.fSchema, nM L k, s.fNextID⟩) = ixF L[k].fLink L from b0T _ (a3K L k)] at hfa
     rcases ixF_cases L[k].fLink L with e | ⟨p, e, _⟩
     ·have hy : (-1 : Int) < 0 := by omega
      have hfx : uL L L[k] = b3S L[k] := by unfold uL; rw [if_neg (by omega)]
      rw [e] at hfa
      rw [hfx] at hst
      have qH := aI @h4 (aI @h4' (aI @hat (aI @hy @decide_true))); repeat' (with_reducible first | refine nY ?_ | (refine mX ?_; try simp only [go_sem, qH]) | refine kD ?_ | refine rD ?_ | refine vO hfa ?_ | refine vQ hfa ?_ | refine aO ?_ | fail)
      refine aF (k + 1) ?_ ?_ ?_
      ·simp only [go_sem, hst]; simp [dM, b3S]
      ·omega
      ·omega
     ·have hy : ¬ (p : Int) < 0 := by omega
      have hfx : uL L L[k] = L[k] := by unfold uL; rw [if_pos (by omega)]
      rw [e] at hfa
      rw [hfx] at hst
      have hsame : (nM L k).set k L[k] = nM L k := by rw [← hat]; exact List.set_getElem_self _
      rw [hsame] at hst
      have qH := aI @h4 (aI @h4' (aI @hat (aI @hy @decide_false))); repeat' (with_reducible first | refine nY ?_ | (refine mX ?_; try simp only [go_sem, qH]) | refine kD ?_ | refine rD ?_ | refine vO hfa ?_ | refine vQ hfa ?_ | refine aO ?_ | fail)
      refine aF (k + 1) ?_ ?_ ?_
      ·simp only [go_sem, hst]; simp
      ·omega
      ·omega
    ·simp only [decide_eq_false_iff_not] at h4
     have e : k = L.length := by omega
     subst e
     rw [a8p]
     refine aD ?_
     exact aA ⟨⟨_, rfl, by simp only [go_sem]⟩, trivial⟩
def okU (s : TStore) (u : Int) : Bool := bU s && inB u 0 2
noncomputable def evU (s : TStore) (d : List TDir) (u : Int) : List TResult := if okU s u then (evX (vis s u) d [] (dirNs d)).1 else []
noncomputable def a4f (s : TStore) (d : List TDir) (u : Int) : Bool := okU s u && evB (vis s u) d
theorem a1N (s : TStore) (u : Int) (h : aW s ≤ 4300000) : FnC Tryz.prog 42 [bX s, oi u] (bX (vis s u)) := (a9L s u h).pu (by simp only [go_sem, and_self])
theorem a1O (s : TStore) (u : Int) (h : aW s ≤ 4300000) : FnC Tryz.prog 44 [bX s, oi u] (bX (vis s u)) := (a9M s u h).pu (by simp only [go_sem, and_self])
theorem a9H (s : TStore) (d : List TDir) (u : Int) (hs : aW s ≤ 4300000) (hd : gN d ≤ 4300000) : FnC Tryz.prog 71 [bX s, .o (.d (.sl (d.map bY))), oi u] (.t [(false, [.w 126 2 ((evU s d u).map bD)]), (false, [.d (bv (a4f s d u))])]) := by
 have hw := a8r s u
 refine ent Tryz.func71 rfl Tryz.call71 rfl (fun C => ?_); simp only [go_sem, st0, Tryz.ntmps71]
 cases h1 : bU s
 ·have e : okU s u = false := by simp [okU, h1]
  have q0 := @h1; refine lF (kV s hs) ?_
  exact aA ⟨⟨_, rfl, by simp only [go_sem, evU, a4f, e, Bool.false_and, Bool.false_eq_true, if_false, List.map_nil]; try simp⟩, by simp [cO]⟩
 cases h2 : inB u 0 2
 ·have e : okU s u = false := by simp [okU, h2]
  have q0 := @h1; have q1 := @h2; refine yM (kV s hs) (jM u) ?_
  exact aA ⟨⟨_, rfl, by simp only [go_sem, evU, a4f, e, Bool.false_and, Bool.false_eq_true, if_false, List.map_nil]; try simp⟩, by simp [cO]⟩
 ·have e : okU s u = true := by simp [okU, h1, h2]
  have q0 := @h1; have q1 := @h2; refine b4L (kV s hs) (jM u) (a1N s u hs) (a8w (vis s u) d (by omega) hd) ?_
  exact aA ⟨⟨_, rfl, by simp only [go_sem, evU, a4f, e, Bool.true_and, if_true]; try simp⟩, by simp [cO]⟩
theorem a9I (s : TStore) (d : List TDir) (u : Int) (hs : aW s ≤ 4300000) (hd : gN d ≤ 4300000) : FnC Tryz.prog 74 [bX s, .o (.d (.sl (d.map bY))), oi u] (.t [(false, [.w 126 2 ((evU s d u).map bD)]), (false, [.d (bv (a4f s d u))])]) := by
 have hw := a8r s u
 refine ent Tryz.func74 rfl Tryz.call74 rfl (fun C => ?_); simp only [go_sem, st0, Tryz.ntmps74]
 cases h2 : inB u 0 2
 ·have e : okU s u = false := by simp [okU, h2]
  have q0 := @h2; refine b2U (dR s hs) (bO u 0 2) ?_
  exact aA ⟨⟨_, rfl, by simp only [go_sem, evU, a4f, e, Bool.false_and, Bool.false_eq_true, if_false, List.map_nil]; try simp⟩, by simp [cO]⟩
 cases h1 : bU s
 ·have e : okU s u = false := by simp [okU, h1]
  have q0 := @h1; have q1 := @h2; refine yM (dR s hs) (bO u 0 2) ?_
  exact aA ⟨⟨_, rfl, by simp only [go_sem, evU, a4f, e, Bool.false_and, Bool.false_eq_true, if_false, List.map_nil]; try simp⟩, by simp [cO]⟩
 ·have e : okU s u = true := by simp [okU, h1, h2]
  have q0 := @h1; have q1 := @h2; refine b4L (dR s hs) (bO u 0 2) (a1O s u hs) (a8x (vis s u) d (by omega) hd) ?_
  exact aA ⟨⟨_, rfl, by simp only [go_sem, evU, a4f, e, Bool.true_and, if_true]; try simp⟩, by simp [cO]⟩
theorem a8n (s : TStore) (d : List TDir) (u : Int) (hs : aW s ≤ 4300000) (hd : gN d ≤ 4300000) : FnC Tryz.prog 71 [bX s, .o (.d (.sl (d.map bY))), oi u] (.t [(false, [.d (.sl ((evU s d u).map bD))]), (false, [.d (bv (a4f s d u))])]) := (a9H s d u hs hd).pu (by simp only [go_sem, and_self])
theorem a8o (s : TStore) (d : List TDir) (u : Int) (hs : aW s ≤ 4300000) (hd : gN d ≤ 4300000) : FnC Tryz.prog 74 [bX s, .o (.d (.sl (d.map bY))), oi u] (.t [(false, [.d (.sl ((evU s d u).map bD))]), (false, [.d (bv (a4f s d u))])]) := (a9I s d u hs hd).pu (by simp only [go_sem, and_self])
theorem b5M (s : TStore) (d : List TDir) (u : Int) : bL (evU s d u) ≤ 95 := by
 unfold evU
 split
 ·exact b7j _ _
 ·simp [bL, bG]
noncomputable def a4g (s : TStore) (d : List TDir) (u : Int) (n : ByteArray) : List Int := bP n (evU s d u)
theorem a9J (s : TStore) (d : List TDir) (u : Int) (n : ByteArray) (hs : aW s ≤ 4300000) (hd : gN d ≤ 4300000) : FnC Tryz.prog 43 [bX s, .o (.d (.sl (d.map bY))), oi u, os n] (.o (.d (.sl ((a4g s d u n).map eZ)))) := by
 have hw := b5M s d u
 refine ent Tryz.func43 rfl Tryz.call43 rfl (fun C => ?_); simp only [go_sem, st0, Tryz.ntmps43]
 refine b6r (a8n s d u hs hd) (lC (evU s d u) n (by omega)) ?_
 exact aA ⟨⟨_, rfl, by simp only [go_sem, a4g]⟩, trivial⟩
theorem a9K (s : TStore) (d : List TDir) (u : Int) (n : ByteArray) (hs : aW s ≤ 4300000) (hd : gN d ≤ 4300000) : FnC Tryz.prog 45 [bX s, .o (.d (.sl (d.map bY))), oi u, os n] (.o (.d (.sl ((a4g s d u n).map eZ)))) := by
 have hw := b5M s d u
 refine ent Tryz.func45 rfl Tryz.call45 rfl (fun C => ?_); simp only [go_sem, st0, Tryz.ntmps45]
 refine b6r (a8o s d u hs hd) (lD (evU s d u) n (by omega)) ?_
 exact aA ⟨⟨_, rfl, by simp only [go_sem, a4g]⟩, trivial⟩
noncomputable def isL (s : TStore) (d : List TDir) (u : Int) (n : ByteArray) (id : Int) : Bool := hasI (a4g s d u n) id
def zD : TDir := ⟨⟨#[]⟩, []⟩
def b9C (d : List TDir) (n : ByteArray) : TDir := if 0 ≤ placeD d n then d.getD (placeD d n).toNat zD else zD
def b9F (d : List TDir) (n : ByteArray) : Bool := decide (0 ≤ placeD d n)
end Go.Proofs.YtakopfjdmmnjcaaGreatDoor
end
