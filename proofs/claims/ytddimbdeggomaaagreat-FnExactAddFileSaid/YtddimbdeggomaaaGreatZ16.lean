/- Joined texts. -/
import Derived.Test.YtddimbdeggomaaaGreatZ15
set_option linter.all false
section
set_option maxRecDepth 100000
set_option maxHeartbeats 4000000
namespace Go.Proofs.YtddimbdeggomaaaGreat
open Go Go.Sx Go.RowKit Go.Proofs
theorem specEv_ok (s : TStore) (d : List TDir) (hs : wStore s ≤ 4300000) (hd : wDirS d ≤ 4300000) : FnC Tryz.prog 171 [gStore s, .o (.d (.sl (d.map encDir)))] (.t [(false, [.w 125 2 ((evX s d [] (dirNs d)).1.map encResult)]), (false, [.d (iv ((evX s d [] (dirNs d)).2 : Nat))]), (false, [.d (bv (evB s d))])]) := by
 have hd0 : d.length + wsum wDir d ≤ 4300000 := hd
 have hs0 : wFieldS s.fSchema + (s.fFiles.length + wsum wFile s.fFiles) ≤ 4300000 := hs
 refine ent Tryz.func171 rfl Tryz.call171 rfl (fun C => ?_); simp only [go_sem, st0, Tryz.ntmps171]
 have hr : wResultS [] ≤ 4300000 := by simp [wResultS, wsum]
 generalize hrr : ([] : List TResult) = r at *
 have hns : (dirNs d).length ≤ 4300000 := by rw [dirNs_len]; omega
 have hhas : ∀ i, (hi : i < d.length) → hasS (dirNs d) d[i].fName = true := has_dir d
 generalize dirNs d = ns at *
 cases hb : resB d
 ·have e1 : evX s d r ns = ([], 0) := by simp [evX, hb]
  have e2 : evB s d = false := by simp [evB, hb]
  have q0 := @hb; refine w1_1 (specStrata_ok d hd) ?_
  exact retK_ret ⟨⟨_, rfl, by simp only [go_sem, e1, e2, List.map_nil]; simp⟩, by simp [notOne]⟩
 cases hst : okStore s
 ·have e1 : evX s d r ns = ([], 0) := by simp [evX, hst]
  have e2 : evB s d = false := by simp [evB, hst]
  have q0 := @hb; have q1 := @hst; refine w2_2 (specStrata_ok d hd) (specStore_ok s hs) ?_
  exact retK_ret ⟨⟨_, rfl, by simp only [go_sem, e1, e2, List.map_nil]; simp⟩, by simp [notOne]⟩
 obtain ⟨hv, hleast⟩ := resB_yes hb
 have hclo := hleast.clo
 have hvq := fun i (hi : i < d.length) => okDirs_at hv i hi
 have h5 := okDirs_len hv
 have h12 := okStore_len hst
 have hLl := hclo.len
 obtain ⟨CC, hCC⟩ : ∃ c, s.fFiles.length + wResultS r = c := ⟨_, rfl⟩
 have hC2 : CC ≤ 4300012 := by omega
 have e1 : evX s d r ns = allE s.fFiles d (resL d) ns CC r (levK d (resL d)) := by simp [evX, hb, hst, hCC]
 have e2 : evB s d = true := by simp [evB, hb, hst]
 have q0 := @hb; have q1 := @hst; refine w2_2 (specStrata_ok d hd) (specStore_ok s hs) ?_
 refine WP_lp (α := Nat) (fun k => [(9, .o (.s 1)), (29, .o .u), (10, oi k)]) (fun k => [(1, .row 125 2 ((startR ns r (d.take k)).map encResult) true)]) (fun k => k ≤ d.length) (fun k => d.length - k) 0 (fun _ => ?_) ?_ ?_ (fun k hk => ?_)
 ·simp only [go_sem]
 ·simp only [go_sem]; simp [startR]
 ·simp
 ·simp only [go_sem]
  refine w0_0 ?_
  refine cnd rfl (fun h => ?_) (fun h => ?_)
  ·simp only [decide_eq_true_eq, Int.ofNat_lt] at h
   have hsl := startR_len ns r d k
   have hl1 : (startR ns r (d.take k)).length + 1 ≤ 140737488355328 := by omega
   have hl2 : ((startR ns r (d.take k)).length + 1) * 40 ≤ 140737488355328 := by omega
   have hsu := startR_take ns r d k h
   rw [hhas k h] at hsu
   have q0 := @h; have q1 := @hl1; have q2 := @hl2; refine w3_0 ?_
   refine L_next (k + 1) ?_ ?_ ?_
   ·simp only [go_sem, hsu, List.map_append]; simp [encResult]
   ·omega
   ·omega
  ·simp only [decide_eq_false_iff_not] at h
   have e : k = d.length := by omega
   subst e
   rw [List.take_length]
   generalize hL : resL d = L at *
   refine w0_0 ?_
   refine WP_lp (α := Nat) (fun k => [(11, oi ((allE s.fFiles d L ns CC r k).2 : Nat)), (12, oi k)]) (fun k => [(1, .row 125 2 ((allE s.fFiles d L ns CC r k).1.map encResult) true)]) (fun k => k ≤ levK d L) (fun k => levK d L - k) 0 (fun _ => ?_) ?_ ?_ (fun k hk => ?_)
   ·simp only [go_sem]
   ·simp only [go_sem]; simp [allE]
   ·simp
   ·simp only [go_sem]
    have q0 := @hL; refine w1_1 (specTop_ok d hd (by rw [hL]; omega)) ?_
    refine cnd rfl (fun hlev => ?_) (fun hlev => ?_)
    ·simp only [decide_eq_true_eq] at hlev
     have hkK := (levK_iff d L k).1 hlev
     have hev := allE_ev (fs := s.fFiles) (ns := ns) (r := r) hvq hclo k
     rw [hCC] at hev
     have htop := top_le hleast
     have hcnt := allE_cnt s.fFiles d L ns CC r k
     have hnm : d.length * CC ≤ 5 * 4300012 := Nat.mul_le_mul h5 hC2
     have hcnt2 : k * (d.length * CC + 1) ≤ 5 * 21500061 := Nat.mul_le_mul (by omega) (by omega)
     have hround : Round s.fFiles d L ns CC k (allE s.fFiles d L ns CC r (k + 1)) ((allE s.fFiles d L ns CC r k).1, (allE s.fFiles d L ns CC r k).2, true) := Round.start hev
     generalize hT : allE s.fFiles d L ns CC r (k + 1) = T at *
     generalize allE s.fFiles d L ns CC r k = X at *
     refine w0_0 ?_
     refine WP_lp (α := List TResult × Nat × Bool) (fun x => [(11, oi (x.2.1 : Nat)), (13, ob x.2.2)]) (fun x => [(1, .row 125 2 (x.1.map encResult) true)]) (fun x => Round s.fFiles d L ns CC k T (x.1, x.2.1, x.2.2) ∧ x.2.1 ≤ X.2 + totR x.1 + (if x.2.2 then 0 else 1)) (fun x => if x.2.2 then d.length * CC + 1 - totR x.1 else 0) (X.1, X.2, true) (fun _ => ?_) ?_ ?_ (fun x hx => ?_)
     ·simp only [go_sem]
     ·simp only [go_sem]; simp
     ·exact ⟨hround, by simp⟩
     ·obtain ⟨R, c, b⟩ := x
      obtain ⟨hx, hcb⟩ := hx
      simp only at hcb
      simp only [go_sem]
      refine w0_0 ?_
      refine cnd rfl (fun hbt => ?_) (fun hbt => ?_)
      ·subst hbt
       have hRe : Ev s.fFiles d L ns CC k R := hx.ev
       have hRt := hRe.tot
       simp only [if_true, Nat.add_zero] at hcb
       have hcI : c ≤ 1000000000 := by omega
       have hpass := hx.pass hvq hclo
       refine w0_0 ?_
       refine WP_lp (α := Nat) (fun i => [(13, ob (chB s.fFiles d L ns k i R)), (14, oi i)]) (fun i => [(1, .row 125 2 ((passT s.fFiles d L ns k i R).map encResult) true)]) (fun i => i ≤ d.length) (fun i => d.length - i) 0 (fun _ => ?_) ?_ ?_ (fun i hi => ?_)
       ·simp only [go_sem]
       ·simp only [go_sem]; simp [chB, passT]
       ·simp
       ·simp only [go_sem]
        refine w0_0 ?_
        refine cnd rfl (fun h => ?_) (fun h => ?_)
        ·simp only [decide_eq_true_eq, Int.ofNat_lt] at h
         have hEv := passT_ev hvq hclo i R (by omega) hRe
         have hcs := passT_cases hvq hclo i R (by omega) hRe
         have hsu := passT_succ s.fFiles d L ns k i R h
         have hchk : passT s.fFiles d L ns k (i + 1) R = passT s.fFiles d L ns k i R → chB s.fFiles d L ns k (i + 1) R = chB s.fFiles d L ns k i R := chB_keep
         have hchn : totR R < totR (passT s.fFiles d L ns k (i + 1) R) → chB s.fFiles d L ns k (i + 1) R = true := fun hx => by unfold chB; exact decide_eq_true hx
         have hw := hEv.w hv hC2
         obtain ⟨g1, g2⟩ := hEv.get i h
         have hPl := hEv.len
         have hbd := hEv.bd i
         have hwd := wsum_get wDir d h
         have hwq : wNodeS d[i].fQuery ≤ wDir d[i] := by unfold wDir; omega
         have hgrow := fun hin hik hne => hEv.grow h hin hik hne
         have hsame := fun he => newR_same hEv h he
         generalize passT s.fFiles d L ns k i R = P at *
         generalize hP2 : passT s.fFiles d L ns k (i + 1) R = P2 at *
         have hiP : i < P.length := by omega
         have hiL : i < L.length := by omega
         have hg := lv_get L i hiL
         have hsl := selF_len s.fFiles d[i].fQuery P
         by_cases hik : lv L i = k
         ·have hkI : ((lv L i : Nat) : Int) = ((k : Nat) : Int) := by omega
          have hn := hhas i h
          ·rw [if_pos ⟨hik, hn⟩] at hsu
           by_cases he : selF s.fFiles d[i].fQuery P = idsAt P i
           ·have hE : eqL beqInt (selF s.fFiles d[i].fQuery P) (idsAt P i) = true := by rw [eqL_int]; exact decide_eq_true he
            have hPP : P2 = P := by rw [hsu, hsame he]
            repeat' (with_reducible first | refine nY ?_ | (refine mX ?_; try simp only [go_sem, h, hiP, hiL, hg, hkI, g1, g2, hE, hn, decide_true, decide_false]) | refine kO ?_ (by decide) | (refine rS [7] [74] (by simp only [go_sem]; rfl) (by simp only [go_sem]; rfl) (by decide +kernel) ?_ ?_; (focus simp only [go_sem]; done)) | refine st_cons (aX ?_) (uX ?_) | refine st_nil (aX ?_) ?_ | (refine uA ?_; simp only [go_sem, h, hiP, hiL, hg, hkI, g1, g2, hE, hn, decide_true, decide_false]; (repeat' first | omega | refine And.intro ?_ ?_); done) | refine regd (by kernel_rfl) ?_ | (refine cC (containsS_ok ns d[i].fName hns) ?_ ?_; focus simp only [go_sem, and_self]; done) | (refine calr (sel_spec s d[i].fQuery P hs (by omega) hw) ?_ ?_ ?_ (uX ?_); (focus simp only [go_sem, h, hiP, hiL, hg, hkI, g1, g2, hE, hn, decide_true, decide_false]; done); (focus simp only [go_sem, h, hiP, hiL, hg, hkI, g1, g2, hE, hn, decide_true, decide_false]; done); (focus simp only [go_sem, h, hiP, hiL, hg, hkI, g1, g2, hE, hn, decide_true, decide_false]; done)) | (refine cGr (sel_spec s d[i].fQuery P hs (by omega) hw) ?_ ?_ ?_ (uX ?_); (focus simp only [go_sem, h, hiP, hiL, hg, hkI, g1, g2, hE, hn, decide_true, decide_false]; done); (focus simp only [go_sem, h, hiP, hiL, hg, hkI, g1, g2, hE, hn, decide_true, decide_false]; done); (focus simp only [go_sem, h, hiP, hiL, hg, hkI, g1, g2, hE, hn, decide_true, decide_false]; done)) | (refine cale (specInts_ok (selF s.fFiles d[i].fQuery P) (idsAt P i) (by omega)) ?_ ?_ ?_ (uX ?_); (focus simp only [go_sem, h, hiP, hiL, hg, hkI, g1, g2, hE, hn, decide_true, decide_false]; done); (focus simp only [go_sem, h, hiP, hiL, hg, hkI, g1, g2, hE, hn, decide_true, decide_false]; done); (focus simp only [go_sem, h, hiP, hiL, hg, hkI, g1, g2, hE, hn, decide_true, decide_false]; done)) | (refine And.intro ?_ ?_; focus omega))
            refine L_next (i + 1) ?_ ?_ ?_
            ·simp only [go_sem, hP2, hchk hPP, hPP]; simp
            ·omega
            ·omega
           ·have hE : eqL beqInt (selF s.fFiles d[i].fQuery P) (idsAt P i) = false := by rw [eqL_int]; exact decide_eq_false he
            have hlt := hgrow hn hik he
            have hch2 : chB s.fFiles d L ns k (i + 1) R = true := hchn (by
             rw [hsu]
             rcases hcs with e | e
             ·rw [← e]; exact hlt
             ·omega)
            repeat' (with_reducible first | refine nY ?_ | (refine mX ?_; try simp only [go_sem, h, hiP, hiL, hg, hkI, g1, g2, hE, hn, decide_true, decide_false]) | refine kO ?_ (by decide) | (refine rS [7] [74] (by simp only [go_sem]; rfl) (by simp only [go_sem]; rfl) (by decide +kernel) ?_ ?_; (focus simp only [go_sem]; done)) | refine st_cons (aX ?_) (uX ?_) | refine st_nil (aX ?_) ?_ | (refine uA ?_; simp only [go_sem, h, hiP, hiL, hg, hkI, g1, g2, hE, hn, decide_true, decide_false]; (repeat' first | omega | refine And.intro ?_ ?_); done) | refine regd (by kernel_rfl) ?_ | (refine cC (containsS_ok ns d[i].fName hns) ?_ ?_; focus simp only [go_sem, and_self]; done) | (refine calr (sel_spec s d[i].fQuery P hs (by omega) hw) ?_ ?_ ?_ (uX ?_); (focus simp only [go_sem, h, hiP, hiL, hg, hkI, g1, g2, hE, hn, decide_true, decide_false]; done); (focus simp only [go_sem, h, hiP, hiL, hg, hkI, g1, g2, hE, hn, decide_true, decide_false]; done); (focus simp only [go_sem, h, hiP, hiL, hg, hkI, g1, g2, hE, hn, decide_true, decide_false]; done)) | (refine cGr (sel_spec s d[i].fQuery P hs (by omega) hw) ?_ ?_ ?_ (uX ?_); (focus simp only [go_sem, h, hiP, hiL, hg, hkI, g1, g2, hE, hn, decide_true, decide_false]; done); (focus simp only [go_sem, h, hiP, hiL, hg, hkI, g1, g2, hE, hn, decide_true, decide_false]; done); (focus simp only [go_sem, h, hiP, hiL, hg, hkI, g1, g2, hE, hn, decide_true, decide_false]; done)) | (refine cale (specInts_ok (selF s.fFiles d[i].fQuery P) (idsAt P i) (by omega)) ?_ ?_ ?_ (uX ?_); (focus simp only [go_sem, h, hiP, hiL, hg, hkI, g1, g2, hE, hn, decide_true, decide_false]; done); (focus simp only [go_sem, h, hiP, hiL, hg, hkI, g1, g2, hE, hn, decide_true, decide_false]; done); (focus simp only [go_sem, h, hiP, hiL, hg, hkI, g1, g2, hE, hn, decide_true, decide_false]; done)) | (refine And.intro ?_ ?_; focus omega))
            refine L_next (i + 1) ?_ ?_ ?_
            ·simp only [go_sem, hP2, hch2, hsu, newR, ← setR1]; simp
            ·omega
            ·omega
         ·rw [if_neg (fun h => hik h.1)] at hsu
          have hkI : ¬ ((lv L i : Nat) : Int) = ((k : Nat) : Int) := by omega
          have q0 := @h; have q1 := @hiP; have q2 := @hiL; have q3 := @hg; have q4 := @hkI; have q5 := @decide_true; have q6 := @decide_false; refine w7_0 ?_
          refine L_next (i + 1) ?_ ?_ ?_
          ·simp only [go_sem, hP2, hchk hsu, hsu]; simp
          ·omega
          ·omega
        ·simp only [decide_eq_false_iff_not] at h
         have e : i = d.length := by omega
         subst e
         have hPe := passT_ev hvq hclo d.length R (Nat.le_refl _) hRe
         have hPt := hPe.tot
         refine w0_0 ?_
         refine L_next (passT s.fFiles d L ns k d.length R, c + 1, chB s.fFiles d L ns k d.length R) ?_ ?_ ?_
         ·simp only [go_sem]; simp
         ·refine ⟨hpass, ?_⟩
          simp only
          have hpc := passT_cases hvq hclo d.length R (Nat.le_refl _) hRe
          cases hcb2 : chB s.fFiles d L ns k d.length R with
          | false =>
           have h9 : totR R ≤ totR (passT s.fFiles d L ns k d.length R) := by
            rcases hpc with e | e
            ·rw [e]; exact Nat.le_refl _
            ·omega
           simp only [Bool.false_eq_true, if_false]; omega
          | true =>
           have := of_decide_eq_true hcb2
           simp only [if_true]; omega
         ·simp only [if_true]
          cases hcb3 : chB s.fFiles d L ns k d.length R with
          | false => simp only [Bool.false_eq_true, if_false]; omega
          | true =>
           have := of_decide_eq_true hcb3
           simp only [if_true]; omega
      ·subst hbt
       have hTe := hx.fin rfl
       simp only at hTe
       refine w0_0 ?_
       refine L_next (k + 1) ?_ ?_ ?_
       ·simp only [go_sem, hT, hTe]; simp
       ·omega
       ·omega
    ·simp only [decide_eq_false_iff_not] at hlev
     have hkK : ¬ k < levK d L := fun h => hlev ((levK_iff d L k).2 h)
     have e : k = levK d L := by omega
     subst e
     refine w0_0 ?_
     exact retK_ret ⟨⟨_, rfl, by simp only [go_sem, e1, e2]; try simp⟩, by simp [notOne]⟩
end Go.Proofs.YtddimbdeggomaaaGreat
end
section
set_option maxRecDepth 100000
set_option maxHeartbeats 4000000
namespace Go.Proofs.YtddimbdeggomaaaGreat
open Go Go.Sx Go.RowKit Go.Proofs
theorem implEv0_ok (s : TStore) (d : List TDir) (hs : wStore s ≤ 4300000) (hd : wDirS d ≤ 4300000) : FnC Tryz.prog 89 [gStore s, .o (.d (.sl (d.map encDir))), .o (.d (.sl [])), .o (.d (.sl ((dirNs d).map encS)))] (.t [(false, [.w 125 2 ((evX s d [] (dirNs d)).1.map encResult)]), (false, [.d (iv ((evX s d [] (dirNs d)).2 : Nat))]), (false, [.d (bv (evB s d))])]) :=
 implEv_ok s d [] (dirNs d) hs hd (by simp [wResultS, wsum]) (by rw [dirNs_len]; unfold wDirS at hd; omega)
theorem implEval_ok (s : TStore) (d : List TDir) (hs : wStore s ≤ 4300000) (hd : wDirS d ≤ 4300000) : FnC Tryz.prog 102 [gStore s, .o (.d (.sl (d.map encDir)))] (.t [(false, [.w 125 2 ((evX s d [] (dirNs d)).1.map encResult)]), (false, [.d (bv (evB s d))])]) := by
 have hl : d.length ≤ 4300000 := by unfold wDirS at hd; omega
 refine ent Tryz.func102 rfl Tryz.call102 rfl (fun C => ?_); simp only [go_sem, st0, Tryz.ntmps102]
 repeat' (with_reducible first | refine nY ?_ | (refine mX ?_; try simp only [go_sem]) | refine kO ?_ (by decide) | (refine rS [3, 4] [13, 14] (by simp only [go_sem]; rfl) (by simp only [go_sem]; rfl) (by decide +kernel) ?_ ?_; (focus simp only [go_sem]; done)) | refine st_cons (aX ?_) (uX ?_) | refine st_nil (aX ?_) ?_ | (refine uA ?_; simp only [go_sem]; (repeat' first | omega | refine And.intro ?_ ?_); done) | refine regd (by kernel_rfl) ?_ | (refine cC (implEv0_ok s d hs hd) ?_ ?_; focus simp only [go_sem, and_self]; done) | (refine cC (dirNames_ok d hl) ?_ ?_; focus simp only [go_sem, and_self]; done) | (refine And.intro ?_ ?_; focus omega))
 exact retK_ret ⟨⟨_, rfl, by simp only [go_sem]⟩, by simp [notOne]⟩
theorem specEval_ok (s : TStore) (d : List TDir) (hs : wStore s ≤ 4300000) (hd : wDirS d ≤ 4300000) : FnC Tryz.prog 99 [gStore s, .o (.d (.sl (d.map encDir)))] (.t [(false, [.w 125 2 ((evX s d [] (dirNs d)).1.map encResult)]), (false, [.d (bv (evB s d))])]) := by
 refine ent Tryz.func99 rfl Tryz.call99 rfl (fun C => ?_); simp only [go_sem, st0, Tryz.ntmps99]
 refine w0_1 (specEv_ok s d hs hd) ?_
 exact retK_ret ⟨⟨_, rfl, by simp only [go_sem]⟩, by simp [notOne]⟩
theorem evX_95 (s : TStore) (d : List TDir) : wResultS (evX s d [] (dirNs d)).1 ≤ 95 := by
 unfold evX
 split
 ·rename_i hb
  rw [Bool.and_eq_true] at hb
  obtain ⟨hv, hleast⟩ := resB_yes hb.1
  have h5 := okDirs_len hv
  have h12 := okStore_len hb.2
  have hev := allE_ev (fs := s.fFiles) (ns := dirNs d) (r := []) (fun i (hi : i < d.length) => okDirs_at hv i hi) hleast.clo (levK d (resL d))
  have h0 : wResultS [] = 0 := by simp [wResultS, wsum]
  revert hev
  generalize (allE s.fFiles d (resL d) (dirNs d) (s.fFiles.length + wResultS []) [] (levK d (resL d))).1 = X
  rw [h0]
  intro hev
  have hlen := hev.len
  have hb2 := wsum_bound wResult 18 X fun i hi => by
   obtain ⟨e1, e2⟩ := hev.get i (by omega)
   have h1 := okDirs_name hv i (by omega)
   have h2 := hev.bd i
   unfold wResult
   rw [e1, e2]
   omega
  unfold wResultS
  have := Nat.mul_le_mul_right 18 h5
  rw [hlen] at hb2 ⊢
  omega
 ·simp [wResultS, wsum]
theorem evX_w (s : TStore) (d : List TDir) : wResultS (evX s d [] (dirNs d)).1 ≤ 4300000 := Nat.le_trans (evX_95 s d) (by decide)
noncomputable def curB (c : TCatalog) : Bool := evB c.fStore c.fDirs && eqL beqResult (evX c.fStore c.fDirs [] (dirNs c.fDirs)).1 c.fResults
theorem implCur_ok (c : TCatalog) (h : wCatalog c ≤ 4300000) : FnC Tryz.prog 115 [gCatalog c] (ob (curB c)) := by
 unfold wCatalog at h
 refine ent Tryz.func115 rfl Tryz.call115 rfl (fun C => ?_); simp only [go_sem, st0, Tryz.ntmps115]
 cases hb : evB c.fStore c.fDirs
 all_goals
  have q0 := @hb; refine w1_2 (implEval_ok c.fStore c.fDirs (by omega) (by omega)) (implEqualResults_ok (evX c.fStore c.fDirs [] (dirNs c.fDirs)).1 c.fResults (evX_w _ _)) ?_
  exact retK_ret ⟨⟨_, rfl, by simp only [go_sem, curB, hb, Bool.true_and, Bool.false_and]⟩, trivial⟩
theorem specCur_ok (c : TCatalog) (h : wCatalog c ≤ 4300000) : FnC Tryz.prog 110 [gCatalog c] (ob (curB c)) := by
 unfold wCatalog at h
 refine ent Tryz.func110 rfl Tryz.call110 rfl (fun C => ?_); simp only [go_sem, st0, Tryz.ntmps110]
 cases hb : evB c.fStore c.fDirs
 all_goals
  have q0 := @hb; refine w1_2 (specEval_ok c.fStore c.fDirs (by omega) (by omega)) (specEqualResults_ok (evX c.fStore c.fDirs [] (dirNs c.fDirs)).1 c.fResults (evX_w _ _)) ?_
  exact retK_ret ⟨⟨_, rfl, by simp only [go_sem, curB, hb, Bool.true_and, Bool.false_and]⟩, trivial⟩
end Go.Proofs.YtddimbdeggomaaaGreat
end
section
set_option maxRecDepth 100000
set_option maxHeartbeats 4000000
namespace Go.Proofs.YtddimbdeggomaaaGreat
open Go Go.Sx Go.RowKit Go.Proofs
theorem eqL_res (a b : List TResult) (h : eqL beqResult a b = true) : a = b := by
 induction a generalizing b with
 | nil => cases b with
  | nil => rfl
  | cons y b => simp [eqL] at h
 | cons x a ih =>
  cases b with
  | nil => simp [eqL] at h
  | cons y b =>
   simp only [eqL, beqResult, eqL_int, Bool.and_eq_true, decide_eq_true_eq] at h
   obtain ⟨⟨e1, e2⟩, e3⟩ := h
   rw [ih b e3]
   cases x; cases y; simp only at e1 e2; subst e1; subst e2; rfl
theorem cur_r {c : TCatalog} (h : curB c = true) : wResultS c.fResults ≤ 95 := by
 unfold curB at h
 rw [Bool.and_eq_true] at h
 rw [← eqL_res _ _ h.2]
 exact evX_95 _ _
theorem evX_sm (s : TStore) (d : List TDir) (r : List TResult) (ns : List ByteArray) (hr : wResultS r ≤ 95) : wResultS (evX s d r ns).1 ≤ 600 := by
 unfold evX
 split
 ·rename_i hb
  rw [Bool.and_eq_true] at hb
  obtain ⟨hv, hleast⟩ := resB_yes hb.1
  have h12 := okStore_len hb.2
  have hev := allE_ev (fs := s.fFiles) (ns := ns) (r := r) (fun i (hi : i < d.length) => okDirs_at hv i hi) hleast.clo (levK d (resL d))
  revert hev
  generalize (allE s.fFiles d (resL d) ns (s.fFiles.length + wResultS r) r (levK d (resL d))).1 = R
  intro hev
  have hlen := hev.len
  have h5 := okDirs_len hv
  have hb3 := wsum_bound wResult 113 R fun i hi => by
   obtain ⟨e1, e2⟩ := hev.get i (by omega)
   have h1 := okDirs_name hv i (by omega)
   have h2 := hev.bd i
   unfold wResult
   rw [e1, e2]
   omega
  unfold wResultS
  have : R.length * 113 ≤ 5 * 113 := Nat.mul_le_mul_right _ (by omega)
  omega
 ·simp [wResultS, wsum]
theorem diff_sm (a b : List TResult) (ha : wResultS a ≤ 95) (hb : wResultS b ≤ 600) : wDiffS (diffR a b) ≤ 60000 := by
 have h := diffR_w a b
 have h1 : b.length ≤ 600 := by unfold wResultS at hb; omega
 have h2 : b.length * wResultS a ≤ 600 * 95 := Nat.mul_le_mul h1 ha
 omega
theorem implReevE_ok (s : TStore) (d : List TDir) (r : List TResult) (ns : List ByteArray) (hs : wStore s ≤ 4300000) (hd : wDirS d ≤ 4300000) (hr : wResultS r ≤ 4300000) (hns : ns.length ≤ 4300000) : FnC Tryz.prog 23 [gStore s, .o (.d (.sl (d.map encDir))), .o (.d (.sl (r.map encResult))), .o (.d (.sl (ns.map encS)))] (.t [(false, [.w 125 2 ((evX s d r ns).1.map encResult)]), (false, [.d (bv (evB s d))])]) := by
 refine ent Tryz.func23 rfl Tryz.call23 rfl (fun C => ?_); simp only [go_sem, st0, Tryz.ntmps23]
 refine w0_1 (implEv_ok s d r ns hs hd hr hns) ?_
 exact retK_ret ⟨⟨_, rfl, by simp only [go_sem]⟩, by simp [notOne]⟩
theorem evX_we (s : TStore) (d : List TDir) (r : List TResult) (ns : List ByteArray) (hr : wResultS r ≤ 4300000) : wResultS (evX s d r ns).1 ≤ 67108864 := by
 unfold evX
 split
 ·rename_i hb
  rw [Bool.and_eq_true] at hb
  obtain ⟨hv, hleast⟩ := resB_yes hb.1
  have h12 := okStore_len hb.2
  have hev := allE_ev (fs := s.fFiles) (ns := ns) (r := r) (fun i (hi : i < d.length) => okDirs_at hv i hi) hleast.clo (levK d (resL d))
  exact hev.w hv (by omega)
 ·simp [wResultS, wsum]
noncomputable def chC (c : TCatalog) (s : TStore) (d : List TDir) (ns : List ByteArray) : TCatalog := if evB s d then ⟨s, d, (evX s d c.fResults ns).1⟩ else c
noncomputable def chD (c : TCatalog) (s : TStore) (d : List TDir) (ns : List ByteArray) : List TDiff := if evB s d then diffR c.fResults (evX s d c.fResults ns).1 else []
theorem chTo_ok (c : TCatalog) (s : TStore) (d : List TDir) (ns : List ByteArray) (hc : wCatalog c ≤ 4300000) (hs : wStore s ≤ 4300000) (hd : wDirS d ≤ 4300000) (hns : ns.length ≤ 4300000) : FnC Tryz.prog 117 [gCatalog c, gStore s, .o (.d (.sl (d.map encDir))), .o (.d (.sl (ns.map encS)))] (.t [(true, (rCatalog (chC c s d ns)).cells), (false, [.w 158 3 ((chD c s d ns).map encDiff)]), (false, [.d (bv (evB s d))])]) := by
 have hr : wResultS c.fResults ≤ 4300000 := by unfold wCatalog at hc; omega
 refine ent Tryz.func117 rfl Tryz.call117 rfl (fun C => ?_); simp only [go_sem, st0, Tryz.ntmps117]
 cases hb : evB s d
 ·have e1 : chC c s d ns = c := by simp [chC, hb]
  have e2 : chD c s d ns = [] := by simp [chD, hb]
  have q0 := @hb; refine w1_2 (implReevE_ok s d c.fResults ns hs hd hr hns) (cpCat_ok c hc) ?_
  exact retK_ret ⟨⟨_, rfl, by simp only [go_sem, e1, e2, List.map_nil]; try simp⟩, by simp [notOne]⟩
 ·have e1 : chC c s d ns = ⟨s, d, (evX s d c.fResults ns).1⟩ := by simp [chC, hb]
  have e2 : chD c s d ns = diffR c.fResults (evX s d c.fResults ns).1 := by simp [chD, hb]
  have hw := evX_we s d c.fResults ns hr
  repeat' (with_reducible first | refine nY ?_ | (refine mX ?_; try simp only [go_sem, hb]) | refine kO ?_ (by decide) | (apply rE [1,3,9,10] [] [0,2,4,6,7,8] [0,2,4,6,7,8] ((.c 1 [] [2,4,6,7,8] (.c 3 [5] [4,5,6,7,8] (.c 9 [] [4,5] (.c 10 [11,12] [11,12] .n .n) .n) .n) .n)) (by simp only [go_sem]; rfl) (by simp only [go_sem]; rfl) (by simp only [go_sem]; rfl) (by decide +kernel); (focus simp only [go_sem]; done)) | exact tt_nil | (refine tt_cons (uX ?_) ?_) | refine tn_leaf (aX ?_) ?_ | refine tn_node (aX ?_) ?_ | exact meet_eq | (refine oG ?_; (focus simp only [go_sem]; done)) | (refine uA ?_; simp only [go_sem, hb]; (repeat' first | omega | refine And.intro ?_ ?_); done) | refine regd (by kernel_rfl) ?_ | (refine cC (implReevE_ok s d c.fResults ns hs hd hr hns) ?_ ?_; focus simp only [go_sem, and_self]; done) | (refine cC (cpStore_ok s hs) ?_ ?_; focus simp only [go_sem, and_self]; done) | (refine cC (cpDirs_ok d hd) ?_ ?_; focus simp only [go_sem, and_self]; done) | (refine calr (implDiffR_ok c.fResults (evX s d c.fResults ns).1 hr hw) ?_ ?_ ?_ (uX ?_); (focus simp only [go_sem, hb]; done); (focus simp only [go_sem, hb]; done); (focus simp only [go_sem, hb]; done)) | (refine cGr (implDiffR_ok c.fResults (evX s d c.fResults ns).1 hr hw) ?_ ?_ ?_ (uX ?_); (focus simp only [go_sem, hb]; done); (focus simp only [go_sem, hb]; done); (focus simp only [go_sem, hb]; done)) | (refine And.intro ?_ ?_; focus omega))
  exact retK_ret ⟨⟨_, rfl, by simp only [go_sem, e1, e2]; try simp⟩, by simp [notOne]⟩
theorem specTurn_ok (c : TCatalog) (s : TStore) (d : List TDir) (ns : List ByteArray) (hc : wCatalog c ≤ 4300000) (hs : wStore s ≤ 4300000) (hd : wDirS d ≤ 4300000) (hns : ns.length ≤ 4300000) : FnC Tryz.prog 111 [gCatalog c, gStore s, .o (.d (.sl (d.map encDir))), .o (.d (.sl (ns.map encS)))] (.t [(true, (gCatalog ⟨s, d, (evX s d c.fResults ns).1⟩).cells), (false, [.w 158 3 ((diffR c.fResults (evX s d c.fResults ns).1).map encDiff)])]) := by
 have hr : wResultS c.fResults ≤ 4300000 := by unfold wCatalog at hc; omega
 have hw := evX_we s d c.fResults ns hr
 refine ent Tryz.func111 rfl Tryz.call111 rfl (fun C => ?_); simp only [go_sem, st0, Tryz.ntmps111]
 repeat' (with_reducible first | refine nY ?_ | (refine mX ?_; try simp only [go_sem]) | refine kO ?_ (by decide) | (apply rE [7,8] [] [0,1,2,3,4,5,6] [0,1,2,3,4,5,6] ((.c 7 [] [0,1,2,3] (.c 8 [9] [9] .n .n) .n)) (by simp only [go_sem]; rfl) (by simp only [go_sem]; rfl) (by simp only [go_sem]; rfl) (by decide +kernel); (focus simp only [go_sem]; done)) | exact tt_nil | (refine tt_cons (uX ?_) ?_) | refine tn_leaf (aX ?_) ?_ | refine tn_node (aX ?_) ?_ | exact meet_eq | (refine oG ?_; (focus simp only [go_sem]; done)) | (refine uA ?_; simp only [go_sem]; (repeat' first | omega | refine And.intro ?_ ?_); done) | refine regd (by kernel_rfl) ?_ | (refine cC (specReev_ok s d c.fResults ns hs hd hr hns) ?_ ?_; focus simp only [go_sem, and_self]; done) | (refine cC (specDiffR_ok c.fResults (evX s d c.fResults ns).1 hr hw) ?_ ?_; focus simp only [go_sem, and_self]; done) | (refine And.intro ?_ ?_; focus omega))
 exact retK_ret ⟨⟨_, rfl, by simp only [go_sem]⟩, by simp [notOne]⟩
theorem l19Cpd_ok (c : TCatalog) (h : wCatalog c ≤ 4300000) : FnC Tryz.prog 108 [gCatalog c] (gCatalog c) := (l19Cp_ok c h).pu (by simp only [go_sem, and_self])
theorem specTurnd_ok (c : TCatalog) (s : TStore) (d : List TDir) (ns : List ByteArray) (hc : wCatalog c ≤ 4300000) (hs : wStore s ≤ 4300000) (hd : wDirS d ≤ 4300000) (hns : ns.length ≤ 4300000) : FnC Tryz.prog 111 [gCatalog c, gStore s, .o (.d (.sl (d.map encDir))), .o (.d (.sl (ns.map encS)))] (.t [(true, (gCatalog ⟨s, d, (evX s d c.fResults ns).1⟩).cells), (false, [.d (.sl ((diffR c.fResults (evX s d c.fResults ns).1).map encDiff))])]) := (specTurn_ok c s d ns hc hs hd hns).pu (by simp only [go_sem, and_self])
theorem dirNamesd_ok (l : List TDir) (hl : l.length ≤ 4300000) : FnC Tryz.prog 118 [.o (.d (.sl (l.map encDir)))] (.o (.d (.sl ((dirNs l).map encS)))) := (dirNames_ok l hl).pu (by simp only [go_sem, and_self])
theorem specDirNamesd_ok (l : List TDir) (hl : l.length ≤ 4300000) : FnC Tryz.prog 112 [.o (.d (.sl (l.map encDir)))] (.o (.d (.sl ((dirNs l).map encS)))) := (specDirNames_ok l hl).pu (by simp only [go_sem, and_self])
noncomputable def goC (b : Bool) (c : TCatalog) (s : TStore) (d : List TDir) (ns : List ByteArray) : TCatalog := if b then ⟨s, d, (evX s d c.fResults ns).1⟩ else c
noncomputable def goD (b : Bool) (c : TCatalog) (s : TStore) (d : List TDir) (ns : List ByteArray) : List TDiff := if b then diffR c.fResults (evX s d c.fResults ns).1 else []
end Go.Proofs.YtddimbdeggomaaaGreat
end
section
namespace Go.Proofs.YtddimbdeggomaaaGreat
open Go Go.Sx Go.RowKit Go.Proofs
theorem okStore_iff {x : TStore} : okStore x = true ↔ (∀ k, k < x.fFiles.length → okFileAt x k = true) ∧ okSchema x.fSchema = true ∧ x.fFiles.length ≤ 12 ∧ 1 ≤ x.fNextID ∧ x.fNextID ≤ 61 := by
 unfold okStore inB
 simp only [Bool.and_eq_true, List.all_eq_true, List.mem_range, decide_eq_true_eq]
 constructor
 ·rintro ⟨h1, h2, h3, h4, h5⟩; exact ⟨h1, h2, by omega, h4, h5⟩
 ·rintro ⟨h1, h2, h3, h4, h5⟩; exact ⟨h1, h2, by omega, h4, h5⟩
theorem okFileAt_iff {x : TStore} {k : Nat} (h : k < x.fFiles.length) : okFileAt x k = true ↔ okFile x.fSchema x.fFiles[k] = true ∧ x.fFiles[k].fID < x.fNextID ∧ upAt x.fFiles k = true := by
 unfold okFileAt
 rw [List.getElem?_eq_getElem h]
 simp only [Bool.and_eq_true, Bool.not_eq_true', decide_eq_false_iff_not, Int.not_le]
theorem okFile_id {s : List TField} {f : TFile} (h : okFile s f = true) : 1 ≤ f.fID ∧ f.fID ≤ 60 := by
 unfold okFile inB at h
 simp only [Bool.and_eq_true, decide_eq_true_eq] at h
 exact h.2.1
def mkF (s : TStore) (f : TFile) : TFile := { f with fID := s.fNextID }
def creOK (s : TStore) (f : TFile) : Bool := okStore s && (decide (s.fFiles.length < 12) && okFile s.fSchema (mkF s f))
def creS (s : TStore) (f : TFile) : TStore := if creOK s f then ⟨s.fSchema, s.fFiles ++ [mkF s f], s.fNextID + 1⟩ else s
def creI (s : TStore) (f : TFile) : Int := if creOK s f then s.fNextID else 0
theorem creOK_iff {s : TStore} {f : TFile} : creOK s f = true ↔ okStore s = true ∧ s.fFiles.length < 12 ∧ okFile s.fSchema (mkF s f) = true := by
 unfold creOK; simp only [Bool.and_eq_true, decide_eq_true_eq]
theorem cre_ok {s : TStore} {f : TFile} (h : creOK s f = true) : okStore (creS s f) = true := by
 obtain ⟨hs, hl, hf⟩ := creOK_iff.1 h
 obtain ⟨h1, h2, h3, h4, h5⟩ := okStore_iff.1 hs
 have hid := okFile_id hf
 have hid2 : 1 ≤ s.fNextID ∧ s.fNextID ≤ 60 := hid
 unfold creS
 rw [if_pos h]
 refine okStore_iff.2 ⟨fun k hk => ?_, h2, by simp; omega, by simp only; omega, by simp only; omega⟩
 rw [okFileAt_iff hk]
 simp only [List.length_append, List.length_cons, List.length_nil] at hk
 by_cases e : k < s.fFiles.length
 ·obtain ⟨q1, q2, q3⟩ := (okFileAt_iff e).1 (h1 k e)
  refine ⟨by simp only [List.getElem_append_left e]; exact q1, by simp only [List.getElem_append_left e]; omega, ?_⟩
  by_cases h0 : 0 < k
  ·rw [upAt_pos _ _ h0 (by simp; omega)]
   rw [upAt_pos _ _ h0 e] at q3
   simpa only [List.getElem_append_left e, List.getElem_append_left (show k - 1 < s.fFiles.length by omega)] using q3
  ·exact upAt_0 _ _ h0
 ·have ek : k = s.fFiles.length := by omega
  subst ek
  refine ⟨by simpa using hf, by simp [mkF]; omega, ?_⟩
  by_cases h0 : 0 < s.fFiles.length
  ·rw [upAt_pos _ _ h0 (by simp)]
   have e1 : s.fFiles.length - 1 < s.fFiles.length := by omega
   have q := ((okFileAt_iff e1).1 (h1 _ e1)).2.1
   simp only [List.getElem_append_left e1, List.getElem_append_right (Nat.le_refl _), Nat.sub_self, List.getElem_cons_zero, mkF, Bool.not_eq_true', decide_eq_false_iff_not]
   omega
  ·exact upAt_0 _ _ h0
theorem creS_w (s : TStore) (f : TFile) : wStore (creS s f) ≤ wStore s + wFile f + 1 := by
 unfold creS
 split
 ·unfold wStore wFileS
  simp only [List.length_append, List.length_cons, List.length_nil]
  have : wsum wFile (s.fFiles ++ [mkF s f]) = wsum wFile s.fFiles + wFile f := by
   have key : ∀ l : List TFile, wsum wFile (l ++ [mkF s f]) = wsum wFile l + wFile f := by
    intro l
    induction l with
    | nil => simp [wsum, wFile, mkF]
    | cons x l ih => simp only [List.cons_append, wsum, ih]; omega
   exact key _
  rw [this]; omega
 ·omega
end Go.Proofs.YtddimbdeggomaaaGreat
end
section
set_option maxRecDepth 100000
set_option maxHeartbeats 4000000
namespace Go.Proofs.YtddimbdeggomaaaGreat
open Go Go.Sx Go.RowKit Go.Proofs
theorem implCreate_ok (s : TStore) (f : TFile) (hs : wStore s ≤ 4300000) (hf : wFile f ≤ 4300000) : FnC Tryz.prog 114 [gStore s, gFile f] (.t [(true, (rStore (creS s f)).cells), (false, [.d (iv (creI s f))]), (false, [.d (bv (creOK s f))])]) := by
 have h1 : wFieldS s.fSchema ≤ 4300000 := by unfold wStore at hs; omega
 have h2 : s.fFiles.length ≤ 4300000 := by unfold wStore wFileS at hs; omega
 have h3 : f.fAttrs.length ≤ 4300000 := by unfold wFile wAttrS at hf; omega
 have hm : (mkF s f) = ⟨s.fNextID, f.fOwner, f.fShared, f.fLink, f.fAttrs⟩ := rfl
 refine ent Tryz.func114 rfl Tryz.call114 rfl (fun C => ?_); simp only [go_sem, st0, Tryz.ntmps114]
 cases hv : okStore s
 ·have e : creOK s f = false := by simp [creOK, hv]
  have q0 := @hv; refine w1_3 (cpStore_ok s hs) (cpFile_ok f h3) (implStore_ok s hs) ?_
  exact retK_ret ⟨⟨_, rfl, by simp only [go_sem, creS, creI, e]; try simp⟩, by simp [notOne]⟩
 by_cases hl : s.fFiles.length < 12
 case neg =>
  have e : creOK s f = false := by simp [creOK, hl]
  have hz : (12 : Int) ≤ (s.fFiles.length : Int) := by omega
  have q0 := @hv; have q1 := @hz; have q2 := @decide_true; refine w3_3 (cpStore_ok s hs) (cpFile_ok f h3) (implStore_ok s hs) ?_
  exact retK_ret ⟨⟨_, rfl, by simp only [go_sem, creS, creI, e]; try simp⟩, by simp [notOne]⟩
 have hz : ¬ (12 : Int) ≤ (s.fFiles.length : Int) := by omega
 cases ho : okFile s.fSchema (mkF s f)
 ·have e : creOK s f = false := by simp [creOK, ho]
  have hk := implFile_ok s.fSchema (mkF s f) h1 hf
  rw [ho, hm] at hk
  repeat' (with_reducible first | refine nY ?_ | (refine mX ?_; try simp only [go_sem, hv, hz, decide_false]) | refine kO ?_ (by decide) | refine regd (by kernel_rfl) ?_ | (refine cC (cpStore_ok s hs) ?_ ?_; focus simp only [go_sem, and_self]; done) | (refine cC (cpFile_ok f h3) ?_ ?_; focus simp only [go_sem, and_self]; done) | (refine cC (implStore_ok s hs) ?_ ?_; focus simp only [go_sem, and_self]; done) | (refine calr (hk) ?_ ?_ ?_ (uX ?_); (focus simp only [go_sem, hv, hz, decide_false]; done); (focus simp only [go_sem, hv, hz, decide_false]; done); (focus simp only [go_sem, hv, hz, decide_false]; done)) | (refine cDr (hk) ?_ ?_ ?_ (uX ?_); (focus simp only [go_sem, hv, hz, decide_false]; done); (focus simp only [go_sem, hv, hz, decide_false]; done); (focus simp only [go_sem, hv, hz, decide_false]; done)) | (refine And.intro ?_ ?_; focus omega))
  exact retK_ret ⟨⟨_, rfl, by simp only [go_sem, creS, creI, e]; try simp⟩, by simp [notOne]⟩
 ·have e : creOK s f = true := by simp [creOK, hv, hl, ho]
  have hid := okFile_id ho
  have hid2 : 1 ≤ s.fNextID ∧ s.fNextID ≤ 60 := hid
  have hk := implFile_ok s.fSchema (mkF s f) h1 hf
  rw [ho, hm] at hk
  repeat' (with_reducible first | refine nY ?_ | (refine mX ?_; try simp only [go_sem, hv, hz, decide_false]) | refine kO ?_ (by decide) | (apply rE [3] [] [0,1,2] [0,1,2] ((.c 3 [4,5] [1,2,4,5] .n .n)) (by simp only [go_sem]; rfl) (by simp only [go_sem]; rfl) (by simp only [go_sem]; rfl) (by decide +kernel); (focus simp only [go_sem]; done)) | exact tt_nil | (refine tt_cons (uX ?_) ?_) | refine tn_leaf (aX ?_) ?_ | refine tn_node (aX ?_) ?_ | exact meet_eq | (refine oG ?_; (focus simp only [go_sem]; done)) | (refine uA ?_; simp only [go_sem, hv, hz, decide_false]; (repeat' first | omega | refine And.intro ?_ ?_); done) | refine regd (by kernel_rfl) ?_ | (refine cC (cpStore_ok s hs) ?_ ?_; focus simp only [go_sem, and_self]; done) | (refine cC (cpFile_ok f h3) ?_ ?_; focus simp only [go_sem, and_self]; done) | (refine cC (implStore_ok s hs) ?_ ?_; focus simp only [go_sem, and_self]; done) | (refine calr (hk) ?_ ?_ ?_ (uX ?_); (focus simp only [go_sem, hv, hz, decide_false]; done); (focus simp only [go_sem, hv, hz, decide_false]; done); (focus simp only [go_sem, hv, hz, decide_false]; done)) | (refine cGr (hk) ?_ ?_ ?_ (uX ?_); (focus simp only [go_sem, hv, hz, decide_false]; done); (focus simp only [go_sem, hv, hz, decide_false]; done); (focus simp only [go_sem, hv, hz, decide_false]; done)) | (refine And.intro ?_ ?_; focus omega))
  exact retK_ret ⟨⟨_, rfl, by simp only [go_sem, creS, creI, e, if_true, List.map_append, mkF]; try simp [encFile]⟩, by simp [notOne]⟩
theorem specCreate_ok (s : TStore) (f : TFile) (hs : wStore s ≤ 4300000) (hf : wFile f ≤ 4300000) : FnC Tryz.prog 109 [gStore s, gFile f] (.t [(true, (rStore (creS s f)).cells), (false, [.d (iv (creI s f))]), (false, [.d (bv (creOK s f))])]) := by
 have h1 : wFieldS s.fSchema ≤ 4300000 := by unfold wStore at hs; omega
 have h2 : s.fFiles.length ≤ 4300000 := by unfold wStore wFileS at hs; omega
 have h3 : f.fAttrs.length ≤ 4300000 := by unfold wFile wAttrS at hf; omega
 have hm : (mkF s f) = ⟨s.fNextID, f.fOwner, f.fShared, f.fLink, f.fAttrs⟩ := rfl
 refine ent Tryz.func109 rfl Tryz.call109 rfl (fun C => ?_); simp only [go_sem, st0, Tryz.ntmps109]
 cases hv : okStore s
 ·have e : creOK s f = false := by simp [creOK, hv]
  repeat' (with_reducible first | refine nY ?_ | (refine mX ?_; try simp only [go_sem, hv]) | refine kO ?_ (by decide) | refine regd (by kernel_rfl) ?_ | (refine cC (l05Cp_ok s hs) ?_ ?_; focus simp only [go_sem, and_self]; done) | (refine cC (l04Cp_ok f h3) ?_ ?_; focus simp only [go_sem, and_self]; done) | (refine calr (specStore_ok s hs) ?_ ?_ ?_ (uX ?_); (focus simp only [go_sem, hv]; done); (focus simp only [go_sem, hv]; done); (focus simp only [go_sem, hv]; done)) | (refine cDr (specStore_ok s hs) ?_ ?_ ?_ (uX ?_); (focus simp only [go_sem, hv]; done); (focus simp only [go_sem, hv]; done); (focus simp only [go_sem, hv]; done)) | (refine And.intro ?_ ?_; focus omega))
  exact retK_ret ⟨⟨_, rfl, by simp only [go_sem, creS, creI, e]; try simp⟩, by simp [notOne]⟩
 by_cases hl : s.fFiles.length < 12
 case neg =>
  have e : creOK s f = false := by simp [creOK, hl]
  have hz : (12 : Int) ≤ (s.fFiles.length : Int) := by omega
  repeat' (with_reducible first | refine nY ?_ | (refine mX ?_; try simp only [go_sem, hv, hz, decide_true]) | refine kO ?_ (by decide) | refine regd (by kernel_rfl) ?_ | (refine cC (l05Cp_ok s hs) ?_ ?_; focus simp only [go_sem, and_self]; done) | (refine cC (l04Cp_ok f h3) ?_ ?_; focus simp only [go_sem, and_self]; done) | (refine calr (specStore_ok s hs) ?_ ?_ ?_ (uX ?_); (focus simp only [go_sem, hv, hz, decide_true]; done); (focus simp only [go_sem, hv, hz, decide_true]; done); (focus simp only [go_sem, hv, hz, decide_true]; done)) | (refine cDr (specStore_ok s hs) ?_ ?_ ?_ (uX ?_); (focus simp only [go_sem, hv, hz, decide_true]; done); (focus simp only [go_sem, hv, hz, decide_true]; done); (focus simp only [go_sem, hv, hz, decide_true]; done)) | (refine And.intro ?_ ?_; focus omega))
  exact retK_ret ⟨⟨_, rfl, by simp only [go_sem, creS, creI, e]; try simp⟩, by simp [notOne]⟩
 have hz : ¬ (12 : Int) ≤ (s.fFiles.length : Int) := by omega
 cases ho : okFile s.fSchema (mkF s f)
 ·have e : creOK s f = false := by simp [creOK, ho]
  have hk := specFile_ok s.fSchema (mkF s f) h1 hf
  rw [ho, hm] at hk
  repeat' (with_reducible first | refine nY ?_ | (refine mX ?_; try simp only [go_sem, hv, hz, decide_false]) | refine kO ?_ (by decide) | refine regd (by kernel_rfl) ?_ | (refine cC (l05Cp_ok s hs) ?_ ?_; focus simp only [go_sem, and_self]; done) | (refine cC (l04Cp_ok f h3) ?_ ?_; focus simp only [go_sem, and_self]; done) | (refine calr (specStore_ok s hs) ?_ ?_ ?_ (uX ?_); (focus simp only [go_sem, hv, hz, decide_false]; done); (focus simp only [go_sem, hv, hz, decide_false]; done); (focus simp only [go_sem, hv, hz, decide_false]; done)) | (refine cDr (specStore_ok s hs) ?_ ?_ ?_ (uX ?_); (focus simp only [go_sem, hv, hz, decide_false]; done); (focus simp only [go_sem, hv, hz, decide_false]; done); (focus simp only [go_sem, hv, hz, decide_false]; done)) | (refine calr (hk) ?_ ?_ ?_ (uX ?_); (focus simp only [go_sem, hv, hz, decide_false]; done); (focus simp only [go_sem, hv, hz, decide_false]; done); (focus simp only [go_sem, hv, hz, decide_false]; done)) | (refine cDr (hk) ?_ ?_ ?_ (uX ?_); (focus simp only [go_sem, hv, hz, decide_false]; done); (focus simp only [go_sem, hv, hz, decide_false]; done); (focus simp only [go_sem, hv, hz, decide_false]; done)) | (refine And.intro ?_ ?_; focus omega))
  exact retK_ret ⟨⟨_, rfl, by simp only [go_sem, creS, creI, e]; try simp⟩, by simp [notOne]⟩
 ·have e : creOK s f = true := by simp [creOK, hv, hl, ho]
  have hid := okFile_id ho
  have hid2 : 1 ≤ s.fNextID ∧ s.fNextID ≤ 60 := hid
  have hk := specFile_ok s.fSchema (mkF s f) h1 hf
  rw [ho, hm] at hk
  repeat' (with_reducible first | refine nY ?_ | (refine mX ?_; try simp only [go_sem, hv, hz, decide_false]) | refine kO ?_ (by decide) | (apply rE [3] [] [0,1,2] [0,1,2] ((.c 3 [4,5] [1,2,4,5] .n .n)) (by simp only [go_sem]; rfl) (by simp only [go_sem]; rfl) (by simp only [go_sem]; rfl) (by decide +kernel); (focus simp only [go_sem]; done)) | exact tt_nil | (refine tt_cons (uX ?_) ?_) | refine tn_leaf (aX ?_) ?_ | refine tn_node (aX ?_) ?_ | exact meet_eq | (refine oG ?_; (focus simp only [go_sem]; done)) | (refine uA ?_; simp only [go_sem, hv, hz, decide_false]; (repeat' first | omega | refine And.intro ?_ ?_); done) | refine regd (by kernel_rfl) ?_ | (refine cC (l05Cp_ok s hs) ?_ ?_; focus simp only [go_sem, and_self]; done) | (refine cC (l04Cp_ok f h3) ?_ ?_; focus simp only [go_sem, and_self]; done) | (refine calr (specStore_ok s hs) ?_ ?_ ?_ (uX ?_); (focus simp only [go_sem, hv, hz, decide_false]; done); (focus simp only [go_sem, hv, hz, decide_false]; done); (focus simp only [go_sem, hv, hz, decide_false]; done)) | (refine cGr (specStore_ok s hs) ?_ ?_ ?_ (uX ?_); (focus simp only [go_sem, hv, hz, decide_false]; done); (focus simp only [go_sem, hv, hz, decide_false]; done); (focus simp only [go_sem, hv, hz, decide_false]; done)) | (refine calr (hk) ?_ ?_ ?_ (uX ?_); (focus simp only [go_sem, hv, hz, decide_false]; done); (focus simp only [go_sem, hv, hz, decide_false]; done); (focus simp only [go_sem, hv, hz, decide_false]; done)) | (refine cGr (hk) ?_ ?_ ?_ (uX ?_); (focus simp only [go_sem, hv, hz, decide_false]; done); (focus simp only [go_sem, hv, hz, decide_false]; done); (focus simp only [go_sem, hv, hz, decide_false]; done)) | (refine And.intro ?_ ?_; focus omega))
  exact retK_ret ⟨⟨_, rfl, by simp only [go_sem, creS, creI, e, if_true, List.map_append, mkF]; try simp [encFile]⟩, by simp [notOne]⟩
end Go.Proofs.YtddimbdeggomaaaGreat
end
section
set_option maxRecDepth 100000
set_option maxHeartbeats 4000000
namespace Go.Proofs.YtddimbdeggomaaaGreat
open Go Go.Sx Go.RowKit Go.Proofs
theorem specCreated_ok (s : TStore) (f : TFile) (hs : wStore s ≤ 4300000) (hf : wFile f ≤ 4300000) : FnC Tryz.prog 109 [gStore s, gFile f] (.t [(true, (gStore (creS s f)).cells), (false, [.d (iv (creI s f))]), (false, [.d (bv (creOK s f))])]) := (specCreate_ok s f hs hf).pu (by simp only [go_sem, and_self])
noncomputable def addX (c : TCatalog) (f : TFile) : List TResult := (evX (creS c.fStore f) c.fDirs c.fResults (dirNs c.fDirs)).1
noncomputable def addB (c : TCatalog) (f : TFile) : Bool := curB c && creOK c.fStore f
noncomputable def addC (c : TCatalog) (f : TFile) : TCatalog := if addB c f then ⟨creS c.fStore f, c.fDirs, addX c f⟩ else c
noncomputable def addI (c : TCatalog) (f : TFile) : Int := if addB c f then creI c.fStore f else 0
noncomputable def addD (c : TCatalog) (f : TFile) : List TDiff := if addB c f then diffR c.fResults (addX c f) else []
theorem add_ev {c : TCatalog} {f : TFile} (h1 : curB c = true) (h2 : creOK c.fStore f = true) : evB (creS c.fStore f) c.fDirs = true := by
 unfold curB at h1
 rw [Bool.and_eq_true] at h1
 have h3 := h1.1
 unfold evB at h3 ⊢
 rw [Bool.and_eq_true] at h3 ⊢
 exact ⟨h3.1, cre_ok h2⟩
theorem implAdd_ok (c : TCatalog) (f : TFile) (h : wCatalog c + wFile f ≤ 4299999) : FnC Tryz.prog 43 [gCatalog c, gFile f] (.t [(true, (rCatalog (addC c f)).cells), (false, [.d (iv (addI c f))]), (false, [.w 158 3 ((addD c f).map encDiff)]), (false, [.d (bv (addB c f))])]) := by
 have hc : wCatalog c = wStore c.fStore + wDirS c.fDirs + wResultS c.fResults := rfl
 have hw := creS_w c.fStore f
 have hl : c.fDirs.length ≤ 4300000 := by unfold wDirS at hc; omega
 have hn : (dirNs c.fDirs).length ≤ 4300000 := by rw [dirNs_len]; exact hl
 refine ent Tryz.func43 rfl Tryz.call43 rfl (fun C => ?_); simp only [go_sem, st0, Tryz.ntmps43]
 cases h2 : creOK c.fStore f
 ·have e : addB c f = false := by simp [addB, h2]
  have e1 : addC c f = c := by simp [addC, e]
  have e2 : addI c f = 0 := by simp [addI, e]
  have e3 : addD c f = [] := by simp [addD, e]
  have q0 := @h2; refine w1_3 (implCreate_ok c.fStore f (by omega) (by omega)) (implCur_ok c (by omega)) (cpCat_ok c (by omega)) ?_
  exact retK_ret ⟨⟨_, rfl, by simp only [go_sem, e, e1, e2, e3, List.map_nil]; try simp⟩, by simp [notOne]⟩
 cases h1 : curB c
 ·have e : addB c f = false := by simp [addB, h1]
  have e1 : addC c f = c := by simp [addC, e]
  have e2 : addI c f = 0 := by simp [addI, e]
  have e3 : addD c f = [] := by simp [addD, e]
  have q0 := @h1; have q1 := @h2; refine w2_3 (implCreate_ok c.fStore f (by omega) (by omega)) (implCur_ok c (by omega)) (cpCat_ok c (by omega)) ?_
  exact retK_ret ⟨⟨_, rfl, by simp only [go_sem, e, e1, e2, e3, List.map_nil]; try simp⟩, by simp [notOne]⟩
 ·have e : addB c f = true := by simp [addB, h1, h2]
  have hev := add_ev h1 h2
  have e1 : addC c f = ⟨creS c.fStore f, c.fDirs, (evX (creS c.fStore f) c.fDirs c.fResults (dirNs c.fDirs)).1⟩ := by simp [addC, e, addX]
  have e2 : addI c f = creI c.fStore f := by simp [addI, e]
  have e3 : addD c f = diffR c.fResults (evX (creS c.fStore f) c.fDirs c.fResults (dirNs c.fDirs)).1 := by simp [addD, e, addX]
  have hk := chTo_ok c (creS c.fStore f) c.fDirs (dirNs c.fDirs) (by omega) (by omega) (by omega) hn
  unfold chC chD at hk
  rw [hev] at hk
  simp only [if_true] at hk
  repeat' (with_reducible first | refine nY ?_ | (refine mX ?_; try simp only [go_sem, h1, h2]) | refine kO ?_ (by decide) | (apply rE [6,7,12,13] [] [0,1,2,3,4,5] [0,1,2,3,4,5] ((.c 6 [] [0,1,2,3] (.c 7 [8,9,10,11] [8,9,10,11] (.c 12 [] [8,9,10,11] (.c 13 [14,15] [10,11,14,15] .n .n) .n) (.c 12 [] [0,1,2,3] (.c 7 [8,9,10,11] [8,9,10,11] (.c 13 [14,15] [10,11,14,15] .n .n) .n) .n)) (.c 12 [] [0,1,2,3,4,5] (.c 6 [] [0,1,2,3] (.c 7 [8,9,10,11] [8,9,10,11] (.c 13 [14,15] [10,11,14,15] .n .n) .n) .n) .n))) (by simp only [go_sem]; rfl) (by simp only [go_sem]; rfl) (by simp only [go_sem]; rfl) (by decide +kernel); (focus simp only [go_sem]; done)) | exact tt_nil | (refine tt_cons (uX ?_) ?_) | refine tn_leaf (aX ?_) ?_ | refine tn_node (aX ?_) ?_ | exact meet_eq | (refine meet_sw [(6, 7), (7, 8), (8, 9), (9, 10), (10, 11)] (by simp only [go_sem]; rfl) ?_; exact rfl) | (refine oG ?_; (focus simp only [go_sem]; done)) | (refine uA ?_; simp only [go_sem, h1, h2]; (repeat' first | omega | refine And.intro ?_ ?_); done) | refine regd (by kernel_rfl) ?_ | (refine cC (implCreate_ok c.fStore f (by omega) (by omega)) ?_ ?_; focus simp only [go_sem, and_self]; done) | (refine cC (implCur_ok c (by omega)) ?_ ?_; focus simp only [go_sem, and_self]; done) | (refine cC (dirNamesd_ok c.fDirs hl) ?_ ?_; focus simp only [go_sem, and_self]; done) | (refine cC (hk) ?_ ?_; focus simp only [go_sem, and_self]; done) | (refine And.intro ?_ ?_; focus omega))
  exact retK_ret ⟨⟨_, rfl, by simp only [go_sem, e, e1, e2, e3]; try simp⟩, by simp [notOne]⟩
theorem specAdd_ok (c : TCatalog) (f : TFile) (h : wCatalog c + wFile f ≤ 4299999) : FnC Tryz.prog 40 [gCatalog c, gFile f] (.t [(true, (gCatalog (addC c f)).cells), (false, [.d (iv (addI c f))]), (false, [.d (.sl ((addD c f).map encDiff))]), (false, [.d (bv (addB c f))])]) := by
 have hc : wCatalog c = wStore c.fStore + wDirS c.fDirs + wResultS c.fResults := rfl
 have hw := creS_w c.fStore f
 have hl : c.fDirs.length ≤ 4300000 := by unfold wDirS at hc; omega
 have hn : (dirNs c.fDirs).length ≤ 4300000 := by rw [dirNs_len]; exact hl
 refine ent Tryz.func40 rfl Tryz.call40 rfl (fun C => ?_); simp only [go_sem, st0, Tryz.ntmps40]
 cases h1 : curB c
 ·have e : addB c f = false := by simp [addB, h1]
  have e1 : addC c f = c := by simp [addC, e]
  have e2 : addI c f = 0 := by simp [addI, e]
  have e3 : addD c f = [] := by simp [addD, e]
  have q0 := @h1; refine w1_3 (l19Cpd_ok c (by omega)) (specCreated_ok c.fStore f (by omega) (by omega)) (specCur_ok c (by omega)) ?_
  first | refine retK_sees (Sees.frz 1 rfl) ?_ | refine retK_sees (Sees.frz 2 rfl) ?_ | refine retK_sees (Sees.frz 3 rfl) ?_ | refine retK_sees (Sees.frz 4 rfl) ?_ | refine retK_sees (Sees.frz 5 rfl) ?_
  simp only [go_sem]
  exact retK_ret ⟨⟨_, rfl, by simp only [go_sem, e, e1, e2, e3, List.map_nil]; try simp⟩, by simp [notOne]⟩
 cases h2 : creOK c.fStore f
 ·have e : addB c f = false := by simp [addB, h2]
  have e1 : addC c f = c := by simp [addC, e]
  have e2 : addI c f = 0 := by simp [addI, e]
  have e3 : addD c f = [] := by simp [addD, e]
  have q0 := @h1; have q1 := @h2; refine w2_3 (l19Cpd_ok c (by omega)) (specCreated_ok c.fStore f (by omega) (by omega)) (specCur_ok c (by omega)) ?_
  first | refine retK_sees (Sees.frz 1 rfl) ?_ | refine retK_sees (Sees.frz 2 rfl) ?_ | refine retK_sees (Sees.frz 3 rfl) ?_ | refine retK_sees (Sees.frz 4 rfl) ?_ | refine retK_sees (Sees.frz 5 rfl) ?_
  simp only [go_sem]
  exact retK_ret ⟨⟨_, rfl, by simp only [go_sem, e, e1, e2, e3, List.map_nil]; try simp⟩, by simp [notOne]⟩
 ·have e : addB c f = true := by simp [addB, h1, h2]
  have e1 : addC c f = ⟨creS c.fStore f, c.fDirs, (evX (creS c.fStore f) c.fDirs c.fResults (dirNs c.fDirs)).1⟩ := by simp [addC, e, addX]
  have e2 : addI c f = creI c.fStore f := by simp [addI, e]
  have e3 : addD c f = diffR c.fResults (evX (creS c.fStore f) c.fDirs c.fResults (dirNs c.fDirs)).1 := by simp [addD, e, addX]
  repeat' (with_reducible first | refine nY ?_ | (refine mX ?_; try simp only [go_sem, h1, h2]) | refine kO ?_ (by decide) | (apply rE [6,7,11,12] [] [0,1,2,3,4,5] [0,1,2,3,4,5] ((.c 6 [] [0,1,2,3] (.c 7 [8,9,10] [8,9,10] (.c 11 [] [8,9,10] (.c 12 [13] [10,13] .n .n) .n) (.c 11 [] [0,1,2,3] (.c 7 [8,9,10] [8,9,10] (.c 12 [13] [10,13] .n .n) .n) .n)) (.c 11 [] [0,1,2,3,4,5] (.c 6 [] [0,1,2,3] (.c 7 [8,9,10] [8,9,10] (.c 12 [13] [10,13] .n .n) .n) .n) .n))) (by simp only [go_sem]; rfl) (by simp only [go_sem]; rfl) (by simp only [go_sem]; rfl) (by decide +kernel); (focus simp only [go_sem]; done)) | exact tt_nil | (refine tt_cons (uX ?_) ?_) | refine tn_leaf (aX ?_) ?_ | refine tn_node (aX ?_) ?_ | exact meet_eq | (refine oG ?_; (focus simp only [go_sem]; done)) | (refine uA ?_; simp only [go_sem, h1, h2]; (repeat' first | omega | refine And.intro ?_ ?_); done) | refine regd (by kernel_rfl) ?_ | (refine cC (l19Cpd_ok c (by omega)) ?_ ?_; focus simp only [go_sem, and_self]; done) | (refine cC (specCreated_ok c.fStore f (by omega) (by omega)) ?_ ?_; focus simp only [go_sem, and_self]; done) | (refine cC (specCur_ok c (by omega)) ?_ ?_; focus simp only [go_sem, and_self]; done) | (refine cC (specDirNamesd_ok c.fDirs hl) ?_ ?_; focus simp only [go_sem, and_self]; done) | (refine cC (specTurnd_ok c (creS c.fStore f) c.fDirs (dirNs c.fDirs) (by omega) (by omega) (by omega) hn) ?_ ?_; focus simp only [go_sem, and_self]; done) | (refine And.intro ?_ ?_; focus omega))
  exact retK_ret ⟨⟨_, rfl, by simp only [go_sem, e, e1, e2, e3]; try simp⟩, by simp [notOne]⟩
theorem add_w (c : TCatalog) (f : TFile) (h : wCatalog c + wFile f ≤ 4299999) : wStore (addC c f).fStore ≤ 8600000 ∧ wDirS (addC c f).fDirs ≤ 8600000 ∧ wResultS (addC c f).fResults ≤ 8600000 ∧ wDiffS (addD c f) ≤ 8600000 := by
 have hc : wCatalog c = wStore c.fStore + wDirS c.fDirs + wResultS c.fResults := rfl
 unfold addC addD
 cases e : addB c f
 ·simp only [Bool.false_eq_true, if_false]
  exact ⟨by omega, by omega, by omega, by simp [wDiffS, wsum]⟩
 ·simp only [if_true]
  unfold addB at e
  rw [Bool.and_eq_true] at e
  have hr := cur_r e.1
  have hw := creS_w c.fStore f
  have hx := evX_sm (creS c.fStore f) c.fDirs c.fResults (dirNs c.fDirs) hr
  have hd := diff_sm c.fResults (addX c f) hr hx
  unfold addX at hd ⊢
  exact ⟨by omega, by omega, by omega, by omega⟩
theorem lawAddFile_ok (c : TCatalog) (f : TFile) (hfc : wfCatalog c) (hff : wfFile f) : FnC Tryz.prog 5 [gCatalog c, gFile f] (ob true) := by
 refine ent Tryz.func5 rfl Tryz.call5 rfl (fun C => ?_); simp only [go_sem, st0, Tryz.ntmps5]
 have z1 := szCatalog_ok c 1048576 (by omega) hfc
 by_cases h1 : szOut 1048576 (wCatalog c) < 0
 ·have q0 := @h1; refine w1_1 z1 ?_
  exact retK_ret ⟨⟨_, rfl, by simp only [go_sem]⟩, trivial⟩
 have s1 : wCatalog c ≤ 1048576 := by have := szOut_le h1; omega
 have e1 : szOut 1048576 (wCatalog c) = 1048576 - (wCatalog c : Nat) := szOut_pos (by omega)
 rw [e1] at z1 h1
 have z2 := szFile_ok f (1048576 - (wCatalog c : Nat)) (by omega) hff
 by_cases h2 : szOut (1048576 - (wCatalog c : Nat)) (wFile f) < 0
 ·have q0 := @h1; have q1 := @h2; refine w2_2 z1 z2 ?_
  exact retK_ret ⟨⟨_, rfl, by simp only [go_sem]⟩, trivial⟩
 have s2 : wCatalog c + wFile f ≤ 1048576 := by have := szOut_le h2; omega
 have e2 : szOut (1048576 - (wCatalog c : Nat)) (wFile f) = 1048576 - (wCatalog c : Nat) - (wFile f : Nat) := szOut_pos (by omega)
 rw [e2] at z2 h2
 have b1c : wStore c.fStore = wFieldS c.fStore.fSchema + wFileS c.fStore.fFiles := rfl
 have b2c : wFileS c.fStore.fFiles = c.fStore.fFiles.length + wsum wFile c.fStore.fFiles := rfl
 have b3c : c.fStore.fSchema.length ≤ wFieldS c.fStore.fSchema := by unfold wFieldS; omega
 have b4c : wDirS c.fDirs = c.fDirs.length + wsum wDir c.fDirs := rfl
 have b5c : wResultS c.fResults = c.fResults.length + wsum wResult c.fResults := rfl
 have b6c := csumField c.fStore.fSchema
 have b7c := csumFile c.fStore.fFiles
 have b8c := csumDir c.fDirs
 have b9c := csumResult c.fResults
 have b0c : wCatalog c = wStore c.fStore + wDirS c.fDirs + wResultS c.fResults := rfl
 have f1f := csumAttr f.fAttrs
 have f2f : f.fAttrs.length ≤ wFile f := by unfold wFile wAttrS; omega
 have hi := implAdd_ok c f (by omega)
 have hk := specAdd_ok c f (by omega)
 have hC := add_w c f (by omega)
 generalize (addC c f) = X at *
 generalize (addD c f) = Y at *
 generalize (addI c f) = I at *
 generalize (addB c f) = B at *
 obtain ⟨q1, q2, q3, q4⟩ := hC
 have b1X : wStore X.fStore = wFieldS X.fStore.fSchema + wFileS X.fStore.fFiles := rfl
 have b2X : wFileS X.fStore.fFiles = X.fStore.fFiles.length + wsum wFile X.fStore.fFiles := rfl
 have b3X : X.fStore.fSchema.length ≤ wFieldS X.fStore.fSchema := by unfold wFieldS; omega
 have b4X : wDirS X.fDirs = X.fDirs.length + wsum wDir X.fDirs := rfl
 have b5X : wResultS X.fResults = X.fResults.length + wsum wResult X.fResults := rfl
 have b6X := csumField X.fStore.fSchema
 have b7X := csumFile X.fStore.fFiles
 have b8X := csumDir X.fDirs
 have b9X := csumResult X.fResults
 have b0X : wCatalog X = wStore X.fStore + wDirS X.fDirs + wResultS X.fResults := rfl
 have hX : wCatalog X ≤ 67108864 := by unfold wCatalog; omega
 have k1 : ¬ ((1 : Int) + (csum cnField c.fStore.fSchema : Nat) + (csum cnFile c.fStore.fFiles : Nat) + (csum cnDir c.fDirs : Nat) + (csum cnResult c.fResults : Nat) + (csum cnAttr f.fAttrs : Nat) < 0) := by omega
 have k2 : ¬ ((1 : Int) + (csum cnField X.fStore.fSchema : Nat) + (csum cnFile X.fStore.fFiles : Nat) + (csum cnDir X.fDirs : Nat) + (csum cnResult X.fResults : Nat) < 0) := by omega
 have y1 := csumDiff Y
 have y2 : wDiffS Y = Y.length + wsum wDiff Y := rfl
 have k3 : ¬ ((1 : Int) + (csum cnField X.fStore.fSchema : Nat) + (csum cnFile X.fStore.fFiles : Nat) + (csum cnDir X.fDirs : Nat) + (csum cnResult X.fResults : Nat) + (csum cnDiff Y : Nat) < 0) := by omega
 have hid : FnC Tryz.prog 43 [gCatalog c, gFile f] (.t [(true, (gCatalog X).cells), (false, [.d (iv I)]), (false, [.d (.sl (Y.map encDiff))]), (false, [.d (bv B)])]) := hi.pu (by simp only [go_sem, and_self])
 cases B
 all_goals
  repeat' (with_reducible first | refine nY ?_ | (refine mX ?_; try simp only [go_sem, h1, h2, k1, k2, k3, Bool.true_beq, Bool.false_beq]) | refine kO ?_ (by decide) | (refine cC (z1) ?_ ?_; focus simp only [go_sem, and_self]; done) | (refine cC (z2) ?_ ?_; focus simp only [go_sem, and_self]; done) | (refine And.intro ?_ ?_; focus omega))
  repeat' (with_reducible first | refine nX ?_ | (refine mX ?_; try simp only [go_sem]) | refine kO ?_ (by decide) | (apply rE [1,3,4,10,11] [] [0,2] [0,2] ((.c 1 [] [2] (.c 3 [] [] (.c 4 [5,6,7,8,9] [5,6,7,8,9] (.c 10 [] [5,6,7,8,9] (.c 11 [12,13,14] [7,8,9,12,13,14] .n .n) .n) (.c 10 [] [] (.c 4 [5,6,7,8,9] [5,6,7,8,9] (.c 11 [12,13,14] [7,8,9,12,13,14] .n .n) .n) .n)) (.c 10 [] [2] (.c 3 [] [] (.c 4 [5,6,7,8,9] [5,6,7,8,9] (.c 11 [12,13,14] [7,8,9,12,13,14] .n .n) .n) .n) .n)) (.c 10 [] [0,2] (.c 1 [] [2] (.c 3 [] [] (.c 4 [5,6,7,8,9] [5,6,7,8,9] (.c 11 [12,13,14] [7,8,9,12,13,14] .n .n) .n) .n) .n) .n))) (by simp only [go_sem]; rfl) (by simp only [go_sem]; rfl) (by simp only [go_sem]; rfl) (by decide +kernel); (focus simp only [go_sem]; done)) | exact tt_nil | (refine tt_cons (uX ?_) ?_) | refine tn_leaf (aX ?_) ?_ | refine tn_node (aX ?_) ?_ | exact meet_eq | (refine oG ?_; (focus simp only [go_sem]; done)) | (refine uA ?_; simp only [go_sem]; (repeat' first | omega | refine And.intro ?_ ?_); done) | (refine cC (toCatalogd_ok c (by omega)) ?_ ?_; focus simp only [go_sem, and_self]; done) | (refine cC (toFiled_ok f (by omega)) ?_ ?_; focus simp only [go_sem, and_self]; done) | (refine cC (hk) ?_ ?_; focus simp only [go_sem, and_self]; done) | (refine And.intro ?_ ?_; focus omega))
  repeat' (with_reducible first | refine nY ?_ | (refine mX ?_; try simp only [go_sem, h1, h2, k1, k2, k3, Bool.true_beq, Bool.false_beq]) | refine kO ?_ (by decide) | (apply rE [1,3,4,10,11] [] [0,2] [0,2] ((.c 1 [] [2] (.c 3 [] [] (.c 4 [5,6,7,8,9] [5,6,7,8,9] (.c 10 [] [5,6,7,8,9] (.c 11 [12,13,14] [7,8,9,12,13,14] .n .n) .n) (.c 10 [] [] (.c 4 [5,6,7,8,9] [5,6,7,8,9] (.c 11 [12,13,14] [7,8,9,12,13,14] .n .n) .n) .n)) (.c 10 [] [2] (.c 3 [] [] (.c 4 [5,6,7,8,9] [5,6,7,8,9] (.c 11 [12,13,14] [7,8,9,12,13,14] .n .n) .n) .n) .n)) (.c 10 [] [0,2] (.c 1 [] [2] (.c 3 [] [] (.c 4 [5,6,7,8,9] [5,6,7,8,9] (.c 11 [12,13,14] [7,8,9,12,13,14] .n .n) .n) .n) .n) .n))) (by simp only [go_sem]; rfl) (by simp only [go_sem]; rfl) (by simp only [go_sem]; rfl) (by decide +kernel); (focus simp only [go_sem]; done)) | exact tt_nil | (refine tt_cons (uX ?_) ?_) | refine tn_leaf (aX ?_) ?_ | refine tn_node (aX ?_) ?_ | exact meet_eq | (refine oG ?_; (focus simp only [go_sem]; done)) | (refine uA ?_; simp only [go_sem, h1, h2, k1, k2, k3, Bool.true_beq, Bool.false_beq]; (repeat' first | omega | refine And.intro ?_ ?_); done) | refine regd (by kernel_rfl) ?_ | (refine calo (toCatalog_ok c (by omega)) ?_ ?_ ?_ (uX ?_); (focus simp only [go_sem, h1, h2, k1, k2, k3, Bool.true_beq, Bool.false_beq]; done); (focus simp only [go_sem, h1, h2, k1, k2, k3, Bool.true_beq, Bool.false_beq]; done); (focus simp only [go_sem, h1, h2, k1, k2, k3, Bool.true_beq, Bool.false_beq]; done)) | (refine caldo (toCatalog_ok c (by omega)) ?_ ?_ ?_ ?_ (uX ?_); (focus simp only [go_sem, h1, h2, k1, k2, k3, Bool.true_beq, Bool.false_beq]; done); (focus simp only [go_sem, h1, h2, k1, k2, k3, Bool.true_beq, Bool.false_beq]; done); (focus simp only [go_sem, h1, h2, k1, k2, k3, Bool.true_beq, Bool.false_beq]; done); (focus simp only [go_sem, h1, h2, k1, k2, k3, Bool.true_beq, Bool.false_beq]; done)) | (refine calo (toFile_ok f (by omega)) ?_ ?_ ?_ (uX ?_); (focus simp only [go_sem, h1, h2, k1, k2, k3, Bool.true_beq, Bool.false_beq]; done); (focus simp only [go_sem, h1, h2, k1, k2, k3, Bool.true_beq, Bool.false_beq]; done); (focus simp only [go_sem, h1, h2, k1, k2, k3, Bool.true_beq, Bool.false_beq]; done)) | (refine caldo (toFile_ok f (by omega)) ?_ ?_ ?_ ?_ (uX ?_); (focus simp only [go_sem, h1, h2, k1, k2, k3, Bool.true_beq, Bool.false_beq]; done); (focus simp only [go_sem, h1, h2, k1, k2, k3, Bool.true_beq, Bool.false_beq]; done); (focus simp only [go_sem, h1, h2, k1, k2, k3, Bool.true_beq, Bool.false_beq]; done); (focus simp only [go_sem, h1, h2, k1, k2, k3, Bool.true_beq, Bool.false_beq]; done)) | (refine calo (hi) ?_ ?_ ?_ (uX ?_); (focus simp only [go_sem, h1, h2, k1, k2, k3, Bool.true_beq, Bool.false_beq]; done); (focus simp only [go_sem, h1, h2, k1, k2, k3, Bool.true_beq, Bool.false_beq]; done); (focus simp only [go_sem, h1, h2, k1, k2, k3, Bool.true_beq, Bool.false_beq]; done)) | (refine caldo (hi) ?_ ?_ ?_ ?_ (uX ?_); (focus simp only [go_sem, h1, h2, k1, k2, k3, Bool.true_beq, Bool.false_beq]; done); (focus simp only [go_sem, h1, h2, k1, k2, k3, Bool.true_beq, Bool.false_beq]; done); (focus simp only [go_sem, h1, h2, k1, k2, k3, Bool.true_beq, Bool.false_beq]; done); (focus simp only [go_sem, h1, h2, k1, k2, k3, Bool.true_beq, Bool.false_beq]; done)) | (refine calo (eqCatalog_ok X hX) ?_ ?_ ?_ (uX ?_); (focus simp only [go_sem, h1, h2, k1, k2, k3, Bool.true_beq, Bool.false_beq]; done); (focus simp only [go_sem, h1, h2, k1, k2, k3, Bool.true_beq, Bool.false_beq]; done); (focus simp only [go_sem, h1, h2, k1, k2, k3, Bool.true_beq, Bool.false_beq]; done)) | (refine caldo (eqCatalog_ok X hX) ?_ ?_ ?_ ?_ (uX ?_); (focus simp only [go_sem, h1, h2, k1, k2, k3, Bool.true_beq, Bool.false_beq]; done); (focus simp only [go_sem, h1, h2, k1, k2, k3, Bool.true_beq, Bool.false_beq]; done); (focus simp only [go_sem, h1, h2, k1, k2, k3, Bool.true_beq, Bool.false_beq]; done); (focus simp only [go_sem, h1, h2, k1, k2, k3, Bool.true_beq, Bool.false_beq]; done)) | (refine calo (eqDiffS_ok Y (by omega)) ?_ ?_ ?_ (uX ?_); (focus simp only [go_sem, h1, h2, k1, k2, k3, Bool.true_beq, Bool.false_beq]; done); (focus simp only [go_sem, h1, h2, k1, k2, k3, Bool.true_beq, Bool.false_beq]; done); (focus simp only [go_sem, h1, h2, k1, k2, k3, Bool.true_beq, Bool.false_beq]; done)) | (refine caldo (eqDiffS_ok Y (by omega)) ?_ ?_ ?_ ?_ (uX ?_); (focus simp only [go_sem, h1, h2, k1, k2, k3, Bool.true_beq, Bool.false_beq]; done); (focus simp only [go_sem, h1, h2, k1, k2, k3, Bool.true_beq, Bool.false_beq]; done); (focus simp only [go_sem, h1, h2, k1, k2, k3, Bool.true_beq, Bool.false_beq]; done); (focus simp only [go_sem, h1, h2, k1, k2, k3, Bool.true_beq, Bool.false_beq]; done)) | (refine calo (eqCatalog_ok c (by omega)) ?_ ?_ ?_ (uX ?_); (focus simp only [go_sem, h1, h2, k1, k2, k3, Bool.true_beq, Bool.false_beq]; done); (focus simp only [go_sem, h1, h2, k1, k2, k3, Bool.true_beq, Bool.false_beq]; done); (focus simp only [go_sem, h1, h2, k1, k2, k3, Bool.true_beq, Bool.false_beq]; done)) | (refine caldo (eqCatalog_ok c (by omega)) ?_ ?_ ?_ ?_ (uX ?_); (focus simp only [go_sem, h1, h2, k1, k2, k3, Bool.true_beq, Bool.false_beq]; done); (focus simp only [go_sem, h1, h2, k1, k2, k3, Bool.true_beq, Bool.false_beq]; done); (focus simp only [go_sem, h1, h2, k1, k2, k3, Bool.true_beq, Bool.false_beq]; done); (focus simp only [go_sem, h1, h2, k1, k2, k3, Bool.true_beq, Bool.false_beq]; done)) | (refine calo (eqFile_ok f (by omega)) ?_ ?_ ?_ (uX ?_); (focus simp only [go_sem, h1, h2, k1, k2, k3, Bool.true_beq, Bool.false_beq]; done); (focus simp only [go_sem, h1, h2, k1, k2, k3, Bool.true_beq, Bool.false_beq]; done); (focus simp only [go_sem, h1, h2, k1, k2, k3, Bool.true_beq, Bool.false_beq]; done)) | (refine caldo (eqFile_ok f (by omega)) ?_ ?_ ?_ ?_ (uX ?_); (focus simp only [go_sem, h1, h2, k1, k2, k3, Bool.true_beq, Bool.false_beq]; done); (focus simp only [go_sem, h1, h2, k1, k2, k3, Bool.true_beq, Bool.false_beq]; done); (focus simp only [go_sem, h1, h2, k1, k2, k3, Bool.true_beq, Bool.false_beq]; done); (focus simp only [go_sem, h1, h2, k1, k2, k3, Bool.true_beq, Bool.false_beq]; done)) | (refine calm (markCatalog_ok c _ (by omega)) ?_ ?_ (uX ?_); (focus simp only [go_sem]; done); (focus simp only [go_sem, h1, h2, k1, k2, k3, Bool.true_beq, Bool.false_beq]; done)) | (refine calm (markFile_ok f _ (by omega)) ?_ ?_ (uX ?_); (focus simp only [go_sem]; done); (focus simp only [go_sem, h1, h2, k1, k2, k3, Bool.true_beq, Bool.false_beq]; done)) | (refine calm (markCatalog_ok X _ (by omega)) ?_ ?_ (uX ?_); (focus simp only [go_sem]; done); (focus simp only [go_sem, h1, h2, k1, k2, k3, Bool.true_beq, Bool.false_beq]; done)) | (refine calm (markDiffS_ok Y _ (by omega)) ?_ ?_ (uX ?_); (focus simp only [go_sem]; done); (focus simp only [go_sem, h1, h2, k1, k2, k3, Bool.true_beq, Bool.false_beq]; done)) | (refine calo (heldCatalog_ok X 1 (by omega)) ?_ ?_ ?_ (uX ?_); (focus simp only [go_sem, h1, h2, k1, k2, k3, Bool.true_beq, Bool.false_beq]; done); (focus simp only [go_sem, h1, h2, k1, k2, k3, Bool.true_beq, Bool.false_beq]; done); (focus simp only [go_sem, h1, h2, k1, k2, k3, Bool.true_beq, Bool.false_beq]; done)) | (refine caldo (heldCatalog_ok X 1 (by omega)) ?_ ?_ ?_ ?_ (uX ?_); (focus simp only [go_sem, h1, h2, k1, k2, k3, Bool.true_beq, Bool.false_beq]; done); (focus simp only [go_sem, h1, h2, k1, k2, k3, Bool.true_beq, Bool.false_beq]; done); (focus simp only [go_sem, h1, h2, k1, k2, k3, Bool.true_beq, Bool.false_beq]; done); (focus simp only [go_sem, h1, h2, k1, k2, k3, Bool.true_beq, Bool.false_beq]; done)) | (refine calo (heldDiffS_ok Y ((1 : Int) + (csum cnField X.fStore.fSchema : Nat) + (csum cnFile X.fStore.fFiles : Nat) + (csum cnDir X.fDirs : Nat) + (csum cnResult X.fResults : Nat)) (by omega)) ?_ ?_ ?_ (uX ?_); (focus simp only [go_sem, h1, h2, k1, k2, k3, Bool.true_beq, Bool.false_beq]; done); (focus simp only [go_sem, h1, h2, k1, k2, k3, Bool.true_beq, Bool.false_beq]; done); (focus simp only [go_sem, h1, h2, k1, k2, k3, Bool.true_beq, Bool.false_beq]; done)) | (refine caldo (heldDiffS_ok Y ((1 : Int) + (csum cnField X.fStore.fSchema : Nat) + (csum cnFile X.fStore.fFiles : Nat) + (csum cnDir X.fDirs : Nat) + (csum cnResult X.fResults : Nat)) (by omega)) ?_ ?_ ?_ ?_ (uX ?_); (focus simp only [go_sem, h1, h2, k1, k2, k3, Bool.true_beq, Bool.false_beq]; done); (focus simp only [go_sem, h1, h2, k1, k2, k3, Bool.true_beq, Bool.false_beq]; done); (focus simp only [go_sem, h1, h2, k1, k2, k3, Bool.true_beq, Bool.false_beq]; done); (focus simp only [go_sem, h1, h2, k1, k2, k3, Bool.true_beq, Bool.false_beq]; done)) | (refine cC (toCatalogd_ok c (by omega)) ?_ ?_; focus simp only [go_sem, and_self]; done) | (refine cC (toFiled_ok f (by omega)) ?_ ?_; focus simp only [go_sem, and_self]; done) | (refine cC (hid) ?_ ?_; focus simp only [go_sem, and_self]; done) | (refine And.intro ?_ ?_; focus omega))
  exact retK_ret ⟨⟨_, rfl, by simp only [go_sem]⟩, trivial⟩
end Go.Proofs.YtddimbdeggomaaaGreat
end
