/- Joined texts. -/
import Derived.Test.YtddimbdeggomaaaGreatZ15
import Derived.Test.YtddimbdeggomaaaGreatZ11
import Derived.Test.YtddimbdeggomaaaGreatZ08
import Derived.Test.YtddimbdeggomaaaGreatZ12
set_option linter.all false
section
set_option maxRecDepth 100000
set_option maxHeartbeats 4000000
namespace Go.Proofs.YtddimbdeggomaaaGreat
open Go Go.Sx Go.RowKit Go.Proofs
theorem specReev_ok (s : TStore) (d : List TDir) (r : List TResult) (ns : List ByteArray) (hs : wStore s ≤ 4300000) (hd : wDirS d ≤ 4300000) (hr : wResultS r ≤ 4300000) (hns : ns.length ≤ 4300000) : FnC Tryz.prog 18 [gStore s, .o (.d (.sl (d.map encDir))), .o (.d (.sl (r.map encResult))), .o (.d (.sl (ns.map encS)))] (.t [(false, [.d (.sl ((evX s d r ns).1.map encResult))]), (false, [.d (bv (evB s d))])]) := by
 have hd0 : d.length + wsum wDir d ≤ 4300000 := hd
 have hs0 : wFieldS s.fSchema + (s.fFiles.length + wsum wFile s.fFiles) ≤ 4300000 := hs
 refine ent Tryz.func18 rfl Tryz.call18 rfl (fun C => ?_); simp only [go_sem, st0, Tryz.ntmps18]
 cases hb : resB d
 ·have e1 : evX s d r ns = ([], 0) := by simp [evX, hb]
  have e2 : evB s d = false := by simp [evB, hb]
  repeat' (with_reducible first | refine nY ?_ | (refine mX ?_; try simp only [go_sem, hb]) | refine kO ?_ (by decide) | (refine regx (by simp only [bodyX, isStX, Bool.false_eq_true, if_false, if_true]; rfl) (by kernel_rfl) (by kernel_rfl) (by decide) ?_ ?_ ?_; (focus simp only [go_sem]; done); (focus simp only [go_sem]; done)) | refine xE ?_ (by simp only [tailX, isStX, Bool.false_eq_true, if_false, if_true]; rfl) (by simp only [go_sem]; rfl) | refine regd (by kernel_rfl) ?_ | (refine cC (specStrata_ok d hd) ?_ ?_; focus simp only [go_sem, and_self]; done) | (refine And.intro ?_ ?_; focus omega))
  refine retK_sees (Sees.frz 1 rfl) ?_
  simp only [go_sem]
  exact retK_ret ⟨⟨_, rfl, by simp only [go_sem, e1, e2, List.map_nil]; try simp⟩, by simp [notOne]⟩
 cases hst : okStore s
 ·have e1 : evX s d r ns = ([], 0) := by simp [evX, hst]
  have e2 : evB s d = false := by simp [evB, hst]
  repeat' (with_reducible first | refine nY ?_ | (refine mX ?_; try simp only [go_sem, hb, hst]) | refine kO ?_ (by decide) | (refine regx (by simp only [bodyX, isStX, Bool.false_eq_true, if_false, if_true]; rfl) (by kernel_rfl) (by kernel_rfl) (by decide) ?_ ?_ ?_; (focus simp only [go_sem]; done); (focus simp only [go_sem]; done)) | refine xE ?_ (by simp only [tailX, isStX, Bool.false_eq_true, if_false, if_true]; rfl) (by simp only [go_sem]; rfl) | refine regd (by kernel_rfl) ?_ | (refine cC (specStrata_ok d hd) ?_ ?_; focus simp only [go_sem, and_self]; done) | (refine cC (specStore_ok s hs) ?_ ?_; focus simp only [go_sem, and_self]; done) | (refine And.intro ?_ ?_; focus omega))
  refine retK_sees (Sees.frz 1 rfl) ?_
  simp only [go_sem]
  exact retK_ret ⟨⟨_, rfl, by simp only [go_sem, e1, e2, List.map_nil]; try simp⟩, by simp [notOne]⟩
 obtain ⟨hv, hleast⟩ := resB_yes hb
 have hclo := hleast.clo
 have hvq := fun i (hi : i < d.length) => okDirs_at hv i hi
 have h5 := okDirs_len hv
 have h12 := okStore_len hst
 have hLl := hclo.len
 obtain ⟨CC, hCC⟩ : ∃ c, s.fFiles.length + wResultS r = c := ⟨_, rfl⟩
 have hC2 : CC ≤ 4300012 := by omega
 have e1 : evX s d r ns = allE s.fFiles d (resL d) ns CC r (levK d (resL d)) := by simp [evX, hb, hst, hCC]
 have e2 : evB s d = true := by simp [evB, hb, hst]
 repeat' (with_reducible first | refine nY ?_ | (refine mX ?_; try simp only [go_sem, hb, hst]) | refine kO ?_ (by decide) | (refine regx (by simp only [bodyX, isStX, Bool.false_eq_true, if_false, if_true]; rfl) (by kernel_rfl) (by kernel_rfl) (by decide) ?_ ?_ ?_; (focus simp only [go_sem]; done); (focus simp only [go_sem]; done)) | refine xE ?_ (by simp only [tailX, isStX, Bool.false_eq_true, if_false, if_true]; rfl) (by simp only [go_sem]; rfl) | refine regd (by kernel_rfl) ?_ | (refine cC (specStrata_ok d hd) ?_ ?_; focus simp only [go_sem, and_self]; done) | (refine cC (specStore_ok s hs) ?_ ?_; focus simp only [go_sem, and_self]; done) | (refine And.intro ?_ ?_; focus omega))
 refine WP_dim 1 rfl ?_
 simp only [go_sem]
 refine WP_lp (α := Nat) (fun k => [(12, .o (.s 1)), (32, .o .u), (13, oi k)]) (fun k => [(1, .row 125 2 ((startR ns r (d.take k)).map encResult) false)]) (fun k => k ≤ d.length) (fun k => d.length - k) 0 (fun _ => ?_) ?_ ?_ (fun k hk => ?_)
 ·simp only [go_sem]
 ·simp only [go_sem]; simp [startR]
 ·simp
 ·simp only [go_sem]
  repeat' (with_reducible first | refine nY ?_ | (refine mX ?_; try simp only [go_sem]) | refine kO ?_ (by decide) | (refine regx (by simp only [bodyX, isStX, Bool.false_eq_true, if_false, if_true]; rfl) (by kernel_rfl) (by kernel_rfl) (by decide) ?_ ?_ ?_; (focus simp only [go_sem]; done); (focus simp only [go_sem]; done)) | refine xE ?_ (by simp only [tailX, isStX, Bool.false_eq_true, if_false, if_true]; rfl) (by simp only [go_sem]; rfl) | refine regd (by kernel_rfl) ?_ | (refine And.intro ?_ ?_; focus omega))
  refine cnd rfl (fun h => ?_) (fun h => ?_)
  ·simp only [decide_eq_true_eq, Int.ofNat_lt] at h
   have hsl := startR_len ns r d k
   have hl1 : (startR ns r (d.take k)).length + 1 ≤ 140737488355328 := by omega
   have hl2 : ((startR ns r (d.take k)).length + 1) * 40 ≤ 140737488355328 := by omega
   have hsu := startR_take ns r d k h
   cases hn : hasS ns d[k].fName
   ·rw [hn] at hsu
    repeat' (with_reducible first | refine nY ?_ | (refine mX ?_; try simp only [go_sem, h, hn, hl1, hl2]) | refine kO ?_ (by decide) | (refine regx (by simp only [bodyX, isStX, Bool.false_eq_true, if_false, if_true]; rfl) (by kernel_rfl) (by kernel_rfl) (by decide) ?_ ?_ ?_; (focus simp only [go_sem]; done); (focus simp only [go_sem]; done)) | refine xE ?_ (by simp only [tailX, isStX, Bool.false_eq_true, if_false, if_true]; rfl) (by simp only [go_sem]; rfl) | refine regd (by kernel_rfl) ?_ | (refine cC (l12Has_ok ns d[k].fName hns) ?_ ?_; focus simp only [go_sem, and_self]; done) | (refine cC (specResIDsd_ok r d[k].fName (by omega)) ?_ ?_; focus simp only [go_sem, and_self]; done) | (refine And.intro ?_ ?_; focus omega))
    refine L_next (k + 1) ?_ ?_ ?_
    ·simp only [go_sem, hsu, List.map_append]; simp [encResult]
    ·omega
    ·omega
   ·rw [hn] at hsu
    repeat' (with_reducible first | refine nY ?_ | (refine mX ?_; try simp only [go_sem, h, hn, hl1, hl2]) | refine kO ?_ (by decide) | (refine regx (by simp only [bodyX, isStX, Bool.false_eq_true, if_false, if_true]; rfl) (by kernel_rfl) (by kernel_rfl) (by decide) ?_ ?_ ?_; (focus simp only [go_sem]; done); (focus simp only [go_sem]; done)) | refine xE ?_ (by simp only [tailX, isStX, Bool.false_eq_true, if_false, if_true]; rfl) (by simp only [go_sem]; rfl) | refine regd (by kernel_rfl) ?_ | (refine cC (l12Has_ok ns d[k].fName hns) ?_ ?_; focus simp only [go_sem, and_self]; done) | (refine cC (specResIDsd_ok r d[k].fName (by omega)) ?_ ?_; focus simp only [go_sem, and_self]; done) | (refine And.intro ?_ ?_; focus omega))
    refine L_next (k + 1) ?_ ?_ ?_
    ·simp only [go_sem, hsu, List.map_append]; simp [encResult]
    ·omega
    ·omega
  ·simp only [decide_eq_false_iff_not] at h
   have e : k = d.length := by omega
   subst e
   rw [List.take_length]
   generalize hL : resL d = L at *
   repeat' (with_reducible first | refine nY ?_ | (refine mX ?_; try simp only [go_sem]) | refine kO ?_ (by decide) | (refine regx (by simp only [bodyX, isStX, Bool.false_eq_true, if_false, if_true]; rfl) (by kernel_rfl) (by kernel_rfl) (by decide) ?_ ?_ ?_; (focus simp only [go_sem]; done); (focus simp only [go_sem]; done)) | refine xE ?_ (by simp only [tailX, isStX, Bool.false_eq_true, if_false, if_true]; rfl) (by simp only [go_sem]; rfl) | refine regd (by kernel_rfl) ?_ | (refine And.intro ?_ ?_; focus omega))
   refine WP_lp (α := Nat) (fun k => [(15, oi k)]) (fun k => [(1, .row 125 2 ((allE s.fFiles d L ns CC r k).1.map encResult) false)]) (fun k => k ≤ levK d L) (fun k => levK d L - k) 0 (fun _ => ?_) ?_ ?_ (fun k hk => ?_)
   ·simp only [go_sem]
   ·simp only [go_sem]; simp [allE]
   ·simp
   ·simp only [go_sem]
    repeat' (with_reducible first | refine nY ?_ | (refine mX ?_; try simp only [go_sem, hL]) | refine kO ?_ (by decide) | (refine regx (by simp only [bodyX, isStX, Bool.false_eq_true, if_false, if_true]; rfl) (by kernel_rfl) (by kernel_rfl) (by decide) ?_ ?_ ?_; (focus simp only [go_sem]; done); (focus simp only [go_sem]; done)) | refine xE ?_ (by simp only [tailX, isStX, Bool.false_eq_true, if_false, if_true]; rfl) (by simp only [go_sem]; rfl) | refine regd (by kernel_rfl) ?_ | (refine cC (specTop_ok d hd (by rw [hL]; omega)) ?_ ?_; focus simp only [go_sem, and_self]; done) | (refine And.intro ?_ ?_; focus omega))
    refine cnd rfl (fun hlev => ?_) (fun hlev => ?_)
    ·simp only [decide_eq_true_eq] at hlev
     have hkK := (levK_iff d L k).1 hlev
     have hev := allE_ev (fs := s.fFiles) (ns := ns) (r := r) hvq hclo k
     rw [hCC] at hev
     have htop := top_le hleast
     have hcnt := allE_cnt s.fFiles d L ns CC r k
     have hnm : d.length * CC ≤ 5 * 4300012 := Nat.mul_le_mul h5 hC2
     have hcnt2 : k * (d.length * CC + 1) ≤ 5 * 21500061 := Nat.mul_le_mul (by omega) (by omega)
     have hround : Round s.fFiles d L ns CC k (allE s.fFiles d L ns CC r (k + 1)) ((allE s.fFiles d L ns CC r k).1, (allE s.fFiles d L ns CC r k).2, true) := Round.start hev
     generalize hT : allE s.fFiles d L ns CC r (k + 1) = T at *
     generalize allE s.fFiles d L ns CC r k = X at *
     repeat' (with_reducible first | refine nY ?_ | (refine mX ?_; try simp only [go_sem]) | refine kO ?_ (by decide) | (refine regx (by simp only [bodyX, isStX, Bool.false_eq_true, if_false, if_true]; rfl) (by kernel_rfl) (by kernel_rfl) (by decide) ?_ ?_ ?_; (focus simp only [go_sem]; done); (focus simp only [go_sem]; done)) | refine xE ?_ (by simp only [tailX, isStX, Bool.false_eq_true, if_false, if_true]; rfl) (by simp only [go_sem]; rfl) | refine regd (by kernel_rfl) ?_ | (refine And.intro ?_ ?_; focus omega))
     refine WP_lp (α := List TResult × Nat × Bool) (fun x => [(16, ob x.2.2)]) (fun x => [(1, .row 125 2 (x.1.map encResult) false)]) (fun x => Round s.fFiles d L ns CC k T (x.1, x.2.1, x.2.2) ∧ x.2.1 ≤ X.2 + totR x.1 + (if x.2.2 then 0 else 1)) (fun x => if x.2.2 then d.length * CC + 1 - totR x.1 else 0) (X.1, X.2, true) (fun _ => ?_) ?_ ?_ (fun x hx => ?_)
     ·simp only [go_sem]
     ·simp only [go_sem]; simp
     ·exact ⟨hround, by simp⟩
     ·obtain ⟨R, c, b⟩ := x
      obtain ⟨hx, hcb⟩ := hx
      simp only at hcb
      simp only [go_sem]
      repeat' (with_reducible first | refine nY ?_ | (refine mX ?_; try simp only [go_sem]) | refine kO ?_ (by decide) | (refine regx (by simp only [bodyX, isStX, Bool.false_eq_true, if_false, if_true]; rfl) (by kernel_rfl) (by kernel_rfl) (by decide) ?_ ?_ ?_; (focus simp only [go_sem]; done); (focus simp only [go_sem]; done)) | refine xE ?_ (by simp only [tailX, isStX, Bool.false_eq_true, if_false, if_true]; rfl) (by simp only [go_sem]; rfl) | refine regd (by kernel_rfl) ?_ | (refine And.intro ?_ ?_; focus omega))
      refine cnd rfl (fun hbt => ?_) (fun hbt => ?_)
      ·subst hbt
       have hRe : Ev s.fFiles d L ns CC k R := hx.ev
       have hRt := hRe.tot
       simp only [if_true, Nat.add_zero] at hcb
       have hcI : c ≤ 1000000000 := by omega
       have hpass := hx.pass hvq hclo
       repeat' (with_reducible first | refine nY ?_ | (refine mX ?_; try simp only [go_sem]) | refine kO ?_ (by decide) | (refine regx (by simp only [bodyX, isStX, Bool.false_eq_true, if_false, if_true]; rfl) (by kernel_rfl) (by kernel_rfl) (by decide) ?_ ?_ ?_; (focus simp only [go_sem]; done); (focus simp only [go_sem]; done)) | refine xE ?_ (by simp only [tailX, isStX, Bool.false_eq_true, if_false, if_true]; rfl) (by simp only [go_sem]; rfl) | refine regd (by kernel_rfl) ?_ | (refine And.intro ?_ ?_; focus omega))
       refine WP_lp (α := Nat) (fun i => [(16, ob (chB s.fFiles d L ns k i R)), (17, oi i)]) (fun i => [(1, .row 125 2 ((passT s.fFiles d L ns k i R).map encResult) false)]) (fun i => i ≤ d.length) (fun i => d.length - i) 0 (fun _ => ?_) ?_ ?_ (fun i hi => ?_)
       ·simp only [go_sem]
       ·simp only [go_sem]; simp [chB, passT]
       ·simp
       ·simp only [go_sem]
        repeat' (with_reducible first | refine nY ?_ | (refine mX ?_; try simp only [go_sem]) | refine kO ?_ (by decide) | (refine regx (by simp only [bodyX, isStX, Bool.false_eq_true, if_false, if_true]; rfl) (by kernel_rfl) (by kernel_rfl) (by decide) ?_ ?_ ?_; (focus simp only [go_sem]; done); (focus simp only [go_sem]; done)) | refine xE ?_ (by simp only [tailX, isStX, Bool.false_eq_true, if_false, if_true]; rfl) (by simp only [go_sem]; rfl) | refine regd (by kernel_rfl) ?_ | (refine And.intro ?_ ?_; focus omega))
        refine cnd rfl (fun h => ?_) (fun h => ?_)
        ·simp only [decide_eq_true_eq, Int.ofNat_lt] at h
         have hEv := passT_ev hvq hclo i R (by omega) hRe
         have hcs := passT_cases hvq hclo i R (by omega) hRe
         have hsu := passT_succ s.fFiles d L ns k i R h
         have hchk : passT s.fFiles d L ns k (i + 1) R = passT s.fFiles d L ns k i R → chB s.fFiles d L ns k (i + 1) R = chB s.fFiles d L ns k i R := chB_keep
         have hchn : totR R < totR (passT s.fFiles d L ns k (i + 1) R) → chB s.fFiles d L ns k (i + 1) R = true := fun hx => by unfold chB; exact decide_eq_true hx
         have hw := hEv.w hv hC2
         obtain ⟨g1, g2⟩ := hEv.get i h
         have hPl := hEv.len
         have hbd := hEv.bd i
         have hwd := wsum_get wDir d h
         have hwq : wNodeS d[i].fQuery ≤ wDir d[i] := by unfold wDir; omega
         have hgrow := fun hin hik hne => hEv.grow h hin hik hne
         have hsame := fun he => newR_same hEv h he
         generalize passT s.fFiles d L ns k i R = P at *
         generalize hP2 : passT s.fFiles d L ns k (i + 1) R = P2 at *
         have hiP : i < P.length := by omega
         have hiL : i < L.length := by omega
         have hg := lv_get L i hiL
         have hsl := selF_len s.fFiles d[i].fQuery P
         by_cases hik : lv L i = k
         ·have hkI : ((lv L i : Nat) : Int) = ((k : Nat) : Int) := by omega
          cases hn : hasS ns d[i].fName
          ·rw [if_neg (fun h => by rw [hn] at h; cases h.2)] at hsu
           repeat' (with_reducible first | refine nY ?_ | (refine mX ?_; try simp only [go_sem, h, hiP, hiL, hg, hkI, hn, decide_true, decide_false]) | refine kO ?_ (by decide) | (refine regx (by simp only [bodyX, isStX, Bool.false_eq_true, if_false, if_true]; rfl) (by kernel_rfl) (by kernel_rfl) (by decide) ?_ ?_ ?_; (focus simp only [go_sem]; done); (focus simp only [go_sem]; done)) | refine xE ?_ (by simp only [tailX, isStX, Bool.false_eq_true, if_false, if_true]; rfl) (by simp only [go_sem]; rfl) | refine regd (by kernel_rfl) ?_ | (refine cC (l12Has_ok ns d[i].fName hns) ?_ ?_; focus simp only [go_sem, and_self]; done) | (refine And.intro ?_ ?_; focus omega))
           refine L_next (i + 1) ?_ ?_ ?_
           ·simp only [go_sem, hP2, hchk hsu, hsu]; simp
           ·omega
           ·omega
          ·rw [if_pos ⟨hik, hn⟩] at hsu
           by_cases he : selF s.fFiles d[i].fQuery P = idsAt P i
           ·have hE : eqL beqInt (selF s.fFiles d[i].fQuery P) (idsAt P i) = true := by rw [eqL_int]; exact decide_eq_true he
            have hPP : P2 = P := by rw [hsu, hsame he]
            repeat' (with_reducible first | refine nY ?_ | (refine mX ?_; try simp only [go_sem, h, hiP, hiL, hg, hkI, g1, g2, hE, hn, decide_true, decide_false]) | refine kO ?_ (by decide) | (refine rS [7] [98] (by simp only [go_sem]; rfl) (by simp only [go_sem]; rfl) (by decide +kernel) ?_ ?_; (focus simp only [go_sem]; done)) | refine st_cons (aX ?_) (uX ?_) | refine st_nil (aX ?_) ?_ | (refine uA ?_; simp only [go_sem, h, hiP, hiL, hg, hkI, g1, g2, hE, hn, decide_true, decide_false]; (repeat' first | omega | refine And.intro ?_ ?_); done) | (refine regx (by simp only [bodyX, isStX, Bool.false_eq_true, if_false, if_true]; rfl) (by kernel_rfl) (by kernel_rfl) (by decide) ?_ ?_ ?_; (focus simp only [go_sem]; done); (focus simp only [go_sem]; done)) | refine xE ?_ (by simp only [tailX, isStX, Bool.false_eq_true, if_false, if_true]; rfl) (by simp only [go_sem]; rfl) | refine regd (by kernel_rfl) ?_ | (refine cC (l12Has_ok ns d[i].fName hns) ?_ ?_; focus simp only [go_sem, and_self]; done) | (refine calr (sel_spec s d[i].fQuery P hs (by omega) hw) ?_ ?_ ?_ (uX ?_); (focus simp only [go_sem, h, hiP, hiL, hg, hkI, g1, g2, hE, hn, decide_true, decide_false]; done); (focus simp only [go_sem, h, hiP, hiL, hg, hkI, g1, g2, hE, hn, decide_true, decide_false]; done); (focus simp only [go_sem, h, hiP, hiL, hg, hkI, g1, g2, hE, hn, decide_true, decide_false]; done)) | (refine cGr (sel_spec s d[i].fQuery P hs (by omega) hw) ?_ ?_ ?_ (uX ?_); (focus simp only [go_sem, h, hiP, hiL, hg, hkI, g1, g2, hE, hn, decide_true, decide_false]; done); (focus simp only [go_sem, h, hiP, hiL, hg, hkI, g1, g2, hE, hn, decide_true, decide_false]; done); (focus simp only [go_sem, h, hiP, hiL, hg, hkI, g1, g2, hE, hn, decide_true, decide_false]; done)) | (refine cale (specInts_ok (selF s.fFiles d[i].fQuery P) (idsAt P i) (by omega)) ?_ ?_ ?_ (uX ?_); (focus simp only [go_sem, h, hiP, hiL, hg, hkI, g1, g2, hE, hn, decide_true, decide_false]; done); (focus simp only [go_sem, h, hiP, hiL, hg, hkI, g1, g2, hE, hn, decide_true, decide_false]; done); (focus simp only [go_sem, h, hiP, hiL, hg, hkI, g1, g2, hE, hn, decide_true, decide_false]; done)) | (refine And.intro ?_ ?_; focus omega))
            refine L_next (i + 1) ?_ ?_ ?_
            ·simp only [go_sem, hP2, hchk hPP, hPP]; simp
            ·omega
            ·omega
           ·have hE : eqL beqInt (selF s.fFiles d[i].fQuery P) (idsAt P i) = false := by rw [eqL_int]; exact decide_eq_false he
            have hlt := hgrow hn hik he
            have hch2 : chB s.fFiles d L ns k (i + 1) R = true := hchn (by
             rw [hsu]
             rcases hcs with e | e
             ·rw [← e]; exact hlt
             ·omega)
            repeat' (with_reducible first | refine nY ?_ | (refine mX ?_; try simp only [go_sem, h, hiP, hiL, hg, hkI, g1, g2, hE, hn, decide_true, decide_false]) | refine kO ?_ (by decide) | (refine rS [7] [98] (by simp only [go_sem]; rfl) (by simp only [go_sem]; rfl) (by decide +kernel) ?_ ?_; (focus simp only [go_sem]; done)) | refine st_cons (aX ?_) (uX ?_) | refine st_nil (aX ?_) ?_ | (refine uA ?_; simp only [go_sem, h, hiP, hiL, hg, hkI, g1, g2, hE, hn, decide_true, decide_false]; (repeat' first | omega | refine And.intro ?_ ?_); done) | (refine regx (by simp only [bodyX, isStX, Bool.false_eq_true, if_false, if_true]; rfl) (by kernel_rfl) (by kernel_rfl) (by decide) ?_ ?_ ?_; (focus simp only [go_sem]; done); (focus simp only [go_sem]; done)) | refine xE ?_ (by simp only [tailX, isStX, Bool.false_eq_true, if_false, if_true]; rfl) (by simp only [go_sem]; rfl) | refine regd (by kernel_rfl) ?_ | (refine cC (l12Has_ok ns d[i].fName hns) ?_ ?_; focus simp only [go_sem, and_self]; done) | (refine calr (sel_spec s d[i].fQuery P hs (by omega) hw) ?_ ?_ ?_ (uX ?_); (focus simp only [go_sem, h, hiP, hiL, hg, hkI, g1, g2, hE, hn, decide_true, decide_false]; done); (focus simp only [go_sem, h, hiP, hiL, hg, hkI, g1, g2, hE, hn, decide_true, decide_false]; done); (focus simp only [go_sem, h, hiP, hiL, hg, hkI, g1, g2, hE, hn, decide_true, decide_false]; done)) | (refine cGr (sel_spec s d[i].fQuery P hs (by omega) hw) ?_ ?_ ?_ (uX ?_); (focus simp only [go_sem, h, hiP, hiL, hg, hkI, g1, g2, hE, hn, decide_true, decide_false]; done); (focus simp only [go_sem, h, hiP, hiL, hg, hkI, g1, g2, hE, hn, decide_true, decide_false]; done); (focus simp only [go_sem, h, hiP, hiL, hg, hkI, g1, g2, hE, hn, decide_true, decide_false]; done)) | (refine cale (specInts_ok (selF s.fFiles d[i].fQuery P) (idsAt P i) (by omega)) ?_ ?_ ?_ (uX ?_); (focus simp only [go_sem, h, hiP, hiL, hg, hkI, g1, g2, hE, hn, decide_true, decide_false]; done); (focus simp only [go_sem, h, hiP, hiL, hg, hkI, g1, g2, hE, hn, decide_true, decide_false]; done); (focus simp only [go_sem, h, hiP, hiL, hg, hkI, g1, g2, hE, hn, decide_true, decide_false]; done)) | (refine And.intro ?_ ?_; focus omega))
            refine L_next (i + 1) ?_ ?_ ?_
            ·simp only [go_sem, hP2, hch2, hsu, newR, ← setR1]; simp
            ·omega
            ·omega
         ·rw [if_neg (fun h => hik h.1)] at hsu
          have hkI : ¬ ((lv L i : Nat) : Int) = ((k : Nat) : Int) := by omega
          repeat' (with_reducible first | refine nY ?_ | (refine mX ?_; try simp only [go_sem, h, hiP, hiL, hg, hkI, decide_true, decide_false]) | refine kO ?_ (by decide) | (refine regx (by simp only [bodyX, isStX, Bool.false_eq_true, if_false, if_true]; rfl) (by kernel_rfl) (by kernel_rfl) (by decide) ?_ ?_ ?_; (focus simp only [go_sem]; done); (focus simp only [go_sem]; done)) | refine xE ?_ (by simp only [tailX, isStX, Bool.false_eq_true, if_false, if_true]; rfl) (by simp only [go_sem]; rfl) | refine regd (by kernel_rfl) ?_ | (refine And.intro ?_ ?_; focus omega))
          refine L_next (i + 1) ?_ ?_ ?_
          ·simp only [go_sem, hP2, hchk hsu, hsu]; simp
          ·omega
          ·omega
        ·simp only [decide_eq_false_iff_not] at h
         have e : i = d.length := by omega
         subst e
         have hPe := passT_ev hvq hclo d.length R (Nat.le_refl _) hRe
         have hPt := hPe.tot
         repeat' (with_reducible first | refine nY ?_ | (refine mX ?_; try simp only [go_sem]) | refine kO ?_ (by decide) | (refine regx (by simp only [bodyX, isStX, Bool.false_eq_true, if_false, if_true]; rfl) (by kernel_rfl) (by kernel_rfl) (by decide) ?_ ?_ ?_; (focus simp only [go_sem]; done); (focus simp only [go_sem]; done)) | refine xE ?_ (by simp only [tailX, isStX, Bool.false_eq_true, if_false, if_true]; rfl) (by simp only [go_sem]; rfl) | refine regd (by kernel_rfl) ?_ | (refine And.intro ?_ ?_; focus omega))
         refine L_next (passT s.fFiles d L ns k d.length R, c + 1, chB s.fFiles d L ns k d.length R) ?_ ?_ ?_
         ·simp only [go_sem]; simp
         ·refine ⟨hpass, ?_⟩
          simp only
          have hpc := passT_cases hvq hclo d.length R (Nat.le_refl _) hRe
          cases hcb2 : chB s.fFiles d L ns k d.length R with
          | false =>
           have h9 : totR R ≤ totR (passT s.fFiles d L ns k d.length R) := by
            rcases hpc with e | e
            ·rw [e]; exact Nat.le_refl _
            ·omega
           simp only [Bool.false_eq_true, if_false]; omega
          | true =>
           have := of_decide_eq_true hcb2
           simp only [if_true]; omega
         ·simp only [if_true]
          cases hcb3 : chB s.fFiles d L ns k d.length R with
          | false => simp only [Bool.false_eq_true, if_false]; omega
          | true =>
           have := of_decide_eq_true hcb3
           simp only [if_true]; omega
      ·subst hbt
       have hTe := hx.fin rfl
       simp only at hTe
       repeat' (with_reducible first | refine nY ?_ | (refine mX ?_; try simp only [go_sem]) | refine kO ?_ (by decide) | (refine regx (by simp only [bodyX, isStX, Bool.false_eq_true, if_false, if_true]; rfl) (by kernel_rfl) (by kernel_rfl) (by decide) ?_ ?_ ?_; (focus simp only [go_sem]; done); (focus simp only [go_sem]; done)) | refine xE ?_ (by simp only [tailX, isStX, Bool.false_eq_true, if_false, if_true]; rfl) (by simp only [go_sem]; rfl) | refine regd (by kernel_rfl) ?_ | (refine And.intro ?_ ?_; focus omega))
       refine L_next (k + 1) ?_ ?_ ?_
       ·simp only [go_sem, hT, hTe]; simp
       ·omega
       ·omega
    ·simp only [decide_eq_false_iff_not] at hlev
     have hkK : ¬ k < levK d L := fun h => hlev ((levK_iff d L k).2 h)
     have e : k = levK d L := by omega
     subst e
     repeat' (with_reducible first | refine nY ?_ | (refine mX ?_; try simp only [go_sem]) | refine kO ?_ (by decide) | (refine regx (by simp only [bodyX, isStX, Bool.false_eq_true, if_false, if_true]; rfl) (by kernel_rfl) (by kernel_rfl) (by decide) ?_ ?_ ?_; (focus simp only [go_sem]; done); (focus simp only [go_sem]; done)) | refine xE ?_ (by simp only [tailX, isStX, Bool.false_eq_true, if_false, if_true]; rfl) (by simp only [go_sem]; rfl) | refine regd (by kernel_rfl) ?_ | (refine And.intro ?_ ?_; focus omega))
     refine retK_sees (Sees.frz 1 rfl) ?_
     simp only [go_sem]
     exact retK_ret ⟨⟨_, rfl, by simp only [go_sem, e1, e2]; try simp⟩, by simp [notOne]⟩
end Go.Proofs.YtddimbdeggomaaaGreat
end
section
set_option maxRecDepth 100000
set_option maxHeartbeats 4000000
namespace Go.Proofs.YtddimbdeggomaaaGreat
open Go Go.Sx Go.RowKit Go.Proofs
theorem specEv_ok (s : TStore) (d : List TDir) (hs : wStore s ≤ 4300000) (hd : wDirS d ≤ 4300000) : FnC Tryz.prog 171 [gStore s, .o (.d (.sl (d.map encDir)))] (.t [(false, [.w 125 2 ((evX s d [] (dirNs d)).1.map encResult)]), (false, [.d (iv ((evX s d [] (dirNs d)).2 : Nat))]), (false, [.d (bv (evB s d))])]) := by
 have hd0 : d.length + wsum wDir d ≤ 4300000 := hd
 have hs0 : wFieldS s.fSchema + (s.fFiles.length + wsum wFile s.fFiles) ≤ 4300000 := hs
 refine ent Tryz.func171 rfl Tryz.call171 rfl (fun C => ?_); simp only [go_sem, st0, Tryz.ntmps171]
 have hr : wResultS [] ≤ 4300000 := by simp [wResultS, wsum]
 generalize hrr : ([] : List TResult) = r at *
 have hns : (dirNs d).length ≤ 4300000 := by rw [dirNs_len]; omega
 have hhas : ∀ i, (hi : i < d.length) → hasS (dirNs d) d[i].fName = true := has_dir d
 generalize dirNs d = ns at *
 cases hb : resB d
 ·have e1 : evX s d r ns = ([], 0) := by simp [evX, hb]
  have e2 : evB s d = false := by simp [evB, hb]
  have q0 := @hb; refine w1_1 (specStrata_ok d hd) ?_
  exact retK_ret ⟨⟨_, rfl, by simp only [go_sem, e1, e2, List.map_nil]; simp⟩, by simp [notOne]⟩
 cases hst : okStore s
 ·have e1 : evX s d r ns = ([], 0) := by simp [evX, hst]
  have e2 : evB s d = false := by simp [evB, hst]
  have q0 := @hb; have q1 := @hst; refine w2_2 (specStrata_ok d hd) (specStore_ok s hs) ?_
  exact retK_ret ⟨⟨_, rfl, by simp only [go_sem, e1, e2, List.map_nil]; simp⟩, by simp [notOne]⟩
 obtain ⟨hv, hleast⟩ := resB_yes hb
 have hclo := hleast.clo
 have hvq := fun i (hi : i < d.length) => okDirs_at hv i hi
 have h5 := okDirs_len hv
 have h12 := okStore_len hst
 have hLl := hclo.len
 obtain ⟨CC, hCC⟩ : ∃ c, s.fFiles.length + wResultS r = c := ⟨_, rfl⟩
 have hC2 : CC ≤ 4300012 := by omega
 have e1 : evX s d r ns = allE s.fFiles d (resL d) ns CC r (levK d (resL d)) := by simp [evX, hb, hst, hCC]
 have e2 : evB s d = true := by simp [evB, hb, hst]
 have q0 := @hb; have q1 := @hst; refine w2_2 (specStrata_ok d hd) (specStore_ok s hs) ?_
 refine WP_lp (α := Nat) (fun k => [(9, .o (.s 1)), (29, .o .u), (10, oi k)]) (fun k => [(1, .row 125 2 ((startR ns r (d.take k)).map encResult) true)]) (fun k => k ≤ d.length) (fun k => d.length - k) 0 (fun _ => ?_) ?_ ?_ (fun k hk => ?_)
 ·simp only [go_sem]
 ·simp only [go_sem]; simp [startR]
 ·simp
 ·simp only [go_sem]
  refine w0_0 ?_
  refine cnd rfl (fun h => ?_) (fun h => ?_)
  ·simp only [decide_eq_true_eq, Int.ofNat_lt] at h
   have hsl := startR_len ns r d k
   have hl1 : (startR ns r (d.take k)).length + 1 ≤ 140737488355328 := by omega
   have hl2 : ((startR ns r (d.take k)).length + 1) * 40 ≤ 140737488355328 := by omega
   have hsu := startR_take ns r d k h
   rw [hhas k h] at hsu
   have q0 := @h; have q1 := @hl1; have q2 := @hl2; refine w3_0 ?_
   refine L_next (k + 1) ?_ ?_ ?_
   ·simp only [go_sem, hsu, List.map_append]; simp [encResult]
   ·omega
   ·omega
  ·simp only [decide_eq_false_iff_not] at h
   have e : k = d.length := by omega
   subst e
   rw [List.take_length]
   generalize hL : resL d = L at *
   refine w0_0 ?_
   refine WP_lp (α := Nat) (fun k => [(11, oi ((allE s.fFiles d L ns CC r k).2 : Nat)), (12, oi k)]) (fun k => [(1, .row 125 2 ((allE s.fFiles d L ns CC r k).1.map encResult) true)]) (fun k => k ≤ levK d L) (fun k => levK d L - k) 0 (fun _ => ?_) ?_ ?_ (fun k hk => ?_)
   ·simp only [go_sem]
   ·simp only [go_sem]; simp [allE]
   ·simp
   ·simp only [go_sem]
    have q0 := @hL; refine w1_1 (specTop_ok d hd (by rw [hL]; omega)) ?_
    refine cnd rfl (fun hlev => ?_) (fun hlev => ?_)
    ·simp only [decide_eq_true_eq] at hlev
     have hkK := (levK_iff d L k).1 hlev
     have hev := allE_ev (fs := s.fFiles) (ns := ns) (r := r) hvq hclo k
     rw [hCC] at hev
     have htop := top_le hleast
     have hcnt := allE_cnt s.fFiles d L ns CC r k
     have hnm : d.length * CC ≤ 5 * 4300012 := Nat.mul_le_mul h5 hC2
     have hcnt2 : k * (d.length * CC + 1) ≤ 5 * 21500061 := Nat.mul_le_mul (by omega) (by omega)
     have hround : Round s.fFiles d L ns CC k (allE s.fFiles d L ns CC r (k + 1)) ((allE s.fFiles d L ns CC r k).1, (allE s.fFiles d L ns CC r k).2, true) := Round.start hev
     generalize hT : allE s.fFiles d L ns CC r (k + 1) = T at *
     generalize allE s.fFiles d L ns CC r k = X at *
     refine w0_0 ?_
     refine WP_lp (α := List TResult × Nat × Bool) (fun x => [(11, oi (x.2.1 : Nat)), (13, ob x.2.2)]) (fun x => [(1, .row 125 2 (x.1.map encResult) true)]) (fun x => Round s.fFiles d L ns CC k T (x.1, x.2.1, x.2.2) ∧ x.2.1 ≤ X.2 + totR x.1 + (if x.2.2 then 0 else 1)) (fun x => if x.2.2 then d.length * CC + 1 - totR x.1 else 0) (X.1, X.2, true) (fun _ => ?_) ?_ ?_ (fun x hx => ?_)
     ·simp only [go_sem]
     ·simp only [go_sem]; simp
     ·exact ⟨hround, by simp⟩
     ·obtain ⟨R, c, b⟩ := x
      obtain ⟨hx, hcb⟩ := hx
      simp only at hcb
      simp only [go_sem]
      refine w0_0 ?_
      refine cnd rfl (fun hbt => ?_) (fun hbt => ?_)
      ·subst hbt
       have hRe : Ev s.fFiles d L ns CC k R := hx.ev
       have hRt := hRe.tot
       simp only [if_true, Nat.add_zero] at hcb
       have hcI : c ≤ 1000000000 := by omega
       have hpass := hx.pass hvq hclo
       refine w0_0 ?_
       refine WP_lp (α := Nat) (fun i => [(13, ob (chB s.fFiles d L ns k i R)), (14, oi i)]) (fun i => [(1, .row 125 2 ((passT s.fFiles d L ns k i R).map encResult) true)]) (fun i => i ≤ d.length) (fun i => d.length - i) 0 (fun _ => ?_) ?_ ?_ (fun i hi => ?_)
       ·simp only [go_sem]
       ·simp only [go_sem]; simp [chB, passT]
       ·simp
       ·simp only [go_sem]
        refine w0_0 ?_
        refine cnd rfl (fun h => ?_) (fun h => ?_)
        ·simp only [decide_eq_true_eq, Int.ofNat_lt] at h
         have hEv := passT_ev hvq hclo i R (by omega) hRe
         have hcs := passT_cases hvq hclo i R (by omega) hRe
         have hsu := passT_succ s.fFiles d L ns k i R h
         have hchk : passT s.fFiles d L ns k (i + 1) R = passT s.fFiles d L ns k i R → chB s.fFiles d L ns k (i + 1) R = chB s.fFiles d L ns k i R := chB_keep
         have hchn : totR R < totR (passT s.fFiles d L ns k (i + 1) R) → chB s.fFiles d L ns k (i + 1) R = true := fun hx => by unfold chB; exact decide_eq_true hx
         have hw := hEv.w hv hC2
         obtain ⟨g1, g2⟩ := hEv.get i h
         have hPl := hEv.len
         have hbd := hEv.bd i
         have hwd := wsum_get wDir d h
         have hwq : wNodeS d[i].fQuery ≤ wDir d[i] := by unfold wDir; omega
         have hgrow := fun hin hik hne => hEv.grow h hin hik hne
         have hsame := fun he => newR_same hEv h he
         generalize passT s.fFiles d L ns k i R = P at *
         generalize hP2 : passT s.fFiles d L ns k (i + 1) R = P2 at *
         have hiP : i < P.length := by omega
         have hiL : i < L.length := by omega
         have hg := lv_get L i hiL
         have hsl := selF_len s.fFiles d[i].fQuery P
         by_cases hik : lv L i = k
         ·have hkI : ((lv L i : Nat) : Int) = ((k : Nat) : Int) := by omega
          have hn := hhas i h
          ·rw [if_pos ⟨hik, hn⟩] at hsu
           by_cases he : selF s.fFiles d[i].fQuery P = idsAt P i
           ·have hE : eqL beqInt (selF s.fFiles d[i].fQuery P) (idsAt P i) = true := by rw [eqL_int]; exact decide_eq_true he
            have hPP : P2 = P := by rw [hsu, hsame he]
            repeat' (with_reducible first | refine nY ?_ | (refine mX ?_; try simp only [go_sem, h, hiP, hiL, hg, hkI, g1, g2, hE, hn, decide_true, decide_false]) | refine kO ?_ (by decide) | (refine rS [7] [74] (by simp only [go_sem]; rfl) (by simp only [go_sem]; rfl) (by decide +kernel) ?_ ?_; (focus simp only [go_sem]; done)) | refine st_cons (aX ?_) (uX ?_) | refine st_nil (aX ?_) ?_ | (refine uA ?_; simp only [go_sem, h, hiP, hiL, hg, hkI, g1, g2, hE, hn, decide_true, decide_false]; (repeat' first | omega | refine And.intro ?_ ?_); done) | refine regd (by kernel_rfl) ?_ | (refine cC (containsS_ok ns d[i].fName hns) ?_ ?_; focus simp only [go_sem, and_self]; done) | (refine calr (sel_spec s d[i].fQuery P hs (by omega) hw) ?_ ?_ ?_ (uX ?_); (focus simp only [go_sem, h, hiP, hiL, hg, hkI, g1, g2, hE, hn, decide_true, decide_false]; done); (focus simp only [go_sem, h, hiP, hiL, hg, hkI, g1, g2, hE, hn, decide_true, decide_false]; done); (focus simp only [go_sem, h, hiP, hiL, hg, hkI, g1, g2, hE, hn, decide_true, decide_false]; done)) | (refine cGr (sel_spec s d[i].fQuery P hs (by omega) hw) ?_ ?_ ?_ (uX ?_); (focus simp only [go_sem, h, hiP, hiL, hg, hkI, g1, g2, hE, hn, decide_true, decide_false]; done); (focus simp only [go_sem, h, hiP, hiL, hg, hkI, g1, g2, hE, hn, decide_true, decide_false]; done); (focus simp only [go_sem, h, hiP, hiL, hg, hkI, g1, g2, hE, hn, decide_true, decide_false]; done)) | (refine cale (specInts_ok (selF s.fFiles d[i].fQuery P) (idsAt P i) (by omega)) ?_ ?_ ?_ (uX ?_); (focus simp only [go_sem, h, hiP, hiL, hg, hkI, g1, g2, hE, hn, decide_true, decide_false]; done); (focus simp only [go_sem, h, hiP, hiL, hg, hkI, g1, g2, hE, hn, decide_true, decide_false]; done); (focus simp only [go_sem, h, hiP, hiL, hg, hkI, g1, g2, hE, hn, decide_true, decide_false]; done)) | (refine And.intro ?_ ?_; focus omega))
            refine L_next (i + 1) ?_ ?_ ?_
            ·simp only [go_sem, hP2, hchk hPP, hPP]; simp
            ·omega
            ·omega
           ·have hE : eqL beqInt (selF s.fFiles d[i].fQuery P) (idsAt P i) = false := by rw [eqL_int]; exact decide_eq_false he
            have hlt := hgrow hn hik he
            have hch2 : chB s.fFiles d L ns k (i + 1) R = true := hchn (by
             rw [hsu]
             rcases hcs with e | e
             ·rw [← e]; exact hlt
             ·omega)
            repeat' (with_reducible first | refine nY ?_ | (refine mX ?_; try simp only [go_sem, h, hiP, hiL, hg, hkI, g1, g2, hE, hn, decide_true, decide_false]) | refine kO ?_ (by decide) | (refine rS [7] [74] (by simp only [go_sem]; rfl) (by simp only [go_sem]; rfl) (by decide +kernel) ?_ ?_; (focus simp only [go_sem]; done)) | refine st_cons (aX ?_) (uX ?_) | refine st_nil (aX ?_) ?_ | (refine uA ?_; simp only [go_sem, h, hiP, hiL, hg, hkI, g1, g2, hE, hn, decide_true, decide_false]; (repeat' first | omega | refine And.intro ?_ ?_); done) | refine regd (by kernel_rfl) ?_ | (refine cC (containsS_ok ns d[i].fName hns) ?_ ?_; focus simp only [go_sem, and_self]; done) | (refine calr (sel_spec s d[i].fQuery P hs (by omega) hw) ?_ ?_ ?_ (uX ?_); (focus simp only [go_sem, h, hiP, hiL, hg, hkI, g1, g2, hE, hn, decide_true, decide_false]; done); (focus simp only [go_sem, h, hiP, hiL, hg, hkI, g1, g2, hE, hn, decide_true, decide_false]; done); (focus simp only [go_sem, h, hiP, hiL, hg, hkI, g1, g2, hE, hn, decide_true, decide_false]; done)) | (refine cGr (sel_spec s d[i].fQuery P hs (by omega) hw) ?_ ?_ ?_ (uX ?_); (focus simp only [go_sem, h, hiP, hiL, hg, hkI, g1, g2, hE, hn, decide_true, decide_false]; done); (focus simp only [go_sem, h, hiP, hiL, hg, hkI, g1, g2, hE, hn, decide_true, decide_false]; done); (focus simp only [go_sem, h, hiP, hiL, hg, hkI, g1, g2, hE, hn, decide_true, decide_false]; done)) | (refine cale (specInts_ok (selF s.fFiles d[i].fQuery P) (idsAt P i) (by omega)) ?_ ?_ ?_ (uX ?_); (focus simp only [go_sem, h, hiP, hiL, hg, hkI, g1, g2, hE, hn, decide_true, decide_false]; done); (focus simp only [go_sem, h, hiP, hiL, hg, hkI, g1, g2, hE, hn, decide_true, decide_false]; done); (focus simp only [go_sem, h, hiP, hiL, hg, hkI, g1, g2, hE, hn, decide_true, decide_false]; done)) | (refine And.intro ?_ ?_; focus omega))
            refine L_next (i + 1) ?_ ?_ ?_
            ·simp only [go_sem, hP2, hch2, hsu, newR, ← setR1]; simp
            ·omega
            ·omega
         ·rw [if_neg (fun h => hik h.1)] at hsu
          have hkI : ¬ ((lv L i : Nat) : Int) = ((k : Nat) : Int) := by omega
          have q0 := @h; have q1 := @hiP; have q2 := @hiL; have q3 := @hg; have q4 := @hkI; have q5 := @decide_true; have q6 := @decide_false; refine w7_0 ?_
          refine L_next (i + 1) ?_ ?_ ?_
          ·simp only [go_sem, hP2, hchk hsu, hsu]; simp
          ·omega
          ·omega
        ·simp only [decide_eq_false_iff_not] at h
         have e : i = d.length := by omega
         subst e
         have hPe := passT_ev hvq hclo d.length R (Nat.le_refl _) hRe
         have hPt := hPe.tot
         refine w0_0 ?_
         refine L_next (passT s.fFiles d L ns k d.length R, c + 1, chB s.fFiles d L ns k d.length R) ?_ ?_ ?_
         ·simp only [go_sem]; simp
         ·refine ⟨hpass, ?_⟩
          simp only
          have hpc := passT_cases hvq hclo d.length R (Nat.le_refl _) hRe
          cases hcb2 : chB s.fFiles d L ns k d.length R with
          | false =>
           have h9 : totR R ≤ totR (passT s.fFiles d L ns k d.length R) := by
            rcases hpc with e | e
            ·rw [e]; exact Nat.le_refl _
            ·omega
           simp only [Bool.false_eq_true, if_false]; omega
          | true =>
           have := of_decide_eq_true hcb2
           simp only [if_true]; omega
         ·simp only [if_true]
          cases hcb3 : chB s.fFiles d L ns k d.length R with
          | false => simp only [Bool.false_eq_true, if_false]; omega
          | true =>
           have := of_decide_eq_true hcb3
           simp only [if_true]; omega
      ·subst hbt
       have hTe := hx.fin rfl
       simp only at hTe
       refine w0_0 ?_
       refine L_next (k + 1) ?_ ?_ ?_
       ·simp only [go_sem, hT, hTe]; simp
       ·omega
       ·omega
    ·simp only [decide_eq_false_iff_not] at hlev
     have hkK : ¬ k < levK d L := fun h => hlev ((levK_iff d L k).2 h)
     have e : k = levK d L := by omega
     subst e
     refine w0_0 ?_
     exact retK_ret ⟨⟨_, rfl, by simp only [go_sem, e1, e2]; try simp⟩, by simp [notOne]⟩
end Go.Proofs.YtddimbdeggomaaaGreat
end
section
set_option maxRecDepth 100000
set_option maxHeartbeats 4000000
namespace Go.Proofs.YtddimbdeggomaaaGreat
open Go Go.Sx Go.RowKit Go.Proofs
theorem implEv0_ok (s : TStore) (d : List TDir) (hs : wStore s ≤ 4300000) (hd : wDirS d ≤ 4300000) : FnC Tryz.prog 89 [gStore s, .o (.d (.sl (d.map encDir))), .o (.d (.sl [])), .o (.d (.sl ((dirNs d).map encS)))] (.t [(false, [.w 125 2 ((evX s d [] (dirNs d)).1.map encResult)]), (false, [.d (iv ((evX s d [] (dirNs d)).2 : Nat))]), (false, [.d (bv (evB s d))])]) :=
 implEv_ok s d [] (dirNs d) hs hd (by simp [wResultS, wsum]) (by rw [dirNs_len]; unfold wDirS at hd; omega)
theorem implEval_ok (s : TStore) (d : List TDir) (hs : wStore s ≤ 4300000) (hd : wDirS d ≤ 4300000) : FnC Tryz.prog 102 [gStore s, .o (.d (.sl (d.map encDir)))] (.t [(false, [.w 125 2 ((evX s d [] (dirNs d)).1.map encResult)]), (false, [.d (bv (evB s d))])]) := by
 have hl : d.length ≤ 4300000 := by unfold wDirS at hd; omega
 refine ent Tryz.func102 rfl Tryz.call102 rfl (fun C => ?_); simp only [go_sem, st0, Tryz.ntmps102]
 repeat' (with_reducible first | refine nY ?_ | (refine mX ?_; try simp only [go_sem]) | refine kO ?_ (by decide) | (refine rS [3, 4] [13, 14] (by simp only [go_sem]; rfl) (by simp only [go_sem]; rfl) (by decide +kernel) ?_ ?_; (focus simp only [go_sem]; done)) | refine st_cons (aX ?_) (uX ?_) | refine st_nil (aX ?_) ?_ | (refine uA ?_; simp only [go_sem]; (repeat' first | omega | refine And.intro ?_ ?_); done) | refine regd (by kernel_rfl) ?_ | (refine cC (implEv0_ok s d hs hd) ?_ ?_; focus simp only [go_sem, and_self]; done) | (refine cC (dirNames_ok d hl) ?_ ?_; focus simp only [go_sem, and_self]; done) | (refine And.intro ?_ ?_; focus omega))
 exact retK_ret ⟨⟨_, rfl, by simp only [go_sem]⟩, by simp [notOne]⟩
theorem specEval_ok (s : TStore) (d : List TDir) (hs : wStore s ≤ 4300000) (hd : wDirS d ≤ 4300000) : FnC Tryz.prog 99 [gStore s, .o (.d (.sl (d.map encDir)))] (.t [(false, [.w 125 2 ((evX s d [] (dirNs d)).1.map encResult)]), (false, [.d (bv (evB s d))])]) := by
 refine ent Tryz.func99 rfl Tryz.call99 rfl (fun C => ?_); simp only [go_sem, st0, Tryz.ntmps99]
 refine w0_1 (specEv_ok s d hs hd) ?_
 exact retK_ret ⟨⟨_, rfl, by simp only [go_sem]⟩, by simp [notOne]⟩
theorem evX_95 (s : TStore) (d : List TDir) : wResultS (evX s d [] (dirNs d)).1 ≤ 95 := by
 unfold evX
 split
 ·rename_i hb
  rw [Bool.and_eq_true] at hb
  obtain ⟨hv, hleast⟩ := resB_yes hb.1
  have h5 := okDirs_len hv
  have h12 := okStore_len hb.2
  have hev := allE_ev (fs := s.fFiles) (ns := dirNs d) (r := []) (fun i (hi : i < d.length) => okDirs_at hv i hi) hleast.clo (levK d (resL d))
  have h0 : wResultS [] = 0 := by simp [wResultS, wsum]
  revert hev
  generalize (allE s.fFiles d (resL d) (dirNs d) (s.fFiles.length + wResultS []) [] (levK d (resL d))).1 = X
  rw [h0]
  intro hev
  have hlen := hev.len
  have hb2 := wsum_bound wResult 18 X fun i hi => by
   obtain ⟨e1, e2⟩ := hev.get i (by omega)
   have h1 := okDirs_name hv i (by omega)
   have h2 := hev.bd i
   unfold wResult
   rw [e1, e2]
   omega
  unfold wResultS
  have := Nat.mul_le_mul_right 18 h5
  rw [hlen] at hb2 ⊢
  omega
 ·simp [wResultS, wsum]
theorem evX_w (s : TStore) (d : List TDir) : wResultS (evX s d [] (dirNs d)).1 ≤ 4300000 := Nat.le_trans (evX_95 s d) (by decide)
noncomputable def curB (c : TCatalog) : Bool := evB c.fStore c.fDirs && eqL beqResult (evX c.fStore c.fDirs [] (dirNs c.fDirs)).1 c.fResults
theorem implCur_ok (c : TCatalog) (h : wCatalog c ≤ 4300000) : FnC Tryz.prog 115 [gCatalog c] (ob (curB c)) := by
 unfold wCatalog at h
 refine ent Tryz.func115 rfl Tryz.call115 rfl (fun C => ?_); simp only [go_sem, st0, Tryz.ntmps115]
 cases hb : evB c.fStore c.fDirs
 all_goals
  have q0 := @hb; refine w1_2 (implEval_ok c.fStore c.fDirs (by omega) (by omega)) (implEqualResults_ok (evX c.fStore c.fDirs [] (dirNs c.fDirs)).1 c.fResults (evX_w _ _)) ?_
  exact retK_ret ⟨⟨_, rfl, by simp only [go_sem, curB, hb, Bool.true_and, Bool.false_and]⟩, trivial⟩
theorem specCur_ok (c : TCatalog) (h : wCatalog c ≤ 4300000) : FnC Tryz.prog 110 [gCatalog c] (ob (curB c)) := by
 unfold wCatalog at h
 refine ent Tryz.func110 rfl Tryz.call110 rfl (fun C => ?_); simp only [go_sem, st0, Tryz.ntmps110]
 cases hb : evB c.fStore c.fDirs
 all_goals
  have q0 := @hb; refine w1_2 (specEval_ok c.fStore c.fDirs (by omega) (by omega)) (specEqualResults_ok (evX c.fStore c.fDirs [] (dirNs c.fDirs)).1 c.fResults (evX_w _ _)) ?_
  exact retK_ret ⟨⟨_, rfl, by simp only [go_sem, curB, hb, Bool.true_and, Bool.false_and]⟩, trivial⟩
end Go.Proofs.YtddimbdeggomaaaGreat
end
section
set_option maxRecDepth 100000
set_option maxHeartbeats 4000000
namespace Go.Proofs.YtddimbdeggomaaaGreat
open Go Go.Sx Go.RowKit Go.Proofs
theorem eqL_res (a b : List TResult) (h : eqL beqResult a b = true) : a = b := by
 induction a generalizing b with
 | nil => cases b with
  | nil => rfl
  | cons y b => simp [eqL] at h
 | cons x a ih =>
  cases b with
  | nil => simp [eqL] at h
  | cons y b =>
   simp only [eqL, beqResult, eqL_int, Bool.and_eq_true, decide_eq_true_eq] at h
   obtain ⟨⟨e1, e2⟩, e3⟩ := h
   rw [ih b e3]
   cases x; cases y; simp only at e1 e2; subst e1; subst e2; rfl
theorem cur_r {c : TCatalog} (h : curB c = true) : wResultS c.fResults ≤ 95 := by
 unfold curB at h
 rw [Bool.and_eq_true] at h
 rw [← eqL_res _ _ h.2]
 exact evX_95 _ _
theorem cur_s {c : TCatalog} (h : curB c = true) : resB c.fDirs = true := by
 unfold curB evB at h
 simp only [Bool.and_eq_true] at h
 exact h.1.1
theorem evX_sm (s : TStore) (d : List TDir) (r : List TResult) (ns : List ByteArray) (hr : wResultS r ≤ 95) : wResultS (evX s d r ns).1 ≤ 600 := by
 unfold evX
 split
 ·rename_i hb
  rw [Bool.and_eq_true] at hb
  obtain ⟨hv, hleast⟩ := resB_yes hb.1
  have h12 := okStore_len hb.2
  have hev := allE_ev (fs := s.fFiles) (ns := ns) (r := r) (fun i (hi : i < d.length) => okDirs_at hv i hi) hleast.clo (levK d (resL d))
  revert hev
  generalize (allE s.fFiles d (resL d) ns (s.fFiles.length + wResultS r) r (levK d (resL d))).1 = R
  intro hev
  have hlen := hev.len
  have h5 := okDirs_len hv
  have hb3 := wsum_bound wResult 113 R fun i hi => by
   obtain ⟨e1, e2⟩ := hev.get i (by omega)
   have h1 := okDirs_name hv i (by omega)
   have h2 := hev.bd i
   unfold wResult
   rw [e1, e2]
   omega
  unfold wResultS
  have : R.length * 113 ≤ 5 * 113 := Nat.mul_le_mul_right _ (by omega)
  omega
 ·simp [wResultS, wsum]
theorem diff_sm (a b : List TResult) (ha : wResultS a ≤ 95) (hb : wResultS b ≤ 600) : wDiffS (diffR a b) ≤ 60000 := by
 have h := diffR_w a b
 have h1 : b.length ≤ 600 := by unfold wResultS at hb; omega
 have h2 : b.length * wResultS a ≤ 600 * 95 := Nat.mul_le_mul h1 ha
 omega
theorem implReevE_ok (s : TStore) (d : List TDir) (r : List TResult) (ns : List ByteArray) (hs : wStore s ≤ 4300000) (hd : wDirS d ≤ 4300000) (hr : wResultS r ≤ 4300000) (hns : ns.length ≤ 4300000) : FnC Tryz.prog 23 [gStore s, .o (.d (.sl (d.map encDir))), .o (.d (.sl (r.map encResult))), .o (.d (.sl (ns.map encS)))] (.t [(false, [.w 125 2 ((evX s d r ns).1.map encResult)]), (false, [.d (bv (evB s d))])]) := by
 refine ent Tryz.func23 rfl Tryz.call23 rfl (fun C => ?_); simp only [go_sem, st0, Tryz.ntmps23]
 refine w0_1 (implEv_ok s d r ns hs hd hr hns) ?_
 exact retK_ret ⟨⟨_, rfl, by simp only [go_sem]⟩, by simp [notOne]⟩
theorem evX_we (s : TStore) (d : List TDir) (r : List TResult) (ns : List ByteArray) (hr : wResultS r ≤ 4300000) : wResultS (evX s d r ns).1 ≤ 67108864 := by
 unfold evX
 split
 ·rename_i hb
  rw [Bool.and_eq_true] at hb
  obtain ⟨hv, hleast⟩ := resB_yes hb.1
  have h12 := okStore_len hb.2
  have hev := allE_ev (fs := s.fFiles) (ns := ns) (r := r) (fun i (hi : i < d.length) => okDirs_at hv i hi) hleast.clo (levK d (resL d))
  exact hev.w hv (by omega)
 ·simp [wResultS, wsum]
noncomputable def chC (c : TCatalog) (s : TStore) (d : List TDir) (ns : List ByteArray) : TCatalog := if evB s d then ⟨s, d, (evX s d c.fResults ns).1⟩ else c
noncomputable def chD (c : TCatalog) (s : TStore) (d : List TDir) (ns : List ByteArray) : List TDiff := if evB s d then diffR c.fResults (evX s d c.fResults ns).1 else []
theorem chTo_ok (c : TCatalog) (s : TStore) (d : List TDir) (ns : List ByteArray) (hc : wCatalog c ≤ 4300000) (hs : wStore s ≤ 4300000) (hd : wDirS d ≤ 4300000) (hns : ns.length ≤ 4300000) : FnC Tryz.prog 117 [gCatalog c, gStore s, .o (.d (.sl (d.map encDir))), .o (.d (.sl (ns.map encS)))] (.t [(true, (rCatalog (chC c s d ns)).cells), (false, [.w 158 3 ((chD c s d ns).map encDiff)]), (false, [.d (bv (evB s d))])]) := by
 have hr : wResultS c.fResults ≤ 4300000 := by unfold wCatalog at hc; omega
 refine ent Tryz.func117 rfl Tryz.call117 rfl (fun C => ?_); simp only [go_sem, st0, Tryz.ntmps117]
 cases hb : evB s d
 ·have e1 : chC c s d ns = c := by simp [chC, hb]
  have e2 : chD c s d ns = [] := by simp [chD, hb]
  have q0 := @hb; refine w1_2 (implReevE_ok s d c.fResults ns hs hd hr hns) (cpCat_ok c hc) ?_
  exact retK_ret ⟨⟨_, rfl, by simp only [go_sem, e1, e2, List.map_nil]; try simp⟩, by simp [notOne]⟩
 ·have e1 : chC c s d ns = ⟨s, d, (evX s d c.fResults ns).1⟩ := by simp [chC, hb]
  have e2 : chD c s d ns = diffR c.fResults (evX s d c.fResults ns).1 := by simp [chD, hb]
  have hw := evX_we s d c.fResults ns hr
  repeat' (with_reducible first | refine nY ?_ | (refine mX ?_; try simp only [go_sem, hb]) | refine kO ?_ (by decide) | (apply rE [1,3,9,10] [] [0,2,4,6,7,8] [0,2,4,6,7,8] ((.c 1 [] [2,4,6,7,8] (.c 3 [5] [4,5,6,7,8] (.c 9 [] [4,5] (.c 10 [11,12] [11,12] .n .n) .n) .n) .n)) (by simp only [go_sem]; rfl) (by simp only [go_sem]; rfl) (by simp only [go_sem]; rfl) (by decide +kernel); (focus simp only [go_sem]; done)) | exact tt_nil | (refine tt_cons (uX ?_) ?_) | refine tn_leaf (aX ?_) ?_ | refine tn_node (aX ?_) ?_ | exact meet_eq | (refine oG ?_; (focus simp only [go_sem]; done)) | (refine uA ?_; simp only [go_sem, hb]; (repeat' first | omega | refine And.intro ?_ ?_); done) | refine regd (by kernel_rfl) ?_ | (refine cC (implReevE_ok s d c.fResults ns hs hd hr hns) ?_ ?_; focus simp only [go_sem, and_self]; done) | (refine cC (cpStore_ok s hs) ?_ ?_; focus simp only [go_sem, and_self]; done) | (refine cC (cpDirs_ok d hd) ?_ ?_; focus simp only [go_sem, and_self]; done) | (refine calr (implDiffR_ok c.fResults (evX s d c.fResults ns).1 hr hw) ?_ ?_ ?_ (uX ?_); (focus simp only [go_sem, hb]; done); (focus simp only [go_sem, hb]; done); (focus simp only [go_sem, hb]; done)) | (refine cGr (implDiffR_ok c.fResults (evX s d c.fResults ns).1 hr hw) ?_ ?_ ?_ (uX ?_); (focus simp only [go_sem, hb]; done); (focus simp only [go_sem, hb]; done); (focus simp only [go_sem, hb]; done)) | (refine And.intro ?_ ?_; focus omega))
  exact retK_ret ⟨⟨_, rfl, by simp only [go_sem, e1, e2]; try simp⟩, by simp [notOne]⟩
theorem specTurn_ok (c : TCatalog) (s : TStore) (d : List TDir) (ns : List ByteArray) (hc : wCatalog c ≤ 4300000) (hs : wStore s ≤ 4300000) (hd : wDirS d ≤ 4300000) (hns : ns.length ≤ 4300000) : FnC Tryz.prog 111 [gCatalog c, gStore s, .o (.d (.sl (d.map encDir))), .o (.d (.sl (ns.map encS)))] (.t [(true, (gCatalog ⟨s, d, (evX s d c.fResults ns).1⟩).cells), (false, [.w 158 3 ((diffR c.fResults (evX s d c.fResults ns).1).map encDiff)])]) := by
 have hr : wResultS c.fResults ≤ 4300000 := by unfold wCatalog at hc; omega
 have hw := evX_we s d c.fResults ns hr
 refine ent Tryz.func111 rfl Tryz.call111 rfl (fun C => ?_); simp only [go_sem, st0, Tryz.ntmps111]
 repeat' (with_reducible first | refine nY ?_ | (refine mX ?_; try simp only [go_sem]) | refine kO ?_ (by decide) | (apply rE [7,8] [] [0,1,2,3,4,5,6] [0,1,2,3,4,5,6] ((.c 7 [] [0,1,2,3] (.c 8 [9] [9] .n .n) .n)) (by simp only [go_sem]; rfl) (by simp only [go_sem]; rfl) (by simp only [go_sem]; rfl) (by decide +kernel); (focus simp only [go_sem]; done)) | exact tt_nil | (refine tt_cons (uX ?_) ?_) | refine tn_leaf (aX ?_) ?_ | refine tn_node (aX ?_) ?_ | exact meet_eq | (refine oG ?_; (focus simp only [go_sem]; done)) | (refine uA ?_; simp only [go_sem]; (repeat' first | omega | refine And.intro ?_ ?_); done) | refine regd (by kernel_rfl) ?_ | (refine cC (specReev_ok s d c.fResults ns hs hd hr hns) ?_ ?_; focus simp only [go_sem, and_self]; done) | (refine cC (specDiffR_ok c.fResults (evX s d c.fResults ns).1 hr hw) ?_ ?_; focus simp only [go_sem, and_self]; done) | (refine And.intro ?_ ?_; focus omega))
 exact retK_ret ⟨⟨_, rfl, by simp only [go_sem]⟩, by simp [notOne]⟩
theorem l19Cpd_ok (c : TCatalog) (h : wCatalog c ≤ 4300000) : FnC Tryz.prog 108 [gCatalog c] (gCatalog c) := (l19Cp_ok c h).pu (by simp only [go_sem, and_self])
theorem specTurnd_ok (c : TCatalog) (s : TStore) (d : List TDir) (ns : List ByteArray) (hc : wCatalog c ≤ 4300000) (hs : wStore s ≤ 4300000) (hd : wDirS d ≤ 4300000) (hns : ns.length ≤ 4300000) : FnC Tryz.prog 111 [gCatalog c, gStore s, .o (.d (.sl (d.map encDir))), .o (.d (.sl (ns.map encS)))] (.t [(true, (gCatalog ⟨s, d, (evX s d c.fResults ns).1⟩).cells), (false, [.d (.sl ((diffR c.fResults (evX s d c.fResults ns).1).map encDiff))])]) := (specTurn_ok c s d ns hc hs hd hns).pu (by simp only [go_sem, and_self])
theorem dirNamesd_ok (l : List TDir) (hl : l.length ≤ 4300000) : FnC Tryz.prog 118 [.o (.d (.sl (l.map encDir)))] (.o (.d (.sl ((dirNs l).map encS)))) := (dirNames_ok l hl).pu (by simp only [go_sem, and_self])
theorem specDirNamesd_ok (l : List TDir) (hl : l.length ≤ 4300000) : FnC Tryz.prog 112 [.o (.d (.sl (l.map encDir)))] (.o (.d (.sl ((dirNs l).map encS)))) := (specDirNames_ok l hl).pu (by simp only [go_sem, and_self])
noncomputable def goC (b : Bool) (c : TCatalog) (s : TStore) (d : List TDir) (ns : List ByteArray) : TCatalog := if b then ⟨s, d, (evX s d c.fResults ns).1⟩ else c
noncomputable def goD (b : Bool) (c : TCatalog) (s : TStore) (d : List TDir) (ns : List ByteArray) : List TDiff := if b then diffR c.fResults (evX s d c.fResults ns).1 else []
theorem goC_no (c : TCatalog) (s : TStore) (d : List TDir) (ns : List ByteArray) : goC false c s d ns = c := rfl
theorem goD_no (c : TCatalog) (s : TStore) (d : List TDir) (ns : List ByteArray) : goD false c s d ns = [] := rfl
theorem goC_yes (c : TCatalog) (s : TStore) (d : List TDir) (ns : List ByteArray) : goC true c s d ns = ⟨s, d, (evX s d c.fResults ns).1⟩ := rfl
theorem goD_yes (c : TCatalog) (s : TStore) (d : List TDir) (ns : List ByteArray) : goD true c s d ns = diffR c.fResults (evX s d c.fResults ns).1 := rfl
theorem chTo_go (c : TCatalog) (s : TStore) (d : List TDir) (ns : List ByteArray) (hev : evB s d = true) (hc : wCatalog c ≤ 4300000) (hs : wStore s ≤ 4300000) (hd : wDirS d ≤ 4300000) (hns : ns.length ≤ 4300000) : FnC Tryz.prog 117 [gCatalog c, gStore s, .o (.d (.sl (d.map encDir))), .o (.d (.sl (ns.map encS)))] (.t [(true, (rCatalog (goC true c s d ns)).cells), (false, [.w 158 3 ((goD true c s d ns).map encDiff)]), (false, [.d (bv true)])]) := by
 have h := chTo_ok c s d ns hc hs hd hns
 unfold chC chD at h
 rw [hev] at h
 exact h
theorem go_w (b : Bool) (c : TCatalog) (s : TStore) (d : List TDir) (ns : List ByteArray) (hb : b = true → curB c = true) (hs : wStore s ≤ 8600000) (hd : wDirS d ≤ 8600000) (hc : wCatalog c ≤ 4300000) : wStore (goC b c s d ns).fStore ≤ 8600000 ∧ wDirS (goC b c s d ns).fDirs ≤ 8600000 ∧ wResultS (goC b c s d ns).fResults ≤ 8600000 ∧ wDiffS (goD b c s d ns) ≤ 8600000 := by
 have h0 : wCatalog c = wStore c.fStore + wDirS c.fDirs + wResultS c.fResults := rfl
 cases b
 ·simp only [goC_no, goD_no]
  exact ⟨by omega, by omega, by omega, by simp [wDiffS, wsum]⟩
 ·simp only [goC_yes, goD_yes]
  have hr := cur_r (hb rfl)
  have hx := evX_sm s d c.fResults ns hr
  have hd2 := diff_sm c.fResults (evX s d c.fResults ns).1 hr hx
  exact ⟨hs, hd, by omega, by omega⟩
end Go.Proofs.YtddimbdeggomaaaGreat
end
section
namespace Go.Proofs.YtddimbdeggomaaaGreat
open Go Go.Sx Go.RowKit Go.Proofs
theorem okStore_iff {x : TStore} : okStore x = true ↔ (∀ k, k < x.fFiles.length → okFileAt x k = true) ∧ okSchema x.fSchema = true ∧ x.fFiles.length ≤ 12 ∧ 1 ≤ x.fNextID ∧ x.fNextID ≤ 61 := by
 unfold okStore inB
 simp only [Bool.and_eq_true, List.all_eq_true, List.mem_range, decide_eq_true_eq]
 constructor
 ·rintro ⟨h1, h2, h3, h4, h5⟩; exact ⟨h1, h2, by omega, h4, h5⟩
 ·rintro ⟨h1, h2, h3, h4, h5⟩; exact ⟨h1, h2, by omega, h4, h5⟩
theorem okFileAt_iff {x : TStore} {k : Nat} (h : k < x.fFiles.length) : okFileAt x k = true ↔ okFile x.fSchema x.fFiles[k] = true ∧ x.fFiles[k].fID < x.fNextID ∧ upAt x.fFiles k = true := by
 unfold okFileAt
 rw [List.getElem?_eq_getElem h]
 simp only [Bool.and_eq_true, Bool.not_eq_true', decide_eq_false_iff_not, Int.not_le]
def mkF (s : TStore) (f : TFile) : TFile := { f with fID := s.fNextID }
def creOK (s : TStore) (f : TFile) : Bool := okStore s && (decide (s.fFiles.length < 12) && okFile s.fSchema (mkF s f))
def creS (s : TStore) (f : TFile) : TStore := if creOK s f then ⟨s.fSchema, s.fFiles ++ [mkF s f], s.fNextID + 1⟩ else s
def creI (s : TStore) (f : TFile) : Int := if creOK s f then s.fNextID else 0
end Go.Proofs.YtddimbdeggomaaaGreat
end
section
namespace Go.Proofs.YtddimbdeggomaaaGreat
open Go Go.Sx Go.RowKit Go.Proofs
def ixF (id : Int) (l : List TFile) : Int := idxP (fun f => decide (f.fID = id)) l 0
theorem ixF_cases (id : Int) (l : List TFile) : (ixF id l = -1) ∨ ∃ p : Nat, ixF id l = p ∧ ∃ h : p < l.length, l[p].fID = id := by
 rcases idxP_spec (fun f : TFile => decide (f.fID = id)) l 0 with h | ⟨k, e1, e2, e5, e6⟩
 ·exact .inl h.1
 ·exact .inr ⟨k, by unfold ixF; rw [e1]; simp, e2, by simpa using e5⟩
def zF : TFile := ⟨0, 0, false, 0, []⟩
def findF (id : Int) (l : List TFile) : TFile := if 0 ≤ ixF id l then l.getD (ixF id l).toNat zF else zF
theorem findF_no {id : Int} {l : List TFile} (h : ixF id l = -1) : findF id l = zF := by unfold findF; rw [h]; rfl
theorem findF_yes {id : Int} {l : List TFile} {p : Nat} (h : ixF id l = p) (hp : p < l.length) : findF id l = l[p] := by unfold findF; rw [h, if_pos (by omega)]; simp [hp]
theorem findF_w (id : Int) (l : List TFile) : wFile (findF id l) ≤ wFileS l := by
 rcases ixF_cases id l with h | ⟨p, h, hp, _⟩
 ·rw [findF_no h]; simp [zF, wFile, wAttrS, wsum]
 ·rw [findF_yes h hp]; have := wsum_get wFile l hp; unfold wFileS; omega
def cutAt {α : Type} (p : Nat) (l : List α) : List α := l.take p ++ l.drop (p + 1)
theorem cut_len {α : Type} {p : Nat} {l : List α} (h : p < l.length) : (cutAt p l).length = l.length - 1 := by simp [cutAt]; omega
theorem cut_map {α β : Type} (f : α → β) (p : Nat) (l : List α) : (cutAt p l).map f = cutAt p (l.map f) := by simp [cutAt]
theorem cut_lo {α : Type} {p k : Nat} {l : List α} (h : p < l.length) (hk : k < (cutAt p l).length) (e : k < p) : (cutAt p l)[k] = l[k] := by
 simp only [cutAt]
 rw [List.getElem_append_left (by simp; omega), List.getElem_take]
theorem cut_hi {α : Type} {p k : Nat} {l : List α} (h : p < l.length) (hk : k < (cutAt p l).length) (e : ¬ k < p) : (cutAt p l)[k] = l[k + 1]'(by rw [cut_len h] at hk; omega) := by
 simp only [cutAt]
 rw [List.getElem_append_right (by simp; omega), List.getElem_drop]
 congr 1
 simp; omega
theorem cut_w {α : Type} (f : α → Nat) : ∀ (p : Nat) (l : List α), wsum f (cutAt p l) ≤ wsum f l
 | _, [] => by simp [cutAt, wsum]
 | 0, x :: l => by simp [cutAt, wsum]
 | p + 1, x :: l => by
  have ih := cut_w f p l
  simp only [cutAt, List.take_succ_cons, List.drop_succ_cons, List.cons_append, wsum] at ih ⊢
  omega
theorem set_w {α : Type} (f : α → Nat) (y : α) : ∀ (p : Nat) (l : List α), wsum f (l.set p y) ≤ wsum f l + f y
 | _, [] => by simp [wsum]
 | 0, x :: l => by simp only [List.set_cons_zero, wsum]; omega
 | p + 1, x :: l => by
  have ih := set_w f y p l
  simp only [List.set_cons_succ, wsum]
  omega
theorem okStore_up {s : TStore} (h : okStore s = true) (j : Nat) (h0 : 0 < j) (hj : j < s.fFiles.length) : s.fFiles[j - 1].fID < s.fFiles[j].fID := by
 have q := ((okFileAt_iff hj).1 ((okStore_iff.1 h).1 j hj)).2.2
 rw [upAt_pos _ _ h0 hj] at q
 simp only [Bool.not_eq_true', decide_eq_false_iff_not] at q
 omega
theorem upAt_of (l : List TFile) (k : Nat) (hk : k < l.length) (h : ∀ h0 : 0 < k, (l[k - 1]'(by omega)).fID < l[k].fID) : upAt l k = true := by
 by_cases h0 : 0 < k
 ·rw [upAt_pos _ _ h0 hk]
  have := h h0
  simp only [Bool.not_eq_true', decide_eq_false_iff_not]
  omega
 ·exact upAt_0 _ _ h0
def delOK (s : TStore) (id : Int) : Bool := okStore s && decide (0 ≤ ixF id s.fFiles)
def delS (s : TStore) (id : Int) : TStore := if delOK s id then ⟨s.fSchema, cutAt (ixF id s.fFiles).toNat s.fFiles, s.fNextID⟩ else s
theorem del_ok {s : TStore} {id : Int} (h : delOK s id = true) : okStore (delS s id) = true := by
 have h' := h
 unfold delOK at h'
 rw [Bool.and_eq_true, decide_eq_true_eq] at h'
 obtain ⟨hs, hi⟩ := h'
 obtain ⟨h1, h2, h3, h4, h5⟩ := okStore_iff.1 hs
 rcases ixF_cases id s.fFiles with e | ⟨p, e, hp, _⟩
 ·omega
 unfold delS
 rw [if_pos h, e, Int.toNat_natCast]
 have hl := cut_len hp
 refine okStore_iff.2 ⟨fun k hk => ?_, h2, by simp only [hl]; omega, h4, h5⟩
 rw [okFileAt_iff hk]
 simp only at hk ⊢
 by_cases ek : k < p
 ·have e1 := cut_lo hp hk ek
  obtain ⟨q1, q2, q3⟩ := (okFileAt_iff (by omega)).1 (h1 k (by omega))
  refine ⟨by rw [e1]; exact q1, by rw [e1]; exact q2, upAt_of _ _ hk fun h0 => ?_⟩
  rw [e1, cut_lo hp (by omega) (by omega)]
  exact okStore_up hs k h0 (by omega)
 ·have e1 := cut_hi hp hk ek
  have hk1 : k + 1 < s.fFiles.length := by rw [hl] at hk; omega
  obtain ⟨q1, q2, q3⟩ := (okFileAt_iff hk1).1 (h1 (k + 1) hk1)
  refine ⟨by rw [e1]; exact q1, by rw [e1]; exact q2, upAt_of _ _ hk fun h0 => ?_⟩
  have u1 := okStore_up hs (k + 1) (by omega) hk1
  simp only [Nat.add_sub_cancel] at u1
  by_cases ep : k - 1 < p
  ·rw [e1, cut_lo hp (by omega) ep]
   have u2 := okStore_up hs k h0 (by omega)
   omega
  ·rw [e1, cut_hi hp (by omega) ep]
   have ee : k - 1 + 1 = k := by omega
   simp only [ee]
   exact u1
theorem delS_w (s : TStore) (id : Int) : wStore (delS s id) ≤ wStore s := by
 unfold delS
 split
 ·have h := cut_w wFile (ixF id s.fFiles).toNat s.fFiles
  have hl : (cutAt (ixF id s.fFiles).toNat s.fFiles).length ≤ s.fFiles.length := by simp [cutAt]; omega
  unfold wStore wFileS; simp only; omega
 ·omega
def repOK (s : TStore) (f : TFile) : Bool := okStore s && (decide (0 ≤ ixF f.fID s.fFiles) && okFile s.fSchema f)
def repS (s : TStore) (f : TFile) : TStore := if repOK s f then ⟨s.fSchema, s.fFiles.set (ixF f.fID s.fFiles).toNat f, s.fNextID⟩ else s
theorem repOK_iff {s : TStore} {f : TFile} : repOK s f = true ↔ okStore s = true ∧ 0 ≤ ixF f.fID s.fFiles ∧ okFile s.fSchema f = true := by
 unfold repOK; simp only [Bool.and_eq_true, decide_eq_true_eq]
theorem rep_ok {s : TStore} {f : TFile} (h : repOK s f = true) : okStore (repS s f) = true := by
 obtain ⟨hs, hi, hf⟩ := repOK_iff.1 h
 obtain ⟨h1, h2, h3, h4, h5⟩ := okStore_iff.1 hs
 rcases ixF_cases f.fID s.fFiles with e | ⟨p, e, hp, hid⟩
 ·omega
 unfold repS
 rw [if_pos h, e, Int.toNat_natCast]
 have key : ∀ j (hj : j < (s.fFiles.set p f).length), (s.fFiles.set p f)[j].fID = (s.fFiles[j]'(by simpa using hj)).fID := by
  intro j hj
  rw [List.getElem_set]
  split
  ·rename_i ej; subst ej; exact hid.symm
  ·rfl
 refine okStore_iff.2 ⟨fun k hk => ?_, h2, by simpa using h3, h4, h5⟩
 rw [okFileAt_iff hk]
 simp only at hk ⊢
 have hk' : k < s.fFiles.length := by simpa using hk
 obtain ⟨q1, q2, q3⟩ := (okFileAt_iff hk').1 (h1 k hk')
 refine ⟨?_, by rw [key k hk]; exact q2, upAt_of _ _ hk fun h0 => ?_⟩
 ·rw [List.getElem_set]
  split
  ·exact hf
  ·exact q1
 ·rw [key k hk, key (k - 1) (by omega)]
  exact okStore_up hs k h0 hk'
theorem repS_w (s : TStore) (f : TFile) : wStore (repS s f) ≤ wStore s + wFile f := by
 unfold repS
 split
 ·have h := set_w wFile f (ixF f.fID s.fFiles).toNat s.fFiles
  unfold wStore wFileS; simp only [List.length_set]; omega
 ·omega
end Go.Proofs.YtddimbdeggomaaaGreat
end
