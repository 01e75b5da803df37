/-
  l15Run of the reference.
-/
import Derived.Test.YtgglopecipbbfaaGreatE5Eval
set_option linter.all false
set_option maxRecDepth 100000
set_option maxHeartbeats 4000000
namespace Go.Proofs.YtgglopecipbbfaaGreat
open Go Go.Sx Go.RowKit Go.Proofs

theorem specEv_ok (s : TStore) (d : List TDir) (hs : wStore s ≤ 4300000) (hd : wDirS d ≤ 4300000) : FnC Tryz.prog 171 [gStore s, .o (.d (.sl (d.map encDir)))] (.t [(false, [.w 125 2 ((evX s d [] (dirNs d)).1.map encResult)]), (false, [.d (iv ((evX s d [] (dirNs d)).2 : Nat))]), (false, [.d (bv (evB s d))])]) := by
  have hd0 : d.length + wsum wDir d ≤ 4300000 := hd
  have hs0 : wFieldS s.fSchema + (s.fFiles.length + wsum wFile s.fFiles) ≤ 4300000 := hs
  refine ent Tryz.func171 rfl Tryz.call171 rfl (fun C => ?_); simp only [go_sem, st0, Tryz.ntmps171]
  have hr : wResultS [] ≤ 4300000 := by simp [wResultS, wsum]
  generalize hrr : ([] : List TResult) = r at *
  have hns : (dirNs d).length ≤ 4300000 := by rw [dirNs_len]; omega
  have hhas : ∀ i, (hi : i < d.length) → hasS (dirNs d) d[i].fName = true := has_dir d
  generalize dirNs d = ns at *
  cases hb : resB d
  · have e1 : evX s d r ns = ([], 0) := by simp [evX, hb]
    have e2 : evB s d = false := by simp [evB, hb]
    repeat' (with_reducible first | refine nY ?_ | (refine mX ?_; try simp only [go_sem, hb]) | refine kO ?_ (by decide) | refine regd (by kernel_rfl) ?_ | (refine cC (specStrata_ok d hd) ?_ ?_; focus simp only [go_sem, and_self]; done) | (refine And.intro ?_ ?_; focus omega))
    exact retK_ret ⟨⟨_, rfl, by simp only [go_sem, e1, e2, List.map_nil]; simp⟩, by simp [notOne]⟩
  cases hst : okStore s
  · have e1 : evX s d r ns = ([], 0) := by simp [evX, hst]
    have e2 : evB s d = false := by simp [evB, hst]
    repeat' (with_reducible first | refine nY ?_ | (refine mX ?_; try simp only [go_sem, hb, hst]) | refine kO ?_ (by decide) | refine regd (by kernel_rfl) ?_ | (refine cC (specStrata_ok d hd) ?_ ?_; focus simp only [go_sem, and_self]; done) | (refine cC (specStore_ok s hs) ?_ ?_; focus simp only [go_sem, and_self]; done) | (refine And.intro ?_ ?_; focus omega))
    exact retK_ret ⟨⟨_, rfl, by simp only [go_sem, e1, e2, List.map_nil]; simp⟩, by simp [notOne]⟩
  obtain ⟨hv, hleast⟩ := resB_yes hb
  have hclo := hleast.clo
  have hvq := fun i (hi : i < d.length) => okDirs_at hv i hi
  have h5 := okDirs_len hv
  have h12 := okStore_len hst
  have hLl := hclo.len
  obtain ⟨CC, hCC⟩ : ∃ c, s.fFiles.length + wResultS r = c := ⟨_, rfl⟩
  have hC2 : CC ≤ 4300012 := by omega
  have e1 : evX s d r ns = allE s.fFiles d (resL d) ns CC r (levK d (resL d)) := by simp [evX, hb, hst, hCC]
  have e2 : evB s d = true := by simp [evB, hb, hst]
  repeat' (with_reducible first | refine nY ?_ | (refine mX ?_; try simp only [go_sem, hb, hst]) | refine kO ?_ (by decide) | refine regd (by kernel_rfl) ?_ | (refine cC (specStrata_ok d hd) ?_ ?_; focus simp only [go_sem, and_self]; done) | (refine cC (specStore_ok s hs) ?_ ?_; focus simp only [go_sem, and_self]; done) | (refine And.intro ?_ ?_; focus omega))
  refine WP_lp (α := Nat) (fun k => [(9, .o (.s 1)), (29, .o .u), (10, oi k)]) (fun k => [(1, .row 125 2 ((startR ns r (d.take k)).map encResult) true)]) (fun k => k ≤ d.length) (fun k => d.length - k) 0 (fun _ => ?_) ?_ ?_ (fun k hk => ?_)
  · simp only [go_sem]
  · simp only [go_sem]; simp [startR]
  · simp
  · simp only [go_sem]
    repeat' (with_reducible first | refine nY ?_ | (refine mX ?_; try simp only [go_sem]) | refine kO ?_ (by decide) | refine regd (by kernel_rfl) ?_ | (refine And.intro ?_ ?_; focus omega))
    refine cnd rfl (fun h => ?_) (fun h => ?_)
    · simp only [decide_eq_true_eq, Int.ofNat_lt] at h
      have hsl := startR_len ns r d k
      have hl1 : (startR ns r (d.take k)).length + 1 ≤ 140737488355328 := by omega
      have hl2 : ((startR ns r (d.take k)).length + 1) * 40 ≤ 140737488355328 := by omega
      have hsu := startR_take ns r d k h
      rw [hhas k h] at hsu
      repeat' (with_reducible first | refine nY ?_ | (refine mX ?_; try simp only [go_sem, h, hl1, hl2]) | refine kO ?_ (by decide) | refine regd (by kernel_rfl) ?_ | (refine And.intro ?_ ?_; focus omega))
      refine L_next (k + 1) ?_ ?_ ?_
      · simp only [go_sem, hsu, List.map_append]; simp [encResult]
      · omega
      · omega
    · simp only [decide_eq_false_iff_not] at h
      have e : k = d.length := by omega
      subst e
      rw [List.take_length]
      generalize hL : resL d = L at *
      repeat' (with_reducible first | refine nY ?_ | (refine mX ?_; try simp only [go_sem]) | refine kO ?_ (by decide) | refine regd (by kernel_rfl) ?_ | (refine And.intro ?_ ?_; focus omega))
      refine WP_lp (α := Nat) (fun k => [(11, oi ((allE s.fFiles d L ns CC r k).2 : Nat)), (12, oi k)]) (fun k => [(1, .row 125 2 ((allE s.fFiles d L ns CC r k).1.map encResult) true)]) (fun k => k ≤ levK d L) (fun k => levK d L - k) 0 (fun _ => ?_) ?_ ?_ (fun k hk => ?_)
      · simp only [go_sem]
      · simp only [go_sem]; simp [allE]
      · simp
      · simp only [go_sem]
        repeat' (with_reducible first | refine nY ?_ | (refine mX ?_; try simp only [go_sem, hL]) | refine kO ?_ (by decide) | refine regd (by kernel_rfl) ?_ | (refine cC (specTop_ok d hd (by rw [hL]; omega)) ?_ ?_; focus simp only [go_sem, and_self]; done) | (refine And.intro ?_ ?_; focus omega))
        refine cnd rfl (fun hlev => ?_) (fun hlev => ?_)
        · simp only [decide_eq_true_eq] at hlev
          have hkK := (levK_iff d L k).1 hlev
          have hev := allE_ev (fs := s.fFiles) (ns := ns) (r := r) hvq hclo k
          rw [hCC] at hev
          have htop := top_le hleast
          have hcnt := allE_cnt s.fFiles d L ns CC r k
          have hnm : d.length * CC ≤ 5 * 4300012 := Nat.mul_le_mul h5 hC2
          have hcnt2 : k * (d.length * CC + 1) ≤ 5 * 21500061 := Nat.mul_le_mul (by omega) (by omega)
          have hround : Round s.fFiles d L ns CC k (allE s.fFiles d L ns CC r (k + 1)) ((allE s.fFiles d L ns CC r k).1, (allE s.fFiles d L ns CC r k).2, true) := Round.start hev
          generalize hT : allE s.fFiles d L ns CC r (k + 1) = T at *
          generalize allE s.fFiles d L ns CC r k = X at *
          repeat' (with_reducible first | refine nY ?_ | (refine mX ?_; try simp only [go_sem]) | refine kO ?_ (by decide) | refine regd (by kernel_rfl) ?_ | (refine And.intro ?_ ?_; focus omega))
          refine WP_lp (α := List TResult × Nat × Bool) (fun x => [(11, oi (x.2.1 : Nat)), (13, ob x.2.2)]) (fun x => [(1, .row 125 2 (x.1.map encResult) true)]) (fun x => Round s.fFiles d L ns CC k T (x.1, x.2.1, x.2.2) ∧ x.2.1 ≤ X.2 + totR x.1 + (if x.2.2 then 0 else 1)) (fun x => if x.2.2 then d.length * CC + 1 - totR x.1 else 0) (X.1, X.2, true) (fun _ => ?_) ?_ ?_ (fun x hx => ?_)
          · simp only [go_sem]
          · simp only [go_sem]; simp
          · exact ⟨hround, by simp⟩
          · obtain ⟨R, c, b⟩ := x
            obtain ⟨hx, hcb⟩ := hx
            simp only at hcb
            simp only [go_sem]
            repeat' (with_reducible first | refine nY ?_ | (refine mX ?_; try simp only [go_sem]) | refine kO ?_ (by decide) | refine regd (by kernel_rfl) ?_ | (refine And.intro ?_ ?_; focus omega))
            refine cnd rfl (fun hbt => ?_) (fun hbt => ?_)
            · subst hbt
              have hRe : Ev s.fFiles d L ns CC k R := hx.ev
              have hRt := hRe.tot
              simp only [if_true, Nat.add_zero] at hcb
              have hcI : c ≤ 1000000000 := by omega
              have hpass := hx.pass hvq hclo
              repeat' (with_reducible first | refine nY ?_ | (refine mX ?_; try simp only [go_sem]) | refine kO ?_ (by decide) | refine regd (by kernel_rfl) ?_ | (refine And.intro ?_ ?_; focus omega))
              refine WP_lp (α := Nat) (fun i => [(13, ob (chB s.fFiles d L ns k i R)), (14, oi i)]) (fun i => [(1, .row 125 2 ((passT s.fFiles d L ns k i R).map encResult) true)]) (fun i => i ≤ d.length) (fun i => d.length - i) 0 (fun _ => ?_) ?_ ?_ (fun i hi => ?_)
              · simp only [go_sem]
              · simp only [go_sem]; simp [chB, passT]
              · simp
              · simp only [go_sem]
                repeat' (with_reducible first | refine nY ?_ | (refine mX ?_; try simp only [go_sem]) | refine kO ?_ (by decide) | refine regd (by kernel_rfl) ?_ | (refine And.intro ?_ ?_; focus omega))
                refine cnd rfl (fun h => ?_) (fun h => ?_)
                · simp only [decide_eq_true_eq, Int.ofNat_lt] at h
                  have hEv := passT_ev hvq hclo i R (by omega) hRe
                  have hcs := passT_cases hvq hclo i R (by omega) hRe
                  have hsu := passT_succ s.fFiles d L ns k i R h
                  have hchk : passT s.fFiles d L ns k (i + 1) R = passT s.fFiles d L ns k i R → chB s.fFiles d L ns k (i + 1) R = chB s.fFiles d L ns k i R := chB_keep
                  have hchn : totR R < totR (passT s.fFiles d L ns k (i + 1) R) → chB s.fFiles d L ns k (i + 1) R = true := fun hx => by unfold chB; exact decide_eq_true hx
                  have hw := hEv.w hv hC2
                  obtain ⟨g1, g2⟩ := hEv.get i h
                  have hPl := hEv.len
                  have hbd := hEv.bd i
                  have hwd := wsum_get wDir d h
                  have hwq : wNodeS d[i].fQuery ≤ wDir d[i] := by unfold wDir; omega
                  have hgrow := fun hin hik hne => hEv.grow h hin hik hne
                  have hsame := fun he => newR_same hEv h he
                  generalize passT s.fFiles d L ns k i R = P at *
                  generalize hP2 : passT s.fFiles d L ns k (i + 1) R = P2 at *
                  have hiP : i < P.length := by omega
                  have hiL : i < L.length := by omega
                  have hg := lv_get L i hiL
                  have hsl := selF_len s.fFiles d[i].fQuery P
                  by_cases hik : lv L i = k
                  · have hkI : ((lv L i : Nat) : Int) = ((k : Nat) : Int) := by omega
                    have hn := hhas i h
                    · rw [if_pos ⟨hik, hn⟩] at hsu
                      by_cases he : selF s.fFiles d[i].fQuery P = idsAt P i
                      · have hE : eqL beqInt (selF s.fFiles d[i].fQuery P) (idsAt P i) = true := by rw [eqL_int]; exact decide_eq_true he
                        have hPP : P2 = P := by rw [hsu, hsame he]
                        repeat' (with_reducible first | refine nY ?_ | (refine mX ?_; try simp only [go_sem, h, hiP, hiL, hg, hkI, g1, g2, hE, hn, decide_true, decide_false]) | refine kO ?_ (by decide) | (refine rS [7] [74] (by simp only [go_sem]; rfl) (by simp only [go_sem]; rfl) (by decide +kernel) ?_ ?_; (focus simp only [go_sem]; done)) | refine st_cons (aX ?_) (uX ?_) | refine st_nil (aX ?_) ?_ | (refine uA ?_; simp only [go_sem, h, hiP, hiL, hg, hkI, g1, g2, hE, hn, decide_true, decide_false]; (repeat' first | omega | refine And.intro ?_ ?_); done) | refine regd (by kernel_rfl) ?_ | (refine cC (containsS_ok ns d[i].fName hns) ?_ ?_; focus simp only [go_sem, and_self]; done) | (refine calr (sel_spec s d[i].fQuery P hs (by omega) hw) ?_ ?_ ?_ (uX ?_); (focus simp only [go_sem, h, hiP, hiL, hg, hkI, g1, g2, hE, hn, decide_true, decide_false]; done); (focus simp only [go_sem, h, hiP, hiL, hg, hkI, g1, g2, hE, hn, decide_true, decide_false]; done); (focus simp only [go_sem, h, hiP, hiL, hg, hkI, g1, g2, hE, hn, decide_true, decide_false]; done)) | (refine cGr (sel_spec s d[i].fQuery P hs (by omega) hw) ?_ ?_ ?_ (uX ?_); (focus simp only [go_sem, h, hiP, hiL, hg, hkI, g1, g2, hE, hn, decide_true, decide_false]; done); (focus simp only [go_sem, h, hiP, hiL, hg, hkI, g1, g2, hE, hn, decide_true, decide_false]; done); (focus simp only [go_sem, h, hiP, hiL, hg, hkI, g1, g2, hE, hn, decide_true, decide_false]; done)) | (refine cale (specInts_ok (selF s.fFiles d[i].fQuery P) (idsAt P i) (by omega)) ?_ ?_ ?_ (uX ?_); (focus simp only [go_sem, h, hiP, hiL, hg, hkI, g1, g2, hE, hn, decide_true, decide_false]; done); (focus simp only [go_sem, h, hiP, hiL, hg, hkI, g1, g2, hE, hn, decide_true, decide_false]; done); (focus simp only [go_sem, h, hiP, hiL, hg, hkI, g1, g2, hE, hn, decide_true, decide_false]; done)) | (refine And.intro ?_ ?_; focus omega))
                        refine L_next (i + 1) ?_ ?_ ?_
                        · simp only [go_sem, hP2, hchk hPP, hPP]; simp
                        · omega
                        · omega
                      · have hE : eqL beqInt (selF s.fFiles d[i].fQuery P) (idsAt P i) = false := by rw [eqL_int]; exact decide_eq_false he
                        have hlt := hgrow hn hik he
                        have hch2 : chB s.fFiles d L ns k (i + 1) R = true := hchn (by
                          rw [hsu]
                          rcases hcs with e | e
                          · rw [← e]; exact hlt
                          · omega)
                        repeat' (with_reducible first | refine nY ?_ | (refine mX ?_; try simp only [go_sem, h, hiP, hiL, hg, hkI, g1, g2, hE, hn, decide_true, decide_false]) | refine kO ?_ (by decide) | (refine rS [7] [74] (by simp only [go_sem]; rfl) (by simp only [go_sem]; rfl) (by decide +kernel) ?_ ?_; (focus simp only [go_sem]; done)) | refine st_cons (aX ?_) (uX ?_) | refine st_nil (aX ?_) ?_ | (refine uA ?_; simp only [go_sem, h, hiP, hiL, hg, hkI, g1, g2, hE, hn, decide_true, decide_false]; (repeat' first | omega | refine And.intro ?_ ?_); done) | refine regd (by kernel_rfl) ?_ | (refine cC (containsS_ok ns d[i].fName hns) ?_ ?_; focus simp only [go_sem, and_self]; done) | (refine calr (sel_spec s d[i].fQuery P hs (by omega) hw) ?_ ?_ ?_ (uX ?_); (focus simp only [go_sem, h, hiP, hiL, hg, hkI, g1, g2, hE, hn, decide_true, decide_false]; done); (focus simp only [go_sem, h, hiP, hiL, hg, hkI, g1, g2, hE, hn, decide_true, decide_false]; done); (focus simp only [go_sem, h, hiP, hiL, hg, hkI, g1, g2, hE, hn, decide_true, decide_false]; done)) | (refine cGr (sel_spec s d[i].fQuery P hs (by omega) hw) ?_ ?_ ?_ (uX ?_); (focus simp only [go_sem, h, hiP, hiL, hg, hkI, g1, g2, hE, hn, decide_true, decide_false]; done); (focus simp only [go_sem, h, hiP, hiL, hg, hkI, g1, g2, hE, hn, decide_true, decide_false]; done); (focus simp only [go_sem, h, hiP, hiL, hg, hkI, g1, g2, hE, hn, decide_true, decide_false]; done)) | (refine cale (specInts_ok (selF s.fFiles d[i].fQuery P) (idsAt P i) (by omega)) ?_ ?_ ?_ (uX ?_); (focus simp only [go_sem, h, hiP, hiL, hg, hkI, g1, g2, hE, hn, decide_true, decide_false]; done); (focus simp only [go_sem, h, hiP, hiL, hg, hkI, g1, g2, hE, hn, decide_true, decide_false]; done); (focus simp only [go_sem, h, hiP, hiL, hg, hkI, g1, g2, hE, hn, decide_true, decide_false]; done)) | (refine And.intro ?_ ?_; focus omega))
                        refine L_next (i + 1) ?_ ?_ ?_
                        · simp only [go_sem, hP2, hch2, hsu, newR, ← setR1]; simp
                        · omega
                        · omega
                  · rw [if_neg (fun h => hik h.1)] at hsu
                    have hkI : ¬ ((lv L i : Nat) : Int) = ((k : Nat) : Int) := by omega
                    repeat' (with_reducible first | refine nY ?_ | (refine mX ?_; try simp only [go_sem, h, hiP, hiL, hg, hkI, decide_true, decide_false]) | refine kO ?_ (by decide) | refine regd (by kernel_rfl) ?_ | (refine And.intro ?_ ?_; focus omega))
                    refine L_next (i + 1) ?_ ?_ ?_
                    · simp only [go_sem, hP2, hchk hsu, hsu]; simp
                    · omega
                    · omega
                · simp only [decide_eq_false_iff_not] at h
                  have e : i = d.length := by omega
                  subst e
                  have hPe := passT_ev hvq hclo d.length R (Nat.le_refl _) hRe
                  have hPt := hPe.tot
                  repeat' (with_reducible first | refine nY ?_ | (refine mX ?_; try simp only [go_sem]) | refine kO ?_ (by decide) | refine regd (by kernel_rfl) ?_ | (refine And.intro ?_ ?_; focus omega))
                  refine L_next (passT s.fFiles d L ns k d.length R, c + 1, chB s.fFiles d L ns k d.length R) ?_ ?_ ?_
                  · simp only [go_sem]; simp
                  · refine ⟨hpass, ?_⟩
                    simp only
                    have hpc := passT_cases hvq hclo d.length R (Nat.le_refl _) hRe
                    cases hcb2 : chB s.fFiles d L ns k d.length R with
                    | false =>
                      have h9 : totR R ≤ totR (passT s.fFiles d L ns k d.length R) := by
                        rcases hpc with e | e
                        · rw [e]; exact Nat.le_refl _
                        · omega
                      simp only [Bool.false_eq_true, if_false]; omega
                    | true =>
                      have := of_decide_eq_true hcb2
                      simp only [if_true]; omega
                  · simp only [if_true]
                    cases hcb3 : chB s.fFiles d L ns k d.length R with
                    | false => simp only [Bool.false_eq_true, if_false]; omega
                    | true =>
                      have := of_decide_eq_true hcb3
                      simp only [if_true]; omega
            · subst hbt
              have hTe := hx.fin rfl
              simp only at hTe
              repeat' (with_reducible first | refine nY ?_ | (refine mX ?_; try simp only [go_sem]) | refine kO ?_ (by decide) | refine regd (by kernel_rfl) ?_ | (refine And.intro ?_ ?_; focus omega))
              refine L_next (k + 1) ?_ ?_ ?_
              · simp only [go_sem, hT, hTe]; simp
              · omega
              · omega
        · simp only [decide_eq_false_iff_not] at hlev
          have hkK : ¬ k < levK d L := fun h => hlev ((levK_iff d L k).2 h)
          have e : k = levK d L := by omega
          subst e
          repeat' (with_reducible first | refine nY ?_ | (refine mX ?_; try simp only [go_sem]) | refine kO ?_ (by decide) | refine regd (by kernel_rfl) ?_ | (refine And.intro ?_ ?_; focus omega))
          exact retK_ret ⟨⟨_, rfl, by simp only [go_sem, e1, e2]; try simp⟩, by simp [notOne]⟩
end Go.Proofs.YtgglopecipbbfaaGreat
