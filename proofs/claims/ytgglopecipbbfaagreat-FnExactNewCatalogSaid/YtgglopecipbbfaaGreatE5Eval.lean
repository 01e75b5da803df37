/-
  evaluated, l15Run, Evaluate.
-/
import Derived.Test.YtgglopecipbbfaaGreatE4Max
import Derived.Test.YtgglopecipbbfaaGreatC8Equal
set_option linter.all false
set_option maxRecDepth 100000
set_option maxHeartbeats 4000000
namespace Go.Proofs.YtgglopecipbbfaaGreat
open Go Go.Sx Go.RowKit Go.Proofs

/-- How many levels there are. -/
def levK (d : List TDir) (L : List Nat) : Nat := (topL L + 1).toNat
noncomputable def evX (s : TStore) (d : List TDir) (r : List TResult) (ns : List ByteArray) : List TResult × Nat := if resB d && okStore s then allE s.fFiles d (resL d) ns (s.fFiles.length + wResultS r) r (levK d (resL d)) else ([], 0)
noncomputable def evB (s : TStore) (d : List TDir) : Bool := resB d && okStore s
theorem resB_yes {d : List TDir} (h : resB d = true) : okDirs d = true ∧ Least d.length (EE d) (resL d) := by
  unfold resB at h
  split at h
  · rename_i hv
    refine ⟨hv, ?_⟩
    unfold strat at h
    split at h
    · rename_i hx
      have hex : ∃ L, Least d.length (EE d) L := by
        have hends := upsN_ends (EE_edges d) (edgesA d) (fun x => Iff.rfl) (d.length * d.length + 2) (by omega)
        simp only at hends
        split at hends
        · exact ⟨_, hends⟩
        · exact (hends hx).elim
      obtain ⟨L, hL⟩ := hex
      have e : resL d = L := by unfold resL; rw [if_pos hv]; exact levs_eq hL
      rw [e]; exact hL
    · cases h
  · cases h
theorem okDirs_name {d : List TDir} (h : okDirs d = true) (i : Nat) (hi : i < d.length) : d[i].fName.size ≤ 6 := by
  unfold okDirs at h
  simp only [Bool.and_eq_true, List.all_eq_true, List.mem_range] at h
  have := h.1 i hi
  unfold okDirAt at this
  rw [List.getElem?_eq_getElem hi] at this
  simp only [Bool.and_eq_true] at this
  have := isText_le this.1
  omega
theorem okStore_len {s : TStore} (h : okStore s = true) : s.fFiles.length ≤ 12 := by
  unfold okStore at h
  simp only [Bool.and_eq_true, decide_eq_true_eq] at h
  omega
theorem wsum_bound {α : Type} (w : α → Nat) (c : Nat) : ∀ l : List α, (∀ i, (h : i < l.length) → w l[i] ≤ c) → wsum w l ≤ l.length * c
  | [], _ => by simp [wsum]
  | x :: l, h => by
    have h0 := h 0 (by simp)
    have h1 := wsum_bound w c l fun i hi => h (i + 1) (by simpa using hi)
    simp only [List.getElem_cons_zero] at h0
    simp only [wsum, List.length_cons, Nat.succ_mul]
    omega
theorem Ev.get {fs : List TFile} {d : List TDir} {L : List Nat} {ns : List ByteArray} {c k : Nat} {R : List TResult} (h : Ev fs d L ns c k R) (i : Nat) (hi : i < d.length) : (R[i]'(by rw [h.len]; exact hi)).fName = d[i].fName ∧ (R[i]'(by rw [h.len]; exact hi)).fIDs = idsAt R i := by
  have hlen := h.len
  have hR : i < R.length := by omega
  refine ⟨?_, ?_⟩
  · have := congrArg (fun l : List ByteArray => l[i]?) h.nm
    simp only [List.getElem?_map] at this
    rw [List.getElem?_eq_getElem hR, List.getElem?_eq_getElem hi] at this
    simpa using this
  · simp [idsAt, List.getD_eq_getElem?_getD, hR]
theorem Ev.w {fs : List TFile} {d : List TDir} {L : List Nat} {ns : List ByteArray} {c k : Nat} {R : List TResult} (h : Ev fs d L ns c k R) (hv : okDirs d = true) (hc : c ≤ 4300012) : wResultS R ≤ 67108864 := by
  have hlen := h.len
  have h5 := okDirs_len hv
  have hb := wsum_bound wResult 4300018 R fun i hi => by
    obtain ⟨e1, e2⟩ := h.get i (by omega)
    have h1 := okDirs_name hv i (by omega)
    have h2 := h.bd i
    unfold wResult
    rw [e1, e2]
    omega
  unfold wResultS
  have : R.length * 4300018 ≤ 5 * 4300018 := Nat.mul_le_mul_right _ (by omega)
  omega
theorem setR1 (R : List TResult) (i : Nat) (nm : ByteArray) (l : List Int) : (R.map encResult).set i [sv nm, .sl (l.map encI)] = (R.set i ⟨nm, l⟩).map encResult := by rw [List.map_set]; rfl
theorem eqL_int (a b : List Int) : eqL beqInt a b = decide (a = b) := by
  induction a generalizing b with
  | nil => cases b <;> simp [eqL]
  | cons x a ih =>
    cases b with
    | nil => simp [eqL]
    | cons y b =>
      simp only [eqL, ih, beqInt]
      by_cases h1 : x = y <;> by_cases h2 : a = b <;> simp [h1, h2]
theorem startR_take (ns : List ByteArray) (r : List TResult) (d : List TDir) (k : Nat) (h : k < d.length) : startR ns r (d.take (k + 1)) = startR ns r (d.take k) ++ [⟨d[k].fName, if hasS ns d[k].fName then [] else resIDs d[k].fName r⟩] := by
  unfold startR; rw [List.take_succ_eq_append_getElem h, List.map_append]; rfl
theorem startR_len (ns : List ByteArray) (r : List TResult) (d : List TDir) (k : Nat) : (startR ns r (d.take k)).length ≤ k := by unfold startR; simp; omega
theorem has_dir (d : List TDir) (k : Nat) (h : k < d.length) : hasS (dirNs d) d[k].fName = true := by
  rw [hasS_mem]
  exact List.mem_map.2 ⟨d[k], List.getElem_mem h, rfl⟩
def chB (fs : List TFile) (d : List TDir) (L : List Nat) (ns : List ByteArray) (k i : Nat) (R : List TResult) : Bool := decide (totR R < totR (passT fs d L ns k i R))
theorem topF_ge (l : List Nat) (m : Int) : m ≤ topF l m := by
  induction l generalizing m with
  | nil => simp [topF]
  | cons x l ih =>
    simp only [topF]
    split
    · have := ih (x : Int); omega
    · exact ih m
theorem topF_le (l : List Nat) (m c : Int) (hm : m ≤ c) (h : ∀ x ∈ l, (x : Int) ≤ c) : topF l m ≤ c := by
  induction l generalizing m with
  | nil => exact hm
  | cons x l ih =>
    simp only [topF]
    refine ih _ ?_ fun y hy => h y (List.mem_cons_of_mem _ hy)
    split
    · exact h x (by simp)
    · exact hm
theorem top_le {d : List TDir} {L : List Nat} (h : Least d.length (EE d) L) : topL L ≤ (d.length : Int) := by
  obtain ⟨G, hG, hs⟩ := clo_small (EE_edges d) h.clo
  refine topF_le L (-1) _ (by omega) fun x hx => ?_
  obtain ⟨i, hi, rfl⟩ := List.mem_iff_getElem.1 hx
  have h1 := h.le G hG i
  have h2 := hs i (by rw [← h.clo.len]; exact hi)
  rw [lv_get L i hi]
  omega
theorem loopE_cnt (fs : List TFile) (d : List TDir) (L : List Nat) (ns : List ByteArray) (k : Nat) : ∀ (F : Nat) (x : List TResult × Nat), (loopE fs d L ns k F x).2 ≤ x.2 + F
  | 0, x => by simp [loopE]
  | F + 1, x => by
    unfold loopE
    split
    · have := loopE_cnt fs d L ns k F (passT fs d L ns k d.length x.1, x.2 + 1)
      simp only at this
      omega
    · simp only; omega
theorem allE_cnt (fs : List TFile) (d : List TDir) (L : List Nat) (ns : List ByteArray) (c : Nat) (r : List TResult) : ∀ k, (allE fs d L ns c r k).2 ≤ k * (d.length * c + 1)
  | 0 => by simp [allE]
  | k + 1 => by
    have h1 := allE_cnt fs d L ns c r k
    have h2 := loopE_cnt fs d L ns k (d.length * c + 1) (allE fs d L ns c r k)
    simp only [allE, Nat.succ_mul]
    omega
theorem levK_iff (d : List TDir) (L : List Nat) (k : Nat) : (k : Int) ≤ topL L ↔ k < levK d L := by
  have : -1 ≤ topL L := topF_ge L (-1)
  unfold levK
  omega
theorem chB_keep {fs : List TFile} {d : List TDir} {L : List Nat} {ns : List ByteArray} {k i : Nat} {R : List TResult} (h : passT fs d L ns k (i + 1) R = passT fs d L ns k i R) : chB fs d L ns k (i + 1) R = chB fs d L ns k i R := by unfold chB; rw [h]
theorem implEv_ok (s : TStore) (d : List TDir) (r : List TResult) (ns : List ByteArray) (hs : wStore s ≤ 4300000) (hd : wDirS d ≤ 4300000) (hr : wResultS r ≤ 4300000) (hns : ns.length ≤ 4300000) : FnC Tryz.prog 89 [gStore s, .o (.d (.sl (d.map encDir))), .o (.d (.sl (r.map encResult))), .o (.d (.sl (ns.map encS)))] (.t [(false, [.w 125 2 ((evX s d r ns).1.map encResult)]), (false, [.d (iv ((evX s d r ns).2 : Nat))]), (false, [.d (bv (evB s d))])]) := by
  have hd0 : d.length + wsum wDir d ≤ 4300000 := hd
  have hs0 : wFieldS s.fSchema + (s.fFiles.length + wsum wFile s.fFiles) ≤ 4300000 := hs
  refine ent Tryz.func89 rfl Tryz.call89 rfl (fun C => ?_); simp only [go_sem, st0, Tryz.ntmps89]
  cases hb : resB d
  · have e1 : evX s d r ns = ([], 0) := by simp [evX, hb]
    have e2 : evB s d = false := by simp [evB, hb]
    repeat' (with_reducible first | refine nY ?_ | (refine mX ?_; try simp only [go_sem, hb]) | refine kO ?_ (by decide) | refine regd (by kernel_rfl) ?_ | (refine cC (implStrata_ok d hd) ?_ ?_; focus simp only [go_sem, and_self]; done) | (refine And.intro ?_ ?_; focus omega))
    exact retK_ret ⟨⟨_, rfl, by simp only [go_sem, e1, e2, List.map_nil]; simp⟩, by simp [notOne]⟩
  cases hst : okStore s
  · have e1 : evX s d r ns = ([], 0) := by simp [evX, hst]
    have e2 : evB s d = false := by simp [evB, hst]
    repeat' (with_reducible first | refine nY ?_ | (refine mX ?_; try simp only [go_sem, hb, hst]) | refine kO ?_ (by decide) | refine regd (by kernel_rfl) ?_ | (refine cC (implStrata_ok d hd) ?_ ?_; focus simp only [go_sem, and_self]; done) | (refine cC (implStore_ok s hs) ?_ ?_; focus simp only [go_sem, and_self]; done) | (refine And.intro ?_ ?_; focus omega))
    exact retK_ret ⟨⟨_, rfl, by simp only [go_sem, e1, e2, List.map_nil]; simp⟩, by simp [notOne]⟩
  obtain ⟨hv, hleast⟩ := resB_yes hb
  have hclo := hleast.clo
  have hvq := fun i (hi : i < d.length) => okDirs_at hv i hi
  have h5 := okDirs_len hv
  have h12 := okStore_len hst
  have hLl := hclo.len
  obtain ⟨CC, hCC⟩ : ∃ c, s.fFiles.length + wResultS r = c := ⟨_, rfl⟩
  have hC2 : CC ≤ 4300012 := by omega
  have e1 : evX s d r ns = allE s.fFiles d (resL d) ns CC r (levK d (resL d)) := by simp [evX, hb, hst, hCC]
  have e2 : evB s d = true := by simp [evB, hb, hst]
  repeat' (with_reducible first | refine nY ?_ | (refine mX ?_; try simp only [go_sem, hb, hst]) | refine kO ?_ (by decide) | refine regd (by kernel_rfl) ?_ | (refine cC (implStrata_ok d hd) ?_ ?_; focus simp only [go_sem, and_self]; done) | (refine cC (implStore_ok s hs) ?_ ?_; focus simp only [go_sem, and_self]; done) | (refine And.intro ?_ ?_; focus omega))
  refine WP_lp (α := Nat) (fun k => [(13, .o (.s 2)), (35, .o .u), (38, oi k)]) (fun k => [(2, .row 125 2 ((startR ns r (d.take k)).map encResult) true)]) (fun k => k ≤ d.length) (fun k => d.length - k) 0 (fun _ => ?_) ?_ ?_ (fun k hk => ?_)
  · simp only [go_sem]
  · simp only [go_sem]; simp [startR]
  · simp
  · simp only [go_sem]
    repeat' (with_reducible first | refine nY ?_ | (refine mX ?_; try simp only [go_sem]) | refine kO ?_ (by decide) | refine regd (by kernel_rfl) ?_ | (refine And.intro ?_ ?_; focus omega))
    refine cnd rfl (fun h => ?_) (fun h => ?_)
    · simp only [decide_eq_true_eq, Int.ofNat_lt] at h
      have hsl := startR_len ns r d k
      have hl1 : (startR ns r (d.take k)).length + 1 ≤ 140737488355328 := by omega
      have hl2 : ((startR ns r (d.take k)).length + 1) * 40 ≤ 140737488355328 := by omega
      have hsu := startR_take ns r d k h
      cases hn : hasS ns d[k].fName
      · rw [hn] at hsu
        repeat' (with_reducible first | refine nY ?_ | (refine mX ?_; try simp only [go_sem, h, hn, hl1, hl2]) | refine kO ?_ (by decide) | refine regd (by kernel_rfl) ?_ | (refine cC (containsS_ok ns d[k].fName hns) ?_ ?_; focus simp only [go_sem, and_self]; done) | (refine cC (implResIDs_ok r d[k].fName (by omega)) ?_ ?_; focus simp only [go_sem, and_self]; done) | (refine And.intro ?_ ?_; focus omega))
        refine L_next (k + 1) ?_ ?_ ?_
        · simp only [go_sem, hsu, List.map_append]; simp [encResult]
        · omega
        · omega
      · rw [hn] at hsu
        repeat' (with_reducible first | refine nY ?_ | (refine mX ?_; try simp only [go_sem, h, hn, hl1, hl2]) | refine kO ?_ (by decide) | refine regd (by kernel_rfl) ?_ | (refine cC (containsS_ok ns d[k].fName hns) ?_ ?_; focus simp only [go_sem, and_self]; done) | (refine And.intro ?_ ?_; focus omega))
        refine L_next (k + 1) ?_ ?_ ?_
        · simp only [go_sem, hsu, List.map_append]; simp [encResult]
        · omega
        · omega
    · simp only [decide_eq_false_iff_not] at h
      have e : k = d.length := by omega
      subst e
      rw [List.take_length]
      generalize hL : resL d = L at *
      repeat' (with_reducible first | refine nY ?_ | (refine mX ?_; try simp only [go_sem]) | refine kO ?_ (by decide) | refine regd (by kernel_rfl) ?_ | (refine And.intro ?_ ?_; focus omega))
      refine WP_lp (α := Nat) (fun k => [(17, oi ((allE s.fFiles d L ns CC r k).2 : Nat)), (18, oi k)]) (fun k => [(2, .row 125 2 ((allE s.fFiles d L ns CC r k).1.map encResult) true)]) (fun k => k ≤ levK d L) (fun k => levK d L - k) 0 (fun _ => ?_) ?_ ?_ (fun k hk => ?_)
      · simp only [go_sem]
      · simp only [go_sem]; simp [allE]
      · simp
      · simp only [go_sem]
        repeat' (with_reducible first | refine nY ?_ | (refine mX ?_; try simp only [go_sem, hL]) | refine kO ?_ (by decide) | refine regd (by kernel_rfl) ?_ | (refine cC (implTop_ok d hd (by rw [hL]; omega)) ?_ ?_; focus simp only [go_sem, and_self]; done) | (refine And.intro ?_ ?_; focus omega))
        refine cnd rfl (fun hlev => ?_) (fun hlev => ?_)
        · simp only [decide_eq_true_eq] at hlev
          have hkK := (levK_iff d L k).1 hlev
          have hev := allE_ev (fs := s.fFiles) (ns := ns) (r := r) hvq hclo k
          rw [hCC] at hev
          have htop := top_le hleast
          have hcnt := allE_cnt s.fFiles d L ns CC r k
          have hnm : d.length * CC ≤ 5 * 4300012 := Nat.mul_le_mul h5 hC2
          have hcnt2 : k * (d.length * CC + 1) ≤ 5 * 21500061 := Nat.mul_le_mul (by omega) (by omega)
          have hround : Round s.fFiles d L ns CC k (allE s.fFiles d L ns CC r (k + 1)) ((allE s.fFiles d L ns CC r k).1, (allE s.fFiles d L ns CC r k).2, true) := Round.start hev
          generalize hT : allE s.fFiles d L ns CC r (k + 1) = T at *
          generalize allE s.fFiles d L ns CC r k = X at *
          repeat' (with_reducible first | refine nY ?_ | (refine mX ?_; try simp only [go_sem]) | refine kO ?_ (by decide) | refine regd (by kernel_rfl) ?_ | (refine And.intro ?_ ?_; focus omega))
          refine WP_lp (α := List TResult × Nat × Bool) (fun x => [(17, oi (x.2.1 : Nat)), (19, ob x.2.2)]) (fun x => [(2, .row 125 2 (x.1.map encResult) true)]) (fun x => Round s.fFiles d L ns CC k T (x.1, x.2.1, x.2.2) ∧ x.2.1 ≤ X.2 + totR x.1 + (if x.2.2 then 0 else 1)) (fun x => if x.2.2 then d.length * CC + 1 - totR x.1 else 0) (X.1, X.2, true) (fun _ => ?_) ?_ ?_ (fun x hx => ?_)
          · simp only [go_sem]
          · simp only [go_sem]; simp
          · exact ⟨hround, by simp⟩
          · obtain ⟨R, c, b⟩ := x
            obtain ⟨hx, hcb⟩ := hx
            simp only at hcb
            simp only [go_sem]
            repeat' (with_reducible first | refine nY ?_ | (refine mX ?_; try simp only [go_sem]) | refine kO ?_ (by decide) | refine regd (by kernel_rfl) ?_ | (refine And.intro ?_ ?_; focus omega))
            refine cnd rfl (fun hbt => ?_) (fun hbt => ?_)
            · subst hbt
              have hRe : Ev s.fFiles d L ns CC k R := hx.ev
              have hRt := hRe.tot
              simp only [if_true, Nat.add_zero] at hcb
              have hcI : c ≤ 1000000000 := by omega
              have hpass := hx.pass hvq hclo
              repeat' (with_reducible first | refine nY ?_ | (refine mX ?_; try simp only [go_sem]) | refine kO ?_ (by decide) | refine regd (by kernel_rfl) ?_ | (refine And.intro ?_ ?_; focus omega))
              refine WP_lp (α := Nat) (fun i => [(19, ob (chB s.fFiles d L ns k i R)), (71, oi i)]) (fun i => [(2, .row 125 2 ((passT s.fFiles d L ns k i R).map encResult) true)]) (fun i => i ≤ d.length) (fun i => d.length - i) 0 (fun _ => ?_) ?_ ?_ (fun i hi => ?_)
              · simp only [go_sem]
              · simp only [go_sem]; simp [chB, passT]
              · simp
              · simp only [go_sem]
                repeat' (with_reducible first | refine nY ?_ | (refine mX ?_; try simp only [go_sem]) | refine kO ?_ (by decide) | refine regd (by kernel_rfl) ?_ | (refine And.intro ?_ ?_; focus omega))
                refine cnd rfl (fun h => ?_) (fun h => ?_)
                · simp only [decide_eq_true_eq, Int.ofNat_lt] at h
                  have hEv := passT_ev hvq hclo i R (by omega) hRe
                  have hcs := passT_cases hvq hclo i R (by omega) hRe
                  have hsu := passT_succ s.fFiles d L ns k i R h
                  have hchk : passT s.fFiles d L ns k (i + 1) R = passT s.fFiles d L ns k i R → chB s.fFiles d L ns k (i + 1) R = chB s.fFiles d L ns k i R := chB_keep
                  have hchn : totR R < totR (passT s.fFiles d L ns k (i + 1) R) → chB s.fFiles d L ns k (i + 1) R = true := fun hx => by unfold chB; exact decide_eq_true hx
                  have hw := hEv.w hv hC2
                  obtain ⟨g1, g2⟩ := hEv.get i h
                  have hPl := hEv.len
                  have hbd := hEv.bd i
                  have hwd := wsum_get wDir d h
                  have hwq : wNodeS d[i].fQuery ≤ wDir d[i] := by unfold wDir; omega
                  have hgrow := fun hin hik hne => hEv.grow h hin hik hne
                  have hsame := fun he => newR_same hEv h he
                  generalize passT s.fFiles d L ns k i R = P at *
                  generalize hP2 : passT s.fFiles d L ns k (i + 1) R = P2 at *
                  have hiP : i < P.length := by omega
                  have hiL : i < L.length := by omega
                  have hg := lv_get L i hiL
                  have hsl := selF_len s.fFiles d[i].fQuery P
                  by_cases hik : lv L i = k
                  · have hkI : ((lv L i : Nat) : Int) = ((k : Nat) : Int) := by omega
                    cases hn : hasS ns d[i].fName
                    · rw [if_neg (fun h => by rw [hn] at h; cases h.2)] at hsu
                      repeat' (with_reducible first | refine nY ?_ | (refine mX ?_; try simp only [go_sem, h, hiP, hiL, hg, hkI, hn, decide_true, decide_false]) | refine kO ?_ (by decide) | refine regd (by kernel_rfl) ?_ | (refine cC (containsS_ok ns d[i].fName hns) ?_ ?_; focus simp only [go_sem, and_self]; done) | (refine And.intro ?_ ?_; focus omega))
                      refine L_next (i + 1) ?_ ?_ ?_
                      · simp only [go_sem, hP2, hchk hsu, hsu]; simp
                      · omega
                      · omega
                    · rw [if_pos ⟨hik, hn⟩] at hsu
                      by_cases he : selF s.fFiles d[i].fQuery P = idsAt P i
                      · have hE : eqL beqInt (selF s.fFiles d[i].fQuery P) (idsAt P i) = true := by rw [eqL_int]; exact decide_eq_true he
                        have hPP : P2 = P := by rw [hsu, hsame he]
                        repeat' (with_reducible first | refine nY ?_ | (refine mX ?_; try simp only [go_sem, h, hiP, hiL, hg, hkI, g1, g2, hE, hn, decide_true, decide_false]) | refine kO ?_ (by decide) | refine regd (by kernel_rfl) ?_ | (refine cC (containsS_ok ns d[i].fName hns) ?_ ?_; focus simp only [go_sem, and_self]; done) | (refine calr (sel_impl s d[i].fQuery P hs (by omega) hw) ?_ ?_ ?_ (uX ?_); (focus simp only [go_sem, h, hiP, hiL, hg, hkI, g1, g2, hE, hn, decide_true, decide_false]; done); (focus simp only [go_sem, h, hiP, hiL, hg, hkI, g1, g2, hE, hn, decide_true, decide_false]; done); (focus simp only [go_sem, h, hiP, hiL, hg, hkI, g1, g2, hE, hn, decide_true, decide_false]; done)) | (refine cDr (sel_impl s d[i].fQuery P hs (by omega) hw) ?_ ?_ ?_ (uX ?_); (focus simp only [go_sem, h, hiP, hiL, hg, hkI, g1, g2, hE, hn, decide_true, decide_false]; done); (focus simp only [go_sem, h, hiP, hiL, hg, hkI, g1, g2, hE, hn, decide_true, decide_false]; done); (focus simp only [go_sem, h, hiP, hiL, hg, hkI, g1, g2, hE, hn, decide_true, decide_false]; done)) | (refine cale (implIntsEq_ok (selF s.fFiles d[i].fQuery P) (idsAt P i) (by omega)) ?_ ?_ ?_ (uX ?_); (focus simp only [go_sem, h, hiP, hiL, hg, hkI, g1, g2, hE, hn, decide_true, decide_false]; done); (focus simp only [go_sem, h, hiP, hiL, hg, hkI, g1, g2, hE, hn, decide_true, decide_false]; done); (focus simp only [go_sem, h, hiP, hiL, hg, hkI, g1, g2, hE, hn, decide_true, decide_false]; done)) | (refine And.intro ?_ ?_; focus omega))
                        refine L_next (i + 1) ?_ ?_ ?_
                        · simp only [go_sem, hP2, hchk hPP, hPP]; simp
                        · omega
                        · omega
                      · have hE : eqL beqInt (selF s.fFiles d[i].fQuery P) (idsAt P i) = false := by rw [eqL_int]; exact decide_eq_false he
                        have hlt := hgrow hn hik he
                        have hch2 : chB s.fFiles d L ns k (i + 1) R = true := hchn (by
                          rw [hsu]
                          rcases hcs with e | e
                          · rw [← e]; exact hlt
                          · omega)
                        repeat' (with_reducible first | refine nY ?_ | (refine mX ?_; try simp only [go_sem, h, hiP, hiL, hg, hkI, g1, g2, hE, hn, decide_true, decide_false]) | refine kO ?_ (by decide) | refine regd (by kernel_rfl) ?_ | (refine cC (containsS_ok ns d[i].fName hns) ?_ ?_; focus simp only [go_sem, and_self]; done) | (refine calr (sel_impl s d[i].fQuery P hs (by omega) hw) ?_ ?_ ?_ (uX ?_); (focus simp only [go_sem, h, hiP, hiL, hg, hkI, g1, g2, hE, hn, decide_true, decide_false]; done); (focus simp only [go_sem, h, hiP, hiL, hg, hkI, g1, g2, hE, hn, decide_true, decide_false]; done); (focus simp only [go_sem, h, hiP, hiL, hg, hkI, g1, g2, hE, hn, decide_true, decide_false]; done)) | (refine cDr (sel_impl s d[i].fQuery P hs (by omega) hw) ?_ ?_ ?_ (uX ?_); (focus simp only [go_sem, h, hiP, hiL, hg, hkI, g1, g2, hE, hn, decide_true, decide_false]; done); (focus simp only [go_sem, h, hiP, hiL, hg, hkI, g1, g2, hE, hn, decide_true, decide_false]; done); (focus simp only [go_sem, h, hiP, hiL, hg, hkI, g1, g2, hE, hn, decide_true, decide_false]; done)) | (refine cale (implIntsEq_ok (selF s.fFiles d[i].fQuery P) (idsAt P i) (by omega)) ?_ ?_ ?_ (uX ?_); (focus simp only [go_sem, h, hiP, hiL, hg, hkI, g1, g2, hE, hn, decide_true, decide_false]; done); (focus simp only [go_sem, h, hiP, hiL, hg, hkI, g1, g2, hE, hn, decide_true, decide_false]; done); (focus simp only [go_sem, h, hiP, hiL, hg, hkI, g1, g2, hE, hn, decide_true, decide_false]; done)) | (refine And.intro ?_ ?_; focus omega))
                        refine L_next (i + 1) ?_ ?_ ?_
                        · simp only [go_sem, hP2, hch2, hsu, newR, ← setR1]; simp
                        · omega
                        · omega
                  · rw [if_neg (fun h => hik h.1)] at hsu
                    have hkI : ¬ ((lv L i : Nat) : Int) = ((k : Nat) : Int) := by omega
                    repeat' (with_reducible first | refine nY ?_ | (refine mX ?_; try simp only [go_sem, h, hiP, hiL, hg, hkI, decide_true, decide_false]) | refine kO ?_ (by decide) | refine regd (by kernel_rfl) ?_ | (refine And.intro ?_ ?_; focus omega))
                    refine L_next (i + 1) ?_ ?_ ?_
                    · simp only [go_sem, hP2, hchk hsu, hsu]; simp
                    · omega
                    · omega
                · simp only [decide_eq_false_iff_not] at h
                  have e : i = d.length := by omega
                  subst e
                  have hPe := passT_ev hvq hclo d.length R (Nat.le_refl _) hRe
                  have hPt := hPe.tot
                  repeat' (with_reducible first | refine nY ?_ | (refine mX ?_; try simp only [go_sem]) | refine kO ?_ (by decide) | refine regd (by kernel_rfl) ?_ | (refine And.intro ?_ ?_; focus omega))
                  refine L_next (passT s.fFiles d L ns k d.length R, c + 1, chB s.fFiles d L ns k d.length R) ?_ ?_ ?_
                  · simp only [go_sem]; simp
                  · refine ⟨hpass, ?_⟩
                    simp only
                    have hpc := passT_cases hvq hclo d.length R (Nat.le_refl _) hRe
                    cases hcb2 : chB s.fFiles d L ns k d.length R with
                    | false =>
                      have h9 : totR R ≤ totR (passT s.fFiles d L ns k d.length R) := by
                        rcases hpc with e | e
                        · rw [e]; exact Nat.le_refl _
                        · omega
                      simp only [Bool.false_eq_true, if_false]; omega
                    | true =>
                      have := of_decide_eq_true hcb2
                      simp only [if_true]; omega
                  · simp only [if_true]
                    cases hcb3 : chB s.fFiles d L ns k d.length R with
                    | false => simp only [Bool.false_eq_true, if_false]; omega
                    | true =>
                      have := of_decide_eq_true hcb3
                      simp only [if_true]; omega
            · subst hbt
              have hTe := hx.fin rfl
              simp only at hTe
              repeat' (with_reducible first | refine nY ?_ | (refine mX ?_; try simp only [go_sem]) | refine kO ?_ (by decide) | refine regd (by kernel_rfl) ?_ | (refine And.intro ?_ ?_; focus omega))
              refine L_next (k + 1) ?_ ?_ ?_
              · simp only [go_sem, hT, hTe]; simp
              · omega
              · omega
        · simp only [decide_eq_false_iff_not] at hlev
          have hkK : ¬ k < levK d L := fun h => hlev ((levK_iff d L k).2 h)
          have e : k = levK d L := by omega
          subst e
          repeat' (with_reducible first | refine nY ?_ | (refine mX ?_; try simp only [go_sem]) | refine kO ?_ (by decide) | refine regd (by kernel_rfl) ?_ | (refine And.intro ?_ ?_; focus omega))
          exact retK_ret ⟨⟨_, rfl, by simp only [go_sem, e1, e2]; try simp⟩, by simp [notOne]⟩
end Go.Proofs.YtgglopecipbbfaaGreat
