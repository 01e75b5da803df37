/-
  Strata of the reference.
-/
import Derived.Test.YtgglopecipbbfaaGreatQ7Impl
set_option linter.all false
set_option maxRecDepth 100000
set_option maxHeartbeats 4000000
namespace Go.Proofs.YtgglopecipbbfaaGreat
open Go Go.Sx Go.RowKit Go.Proofs

theorem specPosd_ok (q : List TNode) (hq : okQ q = true) (hw : wNodeS q ≤ 4300000) : FnC Tryz.prog 234 [.o (.d (.sl (q.map encNode)))] (.o (.d (.sl ((putL (depsL q false)).map encS)))) := (specPos_ok q hq hw).pu (by simp only [go_sem, and_self])
theorem specNegd_ok (q : List TNode) (hq : okQ q = true) (hw : wNodeS q ≤ 4300000) : FnC Tryz.prog 236 [.o (.d (.sl (q.map encNode)))] (.o (.d (.sl ((putL (depsL q true)).map encS)))) := (specNegD_ok q hq hw).pu (by simp only [go_sem, and_self])
theorem edgesN_take (d : List TDir) (i w : Nat) (names : List ByteArray) (k : Nat) (h : k < names.length) : edgesN d i w (names.take (k + 1)) = edgesN d i w (names.take k) ++ (if 0 ≤ placeD d names[k] then [(i, (placeD d names[k]).toNat, w)] else []) := by
  unfold edgesN
  rw [List.take_succ_eq_append_getElem h, List.flatMap_append]
  simp
theorem edgesN_len (d : List TDir) (i w : Nat) (names : List ByteArray) : (edgesN d i w names).length ≤ names.length := by
  induction names with
  | nil => simp [edgesN]
  | cons x l ih =>
    have e : edgesN d i w (x :: l) = (if 0 ≤ placeD d x then [(i, (placeD d x).toNat, w)] else []) ++ edgesN d i w l := by simp [edgesN]
    rw [e, List.length_append, List.length_cons]
    split <;> simp <;> omega
theorem edgesN_ok (d : List TDir) (i w : Nat) (hi : i < d.length) (hw : w ≤ 1) (names : List ByteArray) (x : Nat × Nat × Nat) (hx : x ∈ edgesN d i w names) : x.1 < d.length ∧ x.2.2 ≤ 1 := by
  obtain ⟨nm, _, k, _, rfl⟩ := (mem_edgesN d i w names x).1 hx
  exact ⟨hi, hw⟩
def edgesK (d : List TDir) (k : Nat) : List (Nat × Nat × Nat) := (List.range k).flatMap (edgesD d)
theorem edgesK_succ (d : List TDir) (k : Nat) : edgesK d (k + 1) = edgesK d k ++ edgesD d k := by
  simp [edgesK, List.range_succ, List.flatMap_append]
theorem edgesD_at (d : List TDir) (i : Nat) (h : i < d.length) : edgesD d i = edgesN d i 0 (putL (depsL d[i].fQuery false)) ++ edgesN d i 1 (putL (depsL d[i].fQuery true)) := by
  unfold edgesD; rw [List.getElem?_eq_getElem h]
theorem edgesD_len (d : List TDir) (hv : okDirs d = true) (i : Nat) : (edgesD d i).length ≤ 18 := by
  unfold edgesD
  cases hx : d[i]? with
  | none => simp
  | some x =>
    have hi := (List.getElem?_eq_some_iff.1 hx).1
    have hxe : d[i] = x := (List.getElem?_eq_some_iff.1 hx).2
    have hq := (okQ_len (okDirs_at hv i hi)).2
    rw [hxe] at hq
    have h1 := edgesN_len d i 0 (putL (depsL x.fQuery false))
    have h2 := edgesN_len d i 1 (putL (depsL x.fQuery true))
    have h3 := putL_len (depsL x.fQuery false)
    have h4 := putL_len (depsL x.fQuery true)
    have h5 : (depsL x.fQuery false).length ≤ x.fQuery.length := depsK_len _ _ _
    have h6 : (depsL x.fQuery true).length ≤ x.fQuery.length := depsK_len _ _ _
    simp only [List.length_append]
    omega
theorem edgesK_len (d : List TDir) (hv : okDirs d = true) (k : Nat) : (edgesK d k).length ≤ 18 * k := by
  induction k with
  | zero => simp [edgesK]
  | succ k ih => rw [edgesK_succ, List.length_append]; have := edgesD_len d hv k; omega
theorem edgesK_ok (d : List TDir) (k : Nat) (x : Nat × Nat × Nat) (hx : x ∈ edgesK d k) : x.1 < d.length ∧ x.2.2 ≤ 1 := by
  unfold edgesK at hx
  obtain ⟨i, _, h⟩ := List.mem_flatMap.1 hx
  unfold edgesD at h
  cases hd : d[i]? with
  | none => rw [hd] at h; simp at h
  | some y =>
    rw [hd] at h
    have hi := (List.getElem?_eq_some_iff.1 hd).1
    simp only [List.mem_append] at h
    rcases h with h | h
    · exact edgesN_ok d i 0 hi (by omega) _ x h
    · exact edgesN_ok d i 1 hi (by omega) _ x h
theorem up1_yes {i p w : Nat} {L : List Nat} (h : lv L p + w > lv L i) : up1 i p w L = L.set i (lv L p + w) := by unfold up1; rw [if_pos h]
theorem up1_no {i p w : Nat} {L : List Nat} (h : ¬ lv L p + w > lv L i) : up1 i p w L = L := by unfold up1; rw [if_neg h]
theorem raise_ok (d : List TDir) (L : List Nat) (hv : okDirs d = true) (hd : wDirS d ≤ 4300000) (hL : L.length = d.length) (hB : ∀ j, lv L j ≤ 1000000) : FnC Tryz.prog 156 [.o (.d (.sl (d.map encDir))), .o (.d (.sl (L.map encN)))] (.o (.w 3 1 ((ups (edgesA d) L).map encN))) := by
  have hd0 : d.length + wsum wDir d ≤ 4300000 := hd
  have hl5 := okDirs_len hv
  refine ent Tryz.func156 rfl Tryz.call156 rfl (fun C => ?_); simp only [go_sem, st0, Tryz.ntmps156]
  repeat' (with_reducible first | refine nY ?_ | (refine mX ?_; try simp only [go_sem]) | refine kO ?_ (by decide) | refine regd (by kernel_rfl) ?_ | (refine And.intro ?_ ?_; focus omega))
  refine WP_lp (α := Nat) (fun i => [(5, .o (.s 0)), (13, .o .u), (15, .o .u), (6, oi i)]) (fun i => [(0, .row 3 1 ((ups (edgesK d i) L).map encN) true)]) (fun i => i ≤ d.length) (fun i => d.length - i) 0 (fun _ => ?_) ?_ ?_ (fun i hi => ?_)
  · simp only [go_sem]
  · simp only [go_sem]; simp [edgesK, ups]
  · simp
  · simp only [go_sem]
    repeat' (with_reducible first | refine nY ?_ | (refine mX ?_; try simp only [go_sem]) | refine kO ?_ (by decide) | refine regd (by kernel_rfl) ?_ | (refine And.intro ?_ ?_; focus omega))
    refine cnd rfl (fun h => ?_) (fun h => ?_)
    · simp only [decide_eq_true_eq, Int.ofNat_lt] at h
      have hq := okDirs_at hv i h
      have hwd := wsum_get wDir d h
      have hwq : wNodeS d[i].fQuery ≤ wDir d[i] := by unfold wDir; omega
      have hsuc := edgesK_succ d i
      rw [edgesD_at d i h] at hsuc
      have hML : (ups (edgesK d i) L).length = d.length := by rw [ups_len]; exact hL
      have hMB := ups_bound (edgesK d i) L 1000000 (fun x hx => by rw [hL]; exact edgesK_ok d i x hx) hB
      have hKl := edgesK_len d hv i
      have hfin : ups (edgesK d (i + 1)) L = ups (edgesN d i 1 (putL (depsL d[i].fQuery true))) (ups (edgesN d i 0 (putL (depsL d[i].fQuery false))) (ups (edgesK d i) L)) := by
        rw [hsuc, ups_app, ups_app]
      have hn1 := putL_len (depsL d[i].fQuery false)
      have hn2 := putL_len (depsL d[i].fQuery true)
      have hn3 : (depsL d[i].fQuery false).length ≤ d[i].fQuery.length := depsK_len _ _ _
      have hn4 : (depsL d[i].fQuery true).length ≤ d[i].fQuery.length := depsK_len _ _ _
      have hq9 := okQ_len hq
      have hMB2 : ∀ j, lv (ups (edgesK d i) L) j ≤ 1000200 := fun j => by have := hMB j; omega
      generalize ups (edgesK d i) L = M at *
      repeat' (with_reducible first | refine nY ?_ | (refine mX ?_; try simp only [go_sem, h]) | refine kO ?_ (by decide) | refine regd (by kernel_rfl) ?_ | (refine cC (specPosd_ok d[i].fQuery hq (by omega)) ?_ ?_; focus simp only [go_sem, and_self]; done) | (refine And.intro ?_ ?_; focus omega))
      generalize putL (depsL d[i].fQuery false) = P at *
      refine WP_lp (α := Nat) (fun k => [(8, oi k)]) (fun k => [(0, .row 3 1 ((ups (edgesN d i 0 (P.take k)) M).map encN) true)]) (fun k => k ≤ P.length) (fun k => P.length - k) 0 (fun _ => ?_) ?_ ?_ (fun k hk => ?_)
      · simp only [go_sem]
      · simp only [go_sem]; simp [edgesN, ups]
      · simp
      · simp only [go_sem]
        repeat' (with_reducible first | refine nY ?_ | (refine mX ?_; try simp only [go_sem]) | refine kO ?_ (by decide) | refine regd (by kernel_rfl) ?_ | (refine And.intro ?_ ?_; focus omega))
        refine cnd rfl (fun h1 => ?_) (fun h1 => ?_)
        · simp only [decide_eq_true_eq, Int.ofNat_lt] at h1
          have ht := edgesN_take d i 0 P k h1
          have hXL : (ups (edgesN d i 0 (P.take k)) M).length = d.length := by rw [ups_len]; exact hML
          have hXB := ups_bound (edgesN d i 0 (P.take k)) M 1000200 (fun x hx => by rw [hML]; exact edgesN_ok d i 0 h (by omega) _ x hx) hMB2
          have hel := edgesN_len d i 0 (P.take k)
          rw [List.length_take] at hel
          have hup : ups (edgesN d i 0 (P.take (k + 1))) M = ups (if 0 ≤ placeD d P[k] then [(i, (placeD d P[k]).toNat, 0)] else []) (ups (edgesN d i 0 (P.take k)) M) := by rw [ht, ups_app]
          generalize ups (edgesN d i 0 (P.take k)) M = X at *
          have hiX : i < X.length := by omega
          have hg := lv_get X i hiX
          rcases placeD_cases d P[k] with hp | ⟨p, hp, hpl⟩
          · rw [if_neg (by omega)] at hup
            repeat' (with_reducible first | refine nY ?_ | (refine mX ?_; try simp only [go_sem, h1, hp, decide_true, decide_false]) | refine kO ?_ (by decide) | refine regd (by kernel_rfl) ?_ | (refine cC (l11Place_ok d P[k] (by omega)) ?_ ?_; focus simp only [go_sem, and_self]; done) | (refine And.intro ?_ ?_; focus omega))
            refine L_next (k + 1) ?_ ?_ ?_
            · simp only [go_sem, hup, ups]; simp
            · omega
            · omega
          · have hpX : p < X.length := by omega
            have hge : (0 : Int) ≤ (p : Int) := by omega
            have hgp := lv_get X p hpX
            rw [if_pos (by omega), hp, Int.toNat_natCast] at hup
            simp only [ups] at hup
            by_cases hc : lv X p > lv X i
            · have hcI : ((lv X i : Nat) : Int) < ((lv X p : Nat) : Int) := by omega
              rw [up1_yes (by omega), Nat.add_zero] at hup
              repeat' (with_reducible first | refine nY ?_ | (refine mX ?_; try simp only [go_sem, h1, hp, hge, hpX, hiX, hg, hgp, hcI, decide_true, decide_false, Int.toNat_natCast]) | refine kO ?_ (by decide) | refine regd (by kernel_rfl) ?_ | (refine cC (l11Place_ok d P[k] (by omega)) ?_ ?_; focus simp only [go_sem, and_self]; done) | (refine And.intro ?_ ?_; focus omega))
              refine L_next (k + 1) ?_ ?_ ?_
              · simp only [go_sem, hup, ← setN1]; simp
              · omega
              · omega
            · have hcI : ¬ ((lv X i : Nat) : Int) < ((lv X p : Nat) : Int) := by omega
              rw [up1_no (by omega)] at hup
              repeat' (with_reducible first | refine nY ?_ | (refine mX ?_; try simp only [go_sem, h1, hp, hge, hpX, hiX, hg, hgp, hcI, decide_true, decide_false, Int.toNat_natCast]) | refine kO ?_ (by decide) | refine regd (by kernel_rfl) ?_ | (refine cC (l11Place_ok d P[k] (by omega)) ?_ ?_; focus simp only [go_sem, and_self]; done) | (refine And.intro ?_ ?_; focus omega))
              refine L_next (k + 1) ?_ ?_ ?_
              · simp only [go_sem, hup]; simp
              · omega
              · omega
        · simp only [decide_eq_false_iff_not] at h1
          have e : k = P.length := by omega
          subst e
          rw [List.take_length]
          have hXL : (ups (edgesN d i 0 P) M).length = d.length := by rw [ups_len]; exact hML
          have hXB := ups_bound (edgesN d i 0 P) M 1000200 (fun x hx => by rw [hML]; exact edgesN_ok d i 0 h (by omega) _ x hx) hMB2
          have hel := edgesN_len d i 0 P
          have hXB2 : ∀ j, lv (ups (edgesN d i 0 P) M) j ≤ 1000400 := fun j => by have := hXB j; omega
          generalize ups (edgesN d i 0 P) M = Y at *
          repeat' (with_reducible first | refine nY ?_ | (refine mX ?_; try simp only [go_sem, h]) | refine kO ?_ (by decide) | refine regd (by kernel_rfl) ?_ | (refine cC (specNegd_ok d[i].fQuery hq (by omega)) ?_ ?_; focus simp only [go_sem, and_self]; done) | (refine And.intro ?_ ?_; focus omega))
          generalize putL (depsL d[i].fQuery true) = N at *
          refine WP_lp (α := Nat) (fun k => [(11, oi k)]) (fun k => [(0, .row 3 1 ((ups (edgesN d i 1 (N.take k)) Y).map encN) true)]) (fun k => k ≤ N.length) (fun k => N.length - k) 0 (fun _ => ?_) ?_ ?_ (fun k hk => ?_)
          · simp only [go_sem]
          · simp only [go_sem]; simp [edgesN, ups]
          · simp
          · simp only [go_sem]
            repeat' (with_reducible first | refine nY ?_ | (refine mX ?_; try simp only [go_sem]) | refine kO ?_ (by decide) | refine regd (by kernel_rfl) ?_ | (refine And.intro ?_ ?_; focus omega))
            refine cnd rfl (fun h1 => ?_) (fun h1 => ?_)
            · simp only [decide_eq_true_eq, Int.ofNat_lt] at h1
              have ht := edgesN_take d i 1 N k h1
              have hZL : (ups (edgesN d i 1 (N.take k)) Y).length = d.length := by rw [ups_len]; exact hXL
              have hZB := ups_bound (edgesN d i 1 (N.take k)) Y 1000400 (fun x hx => by rw [hXL]; exact edgesN_ok d i 1 h (by omega) _ x hx) hXB2
              have hel := edgesN_len d i 1 (N.take k)
              rw [List.length_take] at hel
              have hup : ups (edgesN d i 1 (N.take (k + 1))) Y = ups (if 0 ≤ placeD d N[k] then [(i, (placeD d N[k]).toNat, 1)] else []) (ups (edgesN d i 1 (N.take k)) Y) := by rw [ht, ups_app]
              generalize ups (edgesN d i 1 (N.take k)) Y = X at *
              have hiX : i < X.length := by omega
              have hg := lv_get X i hiX
              rcases placeD_cases d N[k] with hp | ⟨p, hp, hpl⟩
              · rw [if_neg (by omega)] at hup
                repeat' (with_reducible first | refine nY ?_ | (refine mX ?_; try simp only [go_sem, h1, hp, decide_true, decide_false]) | refine kO ?_ (by decide) | refine regd (by kernel_rfl) ?_ | (refine cC (l11Place_ok d N[k] (by omega)) ?_ ?_; focus simp only [go_sem, and_self]; done) | (refine And.intro ?_ ?_; focus omega))
                refine L_next (k + 1) ?_ ?_ ?_
                · simp only [go_sem, hup, ups]; simp
                · omega
                · omega
              · have hpX : p < X.length := by omega
                have hge : (0 : Int) ≤ (p : Int) := by omega
                have hgp := lv_get X p hpX
                have hbp := hZB p
                have hs1 : ((lv X p : Nat) : Int) + 1 = ((lv X p + 1 : Nat) : Int) := by omega
                rw [if_pos (by omega), hp, Int.toNat_natCast] at hup
                simp only [ups] at hup
                by_cases hc : lv X p + 1 > lv X i
                · have hcI : ((lv X i : Nat) : Int) < ((lv X p + 1 : Nat) : Int) := by omega
                  rw [up1_yes hc] at hup
                  repeat' (with_reducible first | refine nY ?_ | (refine mX ?_; try simp only [go_sem, h1, hp, hge, hpX, hiX, hg, hgp, hs1, hcI, decide_true, decide_false, Int.toNat_natCast]) | refine kO ?_ (by decide) | refine regd (by kernel_rfl) ?_ | (refine cC (l11Place_ok d N[k] (by omega)) ?_ ?_; focus simp only [go_sem, and_self]; done) | (refine And.intro ?_ ?_; focus omega))
                  refine L_next (k + 1) ?_ ?_ ?_
                  · simp only [go_sem, hup, ← setN1]; simp
                  · omega
                  · omega
                · have hcI : ¬ ((lv X i : Nat) : Int) < ((lv X p + 1 : Nat) : Int) := by omega
                  rw [up1_no hc] at hup
                  repeat' (with_reducible first | refine nY ?_ | (refine mX ?_; try simp only [go_sem, h1, hp, hge, hpX, hiX, hg, hgp, hs1, hcI, decide_true, decide_false, Int.toNat_natCast]) | refine kO ?_ (by decide) | refine regd (by kernel_rfl) ?_ | (refine cC (l11Place_ok d N[k] (by omega)) ?_ ?_; focus simp only [go_sem, and_self]; done) | (refine And.intro ?_ ?_; focus omega))
                  refine L_next (k + 1) ?_ ?_ ?_
                  · simp only [go_sem, hup]; simp
                  · omega
                  · omega
            · simp only [decide_eq_false_iff_not] at h1
              have e : k = N.length := by omega
              subst e
              rw [List.take_length]
              repeat' (with_reducible first | refine nY ?_ | (refine mX ?_; try simp only [go_sem]) | refine kO ?_ (by decide) | refine regd (by kernel_rfl) ?_ | (refine And.intro ?_ ?_; focus omega))
              refine L_next (i + 1) ?_ ?_ ?_
              · simp only [go_sem, hfin]; simp
              · omega
              · omega
    · simp only [decide_eq_false_iff_not] at h
      have e : i = d.length := by omega
      subst e
      repeat' (with_reducible first | refine nY ?_ | (refine mX ?_; try simp only [go_sem]) | refine kO ?_ (by decide) | refine regd (by kernel_rfl) ?_ | (refine And.intro ?_ ?_; focus omega))
      exact retK_ret ⟨⟨_, rfl, by simp only [go_sem, edgesK, edgesA]⟩, trivial⟩
end Go.Proofs.YtgglopecipbbfaaGreat
