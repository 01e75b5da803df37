/- Joined texts. -/
import Derived.Test.YteaaopodnbjpoaaGreatZ12
import Derived.Test.YteaaopodnbjpoaaGreatZ07
import Derived.Test.YteaaopodnbjpoaaGreatZ08
import Derived.Test.YteaaopodnbjpoaaGreatZ09
set_option linter.all false
section
set_option maxRecDepth 100000
set_option maxHeartbeats 4000000
namespace Go.Proofs.YteaaopodnbjpoaaGreat
open Go Go.Sx Go.RowKit Go.Proofs
theorem kX {d : List TDir} (h : bF d = true) (i : Nat) (hi : i < d.length) : okQ d[i].fQuery = true := by
 unfold bF at h
 simp only [Bool.and_eq_true, List.all_eq_true, List.mem_range] at h
 have := h.1 i hi
 unfold jB at this
 rw [List.getElem?_eq_getElem hi] at this
 simp only [Bool.and_eq_true] at this
 exact this.2.2
theorem jO {d : List TDir} (h : bF d = true) : d.length ≤ 5 := by
 unfold bF at h
 simp only [Bool.and_eq_true, decide_eq_true_eq] at h
 omega
theorem a7G (q : List TNode) (hq : okQ q = true) (hw : bS q ≤ 4300000) : FnC Tryz.prog 271 [.o (.d (.sl (q.map bD)))] (.o (.d (.sl ((eF (dG q false)).map bU)))) := (a9n q hq hw).pu (by simp only [go_sem, and_self])
theorem a7H (q : List TNode) (hq : okQ q = true) (hw : bS q ≤ 4300000) : FnC Tryz.prog 272 [.o (.d (.sl (q.map bD)))] (.o (.d (.sl ((eF (dG q true)).map bU)))) := (a7K q hq hw).pu (by simp only [go_sem, and_self])
theorem a4X (d : List TDir) (L : List Nat) (names : List ByteArray) (hd : d.length ≤ 4300000) (hL : L.length = d.length) (hn : names.length ≤ 4300000) (hB : ∀ j, lv L j ≤ 1000000) : FnC Tryz.prog 270 [.o (.d (.sl (d.map aL))), .o (.d (.sl (L.map rZ))), .o (.d (.sl (names.map bU))), oi 0] (oi (abv d L 0 names 0 : Nat)) := a7I d L 0 names hd hL hn hB (by omega)
theorem a4Y (d : List TDir) (L : List Nat) (names : List ByteArray) (hd : d.length ≤ 4300000) (hL : L.length = d.length) (hn : names.length ≤ 4300000) (hB : ∀ j, lv L j ≤ 1000000) : FnC Tryz.prog 270 [.o (.d (.sl (d.map aL))), .o (.d (.sl (L.map rZ))), .o (.d (.sl (names.map bU))), oi 1] (oi (abv d L 1 names 0 : Nat)) := a7I d L 1 names hd hL hn hB (by omega)
noncomputable def resL (d : List TDir) : List Nat := if bF d then a9s d.length (EE d) else []
noncomputable def kR (d : List TDir) : Bool := if bF d then a1G d.length (EE d) else false
theorem b3r (L : List Nat) (i v : Nat) : (L.map rZ).set i [D.v (Value.int .i64 (v : Int))] = (L.set i v).map rZ := by rw [List.map_set]; rfl
structure Pass (d : List TDir) (L : List Nat) (i : Nat) (M : List Nat) (ch : Bool) : Prop where
 low : Low d M
 no : ch = false → M = L ∧ ∀ j, (hj : j < d.length) → j < i → iA d L d[j] ≤ lv L j
 yes : ch = true → uH L < uH M
theorem Pass.start {d : List TDir} {L : List Nat} (h : Low d L) : Pass d L 0 L false := ⟨h, fun _ => ⟨rfl, fun j _ hj => by omega⟩, fun h => by cases h⟩
theorem Pass.keep {d : List TDir} {L M : List Nat} {i : Nat} {ch : Bool} (h : Pass d L i M ch) (hi : i < d.length) (hle : ¬ iA d M d[i] > lv M i) : Pass d L (i + 1) M ch := by
 refine ⟨h.low, fun hc => ⟨(h.no hc).1, fun j hj hlt => ?_⟩, h.yes⟩
 by_cases e : j = i
 ·subst e
  have := (h.no hc).1
  subst this
  omega
 ·exact (h.no hc).2 j hj (by omega)
theorem Pass.set {d : List TDir} {L M : List Nat} {i : Nat} {ch : Bool} (h : Pass d L i M ch) (hi : i < d.length) (ho : ¬ iA d M d[i] > d.length) (hgt : iA d M d[i] > lv M i) : Pass d L (i + 1) (M.set i (iA d M d[i])) true := by
 have hl : i < M.length := by rw [h.low.len]; exact hi
 have hs := a7R M i (iA d M d[i]) hl
 refine ⟨h.low.set hi ho, fun hc => (by cases hc), fun _ => ?_⟩
 cases ch with
 | false =>
  have := (h.no rfl).1
  subst this
  omega
 | true =>
  have := h.yes rfl
  omega
theorem iE (d : List TDir) (hd : aU d ≤ 4300000) : FnC Tryz.prog 224 [.o (.d (.sl (d.map aL)))] (.t [(false, [.w 3 1 ((resL d).map rZ)]), (false, [.d (bv (kR d))])]) := by
 have hd0 : d.length + wsum wDir d ≤ 4300000 := hd
 refine ent Tryz.func224 rfl Tryz.call224 rfl (fun C => ?_); simp only [go_sem, st0, Tryz.ntmps224]
 cases hv : bF d
 ·have e1 : resL d = [] := by simp [resL, hv]
  have e2 : kR d = false := by simp [kR, hv]
  have q0 := @hv; refine fC (fV d hd) ?_
  exact aA ⟨⟨_, rfl, by simp only [go_sem, e1, e2]⟩, by simp [aH]⟩
 have e1 : resL d = a9s d.length (EE d) := by simp [resL, hv]
 have e2 : kR d = a1G d.length (EE d) := by simp [kR, hv]
 have hl5 := jO hv
 have q0 := @hv; refine fC (fV d hd) ?_
 refine aQ (α := List Nat × Bool) (fun x => [(5, ob x.2)]) (fun x => [(0, .row 3 1 (x.1.map rZ) true)]) (fun x => Low d x.1 ∧ (x.2 = false → ∀ i, (hi : i < d.length) → iA d x.1 d[i] ≤ lv x.1 i)) (fun x => if x.2 then d.length * d.length - uH x.1 + 1 else 0) (List.replicate d.length 0, true) (fun _ => ?_) ?_ ?_ (fun x hx => ?_)
 ·simp only [go_sem]
 ·simp only [go_sem]; simp [rZ]
 ·exact ⟨Low.start d, fun h => by cases h⟩
 ·obtain ⟨L, ch⟩ := x
  obtain ⟨hlow, hdone⟩ := hx
  simp only at hlow hdone
  simp only [go_sem]
  refine aG ?_
  refine cnd rfl (fun h => ?_) (fun h => ?_)
  ·subst h
   refine aG ?_
   refine aQ (α := Nat × List Nat × Bool) (fun x => [(5, ob x.2.2), (18, oi x.1)]) (fun x => [(0, .row 3 1 (x.2.1.map rZ) true)]) (fun x => x.1 ≤ d.length ∧ Pass d L x.1 x.2.1 x.2.2) (fun x => d.length - x.1) (0, L, false) (fun _ => ?_) ?_ ?_ (fun x hx => ?_)
   ·simp only [go_sem]
   ·simp only [go_sem]; simp
   ·exact ⟨by simp, Pass.start hlow⟩
   ·obtain ⟨i, M, c⟩ := x
    obtain ⟨hi, hp⟩ := hx
    simp only at hi hp
    simp only [go_sem]
    refine aG ?_
    refine cnd rfl (fun h => ?_) (fun h => ?_)
    ·simp only [decide_eq_true_eq, Int.ofNat_lt] at h
     have hq := kX hv i h
     have hq9 := mO hq
     have hwd := bB wDir d h
     have hwq : bS d[i].fQuery ≤ wDir d[i] := by unfold wDir; omega
     have hML : M.length = d.length := hp.low.len
     have hiM : i < M.length := by omega
     have hB : ∀ j, lv M j ≤ 1000000 := fun j => by have := hp.low.small j; omega
     have ho1 := sI (dG d[i].fQuery false)
     have ho2 := sI (dG d[i].fQuery true)
     have ho3 := jY d[i].fQuery false d[i].fQuery.length
     have ho4 := jY d[i].fQuery true d[i].fQuery.length
     have hk1 : (eF (dG d[i].fQuery false)).length ≤ 4300000 := by unfold dG at ho1 ⊢; omega
     have hk2 : (eF (dG d[i].fQuery true)).length ≤ 4300000 := by unfold dG at ho2 ⊢; omega
     have hmx : mxI (abv d M 0 (eF (dG d[i].fQuery false)) 0 : Nat) (abv d M 1 (eF (dG d[i].fQuery true)) 0 : Nat) = ((iA d M d[i] : Nat) : Int) := by
      rw [b0n]; rfl
     have hg := qJ M i hiM
     have qH := aI @h @hmx; repeat' (with_reducible first | refine nY ?_ | (refine mX ?_; try simp only [go_sem, qH]) | refine kD ?_ | refine rD ?_ | refine cP (a7G d[i].fQuery hq (by omega)) ?_ | refine cP (a7H d[i].fQuery hq (by omega)) ?_ | refine vO (a4X d M (eF (dG d[i].fQuery false)) (by omega) hML hk1 hB) ?_ | refine vQ (a4X d M (eF (dG d[i].fQuery false)) (by omega) hML hk1 hB) ?_ | refine vO (a4Y d M (eF (dG d[i].fQuery true)) (by omega) hML hk2 hB) ?_ | refine vQ (a4Y d M (eF (dG d[i].fQuery true)) (by omega) hML hk2 hB) ?_ | refine aO ?_ | fail)
     refine cnd rfl (fun ho => ?_) (fun ho => ?_)
     ·simp only [decide_eq_true_eq, Int.ofNat_lt] at ho
      have hno := hp.low.over h ho
      have f1 := a6n hno
      have f2 := a7Q hno
      refine aG ?_
      exact aA ⟨⟨_, rfl, by simp only [go_sem, e1, e2, f1, f2]⟩, by simp [aH]⟩
     ·simp only [decide_eq_false_iff_not, Int.ofNat_lt] at ho
      have q0 := @h; have q1 := @hiM; have q2 := @hg; refine lL ?_
      refine cnd rfl (fun hgt => ?_) (fun hgt => ?_)
      ·simp only [decide_eq_true_eq, Int.ofNat_lt] at hgt
       have q0 := @h; have q1 := @hiM; have q2 := @hg; refine lL ?_
       refine aF (i + 1, M.set i (iA d M d[i]), true) ?_ ?_ ?_
       ·simp only [go_sem, ← b3r]; simp
       ·exact ⟨by simp only; omega, hp.set h ho hgt⟩
       ·simp only; omega
      ·simp only [decide_eq_false_iff_not, Int.ofNat_lt] at hgt
       have q0 := @h; have q1 := @hiM; have q2 := @hg; refine lL ?_
       refine aF (i + 1, M, c) ?_ ?_ ?_
       ·simp only [go_sem]; simp
       ·exact ⟨by simp only; omega, hp.keep h hgt⟩
       ·simp only; omega
    ·simp only [decide_eq_false_iff_not] at h
     have e : i = d.length := by omega
     subst e
     refine aG ?_
     refine aF (M, c) ?_ ?_ ?_
     ·simp only [go_sem]; simp
     ·exact ⟨hp.low, fun hc i hi => by
       simp only at hc
       obtain ⟨h1, h2⟩ := hp.no hc
       subst h1
       exact h2 i hi hi⟩
     ·have hs := hp.low.sum
      simp only
      cases c with
      | false => simp
      | true =>
       have := hp.yes rfl
       simp only [if_true]
       omega
  ·subst h
   have hL := hlow.done (hdone rfl)
   have f1 := a6m hL
   have f2 := xD hL.clo
   refine aG ?_
   exact aA ⟨⟨_, rfl, by simp only [go_sem, e1, e2, f1, f2]⟩, by simp [aH]⟩
theorem jG (d : List TDir) (hd : aU d ≤ 4300000) : FnC Tryz.prog 183 [.o (.d (.sl (d.map aL)))] (ob (kR d)) := by
 refine ent Tryz.func183 rfl Tryz.call183 rfl (fun C => ?_); simp only [go_sem, st0, Tryz.ntmps183]
 refine fQ (iE d hd) ?_
 exact aA ⟨⟨_, rfl, by simp only [go_sem]⟩, trivial⟩
end Go.Proofs.YteaaopodnbjpoaaGreat
end
section
set_option maxRecDepth 100000
set_option maxHeartbeats 4000000
namespace Go.Proofs.YteaaopodnbjpoaaGreat
open Go Go.Sx Go.RowKit Go.Proofs
theorem a7E (q : List TNode) (hq : okQ q = true) (hw : bS q ≤ 4300000) : FnC Tryz.prog 300 [.o (.d (.sl (q.map bD)))] (.o (.d (.sl ((putL (dG q false)).map bU)))) := (a9o q hq hw).pu (by simp only [go_sem, and_self])
theorem a7F (q : List TNode) (hq : okQ q = true) (hw : bS q ≤ 4300000) : FnC Tryz.prog 301 [.o (.d (.sl (q.map bD)))] (.o (.d (.sl ((putL (dG q true)).map bU)))) := (a7L q hq hw).pu (by simp only [go_sem, and_self])
theorem a1C (d : List TDir) (i w : Nat) (names : List ByteArray) (k : Nat) (h : k < names.length) : dV d i w (names.take (k + 1)) = dV d i w (names.take k) ++ (if 0 ≤ placeD d names[k] then [(i, (placeD d names[k]).toNat, w)] else []) := by
 unfold dV
 rw [List.take_succ_eq_append_getElem h, List.flatMap_append]
 simp
theorem oQ (d : List TDir) (i w : Nat) (names : List ByteArray) : (dV d i w names).length ≤ names.length := by
 induction names with
 | nil => simp [dV]
 | cons x l ih =>
  have e : dV d i w (x :: l) = (if 0 ≤ placeD d x then [(i, (placeD d x).toNat, w)] else []) ++ dV d i w l := by simp [dV]
  rw [e, List.length_append, List.length_cons]
  split <;> simp <;> omega
theorem rY (d : List TDir) (i w : Nat) (hi : i < d.length) (hw : w ≤ 1) (names : List ByteArray) (x : Nat × Nat × Nat) (hx : x ∈ dV d i w names) : x.1 < d.length ∧ x.2.2 ≤ 1 := by
 obtain ⟨nm, _, k, _, rfl⟩ := (yS d i w names x).1 hx
 exact ⟨hi, hw⟩
def jN (d : List TDir) (k : Nat) : List (Nat × Nat × Nat) := (List.range k).flatMap (qK d)
theorem a1D (d : List TDir) (k : Nat) : jN d (k + 1) = jN d k ++ qK d k := by
 simp [jN, List.range_succ, List.flatMap_append]
theorem b1C (d : List TDir) (i : Nat) (h : i < d.length) : qK d i = dV d i 0 (putL (dG d[i].fQuery false)) ++ dV d i 1 (putL (dG d[i].fQuery true)) := by
 unfold qK; rw [List.getElem?_eq_getElem h]
theorem a9l (d : List TDir) (hv : bF d = true) (i : Nat) : (qK d i).length ≤ 18 := by
 unfold qK
 cases hx : d[i]? with
 | none => simp
 | some x =>
  have hi := (List.getElem?_eq_some_iff.1 hx).1
  have hxe : d[i] = x := (List.getElem?_eq_some_iff.1 hx).2
  have hq := (mO (kX hv i hi)).2
  rw [hxe] at hq
  have h1 := oQ d i 0 (putL (dG x.fQuery false))
  have h2 := oQ d i 1 (putL (dG x.fQuery true))
  have h3 := iR (dG x.fQuery false)
  have h4 := iR (dG x.fQuery true)
  have h5 : (dG x.fQuery false).length ≤ x.fQuery.length := jY _ _ _
  have h6 : (dG x.fQuery true).length ≤ x.fQuery.length := jY _ _ _
  simp only [List.length_append]
  omega
theorem a3q (d : List TDir) (hv : bF d = true) (k : Nat) : (jN d k).length ≤ 18 * k := by
 induction k with
 | zero => simp [jN]
 | succ k ih => rw [a1D, List.length_append]; have := a9l d hv k; omega
theorem a4W (d : List TDir) (k : Nat) (x : Nat × Nat × Nat) (hx : x ∈ jN d k) : x.1 < d.length ∧ x.2.2 ≤ 1 := by
 unfold jN at hx
 obtain ⟨i, _, h⟩ := List.mem_flatMap.1 hx
 unfold qK at h
 cases hd : d[i]? with
 | none => rw [hd] at h; simp at h
 | some y =>
  rw [hd] at h
  have hi := (List.getElem?_eq_some_iff.1 hd).1
  simp only [List.mem_append] at h
  rcases h with h | h
  ·exact rY d i 0 hi (by omega) _ x h
  ·exact rY d i 1 hi (by omega) _ x h
theorem b0m {i p w : Nat} {L : List Nat} (h : lv L p + w > lv L i) : up1 i p w L = L.set i (lv L p + w) := by unfold up1; rw [if_pos h]
theorem b3q {i p w : Nat} {L : List Nat} (h : ¬ lv L p + w > lv L i) : up1 i p w L = L := by unfold up1; rw [if_neg h]
theorem a3r (d : List TDir) (L : List Nat) (hv : bF d = true) (hd : aU d ≤ 4300000) (hL : L.length = d.length) (hB : ∀ j, lv L j ≤ 1000000) : FnC Tryz.prog 264 [.o (.d (.sl (d.map aL))), .o (.d (.sl (L.map rZ)))] (.o (.w 3 1 ((ups (gQ d) L).map rZ))) := by
 have hd0 : d.length + wsum wDir d ≤ 4300000 := hd
 have hl5 := jO hv
 refine ent Tryz.func264 rfl Tryz.call264 rfl (fun C => ?_); simp only [go_sem, st0, Tryz.ntmps264]
 refine aG ?_
 refine aQ (α := Nat) (fun i => [(5, .o (.s 0)), (13, .o .u), (15, .o .u), (6, oi i)]) (fun i => [(0, .row 3 1 ((ups (jN d i) L).map rZ) true)]) (fun i => i ≤ d.length) (fun i => d.length - i) 0 (fun _ => ?_) ?_ ?_ (fun i hi => ?_)
 ·simp only [go_sem]
 ·simp only [go_sem]; simp [jN, ups]
 ·simp
 ·simp only [go_sem]
  refine aG ?_
  refine cnd rfl (fun h => ?_) (fun h => ?_)
  ·simp only [decide_eq_true_eq, Int.ofNat_lt] at h
   have hq := kX hv i h
   have hwd := bB wDir d h
   have hwq : bS d[i].fQuery ≤ wDir d[i] := by unfold wDir; omega
   have hsuc := a1D d i
   rw [b1C d i h] at hsuc
   have hML : (ups (jN d i) L).length = d.length := by rw [xE]; exact hL
   have hMB := nR (jN d i) L 1000000 (fun x hx => by rw [hL]; exact a4W d i x hx) hB
   have hKl := a3q d hv i
   have hfin : ups (jN d (i + 1)) L = ups (dV d i 1 (putL (dG d[i].fQuery true))) (ups (dV d i 0 (putL (dG d[i].fQuery false))) (ups (jN d i) L)) := by
    rw [hsuc, a2n, a2n]
   have hn1 := iR (dG d[i].fQuery false)
   have hn2 := iR (dG d[i].fQuery true)
   have hn3 : (dG d[i].fQuery false).length ≤ d[i].fQuery.length := jY _ _ _
   have hn4 : (dG d[i].fQuery true).length ≤ d[i].fQuery.length := jY _ _ _
   have hq9 := mO hq
   have hMB2 : ∀ j, lv (ups (jN d i) L) j ≤ 1000200 := fun j => by have := hMB j; omega
   generalize ups (jN d i) L = M at *
   have q0 := @h; refine fC (a7E d[i].fQuery hq (by omega)) ?_
   generalize putL (dG d[i].fQuery false) = P at *
   refine aQ (α := Nat) (fun k => [(8, oi k)]) (fun k => [(0, .row 3 1 ((ups (dV d i 0 (P.take k)) M).map rZ) true)]) (fun k => k ≤ P.length) (fun k => P.length - k) 0 (fun _ => ?_) ?_ ?_ (fun k hk => ?_)
   ·simp only [go_sem]
   ·simp only [go_sem]; simp [dV, ups]
   ·simp
   ·simp only [go_sem]
    refine aG ?_
    refine cnd rfl (fun h1 => ?_) (fun h1 => ?_)
    ·simp only [decide_eq_true_eq, Int.ofNat_lt] at h1
     have ht := a1C d i 0 P k h1
     have hXL : (ups (dV d i 0 (P.take k)) M).length = d.length := by rw [xE]; exact hML
     have hXB := nR (dV d i 0 (P.take k)) M 1000200 (fun x hx => by rw [hML]; exact rY d i 0 h (by omega) _ x hx) hMB2
     have hel := oQ d i 0 (P.take k)
     rw [List.length_take] at hel
     have hup : ups (dV d i 0 (P.take (k + 1))) M = ups (if 0 ≤ placeD d P[k] then [(i, (placeD d P[k]).toNat, 0)] else []) (ups (dV d i 0 (P.take k)) M) := by rw [ht, a2n]
     generalize ups (dV d i 0 (P.take k)) M = X at *
     have hiX : i < X.length := by omega
     have hg := qJ X i hiX
     rcases placeD_cases d P[k] with hp | ⟨p, hp, hpl⟩
     ·rw [if_neg (by omega)] at hup
      have q0 := @h1; have q1 := @hp; have q2 := @decide_true; have q3 := @decide_false; refine a0O (jP d P[k] (by omega)) ?_
      refine aF (k + 1) ?_ ?_ ?_
      ·simp only [go_sem, hup, ups]; simp
      ·omega
      ·omega
     ·have hpX : p < X.length := by omega
      have hge : (0 : Int) ≤ (p : Int) := by omega
      have hgp := qJ X p hpX
      rw [if_pos (by omega), hp, Int.toNat_natCast] at hup
      simp only [ups] at hup
      by_cases hc : lv X p > lv X i
      ·have hcI : ((lv X i : Nat) : Int) < ((lv X p : Nat) : Int) := by omega
       rw [b0m (by omega), Nat.add_zero] at hup
       have qH := aI @h1 (aI @hp (aI @hge (aI @hpX (aI @hiX (aI @hg (aI @hgp (aI @hcI (aI @decide_true (aI @decide_false @Int.toNat_natCast))))))))); repeat' (with_reducible first | refine nY ?_ | (refine mX ?_; try simp only [go_sem, qH]) | refine kD ?_ | refine rD ?_ | refine cP (jP d P[k] (by omega)) ?_ | refine aO ?_ | fail)
       refine aF (k + 1) ?_ ?_ ?_
       ·simp only [go_sem, hup, ← b3r]; simp
       ·omega
       ·omega
      ·have hcI : ¬ ((lv X i : Nat) : Int) < ((lv X p : Nat) : Int) := by omega
       rw [b3q (by omega)] at hup
       have qH := aI @h1 (aI @hp (aI @hge (aI @hpX (aI @hiX (aI @hg (aI @hgp (aI @hcI (aI @decide_true (aI @decide_false @Int.toNat_natCast))))))))); repeat' (with_reducible first | refine nY ?_ | (refine mX ?_; try simp only [go_sem, qH]) | refine kD ?_ | refine rD ?_ | refine cP (jP d P[k] (by omega)) ?_ | refine aO ?_ | fail)
       refine aF (k + 1) ?_ ?_ ?_
       ·simp only [go_sem, hup]; simp
       ·omega
       ·omega
    ·simp only [decide_eq_false_iff_not] at h1
     have e : k = P.length := by omega
     subst e
     rw [List.take_length]
     have hXL : (ups (dV d i 0 P) M).length = d.length := by rw [xE]; exact hML
     have hXB := nR (dV d i 0 P) M 1000200 (fun x hx => by rw [hML]; exact rY d i 0 h (by omega) _ x hx) hMB2
     have hel := oQ d i 0 P
     have hXB2 : ∀ j, lv (ups (dV d i 0 P) M) j ≤ 1000400 := fun j => by have := hXB j; omega
     generalize ups (dV d i 0 P) M = Y at *
     have q0 := @h; refine fC (a7F d[i].fQuery hq (by omega)) ?_
     generalize putL (dG d[i].fQuery true) = N at *
     refine aQ (α := Nat) (fun k => [(11, oi k)]) (fun k => [(0, .row 3 1 ((ups (dV d i 1 (N.take k)) Y).map rZ) true)]) (fun k => k ≤ N.length) (fun k => N.length - k) 0 (fun _ => ?_) ?_ ?_ (fun k hk => ?_)
     ·simp only [go_sem]
     ·simp only [go_sem]; simp [dV, ups]
     ·simp
     ·simp only [go_sem]
      refine aG ?_
      refine cnd rfl (fun h1 => ?_) (fun h1 => ?_)
      ·simp only [decide_eq_true_eq, Int.ofNat_lt] at h1
       have ht := a1C d i 1 N k h1
       have hZL : (ups (dV d i 1 (N.take k)) Y).length = d.length := by rw [xE]; exact hXL
       have hZB := nR (dV d i 1 (N.take k)) Y 1000400 (fun x hx => by rw [hXL]; exact rY d i 1 h (by omega) _ x hx) hXB2
       have hel := oQ d i 1 (N.take k)
       rw [List.length_take] at hel
       have hup : ups (dV d i 1 (N.take (k + 1))) Y = ups (if 0 ≤ placeD d N[k] then [(i, (placeD d N[k]).toNat, 1)] else []) (ups (dV d i 1 (N.take k)) Y) := by rw [ht, a2n]
       generalize ups (dV d i 1 (N.take k)) Y = X at *
       have hiX : i < X.length := by omega
       have hg := qJ X i hiX
       rcases placeD_cases d N[k] with hp | ⟨p, hp, hpl⟩
       ·rw [if_neg (by omega)] at hup
        have q0 := @h1; have q1 := @hp; have q2 := @decide_true; have q3 := @decide_false; refine a0O (jP d N[k] (by omega)) ?_
        refine aF (k + 1) ?_ ?_ ?_
        ·simp only [go_sem, hup, ups]; simp
        ·omega
        ·omega
       ·have hpX : p < X.length := by omega
        have hge : (0 : Int) ≤ (p : Int) := by omega
        have hgp := qJ X p hpX
        have hbp := hZB p
        have hs1 : ((lv X p : Nat) : Int) + 1 = ((lv X p + 1 : Nat) : Int) := by omega
        rw [if_pos (by omega), hp, Int.toNat_natCast] at hup
        simp only [ups] at hup
        by_cases hc : lv X p + 1 > lv X i
        ·have hcI : ((lv X i : Nat) : Int) < ((lv X p + 1 : Nat) : Int) := by omega
         rw [b0m hc] at hup
         have qH := aI @h1 (aI @hp (aI @hge (aI @hpX (aI @hiX (aI @hg (aI @hgp (aI @hs1 (aI @hcI (aI @decide_true (aI @decide_false @Int.toNat_natCast)))))))))); repeat' (with_reducible first | refine nY ?_ | (refine mX ?_; try simp only [go_sem, qH]) | refine kD ?_ | refine rD ?_ | refine cP (jP d N[k] (by omega)) ?_ | refine aO ?_ | fail)
         refine aF (k + 1) ?_ ?_ ?_
         ·simp only [go_sem, hup, ← b3r]; simp
         ·omega
         ·omega
        ·have hcI : ¬ ((lv X i : Nat) : Int) < ((lv X p + 1 : Nat) : Int) := by omega
         rw [b3q hc] at hup
         have qH := aI @h1 (aI @hp (aI @hge (aI @hpX (aI @hiX (aI @hg (aI @hgp (aI @hs1 (aI @hcI (aI @decide_true (aI @decide_false @Int.toNat_natCast)))))))))); repeat' (with_reducible first | refine nY ?_ | (refine mX ?_; try simp only [go_sem, qH]) | refine kD ?_ | refine rD ?_ | refine cP (jP d N[k] (by omega)) ?_ | refine aO ?_ | fail)
         refine aF (k + 1) ?_ ?_ ?_
         ·simp only [go_sem, hup]; simp
         ·omega
         ·omega
      ·simp only [decide_eq_false_iff_not] at h1
       have e : k = N.length := by omega
       subst e
       rw [List.take_length]
       refine aG ?_
       refine aF (i + 1) ?_ ?_ ?_
       ·simp only [go_sem, hfin]; simp
       ·omega
       ·omega
  ·simp only [decide_eq_false_iff_not] at h
   have e : i = d.length := by omega
   subst e
   refine aG ?_
   exact aA ⟨⟨_, rfl, by simp only [go_sem, jN, gQ]⟩, trivial⟩
end Go.Proofs.YteaaopodnbjpoaaGreat
end
section
set_option maxRecDepth 100000
set_option maxHeartbeats 4000000
namespace Go.Proofs.YteaaopodnbjpoaaGreat
open Go Go.Sx Go.RowKit Go.Proofs
theorem a6h (A B : List Nat) (k : Nat) (hA : k < A.length) (hB : k < B.length) (h : A.take k = B.take k) (e : A[k] = B[k]) : A.take (k + 1) = B.take (k + 1) := by
 rw [List.take_succ_eq_append_getElem hA, List.take_succ_eq_append_getElem hB, h, e]
theorem b0l (A B : List Nat) (hA : A.length ≤ 4300000) (hB : B.length ≤ 4300000) : FnC Tryz.prog 152 [.o (.d (.sl (A.map rZ))), .o (.d (.sl (B.map rZ)))] (ob (decide (A = B))) := by
 refine ent Tryz.func152 rfl Tryz.call152 rfl (fun C => ?_); simp only [go_sem, st0, Tryz.ntmps152]
 by_cases hl : A.length = B.length
 ·have hli : ((A.length : Nat) : Int) = ((B.length : Nat) : Int) := by omega
  have q0 := @hli; have q1 := @decide_true; refine lK ?_
  refine aQ (α := Nat) (fun k => [(5, oi k)]) (fun _ => []) (fun k => k ≤ A.length ∧ A.take k = B.take k) (fun k => A.length - k) 0 (fun _ => ?_) ?_ ?_ (fun k hk => ?_)
  ·simp only [go_sem]
  ·simp only [go_sem]; simp
  ·simp
  ·obtain ⟨hk, hq⟩ := hk
   simp only [go_sem]
   refine aG ?_
   refine cnd rfl (fun h => ?_) (fun h => ?_)
   ·simp only [decide_eq_true_eq, Int.ofNat_lt] at h
    have h2 : k < B.length := by omega
    by_cases he : A[k] = B[k]
    ·have hei : ((A[k] : Nat) : Int) = ((B[k] : Nat) : Int) := by omega
     have q0 := @h; have q1 := @h2; have q2 := @hei; have q3 := @decide_true; refine lX ?_
     refine aF (k + 1) ?_ ?_ ?_
     ·simp only [go_sem]; simp
     ·exact ⟨by omega, a6h A B k h h2 hq he⟩
     ·omega
    ·have hei : ¬ ((A[k] : Nat) : Int) = ((B[k] : Nat) : Int) := by omega
     have hne : decide (A = B) = false := decide_eq_false fun e => he (by subst e; rfl)
     have q0 := @h; have q1 := @h2; have q2 := @hei; have q3 := @decide_false; refine lX ?_
     exact aA ⟨⟨_, rfl, by simp only [go_sem, hne]⟩, trivial⟩
   ·simp only [decide_eq_false_iff_not] at h
    have e : k = A.length := by omega
    subst e
    rw [List.take_length, hl, List.take_length] at hq
    have hy : decide (A = B) = true := decide_eq_true hq
    refine aG ?_
    exact aA ⟨⟨_, rfl, by simp only [go_sem, hy]⟩, trivial⟩
 ·have hli : ¬ ((A.length : Nat) : Int) = ((B.length : Nat) : Int) := by omega
  have hne : decide (A = B) = false := decide_eq_false fun e => hl (by rw [e])
  have q0 := @hli; have q1 := @decide_false; refine lK ?_
  exact aA ⟨⟨_, rfl, by simp only [go_sem, hne]⟩, trivial⟩
theorem gF (d : List TDir) (hd : aU d ≤ 4300000) : FnC Tryz.prog 215 [.o (.d (.sl (d.map aL)))] (.t [(false, [.d (.sl ((resL d).map rZ))]), (false, [.d (bv (kR d))])]) := by
 have hd0 : d.length + wsum wDir d ≤ 4300000 := hd
 refine ent Tryz.func215 rfl Tryz.call215 rfl (fun C => ?_); simp only [go_sem, st0, Tryz.ntmps215]
 cases hv : bF d
 ·have e1 : resL d = [] := by simp [resL, hv]
  have e2 : kR d = false := by simp [kR, hv]
  have q0 := @hv; refine fC (iC d hd) ?_
  refine aC (Sees.frz 0 rfl) ?_
  simp only [go_sem]
  exact aA ⟨⟨_, rfl, by simp only [go_sem, e1, e2, List.map_nil]⟩, by simp [aH]⟩
 have e1 : resL d = a9s d.length (EE d) := by simp [resL, hv]
 have e2 : kR d = a1G d.length (EE d) := by simp [kR, hv]
 have hl5 := jO hv
 have hsq : d.length * d.length ≤ 25 := Nat.mul_le_mul hl5 hl5
 have hmul : ((d.length : Nat) : Int) * ((d.length : Nat) : Int) = ((d.length * d.length : Nat) : Int) := by rw [Int.natCast_mul]
 have hends := a5b (sD d) (gQ d) (fun x => Iff.rfl) (d.length * d.length + 2) (by omega)
 have hEl := a3q d hv d.length
 have hEok : ∀ x ∈ gQ d, x.1 < (List.replicate d.length 0).length ∧ x.2.2 ≤ 1 := fun x hx => by rw [List.length_replicate]; exact a4W d d.length x hx
 have hEl2 : (gQ d).length ≤ 90 := by have : gQ d = jN d d.length := rfl; rw [this]; omega
 have hbd := a3A (gQ d) (List.replicate d.length 0) hEok (fun j => a6o _ j)
 have hlen : ∀ r, (upsN (gQ d) r (List.replicate d.length 0)).length = d.length := fun r => by rw [a3z]; simp
 generalize hN2 : d.length * d.length = N2 at *
 have hB : ∀ r, r ≤ N2 + 2 → ∀ j, lv (upsN (gQ d) r (List.replicate d.length 0)) j ≤ 1000000 := fun r hr j => by
  have h1 := hbd r j
  have h2 : r * (gQ d).length ≤ 27 * 90 := Nat.mul_le_mul (by omega) hEl2
  omega
 have q0 := @hv; refine fC (iC d hd) ?_
 refine aQ (α := Nat) (fun r => [(4, .o (.s 0)), (12, .o .u), (5, oi r)]) (fun r => [(0, .row 3 1 ((upsN (gQ d) r (List.replicate d.length 0)).map rZ) true)]) (fun r => r ≤ N2 + 2) (fun r => N2 + 2 - r) 0 (fun _ => ?_) ?_ ?_ (fun r hr => ?_)
 ·simp only [go_sem]
 ·simp only [go_sem]; simp [upsN, rZ]
 ·simp
 ·simp only [go_sem]
  have q0 := @hmul; refine gH ?_
  refine cnd rfl (fun h => ?_) (fun h => ?_)
  ·simp only [decide_eq_true_eq] at h
   refine fQ (a3r d (upsN (gQ d) r (List.replicate d.length 0)) hv hd (hlen r) (hB r hr)) ?_
   refine b4b [(0, 1)] (r + 1) (by simp only [go_sem]; rfl) ?_ ?_ ?_
   ·simp only [go_sem, upsN]; simp
   ·omega
   ·omega
  ·simp only [decide_eq_false_iff_not] at h
   have e : r = N2 + 2 := by omega
   subst e
   have hLl := hlen (N2 + 2)
   have hLB := hB (N2 + 2) (by omega)
   simp only at hends
   generalize upsN (gQ d) (N2 + 2) (List.replicate d.length 0) = L at *
   have hUl : (ups (gQ d) L).length = d.length := by rw [xE]; exact hLl
   by_cases hs : ups (gQ d) L = L
   ·rw [if_pos hs] at hends
    have f1 := a6m hends
    have f2 := xD hends.clo
    have hy : decide (ups (gQ d) L = L) = true := decide_eq_true hs
    have q0 := @hy; refine a5K (a3r d L hv hd hLl hLB) (b0l (ups (gQ d) L) L (by omega) (by omega)) ?_
    exact aA ⟨⟨_, rfl, by simp only [go_sem, e1, e2, f1, f2]⟩, by simp [aH]⟩
   ·rw [if_neg hs] at hends
    have f1 := a6n hends
    have f2 := a7Q hends
    have hy : decide (ups (gQ d) L = L) = false := decide_eq_false hs
    have q0 := @hy; refine a5K (a3r d L hv hd hLl hLB) (b0l (ups (gQ d) L) L (by omega) (by omega)) ?_
    refine aC (Sees.frz 2 rfl) ?_
    simp only [go_sem]
    exact aA ⟨⟨_, rfl, by simp only [go_sem, e1, e2, f1, f2, List.map_nil]⟩, by simp [aH]⟩
theorem jF (d : List TDir) (hd : aU d ≤ 4300000) : FnC Tryz.prog 160 [.o (.d (.sl (d.map aL)))] (ob (kR d)) := by
 refine ent Tryz.func160 rfl Tryz.call160 rfl (fun C => ?_); simp only [go_sem, st0, Tryz.ntmps160]
 refine fQ (gF d hd) ?_
 exact aA ⟨⟨_, rfl, by simp only [go_sem]⟩, trivial⟩
end Go.Proofs.YteaaopodnbjpoaaGreat
end
section
set_option maxRecDepth 100000
set_option maxHeartbeats 4000000
namespace Go.Proofs.YteaaopodnbjpoaaGreat
theorem b3y (q : List TNode) (x : Int) (i j : Nat) (hi : i < q.length) (hj : j < q.length) (hne : i ≠ j) : tZ q[i] x + tZ q[j] x ≤ refs q x := by
 induction q generalizing i j with
 | nil => simp at hi
 | cons n q ih =>
  have one : ∀ (q : List TNode) (m : Nat) (h : m < q.length), tZ q[m] x ≤ refs q x := by
   intro q
   induction q with
   | nil => intro m h; simp at h
   | cons n q ih =>
    intro m h
    cases m with
    | zero => simp only [List.getElem_cons_zero, refs]; omega
    | succ m => have := ih m (by simpa using h); simp only [List.getElem_cons_succ, refs]; omega
  cases i with
  | zero =>
   cases j with
   | zero => exact (hne rfl).elim
   | succ j => have := one q j (by simpa using hj); simp only [List.getElem_cons_zero, List.getElem_cons_succ, refs]; omega
  | succ i =>
   cases j with
   | zero => have := one q i (by simpa using hi); simp only [List.getElem_cons_zero, List.getElem_cons_succ, refs]; omega
   | succ j =>
    have := ih i j (by simpa using hi) (by simpa using hj) (by omega)
    simp only [List.getElem_cons_succ, refs]; omega
theorem b3z {q : List TNode} (h : okQ q = true) (l : Nat) (hl : l + 1 < q.length) : refs q l = 1 := by
 unfold okQ at h
 simp only [Bool.and_eq_true, List.all_eq_true, List.mem_range] at h
 have := h.1 l (by omega)
 unfold a3i at this
 rw [List.getElem?_eq_getElem (by omega)] at this
 simp only [Bool.and_eq_true, Bool.or_eq_true, decide_eq_true_eq] at this
 rcases this.2 with h | h
 ·omega
 ·exact h
def nb (L : List Bool) (i : Nat) : Bool := L.getD i false
theorem yX (L : List Bool) (l : Nat) (v : Bool) (x : Nat) (h : l < L.length) : nb (L.set l v) x = if x = l then v else nb L x := by
 unfold nb
 simp only [List.getD_eq_getElem?_getD, List.getElem?_set]
 by_cases e : l = x
 ·subst e; simp [h]
 ·rw [if_neg e, if_neg (fun e' => e e'.symm)]
theorem a4h {q : List TNode} (hq : okQ q = true) {i : Nat} (hi : i < q.length) {L : List Bool} (hL : L.length = q.length) {x : Nat} (hx : tZ q[i] x = 0) : nb (jX q i L) x = nb L x := by
 have hok := yP hq (List.getElem?_eq_getElem hi)
 by_cases h5 : q[i].fOp = 5
 ·obtain ⟨l, hl, hli⟩ := dU hok (.inl h5)
  rw [a0u hi L h5 hl, yX _ _ _ _ (by omega)]
  split
  ·rename_i e; subst e; simp [tZ, two, h5, hl] at hx
  ·rfl
 by_cases h67 : q[i].fOp = 6 ∨ q[i].fOp = 7
 ·obtain ⟨l, hl, hli⟩ := dU hok (.inr h67)
  obtain ⟨m, hm, hmi⟩ := fU hok h67
  have ht : two q[i] = true := by unfold two; rcases h67 with h | h <;> simp [h]
  rw [xC hi L (by omega) h5 h67 hl hm, yX _ _ _ _ (by simp; omega), yX _ _ _ _ (by omega)]
  split
  ·rename_i e; subst e; simp [tZ, ht, hm] at hx
  ·split
   ·rename_i e; subst e; simp [tZ, ht, hl] at hx
   ·rfl
 ·rw [a0Y hi L h5 h67]
def a6p (q : List TNode) (m : Nat) : List Bool := negJ q (q.length - m)
theorem a3B (q : List TNode) (m : Nat) : (a6p q m).length = q.length := a0t q _
theorem a5d (q : List TNode) (i : Nat) (h : i < q.length) : a6p q i = jX q i (a6p q (i + 1)) := a0X q i h
theorem b5c {q : List TNode} (hq : okQ q = true) {i : Nat} (hi : i < q.length) {x : Nat} (hx : i ≤ x) : tZ q[i] x = 0 := by
 have hok := yP hq (List.getElem?_eq_getElem hi)
 unfold tZ
 have a : (if (two q[i] || decide (q[i].fOp = 5)) && decide (q[i].fLeft = (x : Int)) then 1 else 0) = 0 := by
  split
  ·rename_i h
   simp only [Bool.and_eq_true, Bool.or_eq_true, decide_eq_true_eq] at h
   obtain ⟨l, hl, hli⟩ := dU hok (by unfold two at h; simp only [Bool.or_eq_true, decide_eq_true_eq] at h; omega)
   omega
  ·rfl
 have b : (if two q[i] && decide (q[i].fRight = (x : Int)) then 1 else 0) = 0 := by
  split
  ·rename_i h
   simp only [Bool.and_eq_true, decide_eq_true_eq] at h
   obtain ⟨l, hl, hli⟩ := fU hok (by unfold two at h; simp only [Bool.or_eq_true, decide_eq_true_eq] at h; omega)
   omega
  ·rfl
 omega
theorem a1c {q : List TNode} (hq : okQ q = true) {x : Nat} : ∀ (k m : Nat), m + k ≤ q.length → (∀ j, (hj : j < q.length) → m ≤ j → j < m + k → tZ q[j] x = 0) → nb (a6p q m) x = nb (a6p q (m + k)) x
 | 0, m, _, _ => rfl
 | k + 1, m, h, hr => by
  have hm : m < q.length := by omega
  rw [a5d q m hm, a4h hq hm (a3B q (m + 1)) (hr m hm (by omega) (by omega)), a1c hq k (m + 1) (by omega) (fun j hj h1 h2 => hr j hj (by omega) (by omega))]
  congr 2; omega
theorem b0w {q : List TNode} (hq : okQ q = true) (x : Nat) (hx : x < q.length) : nb (lJ q) x = nb (a6p q (x + 1)) x := by
 have := a1c hq (x := x) (x + 1) 0 (by omega) (fun j hj _ h2 => b5c hq hj (by omega))
 simpa [a6p, lJ] using this
theorem yY {q : List TNode} (hq : okQ q = true) {i l : Nat} (hi : i < q.length) (hl : l < i) (hr : 1 ≤ tZ q[i] l) : nb (lJ q) l = nb (jX q i (a6p q (i + 1))) l := by
 rw [b0w hq l (by omega), ← a5d q i hi]
 have h1 := b3z hq l (by omega)
 have := a1c hq (x := l) (i - (l + 1)) (l + 1) (by omega) (fun j hj h1' h2 => by
  have := b3y q l i j hi hj (by omega)
  omega)
 rw [this]
 congr 2; omega
theorem b3A {q : List TNode} (hq : okQ q = true) {i l : Nat} (hi : i < q.length) (h5 : q[i].fOp = 5) (hl : q[i].fLeft = (l : Int)) (hli : l < i) : nb (lJ q) l = true := by
 rw [yY hq hi hli (by simp [tZ, h5, hl]), a0u hi _ h5 hl, yX _ _ _ _ (by rw [a3B]; omega), if_pos rfl]
theorem b3B {q : List TNode} (hq : okQ q = true) {i l m : Nat} (hi : i < q.length) (h67 : q[i].fOp = 6 ∨ q[i].fOp = 7) (hl : q[i].fLeft = (l : Int)) (hm : q[i].fRight = (m : Int)) (hli : l < i) (hmi : m < i) : nb (lJ q) l = nb (lJ q) i ∧ nb (lJ q) m = nb (lJ q) i := by
 have ht : two q[i] = true := by unfold two; rcases h67 with h | h <;> simp [h]
 have h5 : ¬ q[i].fOp = 5 := by omega
 have hL := a3B q (i + 1)
 have e := b0w hq i hi
 have g : (a6p q (i + 1))[i]'(by omega) = nb (lJ q) i := by
  rw [e]; simp [nb, List.getD_eq_getElem?_getD, hL, hi]
 rw [yY hq hi hli (by simp [tZ, ht, hl]), yY hq hi hmi (by simp [tZ, ht, hm]), xC hi _ (by omega) h5 h67 hl hm]
 rw [yX _ m _ l (by rw [List.length_set]; omega), yX _ l _ l (by omega), yX _ m _ m (by rw [List.length_set]; omega), g]
 simp
theorem b0x {q : List TNode} (hq : okQ q = true) {f : TFile} {r r' : List TResult}
    (hP : ∀ i, (hi : i < q.length) → (q[i].fOp = 8 ∨ q[i].fOp = 9) → nb (lJ q) i = false → ∀ x, hasI (aS q[i].fName r) x = true → hasI (aS q[i].fName r') x = true)
    (hN : ∀ i, (hi : i < q.length) → (q[i].fOp = 8 ∨ q[i].fOp = 9) → nb (lJ q) i = true → ∀ x, hasI (aS q[i].fName r) x = hasI (aS q[i].fName r') x) :
    ∀ (k i : Nat), i < k → i < q.length → (nb (lJ q) i = true → mt q f r k i = mt q f r' k i) ∧ (nb (lJ q) i = false → mt q f r k i = true → mt q f r' k i = true)
 | 0, i, h, _ => by omega
 | k + 1, i, h, hi => by
  have hn := List.getElem?_eq_getElem hi
  have hok := yP hq hn
  have ih := b0x hq (f := f) hP hN k
  by_cases h1 : q[i].fOp = 1
  ·simp [mt, hn, h1]
  by_cases h2 : q[i].fOp = 2
  ·simp [mt, hn, h2]
  by_cases h3 : q[i].fOp = 3
  ·simp [mt, hn, h3]
  by_cases h4 : q[i].fOp = 4
  ·simp [mt, hn, h4]
  by_cases h5 : q[i].fOp = 5
  ·obtain ⟨l, hl, hli⟩ := dU hok (.inl h5)
   have := (ih l (by omega) (by omega)).1 (b3A hq hi h5 hl hli)
   have e : mt q f r (k + 1) i = mt q f r' (k + 1) i := by simp [mt, hn, h5, hl, this]
   exact ⟨fun _ => e, fun _ h => by rw [← e]; exact h⟩
  by_cases h67 : q[i].fOp = 6 ∨ q[i].fOp = 7
  ·obtain ⟨l, hl, hli⟩ := dU hok (.inr h67)
   obtain ⟨m, hm, hmi⟩ := fU hok h67
   obtain ⟨n1, n2⟩ := b3B hq hi h67 hl hm hli hmi
   have a := ih l (by omega) (by omega)
   have b := ih m (by omega) (by omega)
   rw [n1] at a
   rw [n2] at b
   refine ⟨fun hx => ?_, fun hx hm2 => ?_⟩
   ·have a1 := a.1 hx
    have b1 := b.1 hx
    rcases h67 with h6 | h7
    ·simp [mt, hn, h6, hl, hm, a1, b1]
    ·simp [mt, hn, h7, hl, hm, a1, b1]
   ·have a1 := a.2 hx
    have b1 := b.2 hx
    rcases h67 with h6 | h7
    ·simp [mt, hn, h6, hl, hm] at hm2 ⊢
     exact ⟨a1 hm2.1, b1 hm2.2⟩
    ·simp [mt, hn, h7, hl, hm] at hm2 ⊢
     exact hm2.imp a1 b1
  have h6 : ¬ q[i].fOp = 6 := fun h => h67 (.inl h)
  have h7 : ¬ q[i].fOp = 7 := fun h => h67 (.inr h)
  have hop := rR hok
  have h89 : q[i].fOp = 8 ∨ q[i].fOp = 9 := by omega
  refine ⟨fun hx => ?_, fun hx hm2 => ?_⟩
  ·have e := hN i hi h89 hx
   rcases h89 with h8 | h9
   ·simp [mt, hn, h8, e]
   ·simp [mt, hn, h9, e]
  ·have e := hP i hi h89 hx
   rcases h89 with h8 | h9
   ·simp [mt, hn, h8] at hm2 ⊢
    exact e _ hm2
   ·simp [mt, hn, h9] at hm2 ⊢
    exact ⟨hm2.1, e _ hm2.2⟩
end Go.Proofs.YteaaopodnbjpoaaGreat
end
section
set_option maxRecDepth 100000
set_option maxHeartbeats 4000000
namespace Go.Proofs.YteaaopodnbjpoaaGreat
def pr (q : List TNode) (R : List TResult) (f : TFile) : Bool := okQ q && mt q f R q.length (q.length - 1)
def gN (l : List TFile) : List Int := l.map TFile.fID
def kL (fs : List TFile) (q : List TNode) (R : List TResult) : List Int := gN (fs.filter (pr q R))
theorem a0w (fs : List TFile) (q : List TNode) (R : List TResult) : (kL fs q R).length ≤ fs.length := by
 unfold kL gN; rw [List.length_map]; exact List.length_filter_le _ _
theorem a0x (nm : ByteArray) : ∀ (d : List TDir) (R : List TResult) (k : Nat), R.map TResult.fName = d.map TDir.fName → aS nm R = (if 0 ≤ dQ (fun x : TDir => decide (x.fName = nm)) d k then (R.getD (dQ (fun x : TDir => decide (x.fName = nm)) d k - k).toNat ⟨⟨#[]⟩, []⟩).fIDs else [])
 | [], [], k, _ => by simp [aS, dQ]
 | [], _ :: _, _, h => by simp at h
 | _ :: _, [], _, h => by simp at h
 | x :: d, y :: R, k, h => by
  simp only [List.map_cons, List.cons.injEq] at h
  have ih := a0x nm d R (k + 1) h.2
  by_cases hx : x.fName = nm
  ·simp [aS, dQ, h.1, hx]
  ·have e0 : dQ (fun x : TDir => decide (x.fName = nm)) (x :: d) k = dQ (fun x : TDir => decide (x.fName = nm)) d (k + 1) := by simp [dQ, hx]
   have e1 : aS nm (y :: R) = aS nm R := by simp [aS, h.1, hx]
   rw [e0, e1, ih]
   have hge : dQ (fun x : TDir => decide (x.fName = nm)) d (k + 1) < 0 ∨ ((k + 1 : Nat) : Int) ≤ dQ (fun x : TDir => decide (x.fName = nm)) d (k + 1) := by
    rcases idxP_fst (fun x : TDir => decide (x.fName = nm)) d (k + 1) with ⟨h, _, _⟩ | ⟨h, _⟩ <;> omega
   by_cases h0 : 0 ≤ dQ (fun x : TDir => decide (x.fName = nm)) d (k + 1)
   ·rw [if_pos h0, if_pos h0]
    have e : (dQ (fun x : TDir => decide (x.fName = nm)) d (k + 1) - (k : Int)).toNat = (dQ (fun x : TDir => decide (x.fName = nm)) d (k + 1) - ((k + 1 : Nat) : Int)).toNat + 1 := by omega
    rw [e, List.getD_cons_succ]
   ·rw [if_neg h0, if_neg h0]
def eP (R : List TResult) (p : Nat) : List Int := (R.getD p ⟨⟨#[]⟩, []⟩).fIDs
theorem resIDs_at {d : List TDir} {R : List TResult} (h : R.map TResult.fName = d.map TDir.fName) (nm : ByteArray) : (placeD d nm = -1 ∧ aS nm R = []) ∨ ∃ p : Nat, placeD d nm = (p : Int) ∧ p < d.length ∧ aS nm R = eP R p := by
 have := a0x nm d R 0 h
 rcases placeD_cases d nm with hp | ⟨p, hp, hl⟩
 ·left
  refine ⟨hp, ?_⟩
  unfold placeD at hp
  rw [this, hp]; simp
 ·right
  refine ⟨p, hp, hl, ?_⟩
  unfold placeD at hp
  rw [this, hp]
  rw [if_pos (by omega)]
  simp [eP]
theorem sM (R : List TResult) (i j : Nat) (x : TResult) (h : i < R.length) : eP (R.set i x) j = if j = i then x.fIDs else eP R j := by
 unfold eP
 simp only [List.getD_eq_getElem?_getD, List.getElem?_set]
 by_cases e : i = j
 ·subst e; simp [h]
 ·rw [if_neg e, if_neg (fun e' => e e'.symm)]
theorem a5c (R : List TResult) (i : Nat) (x : TResult) (d : List TDir) (h : R.map TResult.fName = d.map TDir.fName) (hi : i < d.length) (hx : x.fName = d[i].fName) : (R.set i x).map TResult.fName = d.map TDir.fName := by
 rw [List.map_set, h, hx]
 apply List.ext_getElem?
 intro j
 rw [List.getElem?_set]
 split
 ·rename_i e; subst e; simp [hi]
 ·rfl
theorem a7T {q : List TNode} {i : Nat} (hi : i < q.length) (h89 : q[i].fOp = 8 ∨ q[i].fOp = 9) (b : Bool) (hb : nb (lJ q) i = b) : q[i].fName ∈ dG q b := by
 have hn : i < (lJ q).length := by rw [a3t]; exact hi
 have hg : (lJ q)[i] = b := by rw [← hb]; simp [nb, List.getD_eq_getElem?_getD, hn]
 have hd : jA q[i] = true := by unfold jA inB; rcases h89 with h | h <;> simp [h]
 unfold dG mZ
 refine List.mem_flatMap.2 ⟨i, List.mem_range.2 hi, ?_⟩
 unfold sel
 rw [List.getElem?_eq_getElem hi, List.getElem?_eq_getElem hn]
 simp [hd, hg]
theorem b0u (x : Int) (l : List TFile) : hasI (gN l) x = true ↔ ∃ f ∈ l, f.fID = x := by
 unfold hasI gN
 rw [List.any_eq_true]
 constructor
 ·rintro ⟨y, hy, h⟩
  obtain ⟨f, hf, rfl⟩ := List.mem_map.1 hy
  exact ⟨f, hf, of_decide_eq_true h⟩
 ·rintro ⟨f, hf, rfl⟩
  exact ⟨_, List.mem_map.2 ⟨f, hf, rfl⟩, by simp⟩
structure Ev (fs : List TFile) (d : List TDir) (L : List Nat) (ns : List ByteArray) (c : Nat) (k : Nat) (R : List TResult) : Prop where
 nm : R.map TResult.fName = d.map TDir.fName
 cur : ∀ i, (hi : i < d.length) → hasS ns d[i].fName = true → lv L i = k → ∃ p : TFile → Bool, eP R i = gN (fs.filter p) ∧ ∀ f, p f = true → pr d[i].fQuery R f = true
 top : ∀ i, (hi : i < d.length) → hasS ns d[i].fName = true → k < lv L i → eP R i = []
 bd : ∀ i, (eP R i).length ≤ c
 cap : fs.length ≤ c
theorem Ev.len {fs : List TFile} {d : List TDir} {L : List Nat} {ns : List ByteArray} {c k : Nat} {R : List TResult} (h : Ev fs d L ns c k R) : R.length = d.length := by
 have := congrArg List.length h.nm
 simpa using this
def wM (fs : List TFile) (d : List TDir) (i : Nat) (R : List TResult) (x : TDir) : List TResult := R.set i ⟨x.fName, kL fs x.fQuery R⟩
theorem b0v {fs : List TFile} {d : List TDir} {L : List Nat} {ns : List ByteArray} {c k : Nat} {R : List TResult} (h : Ev fs d L ns c k R) (hv : ∀ i, (hi : i < d.length) → okQ d[i].fQuery = true) (hc : Clo d.length (EE d) L) {i j : Nat} (hi : i < d.length) (hin : hasS ns d[i].fName = true) (hik : lv L i = k) (hj : j < d.length) (hjk : lv L j = k) (f : TFile) (hp : pr d[j].fQuery R f = true) : pr d[j].fQuery (wM fs d i R d[i]) f = true := by
 have hq := hv j hj
 have hlen := h.len
 have hl9 := mO hq
 have hnm2 := a5c R i ⟨d[i].fName, kL fs d[i].fQuery R⟩ d h.nm hi rfl
 have grow : ∀ x, hasI (eP R i) x = true → hasI (kL fs d[i].fQuery R) x = true := fun x hx => by
  obtain ⟨p, e, hpp⟩ := h.cur i hi hin hik
  rw [e, b0u] at hx
  obtain ⟨g, hg, rfl⟩ := hx
  rw [List.mem_filter] at hg
  unfold kL
  rw [b0u]
  exact ⟨g, List.mem_filter.2 ⟨hg.1, hpp g hg.2⟩, rfl⟩
 unfold pr at hp ⊢
 rw [hq, Bool.true_and] at hp ⊢
 have key := b0x hq (f := f) (r := R) (r' := wM fs d i R d[i]) (fun m hm h89 hb x hx => by
  have hmem := a7T hm h89 false hb
  rcases resIDs_at h.nm d[j].fQuery[m].fName with ⟨_, e⟩ | ⟨p, hp1, hp2, e⟩
  ·rw [e] at hx; simp [hasI] at hx
  ·rcases resIDs_at hnm2 d[j].fQuery[m].fName with ⟨e3, _⟩ | ⟨p', hp1', _, e'⟩
   ·omega
   ·have : p' = p := by omega
    subst this
    show hasI (aS _ (R.set i _)) x = true
    rw [e', sM R i p' _ (by omega)]
    rw [e] at hx
    split
    ·rename_i e4; subst e4; exact grow x hx
    ·exact hx) (fun m hm h89 hb x => by
  have hmem := a7T hm h89 true hb
  rcases resIDs_at h.nm d[j].fQuery[m].fName with ⟨e1, e⟩ | ⟨p, hp1, hp2, e⟩
  ·rcases resIDs_at hnm2 d[j].fQuery[m].fName with ⟨_, e'⟩ | ⟨p', hp1', _, _⟩
   ·show _ = hasI (aS _ (R.set i _)) x
    rw [e, e']
   ·omega
  ·rcases resIDs_at hnm2 d[j].fQuery[m].fName with ⟨e3, _⟩ | ⟨p', hp1', _, e'⟩
   ·omega
   ·have : p' = p := by omega
    subst this
    have hee := hc.le j p' 1 ((yT d j p' 1).2 ⟨d[j], List.getElem?_eq_getElem hj, .inr ⟨rfl, _, hmem, hp1⟩⟩)
    have hne : p' ≠ i := fun e => by subst e; omega
    show _ = hasI (aS _ (R.set i _)) x
    rw [e, e', sM R i p' _ (by omega), if_neg hne]) d[j].fQuery.length (d[j].fQuery.length - 1) (by omega) (by omega)
 cases hb : nb (lJ d[j].fQuery) (d[j].fQuery.length - 1) with
 | true => rw [← key.1 hb]; exact hp
 | false => exact key.2 hb hp
theorem Ev.step {fs : List TFile} {d : List TDir} {L : List Nat} {ns : List ByteArray} {c k : Nat} {R : List TResult} (h : Ev fs d L ns c k R) (hv : ∀ i, (hi : i < d.length) → okQ d[i].fQuery = true) (hc : Clo d.length (EE d) L) {i : Nat} (hi : i < d.length) (hin : hasS ns d[i].fName = true) (hik : lv L i = k) : Ev fs d L ns c k (wM fs d i R d[i]) := by
 have hlen := h.len
 refine ⟨a5c R i _ d h.nm hi rfl, fun j hj hjn hjk => ?_, fun j hj hjn hjk => ?_, fun j => ?_, h.cap⟩
 ·unfold wM
  rw [sM R i j _ (by omega)]
  split
  ·rename_i e; subst e
   exact ⟨pr d[j].fQuery R, rfl, fun f hf => b0v h hv hc hi hin hik hj hjk f hf⟩
  ·obtain ⟨p, e, hp⟩ := h.cur j hj hjn hjk
   exact ⟨p, e, fun f hf => b0v h hv hc hi hin hik hj hjk f (hp f hf)⟩
 ·unfold wM
  rw [sM R i j _ (by omega), if_neg (fun e => by subst e; omega)]
  exact h.top j hj hjn hjk
 ·unfold wM
  rw [sM R i j _ (by omega)]
  split
  ·exact Nat.le_trans (a0w fs _ _) h.cap
  ·exact h.bd j
theorem filter_same {α : Type} (p q : α → Bool) (l : List α) (h : ∀ x ∈ l, p x = true → q x = true) : l.filter p = l.filter q ∨ (l.filter p).length < (l.filter q).length := by
 have le : ∀ l : List α, (∀ x ∈ l, p x = true → q x = true) → (l.filter p).length ≤ (l.filter q).length := by
  intro l
  induction l with
  | nil => intro _; simp
  | cons x l ih =>
   intro h
   have := ih fun y hy => h y (List.mem_cons_of_mem _ hy)
   simp only [List.filter_cons]
   cases hp : p x
   ·cases hq : q x <;> simp <;> omega
   ·rw [h x (by simp) hp]; simpa using this
 induction l with
 | nil => exact .inl rfl
 | cons x l ih =>
  have hl := fun y hy => h y (List.mem_cons_of_mem x hy)
  simp only [List.filter_cons]
  cases hp : p x
  ·cases hq : q x
   ·simpa using ih hl
   ·have := le l hl
    right; simp; omega
  ·rw [h x (by simp) hp]
   rcases ih hl with e | e
   ·left; simp [e]
   ·right; simpa using e
def iU : List TResult → Nat
 | [] => 0
 | x :: l => x.fIDs.length + iU l
theorem b3x (R : List TResult) (i : Nat) (x : TResult) (h : i < R.length) : iU (R.set i x) + (eP R i).length = iU R + x.fIDs.length := by
 induction R generalizing i with
 | nil => simp at h
 | cons y l ih =>
  cases i with
  | zero => simp [iU, eP]; omega
  | succ i =>
   have := ih i (by simpa using h)
   simp only [List.set_cons_succ, iU, eP, List.getD_cons_succ] at this ⊢
   omega
theorem b5b (R : List TResult) (c : Nat) (h : ∀ i, (eP R i).length ≤ c) : iU R ≤ R.length * c := by
 induction R with
 | nil => simp [iU]
 | cons x l ih =>
  have h0 := h 0
  have h1 := ih fun i => by simpa [eP] using h (i + 1)
  simp only [eP, List.getD_cons_zero] at h0
  simp only [iU, List.length_cons, Nat.succ_mul]
  omega
theorem Ev.grow {fs : List TFile} {d : List TDir} {L : List Nat} {ns : List ByteArray} {c k : Nat} {R : List TResult} (h : Ev fs d L ns c k R) {i : Nat} (hi : i < d.length) (hin : hasS ns d[i].fName = true) (hik : lv L i = k) (hne : kL fs d[i].fQuery R ≠ eP R i) : iU R < iU (wM fs d i R d[i]) := by
 obtain ⟨p, e, hp⟩ := h.cur i hi hin hik
 have hlen := h.len
 have hs := b3x R i ⟨d[i].fName, kL fs d[i].fQuery R⟩ (by omega)
 rcases filter_same p (pr d[i].fQuery R) fs (fun f _ hf => hp f hf) with e2 | e2
 ·exact (hne (by rw [e]; unfold kL; rw [e2])).elim
 ·have h1 : (eP R i).length < (kL fs d[i].fQuery R).length := by
   rw [e]; unfold kL gN; simpa using e2
  unfold wM
  simp only at hs
  omega
theorem Ev.tot {fs : List TFile} {d : List TDir} {L : List Nat} {ns : List ByteArray} {c k : Nat} {R : List TResult} (h : Ev fs d L ns c k R) : iU R ≤ d.length * c := by
 have := b5b R c h.bd
 rwa [h.len] at this
theorem Ev.next {fs : List TFile} {d : List TDir} {L : List Nat} {ns : List ByteArray} {c k : Nat} {R : List TResult} (h : Ev fs d L ns c k R) : Ev fs d L ns c (k + 1) R :=
 ⟨h.nm, fun i hi hn hk => ⟨fun _ => false, by rw [h.top i hi hn (by omega)]; simp [gN], fun f hf => by cases hf⟩, fun i hi hn hk => h.top i hi hn (by omega), h.bd, h.cap⟩
end Go.Proofs.YteaaopodnbjpoaaGreat
end
section
set_option maxRecDepth 100000
set_option maxHeartbeats 4000000
namespace Go.Proofs.YteaaopodnbjpoaaGreat
def passT (fs : List TFile) (d : List TDir) (L : List Nat) (ns : List ByteArray) (k : Nat) : Nat → List TResult → List TResult
 | 0, R => R
 | m + 1, R => match d[m]? with
  | none => passT fs d L ns k m R
  | some x => if lv L m = k ∧ hasS ns x.fName = true then wM fs d m (passT fs d L ns k m R) x else passT fs d L ns k m R
def xV (fs : List TFile) (d : List TDir) (L : List Nat) (ns : List ByteArray) (k : Nat) : Nat → List TResult × Nat → List TResult × Nat
 | 0, x => x
 | F + 1, x => if iU x.1 < iU (passT fs d L ns k d.length x.1) then xV fs d L ns k F (passT fs d L ns k d.length x.1, x.2 + 1) else (passT fs d L ns k d.length x.1, x.2 + 1)
def fZ (ns : List ByteArray) (r : List TResult) (d : List TDir) : List TResult := d.map fun x => ⟨x.fName, if hasS ns x.fName then [] else aS x.fName r⟩
def allE (fs : List TFile) (d : List TDir) (L : List Nat) (ns : List ByteArray) (c : Nat) (r : List TResult) : Nat → List TResult × Nat
 | 0 => (fZ ns r d, 0)
 | k + 1 => xV fs d L ns k (d.length * c + 1) (allE fs d L ns c r k)
theorem xF {fs : List TFile} {d : List TDir} {L : List Nat} {ns : List ByteArray} {c k : Nat} {R : List TResult} (h : Ev fs d L ns c k R) {i : Nat} (hi : i < d.length) (he : kL fs d[i].fQuery R = eP R i) : wM fs d i R d[i] = R := by
 have hlen := h.len
 have hnm : (R[i]'(by omega)).fName = d[i].fName := by
  have := congrArg (fun l : List ByteArray => l[i]?) h.nm
  simp only [List.getElem?_map] at this
  rw [List.getElem?_eq_getElem (by omega), List.getElem?_eq_getElem hi] at this
  simpa using this
 have hids : eP R i = (R[i]'(by omega)).fIDs := by
  have : i < R.length := by omega
  simp [eP, List.getD_eq_getElem?_getD, this]
 unfold wM
 rw [he, hids, ← hnm]
 exact List.set_getElem_self _
theorem oV (fs : List TFile) (d : List TDir) (L : List Nat) (ns : List ByteArray) (k m : Nat) (R : List TResult) (h : m < d.length) : passT fs d L ns k (m + 1) R = if lv L m = k ∧ hasS ns d[m].fName = true then wM fs d m (passT fs d L ns k m R) d[m] else passT fs d L ns k m R := by
 rw [passT, List.getElem?_eq_getElem h]
theorem kK {fs : List TFile} {d : List TDir} {L : List Nat} {ns : List ByteArray} {c k : Nat} (hv : ∀ i, (hi : i < d.length) → okQ d[i].fQuery = true) (hc : Clo d.length (EE d) L) : ∀ (m : Nat) (R : List TResult), m ≤ d.length → Ev fs d L ns c k R → Ev fs d L ns c k (passT fs d L ns k m R)
 | 0, R, _, h => h
 | m + 1, R, hm, h => by
  have ih := kK hv hc m R (by omega) h
  rw [oV fs d L ns k m R (by omega)]
  split
  ·rename_i e; exact ih.step hv hc (by omega) e.2 e.1
  ·exact ih
theorem newR_cases {fs : List TFile} {d : List TDir} {L : List Nat} {ns : List ByteArray} {c k : Nat} {R : List TResult} (h : Ev fs d L ns c k R) {i : Nat} (hi : i < d.length) (hin : hasS ns d[i].fName = true) (hik : lv L i = k) : wM fs d i R d[i] = R ∨ iU R < iU (wM fs d i R d[i]) := by
 by_cases he : kL fs d[i].fQuery R = eP R i
 ·exact .inl (xF h hi he)
 ·exact .inr (h.grow hi hin hik he)
theorem jT {fs : List TFile} {d : List TDir} {L : List Nat} {ns : List ByteArray} {c k : Nat} (hv : ∀ i, (hi : i < d.length) → okQ d[i].fQuery = true) (hc : Clo d.length (EE d) L) : ∀ (m : Nat) (R : List TResult), m ≤ d.length → Ev fs d L ns c k R → passT fs d L ns k m R = R ∨ iU R < iU (passT fs d L ns k m R)
 | 0, R, _, _ => .inl rfl
 | m + 1, R, hm, h => by
  have ih := jT hv hc m R (by omega) h
  have he := kK hv hc m R (by omega) h
  rw [oV fs d L ns k m R (by omega)]
  split
  ·rename_i e
   rcases newR_cases he (by omega) e.2 e.1 with e2 | g
   ·rw [e2]; exact ih
   ·rcases ih with e3 | g3
    ·rw [e3] at g ⊢; exact .inr g
    ·exact .inr (by omega)
  ·exact ih
theorem a1b (ns : List ByteArray) (r : List TResult) (d : List TDir) (i : Nat) (hi : i < d.length) : eP (fZ ns r d) i = if hasS ns d[i].fName then [] else aS d[i].fName r := by
 unfold eP fZ
 simp only [List.getD_eq_getElem?_getD, List.getElem?_map, List.getElem?_eq_getElem hi]
 rfl
theorem b1J {fs : List TFile} (d : List TDir) (L : List Nat) (ns : List ByteArray) (r : List TResult) : Ev fs d L ns (fs.length + aJ r) 0 (fZ ns r d) := by
 refine ⟨by simp [fZ], fun i hi hn _ => ⟨fun _ => false, by rw [a1b ns r d i hi, if_pos hn]; simp [gN], fun f hf => by cases hf⟩, fun i hi hn _ => by rw [a1b ns r d i hi, if_pos hn], fun i => ?_, by omega⟩
 by_cases hi : i < d.length
 ·rw [a1b ns r d i hi]
  split
  ·simp
  ·have := uF d[i].fName r; omega
 ·have e : eP (fZ ns r d) i = [] := by
   unfold eP fZ
   simp only [List.getD_eq_getElem?_getD, List.getElem?_map]
   rw [List.getElem?_eq_none (by omega)]; rfl
  rw [e]; simp
theorem a7S {fs : List TFile} {d : List TDir} {L : List Nat} {ns : List ByteArray} {c k : Nat} (hv : ∀ i, (hi : i < d.length) → okQ d[i].fQuery = true) (hc : Clo d.length (EE d) L) : ∀ (F : Nat) (x : List TResult × Nat), Ev fs d L ns c k x.1 → Ev fs d L ns c k (xV fs d L ns k F x).1
 | 0, x, h => h
 | F + 1, x, h => by
  have hp := kK hv hc d.length x.1 (Nat.le_refl _) h
  unfold xV
  split
  ·exact a7S hv hc F _ hp
  ·exact hp
theorem xG {fs : List TFile} {d : List TDir} {L : List Nat} {ns : List ByteArray} {r : List TResult} (hv : ∀ i, (hi : i < d.length) → okQ d[i].fQuery = true) (hc : Clo d.length (EE d) L) : ∀ k, Ev fs d L ns (fs.length + aJ r) k (allE fs d L ns (fs.length + aJ r) r k).1
 | 0 => b1J d L ns r
 | k + 1 => (a7S hv hc _ _ (xG hv hc k)).next
structure Round (fs : List TFile) (d : List TDir) (L : List Nat) (ns : List ByteArray) (c : Nat) (k : Nat) (T : List TResult × Nat) (x : List TResult × Nat × Bool) : Prop where
 ev : Ev fs d L ns c k x.1
 run : x.2.2 = true → ∃ F, d.length * c + 1 ≤ F + iU x.1 ∧ T = xV fs d L ns k F (x.1, x.2.1)
 fin : x.2.2 = false → T = (x.1, x.2.1)
theorem Round.start {fs : List TFile} {d : List TDir} {L : List Nat} {ns : List ByteArray} {c k : Nat} {R : List TResult} {n : Nat} (h : Ev fs d L ns c k R) : Round fs d L ns c k (xV fs d L ns k (d.length * c + 1) (R, n)) (R, n, true) :=
 ⟨h, fun _ => ⟨_, by omega, rfl⟩, fun h => by cases h⟩
theorem Round.pass {fs : List TFile} {d : List TDir} {L : List Nat} {ns : List ByteArray} {c k : Nat} (hv : ∀ i, (hi : i < d.length) → okQ d[i].fQuery = true) (hc : Clo d.length (EE d) L) {T : List TResult × Nat} {R : List TResult} {n : Nat} (h : Round fs d L ns c k T (R, n, true)) : Round fs d L ns c k T (passT fs d L ns k d.length R, n + 1, decide (iU R < iU (passT fs d L ns k d.length R))) := by
 have hp := kK hv hc d.length R (Nat.le_refl _) h.ev
 obtain ⟨F, hF, hT⟩ := h.run rfl
 have ht := h.ev.tot
 simp only at ht
 cases F with
 | zero => simp only at hF; omega
 | succ F =>
  unfold xV at hT
  simp only at hT hF
  refine ⟨hp, fun hx => ?_, fun hx => ?_⟩
  ·simp only [decide_eq_true_eq] at hx
   rw [if_pos hx] at hT
   exact ⟨F, by simp only; omega, hT⟩
  ·simp only [decide_eq_false_iff_not] at hx
   rw [if_neg hx] at hT
   exact hT
end Go.Proofs.YteaaopodnbjpoaaGreat
end
section
set_option maxRecDepth 100000
set_option maxHeartbeats 4000000
namespace Go.Proofs.YteaaopodnbjpoaaGreat
open Go Go.Sx Go.RowKit Go.Proofs
def wJ : List Nat → Int → Int
 | [], m => m
 | x :: l, m => wJ l (if (x : Int) > m then (x : Int) else m)
def a0q (L : List Nat) : Int := wJ L (-1)
theorem a0W (L : List Nat) (k : Nat) (m : Int) (h : k < L.length) : wJ (L.drop k) m = wJ (L.drop (k + 1)) (if (L[k] : Int) > m then (L[k] : Int) else m) := by
 rw [List.drop_eq_getElem_cons h, wJ]
theorem a1A (q : List TNode) (f : TFile) (R : List TResult) (hq : bS q ≤ 4300000) (hf : wFile f ≤ 4300000) (hR : aJ R ≤ 67108864) : FnC Tryz.prog 274 [.o (.d (.sl (q.map bD))), dB f, .o (.d (.sl (R.map aK)))] (ob (pr q R f)) := by
 refine ent Tryz.func274 rfl Tryz.call274 rfl (fun C => ?_); simp only [go_sem, st0, Tryz.ntmps274]
 cases hv : okQ q
 ·have q0 := @hv; refine fC (bX q hq) ?_
  exact aA ⟨⟨_, rfl, by simp only [go_sem, pr, hv, Bool.false_and]⟩, trivial⟩
 ·have hl := mO hv
  have hx : (q.length : Int) - 1 = ((q.length - 1 : Nat) : Int) := by omega
  have q0 := @hv; have q1 := @hx; refine yK (bX q hq) (a6c q f R hv hf hR q.length (q.length - 1) (by omega) (by omega)) ?_
  exact aA ⟨⟨_, rfl, by simp only [go_sem, pr, hv, Bool.true_and]⟩, trivial⟩
theorem a1B (q : List TNode) (f : TFile) (R : List TResult) (hq : bS q ≤ 4300000) (hf : wFile f ≤ 4300000) (hR : aJ R ≤ 67108864) : FnC Tryz.prog 265 [.o (.d (.sl (q.map bD))), dB f, .o (.d (.sl (R.map aK)))] (ob (pr q R f)) := by
 refine ent Tryz.func265 rfl Tryz.call265 rfl (fun C => ?_); simp only [go_sem, st0, Tryz.ntmps265]
 cases hv : okQ q
 ·have q0 := @hv; refine fC (dD q hq) ?_
  exact aA ⟨⟨_, rfl, by simp only [go_sem, pr, hv, Bool.false_and]⟩, trivial⟩
 ·have hl := mO hv
  have hx : (q.length : Int) - 1 = ((q.length - 1 : Nat) : Int) := by omega
  have q0 := @hv; have q1 := @hx; refine yK (dD q hq) (a6d q f R hv hf hR q.length (q.length - 1) (by omega) (by omega)) ?_
  exact aA ⟨⟨_, rfl, by simp only [go_sem, pr, hv, Bool.true_and]⟩, trivial⟩
theorem a0r (s : TStore) (q : List TNode) (R : List TResult) (hs : aM s ≤ 4300000) (hq : bS q ≤ 4300000) (hR : aJ R ≤ 67108864) : FnC Tryz.prog 226 [dH s, .o (.d (.sl (q.map bD))), .o (.d (.sl (R.map aK)))] (.o (.w 3 1 ((kL s.fFiles q R).map fD))) := by
 unfold aM dC at hs
 refine ent Tryz.func226 rfl Tryz.call226 rfl (fun C => ?_); simp only [go_sem, st0, Tryz.ntmps226]
 refine aG ?_
 refine aQ (α := Nat) (fun k => [(7, .o (.s 1)), (10, .o .u), (14, oi k)]) (fun k => [(1, .row 3 1 ((gN ((s.fFiles.take k).filter (pr q R))).map fD) true)]) (fun k => k ≤ s.fFiles.length) (fun k => s.fFiles.length - k) 0 (fun _ => ?_) ?_ ?_ (fun k hk => ?_)
 ·simp only [go_sem]
 ·simp only [go_sem]; simp [gN]
 ·simp
 ·simp only [go_sem]
  refine aG ?_
  refine cnd rfl (fun h => ?_) (fun h => ?_)
  ·simp only [decide_eq_true_eq, Int.ofNat_lt] at h
   have hw := bB wFile s.fFiles h
   have ht : s.fFiles.take (k + 1) = s.fFiles.take k ++ [s.fFiles[k]] := List.take_succ_eq_append_getElem h
   have hl : (gN ((s.fFiles.take k).filter (pr q R))).length ≤ k := by
    unfold gN; rw [List.length_map]
    exact Nat.le_trans (List.length_filter_le _ _) (by rw [List.length_take]; omega)
   have hl1 : (gN ((s.fFiles.take k).filter (pr q R))).length + 1 ≤ 140737488355328 := by omega
   have hl2 : ((gN ((s.fFiles.take k).filter (pr q R))).length + 1) * 8 ≤ 140737488355328 := by omega
   cases hm : pr q R s.fFiles[k]
   ·have hf : gN ((s.fFiles.take (k + 1)).filter (pr q R)) = gN ((s.fFiles.take k).filter (pr q R)) := by rw [ht, List.filter_append]; simp [hm]
    have q0 := @h; have q1 := @hm; refine mR (a1A q s.fFiles[k] R hq (by omega) hR) ?_
    refine aF (k + 1) ?_ ?_ ?_
    ·simp only [go_sem, hf]; simp
    ·omega
    ·omega
   ·have hf : gN ((s.fFiles.take (k + 1)).filter (pr q R)) = gN ((s.fFiles.take k).filter (pr q R)) ++ [s.fFiles[k].fID] := by rw [ht, List.filter_append]; simp [hm, gN]
    have q0 := @h; have q1 := @hm; refine mR (a1A q s.fFiles[k] R hq (by omega) hR) ?_
    refine aF (k + 1) ?_ ?_ ?_
    ·simp only [go_sem, hf, List.map_append]; simp
    ·omega
    ·omega
  ·simp only [decide_eq_false_iff_not] at h
   have e : k = s.fFiles.length := by omega
   subst e
   refine aG ?_
   exact aA ⟨⟨_, rfl, by simp only [go_sem, kL, List.take_length]⟩, trivial⟩
theorem mY (s : TStore) (q : List TNode) (R : List TResult) (hs : aM s ≤ 4300000) (hq : bS q ≤ 4300000) (hR : aJ R ≤ 67108864) : FnC Tryz.prog 217 [dH s, .o (.d (.sl (q.map bD))), .o (.d (.sl (R.map aK)))] (.o (.w 3 1 ((kL s.fFiles q R).map fD))) := by
 unfold aM dC at hs
 refine ent Tryz.func217 rfl Tryz.call217 rfl (fun C => ?_); simp only [go_sem, st0, Tryz.ntmps217]
 refine aG ?_
 refine aQ (α := Nat) (fun k => [(7, .o (.s 1)), (9, .o .u), (8, oi k)]) (fun k => [(1, .row 3 1 ((gN ((s.fFiles.take k).filter (pr q R))).map fD) true)]) (fun k => k ≤ s.fFiles.length) (fun k => s.fFiles.length - k) 0 (fun _ => ?_) ?_ ?_ (fun k hk => ?_)
 ·simp only [go_sem]
 ·simp only [go_sem]; simp [gN]
 ·simp
 ·simp only [go_sem]
  refine aG ?_
  refine cnd rfl (fun h => ?_) (fun h => ?_)
  ·simp only [decide_eq_true_eq, Int.ofNat_lt] at h
   have hw := bB wFile s.fFiles h
   have ht : s.fFiles.take (k + 1) = s.fFiles.take k ++ [s.fFiles[k]] := List.take_succ_eq_append_getElem h
   have hl : (gN ((s.fFiles.take k).filter (pr q R))).length ≤ k := by
    unfold gN; rw [List.length_map]
    exact Nat.le_trans (List.length_filter_le _ _) (by rw [List.length_take]; omega)
   have hl1 : (gN ((s.fFiles.take k).filter (pr q R))).length + 1 ≤ 140737488355328 := by omega
   have hl2 : ((gN ((s.fFiles.take k).filter (pr q R))).length + 1) * 8 ≤ 140737488355328 := by omega
   cases hm : pr q R s.fFiles[k]
   ·have hf : gN ((s.fFiles.take (k + 1)).filter (pr q R)) = gN ((s.fFiles.take k).filter (pr q R)) := by rw [ht, List.filter_append]; simp [hm]
    have q0 := @h; have q1 := @hm; refine mR (a1B q s.fFiles[k] R hq (by omega) hR) ?_
    refine aF (k + 1) ?_ ?_ ?_
    ·simp only [go_sem, hf]; simp
    ·omega
    ·omega
   ·have hf : gN ((s.fFiles.take (k + 1)).filter (pr q R)) = gN ((s.fFiles.take k).filter (pr q R)) ++ [s.fFiles[k].fID] := by rw [ht, List.filter_append]; simp [hm, gN]
    have q0 := @h; have q1 := @hm; refine mR (a1B q s.fFiles[k] R hq (by omega) hR) ?_
    refine aF (k + 1) ?_ ?_ ?_
    ·simp only [go_sem, hf, List.map_append]; simp
    ·omega
    ·omega
  ·simp only [decide_eq_false_iff_not] at h
   have e : k = s.fFiles.length := by omega
   subst e
   refine aG ?_
   exact aA ⟨⟨_, rfl, by simp only [go_sem, kL, List.take_length]⟩, trivial⟩
theorem b3p (d : List TDir) (h : kR d = false) : resL d = [] := by
 unfold kR at h
 unfold resL
 split
 ·rename_i hv
  rw [if_pos hv] at h
  apply a6n
  intro hx
  obtain ⟨F, hF⟩ := hx
  rw [xD hF] at h; cases h
 ·rfl
theorem b4Y (A : List Nat) (h : 0 < A.length) (hl : A.length ≤ 4300000) : FnC Tryz.prog 273 [.o (.d (.sl (A.map rZ)))] (oi (a0q A)) := by
 have h1 : ¬ (A.length : Int) < 1 := by omega
 have hst : a0q A = wJ (A.drop 1) (A[0] : Int) := by
  have := a0W A 0 (-1) h
  rw [List.drop_zero] at this
  unfold a0q
  rw [this, if_pos (by omega)]
 refine ent Tryz.func273 rfl Tryz.call273 rfl (fun C => ?_); simp only [go_sem, st0, Tryz.ntmps273]
 have q0 := @h; have q1 := @h1; have q2 := @decide_false; have q3 := @Int.toNat_zero; have q4 := @Int.le_refl; refine zX ?_
 refine aQ (α := Nat × Int) (fun x => [(3, oi x.2), (4, oi x.1)]) (fun _ => []) (fun x => 1 ≤ x.1 ∧ x.1 ≤ A.length ∧ a0q A = wJ (A.drop x.1) x.2) (fun x => A.length - x.1) (1, (A[0] : Int)) (fun _ => ?_) ?_ ?_ (fun x hx => ?_)
 ·simp only [go_sem]
 ·simp only [go_sem]; simp
 ·exact ⟨by simp, by simp only; omega, hst⟩
 ·obtain ⟨k, m⟩ := x
  obtain ⟨hk1, hk, hq⟩ := hx
  simp only at hk1 hk hq
  simp only [go_sem]
  refine aG ?_
  refine cnd rfl (fun h2 => ?_) (fun h2 => ?_)
  ·simp only [decide_eq_true_eq, Int.ofNat_lt] at h2
   rw [a0W A k m h2] at hq
   have q0 := @h2; refine gH ?_
   refine aF (k + 1, mxI m (A[k] : Int)) ?_ ?_ ?_
   ·simp only [go_sem]; simp
   ·exact ⟨by simp, by simp only; omega, hq⟩
   ·simp only; omega
  ·simp only [decide_eq_false_iff_not] at h2
   have e : k = A.length := by omega
   subst e
   rw [List.drop_length, wJ] at hq
   refine aG ?_
   exact aA ⟨⟨_, rfl, by simp only [go_sem, hq]⟩, trivial⟩
theorem a9k (d : List TDir) (hd : aU d ≤ 4300000) (hl : (resL d).length ≤ 4300000) : FnC Tryz.prog 225 [.o (.d (.sl (d.map aL)))] (oi (a0q (resL d))) := by
 refine ent Tryz.func225 rfl Tryz.call225 rfl (fun C => ?_); simp only [go_sem, st0, Tryz.ntmps225]
 cases hb : kR d
 ·have e := b3p d hb
  have q0 := @hb; refine fC (iE d hd) ?_
  exact aA ⟨⟨_, rfl, by simp only [go_sem, e, a0q, wJ]⟩, trivial⟩
 ·by_cases h0 : 0 < (resL d).length
  ·have hn : ¬ ((resL d).length : Int) = 0 := by omega
   have q0 := @hb; have q1 := @hn; have q2 := @decide_false; refine a5L (iE d hd) (b4Y (resL d) h0 hl) ?_
   exact aA ⟨⟨_, rfl, by simp only [go_sem]⟩, trivial⟩
  ·have hn : ((resL d).length : Int) = 0 := by omega
   have e : resL d = [] := List.eq_nil_of_length_eq_zero (by omega)
   have q0 := @hb; have q1 := @hn; have q2 := @decide_true; refine mU (iE d hd) ?_
   exact aA ⟨⟨_, rfl, by simp only [go_sem, e, a0q, wJ]⟩, trivial⟩
theorem a3p (d : List TDir) (hd : aU d ≤ 4300000) (hl : (resL d).length ≤ 4300000) : FnC Tryz.prog 216 [.o (.d (.sl (d.map aL)))] (oi (a0q (resL d))) := by
 refine ent Tryz.func216 rfl Tryz.call216 rfl (fun C => ?_); simp only [go_sem, st0, Tryz.ntmps216]
 refine fQ (gF d hd) ?_
 generalize resL d = A at *
 refine aQ (α := Nat × Int) (fun x => [(5, oi x.2), (6, oi x.1)]) (fun _ => []) (fun x => x.1 ≤ A.length ∧ a0q A = wJ (A.drop x.1) x.2) (fun x => A.length - x.1) (0, -1) (fun _ => ?_) ?_ ?_ (fun x hx => ?_)
 ·simp only [go_sem]
 ·simp only [go_sem]; simp
 ·simp [a0q]
 ·obtain ⟨k, m⟩ := x
  obtain ⟨hk, hq⟩ := hx
  simp only at hk hq
  simp only [go_sem]
  refine aG ?_
  refine cnd rfl (fun h2 => ?_) (fun h2 => ?_)
  ·simp only [decide_eq_true_eq, Int.ofNat_lt] at h2
   rw [a0W A k m h2] at hq
   have q0 := @h2; refine gH ?_
   by_cases hc : m < (A[k] : Int)
   ·rw [if_pos hc] at hq
    refine cnd (b := decide (m < (A[k] : Int))) rfl (fun _ => ?_) (fun hx => ?_)
    ·have q0 := @h2; refine gH ?_
     refine aF (k + 1, (A[k] : Int)) ?_ ?_ ?_
     ·simp only [go_sem]; simp
     ·exact ⟨by simp only; omega, hq⟩
     ·simp only; omega
    ·simp [hc] at hx
   ·rw [if_neg hc] at hq
    refine cnd (b := decide (m < (A[k] : Int))) rfl (fun hx => ?_) (fun _ => ?_)
    ·simp [hc] at hx
    ·have q0 := @h2; refine gH ?_
     refine aF (k + 1, m) ?_ ?_ ?_
     ·simp only [go_sem]; simp
     ·exact ⟨by simp only; omega, hq⟩
     ·simp only; omega
  ·simp only [decide_eq_false_iff_not] at h2
   have e : k = A.length := by omega
   subst e
   rw [List.drop_length, wJ] at hq
   refine aG ?_
   exact aA ⟨⟨_, rfl, by simp only [go_sem, hq]⟩, trivial⟩
end Go.Proofs.YteaaopodnbjpoaaGreat
end
