/- Joined texts. -/
import Derived.Test.YteaaopodnbjpoaaGreatZ13
import Derived.Test.YteaaopodnbjpoaaGreatZ07
import Derived.Test.YteaaopodnbjpoaaGreatZ09
import Derived.Test.YteaaopodnbjpoaaGreatZ08
import Derived.Test.YteaaopodnbjpoaaGreatZ10
set_option linter.all false
section
set_option maxRecDepth 100000
set_option maxHeartbeats 4000000
namespace Go.Proofs.YteaaopodnbjpoaaGreat
open Go Go.Sx Go.RowKit Go.Proofs
theorem kM {d : List TDir} (h : bJ d = true) (i : Nat) (hi : i < d.length) : okQ d[i].fQuery = true := by
 unfold bJ at h
 simp only [Bool.and_eq_true, List.all_eq_true, List.mem_range] at h
 have := h.1 i hi
 unfold jI at this
 rw [List.getElem?_eq_getElem hi] at this
 simp only [Bool.and_eq_true] at this
 exact this.2.2
theorem jG {d : List TDir} (h : bJ d = true) : d.length ≤ 5 := by
 unfold bJ at h
 simp only [Bool.and_eq_true, decide_eq_true_eq] at h
 omega
theorem a9k (q : List TNode) (hq : okQ q = true) (hw : bT q ≤ 4300000) : FnC Tryz.prog 271 [.o (.d (.sl (q.map bC)))] (.o (.d (.sl ((eX (dI q false)).map bV)))) := (b0Y q hq hw).pu (by simp only [go_sem, and_self])
theorem a9l (q : List TNode) (hq : okQ q = true) (hw : bT q ≤ 4300000) : FnC Tryz.prog 272 [.o (.d (.sl (q.map bC)))] (.o (.d (.sl ((eX (dI q true)).map bV)))) := (a9o q hq hw).pu (by simp only [go_sem, and_self])
theorem a6t (d : List TDir) (L : List Nat) (names : List ByteArray) (hd : d.length ≤ 4300000) (hL : L.length = d.length) (hn : names.length ≤ 4300000) (hB : ∀ j, lv L j ≤ 1000000) : FnC Tryz.prog 270 [.o (.d (.sl (d.map aM))), .o (.d (.sl (L.map tJ))), .o (.d (.sl (names.map bV))), oi 0] (oi (abv d L 0 names 0 : Nat)) := a9m d L 0 names hd hL hn hB (by omega)
theorem a6u (d : List TDir) (L : List Nat) (names : List ByteArray) (hd : d.length ≤ 4300000) (hL : L.length = d.length) (hn : names.length ≤ 4300000) (hB : ∀ j, lv L j ≤ 1000000) : FnC Tryz.prog 270 [.o (.d (.sl (d.map aM))), .o (.d (.sl (L.map tJ))), .o (.d (.sl (names.map bV))), oi 1] (oi (abv d L 1 names 0 : Nat)) := a9m d L 1 names hd hL hn hB (by omega)
noncomputable def resL (d : List TDir) : List Nat := if bJ d then b1e d.length (EE d) else []
noncomputable def lH (d : List TDir) : Bool := if bJ d then a2E d.length (EE d) else false
theorem b5u (L : List Nat) (i v : Nat) : (L.map tJ).set i [D.v (Value.int .i64 (v : Int))] = (L.set i v).map tJ := by rw [List.map_set]; rfl
structure Pass (d : List TDir) (L : List Nat) (i : Nat) (M : List Nat) (ch : Bool) : Prop where
 low : Low d M
 no : ch = false → M = L ∧ ∀ j, (hj : j < d.length) → j < i → iH d L d[j] ≤ lv L j
 yes : ch = true → vZ L < vZ M
theorem Pass.start {d : List TDir} {L : List Nat} (h : Low d L) : Pass d L 0 L false := ⟨h, fun _ => ⟨rfl, fun j _ hj => by omega⟩, fun h => by cases h⟩
theorem Pass.keep {d : List TDir} {L M : List Nat} {i : Nat} {ch : Bool} (h : Pass d L i M ch) (hi : i < d.length) (hle : ¬ iH d M d[i] > lv M i) : Pass d L (i + 1) M ch := by
 refine ⟨h.low, fun hc => ⟨(h.no hc).1, fun j hj hlt => ?_⟩, h.yes⟩
 by_cases e : j = i
 ·subst e
  have := (h.no hc).1
  subst this
  omega
 ·exact (h.no hc).2 j hj (by omega)
theorem Pass.set {d : List TDir} {L M : List Nat} {i : Nat} {ch : Bool} (h : Pass d L i M ch) (hi : i < d.length) (ho : ¬ iH d M d[i] > d.length) (hgt : iH d M d[i] > lv M i) : Pass d L (i + 1) (M.set i (iH d M d[i])) true := by
 have hl : i < M.length := by rw [h.low.len]; exact hi
 have hs := a9v M i (iH d M d[i]) hl
 refine ⟨h.low.set hi ho, fun hc => (by cases hc), fun _ => ?_⟩
 cases ch with
 | false =>
  have := (h.no rfl).1
  subst this
  omega
 | true =>
  have := h.yes rfl
  omega
theorem iL (d : List TDir) (hd : aP d ≤ 4300000) : FnC Tryz.prog 224 [.o (.d (.sl (d.map aM)))] (.t [(false, [.w 3 1 ((resL d).map tJ)]), (false, [.d (bv (lH d))])]) := by
 have hd0 : d.length + wsum wDir d ≤ 4300000 := hd
 refine ent Tryz.func224 rfl Tryz.call224 rfl (fun C => ?_); simp only [go_sem, st0, Tryz.ntmps224]
 cases hv : bJ d
 ·have e1 : resL d = [] := by simp [resL, hv]
  have e2 : lH d = false := by simp [lH, hv]
  have q0 := @hv; refine fC (gI d hd) ?_
  exact aA ⟨⟨_, rfl, by simp only [go_sem, e1, e2]⟩, by simp [aK]⟩
 have e1 : resL d = b1e d.length (EE d) := by simp [resL, hv]
 have e2 : lH d = a2E d.length (EE d) := by simp [lH, hv]
 have hl5 := jG hv
 have q0 := @hv; refine fC (gI d hd) ?_
 refine aN (α := List Nat × Bool) (fun x => [(5, ob x.2)]) (fun x => [(0, .row 3 1 (x.1.map tJ) true)]) (fun x => Low d x.1 ∧ (x.2 = false → ∀ i, (hi : i < d.length) → iH d x.1 d[i] ≤ lv x.1 i)) (fun x => if x.2 then d.length * d.length - vZ x.1 + 1 else 0) (List.replicate d.length 0, true) (fun _ => ?_) ?_ ?_ (fun x hx => ?_)
 ·simp only [go_sem]
 ·simp only [go_sem]; simp [tJ]
 ·exact ⟨Low.start d, fun h => by cases h⟩
 ·obtain ⟨L, ch⟩ := x
  obtain ⟨hlow, hdone⟩ := hx
  simp only at hlow hdone
  simp only [go_sem]
  refine aD ?_
  refine cnd rfl (fun h => ?_) (fun h => ?_)
  ·subst h
   refine aD ?_
   refine aN (α := Nat × List Nat × Bool) (fun x => [(5, ob x.2.2), (18, oi x.1)]) (fun x => [(0, .row 3 1 (x.2.1.map tJ) true)]) (fun x => x.1 ≤ d.length ∧ Pass d L x.1 x.2.1 x.2.2) (fun x => d.length - x.1) (0, L, false) (fun _ => ?_) ?_ ?_ (fun x hx => ?_)
   ·simp only [go_sem]
   ·simp only [go_sem]; simp
   ·exact ⟨by simp, Pass.start hlow⟩
   ·obtain ⟨i, M, c⟩ := x
    obtain ⟨hi, hp⟩ := hx
    simp only at hi hp
    simp only [go_sem]
    refine aD ?_
    refine cnd rfl (fun h => ?_) (fun h => ?_)
    ·simp only [decide_eq_true_eq, Int.ofNat_lt] at h
     have hq := kM hv i h
     have hq9 := nK hq
     have hwd := bA wDir d h
     have hwq : bT d[i].fQuery ≤ wDir d[i] := by unfold wDir; omega
     have hML : M.length = d.length := hp.low.len
     have hiM : i < M.length := by omega
     have hB : ∀ j, lv M j ≤ 1000000 := fun j => by have := hp.low.small j; omega
     have ho1 := tQ (dI d[i].fQuery false)
     have ho2 := tQ (dI d[i].fQuery true)
     have ho3 := kP d[i].fQuery false d[i].fQuery.length
     have ho4 := kP d[i].fQuery true d[i].fQuery.length
     have hk1 : (eX (dI d[i].fQuery false)).length ≤ 4300000 := by unfold dI at ho1 ⊢; omega
     have hk2 : (eX (dI d[i].fQuery true)).length ≤ 4300000 := by unfold dI at ho2 ⊢; omega
     have hmx : mxI (abv d M 0 (eX (dI d[i].fQuery false)) 0 : Nat) (abv d M 1 (eX (dI d[i].fQuery true)) 0 : Nat) = ((iH d M d[i] : Nat) : Int) := by
      rw [b2j]; rfl
     have hg := rJ M i hiM
     have qH := aI @h @hmx; repeat' (with_reducible first | refine nY ?_ | (refine mX ?_; try simp only [go_sem, qH]) | refine kD ?_ | refine rD ?_ | refine cP (a9k d[i].fQuery hq (by omega)) ?_ | refine cP (a9l d[i].fQuery hq (by omega)) ?_ | refine vO (a6t d M (eX (dI d[i].fQuery false)) (by omega) hML hk1 hB) ?_ | refine vQ (a6t d M (eX (dI d[i].fQuery false)) (by omega) hML hk1 hB) ?_ | refine vO (a6u d M (eX (dI d[i].fQuery true)) (by omega) hML hk2 hB) ?_ | refine vQ (a6u d M (eX (dI d[i].fQuery true)) (by omega) hML hk2 hB) ?_ | refine aO ?_ | fail)
     refine cnd rfl (fun ho => ?_) (fun ho => ?_)
     ·simp only [decide_eq_true_eq, Int.ofNat_lt] at ho
      have hno := hp.low.over h ho
      have f1 := a7K hno
      have f2 := a9u hno
      refine aD ?_
      exact aA ⟨⟨_, rfl, by simp only [go_sem, e1, e2, f1, f2]⟩, by simp [aK]⟩
     ·simp only [decide_eq_false_iff_not, Int.ofNat_lt] at ho
      have q0 := @h; have q1 := @hiM; have q2 := @hg; refine mO ?_
      refine cnd rfl (fun hgt => ?_) (fun hgt => ?_)
      ·simp only [decide_eq_true_eq, Int.ofNat_lt] at hgt
       have q0 := @h; have q1 := @hiM; have q2 := @hg; refine mO ?_
       refine aF (i + 1, M.set i (iH d M d[i]), true) ?_ ?_ ?_
       ·simp only [go_sem, ← b5u]; simp
       ·exact ⟨by simp only; omega, hp.set h ho hgt⟩
       ·simp only; omega
      ·simp only [decide_eq_false_iff_not, Int.ofNat_lt] at hgt
       have q0 := @h; have q1 := @hiM; have q2 := @hg; refine mO ?_
       refine aF (i + 1, M, c) ?_ ?_ ?_
       ·simp only [go_sem]; simp
       ·exact ⟨by simp only; omega, hp.keep h hgt⟩
       ·simp only; omega
    ·simp only [decide_eq_false_iff_not] at h
     have e : i = d.length := by omega
     subst e
     refine aD ?_
     refine aF (M, c) ?_ ?_ ?_
     ·simp only [go_sem]; simp
     ·exact ⟨hp.low, fun hc i hi => by
       simp only at hc
       obtain ⟨h1, h2⟩ := hp.no hc
       subst h1
       exact h2 i hi hi⟩
     ·have hs := hp.low.sum
      simp only
      cases c with
      | false => simp
      | true =>
       have := hp.yes rfl
       simp only [if_true]
       omega
  ·subst h
   have hL := hlow.done (hdone rfl)
   have f1 := a7J hL
   have f2 := yT hL.clo
   refine aD ?_
   exact aA ⟨⟨_, rfl, by simp only [go_sem, e1, e2, f1, f2]⟩, by simp [aK]⟩
theorem jO (d : List TDir) (hd : aP d ≤ 4300000) : FnC Tryz.prog 183 [.o (.d (.sl (d.map aM)))] (ob (lH d)) := by
 refine ent Tryz.func183 rfl Tryz.call183 rfl (fun C => ?_); simp only [go_sem, st0, Tryz.ntmps183]
 refine gP (iL d hd) ?_
 exact aA ⟨⟨_, rfl, by simp only [go_sem]⟩, trivial⟩
end Go.Proofs.YteaaopodnbjpoaaGreat
end
section
set_option maxRecDepth 100000
set_option maxHeartbeats 4000000
namespace Go.Proofs.YteaaopodnbjpoaaGreat
open Go Go.Sx Go.RowKit Go.Proofs
theorem a9i (q : List TNode) (hq : okQ q = true) (hw : bT q ≤ 4300000) : FnC Tryz.prog 300 [.o (.d (.sl (q.map bC)))] (.o (.d (.sl ((putL (dI q false)).map bV)))) := (b0Z q hq hw).pu (by simp only [go_sem, and_self])
theorem a9j (q : List TNode) (hq : okQ q = true) (hw : bT q ≤ 4300000) : FnC Tryz.prog 301 [.o (.d (.sl (q.map bC)))] (.o (.d (.sl ((putL (dI q true)).map bV)))) := (a9p q hq hw).pu (by simp only [go_sem, and_self])
theorem a2A (d : List TDir) (i w : Nat) (names : List ByteArray) (k : Nat) (h : k < names.length) : eF d i w (names.take (k + 1)) = eF d i w (names.take k) ++ (if 0 ≤ placeD d names[k] then [(i, (placeD d names[k]).toNat, w)] else []) := by
 unfold eF
 rw [List.take_succ_eq_append_getElem h, List.flatMap_append]
 simp
theorem pY (d : List TDir) (i w : Nat) (names : List ByteArray) : (eF d i w names).length ≤ names.length := by
 induction names with
 | nil => simp [eF]
 | cons x l ih =>
  have e : eF d i w (x :: l) = (if 0 ≤ placeD d x then [(i, (placeD d x).toNat, w)] else []) ++ eF d i w l := by simp [eF]
  rw [e, List.length_append, List.length_cons]
  split <;> simp <;> omega
theorem tH (d : List TDir) (i w : Nat) (hi : i < d.length) (hw : w ≤ 1) (names : List ByteArray) (x : Nat × Nat × Nat) (hx : x ∈ eF d i w names) : x.1 < d.length ∧ x.2.2 ≤ 1 := by
 obtain ⟨nm, _, k, _, rfl⟩ := (a0j d i w names x).1 hx
 exact ⟨hi, hw⟩
def jY (d : List TDir) (k : Nat) : List (Nat × Nat × Nat) := (List.range k).flatMap (rM d)
theorem a2B (d : List TDir) (k : Nat) : jY d (k + 1) = jY d k ++ rM d k := by
 simp [jY, List.range_succ, List.flatMap_append]
theorem b3A (d : List TDir) (i : Nat) (h : i < d.length) : rM d i = eF d i 0 (putL (dI d[i].fQuery false)) ++ eF d i 1 (putL (dI d[i].fQuery true)) := by
 unfold rM; rw [List.getElem?_eq_getElem h]
theorem b0V (d : List TDir) (hv : bJ d = true) (i : Nat) : (rM d i).length ≤ 18 := by
 unfold rM
 cases hx : d[i]? with
 | none => simp
 | some x =>
  have hi := (List.getElem?_eq_some_iff.1 hx).1
  have hxe : d[i] = x := (List.getElem?_eq_some_iff.1 hx).2
  have hq := (nK (kM hv i hi)).2
  rw [hxe] at hq
  have h1 := pY d i 0 (putL (dI x.fQuery false))
  have h2 := pY d i 1 (putL (dI x.fQuery true))
  have h3 := iZ (dI x.fQuery false)
  have h4 := iZ (dI x.fQuery true)
  have h5 : (dI x.fQuery false).length ≤ x.fQuery.length := kP _ _ _
  have h6 : (dI x.fQuery true).length ≤ x.fQuery.length := kP _ _ _
  simp only [List.length_append]
  omega
theorem a4F (d : List TDir) (hv : bJ d = true) (k : Nat) : (jY d k).length ≤ 18 * k := by
 induction k with
 | zero => simp [jY]
 | succ k ih => rw [a2B, List.length_append]; have := b0V d hv k; omega
theorem a6s (d : List TDir) (k : Nat) (x : Nat × Nat × Nat) (hx : x ∈ jY d k) : x.1 < d.length ∧ x.2.2 ≤ 1 := by
 unfold jY at hx
 obtain ⟨i, _, h⟩ := List.mem_flatMap.1 hx
 unfold rM at h
 cases hd : d[i]? with
 | none => rw [hd] at h; simp at h
 | some y =>
  rw [hd] at h
  have hi := (List.getElem?_eq_some_iff.1 hd).1
  simp only [List.mem_append] at h
  rcases h with h | h
  ·exact tH d i 0 hi (by omega) _ x h
  ·exact tH d i 1 hi (by omega) _ x h
theorem b2i {i p w : Nat} {L : List Nat} (h : lv L p + w > lv L i) : up1 i p w L = L.set i (lv L p + w) := by unfold up1; rw [if_pos h]
theorem b5t {i p w : Nat} {L : List Nat} (h : ¬ lv L p + w > lv L i) : up1 i p w L = L := by unfold up1; rw [if_neg h]
theorem a4G (d : List TDir) (L : List Nat) (hv : bJ d = true) (hd : aP d ≤ 4300000) (hL : L.length = d.length) (hB : ∀ j, lv L j ≤ 1000000) : FnC Tryz.prog 264 [.o (.d (.sl (d.map aM))), .o (.d (.sl (L.map tJ)))] (.o (.w 3 1 ((ups (gZ d) L).map tJ))) := by
 have hd0 : d.length + wsum wDir d ≤ 4300000 := hd
 have hl5 := jG hv
 refine ent Tryz.func264 rfl Tryz.call264 rfl (fun C => ?_); simp only [go_sem, st0, Tryz.ntmps264]
 refine aD ?_
 refine aN (α := Nat) (fun i => [(5, .o (.s 0)), (13, .o .u), (15, .o .u), (6, oi i)]) (fun i => [(0, .row 3 1 ((ups (jY d i) L).map tJ) true)]) (fun i => i ≤ d.length) (fun i => d.length - i) 0 (fun _ => ?_) ?_ ?_ (fun i hi => ?_)
 ·simp only [go_sem]
 ·simp only [go_sem]; simp [jY, ups]
 ·simp
 ·simp only [go_sem]
  refine aD ?_
  refine cnd rfl (fun h => ?_) (fun h => ?_)
  ·simp only [decide_eq_true_eq, Int.ofNat_lt] at h
   have hq := kM hv i h
   have hwd := bA wDir d h
   have hwq : bT d[i].fQuery ≤ wDir d[i] := by unfold wDir; omega
   have hsuc := a2B d i
   rw [b3A d i h] at hsuc
   have hML : (ups (jY d i) L).length = d.length := by rw [yU]; exact hL
   have hMB := oN (jY d i) L 1000000 (fun x hx => by rw [hL]; exact a6s d i x hx) hB
   have hKl := a4F d hv i
   have hfin : ups (jY d (i + 1)) L = ups (eF d i 1 (putL (dI d[i].fQuery true))) (ups (eF d i 0 (putL (dI d[i].fQuery false))) (ups (jY d i) L)) := by
    rw [hsuc, a3o, a3o]
   have hn1 := iZ (dI d[i].fQuery false)
   have hn2 := iZ (dI d[i].fQuery true)
   have hn3 : (dI d[i].fQuery false).length ≤ d[i].fQuery.length := kP _ _ _
   have hn4 : (dI d[i].fQuery true).length ≤ d[i].fQuery.length := kP _ _ _
   have hq9 := nK hq
   have hMB2 : ∀ j, lv (ups (jY d i) L) j ≤ 1000200 := fun j => by have := hMB j; omega
   generalize ups (jY d i) L = M at *
   have q0 := @h; refine fC (a9i d[i].fQuery hq (by omega)) ?_
   generalize putL (dI d[i].fQuery false) = P at *
   refine aN (α := Nat) (fun k => [(8, oi k)]) (fun k => [(0, .row 3 1 ((ups (eF d i 0 (P.take k)) M).map tJ) true)]) (fun k => k ≤ P.length) (fun k => P.length - k) 0 (fun _ => ?_) ?_ ?_ (fun k hk => ?_)
   ·simp only [go_sem]
   ·simp only [go_sem]; simp [eF, ups]
   ·simp
   ·simp only [go_sem]
    refine aD ?_
    refine cnd rfl (fun h1 => ?_) (fun h1 => ?_)
    ·simp only [decide_eq_true_eq, Int.ofNat_lt] at h1
     have ht := a2A d i 0 P k h1
     have hXL : (ups (eF d i 0 (P.take k)) M).length = d.length := by rw [yU]; exact hML
     have hXB := oN (eF d i 0 (P.take k)) M 1000200 (fun x hx => by rw [hML]; exact tH d i 0 h (by omega) _ x hx) hMB2
     have hel := pY d i 0 (P.take k)
     rw [List.length_take] at hel
     have hup : ups (eF d i 0 (P.take (k + 1))) M = ups (if 0 ≤ placeD d P[k] then [(i, (placeD d P[k]).toNat, 0)] else []) (ups (eF d i 0 (P.take k)) M) := by rw [ht, a3o]
     generalize ups (eF d i 0 (P.take k)) M = X at *
     have hiX : i < X.length := by omega
     have hg := rJ X i hiX
     rcases placeD_cases d P[k] with hp | ⟨p, hp, hpl⟩
     ·rw [if_neg (by omega)] at hup
      have q0 := @h1; have q1 := @hp; have q2 := @decide_true; have q3 := @decide_false; refine a1J (jZ d P[k] (by omega)) ?_
      refine aF (k + 1) ?_ ?_ ?_
      ·simp only [go_sem, hup, ups]; simp
      ·omega
      ·omega
     ·have hpX : p < X.length := by omega
      have hge : (0 : Int) ≤ (p : Int) := by omega
      have hgp := rJ X p hpX
      rw [if_pos (by omega), hp, Int.toNat_natCast] at hup
      simp only [ups] at hup
      by_cases hc : lv X p > lv X i
      ·have hcI : ((lv X i : Nat) : Int) < ((lv X p : Nat) : Int) := by omega
       rw [b2i (by omega), Nat.add_zero] at hup
       have qH := aI @h1 (aI @hp (aI @hge (aI @hpX (aI @hiX (aI @hg (aI @hgp (aI @hcI (aI @decide_true (aI @decide_false @Int.toNat_natCast))))))))); repeat' (with_reducible first | refine nY ?_ | (refine mX ?_; try simp only [go_sem, qH]) | refine kD ?_ | refine rD ?_ | refine cP (jZ d P[k] (by omega)) ?_ | refine aO ?_ | fail)
       refine aF (k + 1) ?_ ?_ ?_
       ·simp only [go_sem, hup, ← b5u]; simp
       ·omega
       ·omega
      ·have hcI : ¬ ((lv X i : Nat) : Int) < ((lv X p : Nat) : Int) := by omega
       rw [b5t (by omega)] at hup
       have qH := aI @h1 (aI @hp (aI @hge (aI @hpX (aI @hiX (aI @hg (aI @hgp (aI @hcI (aI @decide_true (aI @decide_false @Int.toNat_natCast))))))))); repeat' (with_reducible first | refine nY ?_ | (refine mX ?_; try simp only [go_sem, qH]) | refine kD ?_ | refine rD ?_ | refine cP (jZ d P[k] (by omega)) ?_ | refine aO ?_ | fail)
       refine aF (k + 1) ?_ ?_ ?_
       ·simp only [go_sem, hup]; simp
       ·omega
       ·omega
    ·simp only [decide_eq_false_iff_not] at h1
     have e : k = P.length := by omega
     subst e
     rw [List.take_length]
     have hXL : (ups (eF d i 0 P) M).length = d.length := by rw [yU]; exact hML
     have hXB := oN (eF d i 0 P) M 1000200 (fun x hx => by rw [hML]; exact tH d i 0 h (by omega) _ x hx) hMB2
     have hel := pY d i 0 P
     have hXB2 : ∀ j, lv (ups (eF d i 0 P) M) j ≤ 1000400 := fun j => by have := hXB j; omega
     generalize ups (eF d i 0 P) M = Y at *
     have q0 := @h; refine fC (a9j d[i].fQuery hq (by omega)) ?_
     generalize putL (dI d[i].fQuery true) = N at *
     refine aN (α := Nat) (fun k => [(11, oi k)]) (fun k => [(0, .row 3 1 ((ups (eF d i 1 (N.take k)) Y).map tJ) true)]) (fun k => k ≤ N.length) (fun k => N.length - k) 0 (fun _ => ?_) ?_ ?_ (fun k hk => ?_)
     ·simp only [go_sem]
     ·simp only [go_sem]; simp [eF, ups]
     ·simp
     ·simp only [go_sem]
      refine aD ?_
      refine cnd rfl (fun h1 => ?_) (fun h1 => ?_)
      ·simp only [decide_eq_true_eq, Int.ofNat_lt] at h1
       have ht := a2A d i 1 N k h1
       have hZL : (ups (eF d i 1 (N.take k)) Y).length = d.length := by rw [yU]; exact hXL
       have hZB := oN (eF d i 1 (N.take k)) Y 1000400 (fun x hx => by rw [hXL]; exact tH d i 1 h (by omega) _ x hx) hXB2
       have hel := pY d i 1 (N.take k)
       rw [List.length_take] at hel
       have hup : ups (eF d i 1 (N.take (k + 1))) Y = ups (if 0 ≤ placeD d N[k] then [(i, (placeD d N[k]).toNat, 1)] else []) (ups (eF d i 1 (N.take k)) Y) := by rw [ht, a3o]
       generalize ups (eF d i 1 (N.take k)) Y = X at *
       have hiX : i < X.length := by omega
       have hg := rJ X i hiX
       rcases placeD_cases d N[k] with hp | ⟨p, hp, hpl⟩
       ·rw [if_neg (by omega)] at hup
        have q0 := @h1; have q1 := @hp; have q2 := @decide_true; have q3 := @decide_false; refine a1J (jZ d N[k] (by omega)) ?_
        refine aF (k + 1) ?_ ?_ ?_
        ·simp only [go_sem, hup, ups]; simp
        ·omega
        ·omega
       ·have hpX : p < X.length := by omega
        have hge : (0 : Int) ≤ (p : Int) := by omega
        have hgp := rJ X p hpX
        have hbp := hZB p
        have hs1 : ((lv X p : Nat) : Int) + 1 = ((lv X p + 1 : Nat) : Int) := by omega
        rw [if_pos (by omega), hp, Int.toNat_natCast] at hup
        simp only [ups] at hup
        by_cases hc : lv X p + 1 > lv X i
        ·have hcI : ((lv X i : Nat) : Int) < ((lv X p + 1 : Nat) : Int) := by omega
         rw [b2i hc] at hup
         have qH := aI @h1 (aI @hp (aI @hge (aI @hpX (aI @hiX (aI @hg (aI @hgp (aI @hs1 (aI @hcI (aI @decide_true (aI @decide_false @Int.toNat_natCast)))))))))); repeat' (with_reducible first | refine nY ?_ | (refine mX ?_; try simp only [go_sem, qH]) | refine kD ?_ | refine rD ?_ | refine cP (jZ d N[k] (by omega)) ?_ | refine aO ?_ | fail)
         refine aF (k + 1) ?_ ?_ ?_
         ·simp only [go_sem, hup, ← b5u]; simp
         ·omega
         ·omega
        ·have hcI : ¬ ((lv X i : Nat) : Int) < ((lv X p + 1 : Nat) : Int) := by omega
         rw [b5t hc] at hup
         have qH := aI @h1 (aI @hp (aI @hge (aI @hpX (aI @hiX (aI @hg (aI @hgp (aI @hs1 (aI @hcI (aI @decide_true (aI @decide_false @Int.toNat_natCast)))))))))); repeat' (with_reducible first | refine nY ?_ | (refine mX ?_; try simp only [go_sem, qH]) | refine kD ?_ | refine rD ?_ | refine cP (jZ d N[k] (by omega)) ?_ | refine aO ?_ | fail)
         refine aF (k + 1) ?_ ?_ ?_
         ·simp only [go_sem, hup]; simp
         ·omega
         ·omega
      ·simp only [decide_eq_false_iff_not] at h1
       have e : k = N.length := by omega
       subst e
       rw [List.take_length]
       refine aD ?_
       refine aF (i + 1) ?_ ?_ ?_
       ·simp only [go_sem, hfin]; simp
       ·omega
       ·omega
  ·simp only [decide_eq_false_iff_not] at h
   have e : i = d.length := by omega
   subst e
   refine aD ?_
   exact aA ⟨⟨_, rfl, by simp only [go_sem, jY, gZ]⟩, trivial⟩
end Go.Proofs.YteaaopodnbjpoaaGreat
end
section
set_option maxRecDepth 100000
set_option maxHeartbeats 4000000
namespace Go.Proofs.YteaaopodnbjpoaaGreat
open Go Go.Sx Go.RowKit Go.Proofs
theorem a7E (A B : List Nat) (k : Nat) (hA : k < A.length) (hB : k < B.length) (h : A.take k = B.take k) (e : A[k] = B[k]) : A.take (k + 1) = B.take (k + 1) := by
 rw [List.take_succ_eq_append_getElem hA, List.take_succ_eq_append_getElem hB, h, e]
theorem b2h (A B : List Nat) (hA : A.length ≤ 4300000) (hB : B.length ≤ 4300000) : FnC Tryz.prog 152 [.o (.d (.sl (A.map tJ))), .o (.d (.sl (B.map tJ)))] (ob (decide (A = B))) := by
 refine ent Tryz.func152 rfl Tryz.call152 rfl (fun C => ?_); simp only [go_sem, st0, Tryz.ntmps152]
 by_cases hl : A.length = B.length
 ·have hli : ((A.length : Nat) : Int) = ((B.length : Nat) : Int) := by omega
  have q0 := @hli; have q1 := @decide_true; refine lF ?_
  refine aN (α := Nat) (fun k => [(5, oi k)]) (fun _ => []) (fun k => k ≤ A.length ∧ A.take k = B.take k) (fun k => A.length - k) 0 (fun _ => ?_) ?_ ?_ (fun k hk => ?_)
  ·simp only [go_sem]
  ·simp only [go_sem]; simp
  ·simp
  ·obtain ⟨hk, hq⟩ := hk
   simp only [go_sem]
   refine aD ?_
   refine cnd rfl (fun h => ?_) (fun h => ?_)
   ·simp only [decide_eq_true_eq, Int.ofNat_lt] at h
    have h2 : k < B.length := by omega
    by_cases he : A[k] = B[k]
    ·have hei : ((A[k] : Nat) : Int) = ((B[k] : Nat) : Int) := by omega
     have q0 := @h; have q1 := @h2; have q2 := @hei; have q3 := @decide_true; refine mW ?_
     refine aF (k + 1) ?_ ?_ ?_
     ·simp only [go_sem]; simp
     ·exact ⟨by omega, a7E A B k h h2 hq he⟩
     ·omega
    ·have hei : ¬ ((A[k] : Nat) : Int) = ((B[k] : Nat) : Int) := by omega
     have hne : decide (A = B) = false := decide_eq_false fun e => he (by subst e; rfl)
     have q0 := @h; have q1 := @h2; have q2 := @hei; have q3 := @decide_false; refine mW ?_
     exact aA ⟨⟨_, rfl, by simp only [go_sem, hne]⟩, trivial⟩
   ·simp only [decide_eq_false_iff_not] at h
    have e : k = A.length := by omega
    subst e
    rw [List.take_length, hl, List.take_length] at hq
    have hy : decide (A = B) = true := decide_eq_true hq
    refine aD ?_
    exact aA ⟨⟨_, rfl, by simp only [go_sem, hy]⟩, trivial⟩
 ·have hli : ¬ ((A.length : Nat) : Int) = ((B.length : Nat) : Int) := by omega
  have hne : decide (A = B) = false := decide_eq_false fun e => hl (by rw [e])
  have q0 := @hli; have q1 := @decide_false; refine lF ?_
  exact aA ⟨⟨_, rfl, by simp only [go_sem, hne]⟩, trivial⟩
theorem gM (d : List TDir) (hd : aP d ≤ 4300000) : FnC Tryz.prog 215 [.o (.d (.sl (d.map aM)))] (.t [(false, [.d (.sl ((resL d).map tJ))]), (false, [.d (bv (lH d))])]) := by
 have hd0 : d.length + wsum wDir d ≤ 4300000 := hd
 refine ent Tryz.func215 rfl Tryz.call215 rfl (fun C => ?_); simp only [go_sem, st0, Tryz.ntmps215]
 cases hv : bJ d
 ·have e1 : resL d = [] := by simp [resL, hv]
  have e2 : lH d = false := by simp [lH, hv]
  have q0 := @hv; refine fC (iJ d hd) ?_
  refine aB (Sees.frz 0 rfl) ?_
  simp only [go_sem]
  exact aA ⟨⟨_, rfl, by simp only [go_sem, e1, e2, List.map_nil]⟩, by simp [aK]⟩
 have e1 : resL d = b1e d.length (EE d) := by simp [resL, hv]
 have e2 : lH d = a2E d.length (EE d) := by simp [lH, hv]
 have hl5 := jG hv
 have hsq : d.length * d.length ≤ 25 := Nat.mul_le_mul hl5 hl5
 have hmul : ((d.length : Nat) : Int) * ((d.length : Nat) : Int) = ((d.length * d.length : Nat) : Int) := by rw [Int.natCast_mul]
 have hends := a6x (tK d) (gZ d) (fun x => Iff.rfl) (d.length * d.length + 2) (by omega)
 have hEl := a4F d hv d.length
 have hEok : ∀ x ∈ gZ d, x.1 < (List.replicate d.length 0).length ∧ x.2.2 ≤ 1 := fun x hx => by rw [List.length_replicate]; exact a6s d d.length x hx
 have hEl2 : (gZ d).length ≤ 90 := by have : gZ d = jY d d.length := rfl; rw [this]; omega
 have hbd := a4P (gZ d) (List.replicate d.length 0) hEok (fun j => a7L _ j)
 have hlen : ∀ r, (upsN (gZ d) r (List.replicate d.length 0)).length = d.length := fun r => by rw [a4O]; simp
 generalize hN2 : d.length * d.length = N2 at *
 have hB : ∀ r, r ≤ N2 + 2 → ∀ j, lv (upsN (gZ d) r (List.replicate d.length 0)) j ≤ 1000000 := fun r hr j => by
  have h1 := hbd r j
  have h2 : r * (gZ d).length ≤ 27 * 90 := Nat.mul_le_mul (by omega) hEl2
  omega
 have q0 := @hv; refine fC (iJ d hd) ?_
 refine aN (α := Nat) (fun r => [(4, .o (.s 0)), (12, .o .u), (5, oi r)]) (fun r => [(0, .row 3 1 ((upsN (gZ d) r (List.replicate d.length 0)).map tJ) true)]) (fun r => r ≤ N2 + 2) (fun r => N2 + 2 - r) 0 (fun _ => ?_) ?_ ?_ (fun r hr => ?_)
 ·simp only [go_sem]
 ·simp only [go_sem]; simp [upsN, tJ]
 ·simp
 ·simp only [go_sem]
  have q0 := @hmul; refine fU ?_
  refine cnd rfl (fun h => ?_) (fun h => ?_)
  ·simp only [decide_eq_true_eq] at h
   refine gP (a4G d (upsN (gZ d) r (List.replicate d.length 0)) hv hd (hlen r) (hB r hr)) ?_
   refine b1H [(0, 1)] (r + 1) (by simp only [go_sem]; rfl) ?_ ?_ ?_
   ·simp only [go_sem, upsN]; simp
   ·omega
   ·omega
  ·simp only [decide_eq_false_iff_not] at h
   have e : r = N2 + 2 := by omega
   subst e
   have hLl := hlen (N2 + 2)
   have hLB := hB (N2 + 2) (by omega)
   simp only at hends
   generalize upsN (gZ d) (N2 + 2) (List.replicate d.length 0) = L at *
   have hUl : (ups (gZ d) L).length = d.length := by rw [yU]; exact hLl
   by_cases hs : ups (gZ d) L = L
   ·rw [if_pos hs] at hends
    have f1 := a7J hends
    have f2 := yT hends.clo
    have hy : decide (ups (gZ d) L = L) = true := decide_eq_true hs
    have q0 := @hy; refine a1H (a4G d L hv hd hLl hLB) (b2h (ups (gZ d) L) L (by omega) (by omega)) ?_
    exact aA ⟨⟨_, rfl, by simp only [go_sem, e1, e2, f1, f2]⟩, by simp [aK]⟩
   ·rw [if_neg hs] at hends
    have f1 := a7K hends
    have f2 := a9u hends
    have hy : decide (ups (gZ d) L = L) = false := decide_eq_false hs
    have q0 := @hy; refine a1H (a4G d L hv hd hLl hLB) (b2h (ups (gZ d) L) L (by omega) (by omega)) ?_
    refine aB (Sees.frz 2 rfl) ?_
    simp only [go_sem]
    exact aA ⟨⟨_, rfl, by simp only [go_sem, e1, e2, f1, f2, List.map_nil]⟩, by simp [aK]⟩
theorem jN (d : List TDir) (hd : aP d ≤ 4300000) : FnC Tryz.prog 160 [.o (.d (.sl (d.map aM)))] (ob (lH d)) := by
 refine ent Tryz.func160 rfl Tryz.call160 rfl (fun C => ?_); simp only [go_sem, st0, Tryz.ntmps160]
 refine gP (gM d hd) ?_
 exact aA ⟨⟨_, rfl, by simp only [go_sem]⟩, trivial⟩
end Go.Proofs.YteaaopodnbjpoaaGreat
end
section
set_option maxRecDepth 100000
set_option maxHeartbeats 4000000
namespace Go.Proofs.YteaaopodnbjpoaaGreat
theorem b5B (q : List TNode) (x : Int) (i j : Nat) (hi : i < q.length) (hj : j < q.length) (hne : i ≠ j) : vP q[i] x + vP q[j] x ≤ refs q x := by
 induction q generalizing i j with
 | nil => simp at hi
 | cons n q ih =>
  have one : ∀ (q : List TNode) (m : Nat) (h : m < q.length), vP q[m] x ≤ refs q x := by
   intro q
   induction q with
   | nil => intro m h; simp at h
   | cons n q ih =>
    intro m h
    cases m with
    | zero => simp only [List.getElem_cons_zero, refs]; omega
    | succ m => have := ih m (by simpa using h); simp only [List.getElem_cons_succ, refs]; omega
  cases i with
  | zero =>
   cases j with
   | zero => exact (hne rfl).elim
   | succ j => have := one q j (by simpa using hj); simp only [List.getElem_cons_zero, List.getElem_cons_succ, refs]; omega
  | succ i =>
   cases j with
   | zero => have := one q i (by simpa using hi); simp only [List.getElem_cons_zero, List.getElem_cons_succ, refs]; omega
   | succ j =>
    have := ih i j (by simpa using hi) (by simpa using hj) (by omega)
    simp only [List.getElem_cons_succ, refs]; omega
theorem b5C {q : List TNode} (h : okQ q = true) (l : Nat) (hl : l + 1 < q.length) : refs q l = 1 := by
 unfold okQ at h
 simp only [Bool.and_eq_true, List.all_eq_true, List.mem_range] at h
 have := h.1 l (by omega)
 unfold a4x at this
 rw [List.getElem?_eq_getElem (by omega)] at this
 simp only [Bool.and_eq_true, Bool.or_eq_true, decide_eq_true_eq] at this
 rcases this.2 with h | h
 ·omega
 ·exact h
def nb (L : List Bool) (i : Nat) : Bool := L.getD i false
theorem a0n (L : List Bool) (l : Nat) (v : Bool) (x : Nat) (h : l < L.length) : nb (L.set l v) x = if x = l then v else nb L x := by
 unfold nb
 simp only [List.getD_eq_getElem?_getD, List.getElem?_set]
 by_cases e : l = x
 ·subst e; simp [h]
 ·rw [if_neg e, if_neg (fun e' => e e'.symm)]
theorem a5A {q : List TNode} (hq : okQ q = true) {i : Nat} (hi : i < q.length) {L : List Bool} (hL : L.length = q.length) {x : Nat} (hx : vP q[i] x = 0) : nb (kN q i L) x = nb L x := by
 have hok := a0h hq (List.getElem?_eq_getElem hi)
 by_cases h5 : q[i].fOp = 5
 ·obtain ⟨l, hl, hli⟩ := eB hok (.inl h5)
  rw [a1p hi L h5 hl, a0n _ _ _ _ (by omega)]
  split
  ·rename_i e; subst e; simp [vP, two, h5, hl] at hx
  ·rfl
 by_cases h67 : q[i].fOp = 6 ∨ q[i].fOp = 7
 ·obtain ⟨l, hl, hli⟩ := eB hok (.inr h67)
  obtain ⟨m, hm, hmi⟩ := gH hok h67
  have ht : two q[i] = true := by unfold two; rcases h67 with h | h <;> simp [h]
  rw [yS hi L (by omega) h5 h67 hl hm, a0n _ _ _ _ (by simp; omega), a0n _ _ _ _ (by omega)]
  split
  ·rename_i e; subst e; simp [vP, ht, hm] at hx
  ·split
   ·rename_i e; subst e; simp [vP, ht, hl] at hx
   ·rfl
 ·rw [a1S hi L h5 h67]
def a7M (q : List TNode) (m : Nat) : List Bool := negJ q (q.length - m)
theorem a4Q (q : List TNode) (m : Nat) : (a7M q m).length = q.length := a1o q _
theorem a6z (q : List TNode) (i : Nat) (h : i < q.length) : a7M q i = kN q i (a7M q (i + 1)) := a1R q i h
theorem b7f {q : List TNode} (hq : okQ q = true) {i : Nat} (hi : i < q.length) {x : Nat} (hx : i ≤ x) : vP q[i] x = 0 := by
 have hok := a0h hq (List.getElem?_eq_getElem hi)
 unfold vP
 have a : (if (two q[i] || decide (q[i].fOp = 5)) && decide (q[i].fLeft = (x : Int)) then 1 else 0) = 0 := by
  split
  ·rename_i h
   simp only [Bool.and_eq_true, Bool.or_eq_true, decide_eq_true_eq] at h
   obtain ⟨l, hl, hli⟩ := eB hok (by unfold two at h; simp only [Bool.or_eq_true, decide_eq_true_eq] at h; omega)
   omega
  ·rfl
 have b : (if two q[i] && decide (q[i].fRight = (x : Int)) then 1 else 0) = 0 := by
  split
  ·rename_i h
   simp only [Bool.and_eq_true, decide_eq_true_eq] at h
   obtain ⟨l, hl, hli⟩ := gH hok (by unfold two at h; simp only [Bool.or_eq_true, decide_eq_true_eq] at h; omega)
   omega
  ·rfl
 omega
theorem a1W {q : List TNode} (hq : okQ q = true) {x : Nat} : ∀ (k m : Nat), m + k ≤ q.length → (∀ j, (hj : j < q.length) → m ≤ j → j < m + k → vP q[j] x = 0) → nb (a7M q m) x = nb (a7M q (m + k)) x
 | 0, m, _, _ => rfl
 | k + 1, m, h, hr => by
  have hm : m < q.length := by omega
  rw [a6z q m hm, a5A hq hm (a4Q q (m + 1)) (hr m hm (by omega) (by omega)), a1W hq k (m + 1) (by omega) (fun j hj h1 h2 => hr j hj (by omega) (by omega))]
  congr 2; omega
theorem b2s {q : List TNode} (hq : okQ q = true) (x : Nat) (hx : x < q.length) : nb (mK q) x = nb (a7M q (x + 1)) x := by
 have := a1W hq (x := x) (x + 1) 0 (by omega) (fun j hj _ h2 => b7f hq hj (by omega))
 simpa [a7M, mK] using this
theorem a0o {q : List TNode} (hq : okQ q = true) {i l : Nat} (hi : i < q.length) (hl : l < i) (hr : 1 ≤ vP q[i] l) : nb (mK q) l = nb (kN q i (a7M q (i + 1))) l := by
 rw [b2s hq l (by omega), ← a6z q i hi]
 have h1 := b5C hq l (by omega)
 have := a1W hq (x := l) (i - (l + 1)) (l + 1) (by omega) (fun j hj h1' h2 => by
  have := b5B q l i j hi hj (by omega)
  omega)
 rw [this]
 congr 2; omega
theorem b5D {q : List TNode} (hq : okQ q = true) {i l : Nat} (hi : i < q.length) (h5 : q[i].fOp = 5) (hl : q[i].fLeft = (l : Int)) (hli : l < i) : nb (mK q) l = true := by
 rw [a0o hq hi hli (by simp [vP, h5, hl]), a1p hi _ h5 hl, a0n _ _ _ _ (by rw [a4Q]; omega), if_pos rfl]
theorem b5E {q : List TNode} (hq : okQ q = true) {i l m : Nat} (hi : i < q.length) (h67 : q[i].fOp = 6 ∨ q[i].fOp = 7) (hl : q[i].fLeft = (l : Int)) (hm : q[i].fRight = (m : Int)) (hli : l < i) (hmi : m < i) : nb (mK q) l = nb (mK q) i ∧ nb (mK q) m = nb (mK q) i := by
 have ht : two q[i] = true := by unfold two; rcases h67 with h | h <;> simp [h]
 have h5 : ¬ q[i].fOp = 5 := by omega
 have hL := a4Q q (i + 1)
 have e := b2s hq i hi
 have g : (a7M q (i + 1))[i]'(by omega) = nb (mK q) i := by
  rw [e]; simp [nb, List.getD_eq_getElem?_getD, hL, hi]
 rw [a0o hq hi hli (by simp [vP, ht, hl]), a0o hq hi hmi (by simp [vP, ht, hm]), yS hi _ (by omega) h5 h67 hl hm]
 rw [a0n _ m _ l (by rw [List.length_set]; omega), a0n _ l _ l (by omega), a0n _ m _ m (by rw [List.length_set]; omega), g]
 simp
theorem b2t {q : List TNode} (hq : okQ q = true) {f : TFile} {r r' : List TResult}
    (hP : ∀ i, (hi : i < q.length) → (q[i].fOp = 8 ∨ q[i].fOp = 9) → nb (mK q) i = false → ∀ x, hasI (aU q[i].fName r) x = true → hasI (aU q[i].fName r') x = true)
    (hN : ∀ i, (hi : i < q.length) → (q[i].fOp = 8 ∨ q[i].fOp = 9) → nb (mK q) i = true → ∀ x, hasI (aU q[i].fName r) x = hasI (aU q[i].fName r') x) :
    ∀ (k i : Nat), i < k → i < q.length → (nb (mK q) i = true → mt q f r k i = mt q f r' k i) ∧ (nb (mK q) i = false → mt q f r k i = true → mt q f r' k i = true)
 | 0, i, h, _ => by omega
 | k + 1, i, h, hi => by
  have hn := List.getElem?_eq_getElem hi
  have hok := a0h hq hn
  have ih := b2t hq (f := f) hP hN k
  by_cases h1 : q[i].fOp = 1
  ·simp [mt, hn, h1]
  by_cases h2 : q[i].fOp = 2
  ·simp [mt, hn, h2]
  by_cases h3 : q[i].fOp = 3
  ·simp [mt, hn, h3]
  by_cases h4 : q[i].fOp = 4
  ·simp [mt, hn, h4]
  by_cases h5 : q[i].fOp = 5
  ·obtain ⟨l, hl, hli⟩ := eB hok (.inl h5)
   have := (ih l (by omega) (by omega)).1 (b5D hq hi h5 hl hli)
   have e : mt q f r (k + 1) i = mt q f r' (k + 1) i := by simp [mt, hn, h5, hl, this]
   exact ⟨fun _ => e, fun _ h => by rw [← e]; exact h⟩
  by_cases h67 : q[i].fOp = 6 ∨ q[i].fOp = 7
  ·obtain ⟨l, hl, hli⟩ := eB hok (.inr h67)
   obtain ⟨m, hm, hmi⟩ := gH hok h67
   obtain ⟨n1, n2⟩ := b5E hq hi h67 hl hm hli hmi
   have a := ih l (by omega) (by omega)
   have b := ih m (by omega) (by omega)
   rw [n1] at a
   rw [n2] at b
   refine ⟨fun hx => ?_, fun hx hm2 => ?_⟩
   ·have a1 := a.1 hx
    have b1 := b.1 hx
    rcases h67 with h6 | h7
    ·simp [mt, hn, h6, hl, hm, a1, b1]
    ·simp [mt, hn, h7, hl, hm, a1, b1]
   ·have a1 := a.2 hx
    have b1 := b.2 hx
    rcases h67 with h6 | h7
    ·simp [mt, hn, h6, hl, hm] at hm2 ⊢
     exact ⟨a1 hm2.1, b1 hm2.2⟩
    ·simp [mt, hn, h7, hl, hm] at hm2 ⊢
     exact hm2.imp a1 b1
  have h6 : ¬ q[i].fOp = 6 := fun h => h67 (.inl h)
  have h7 : ¬ q[i].fOp = 7 := fun h => h67 (.inr h)
  have hop := sW hok
  have h89 : q[i].fOp = 8 ∨ q[i].fOp = 9 := by omega
  refine ⟨fun hx => ?_, fun hx hm2 => ?_⟩
  ·have e := hN i hi h89 hx
   rcases h89 with h8 | h9
   ·simp [mt, hn, h8, e]
   ·simp [mt, hn, h9, e]
  ·have e := hP i hi h89 hx
   rcases h89 with h8 | h9
   ·simp [mt, hn, h8] at hm2 ⊢
    exact e _ hm2
   ·simp [mt, hn, h9] at hm2 ⊢
    exact ⟨hm2.1, e _ hm2.2⟩
end Go.Proofs.YteaaopodnbjpoaaGreat
end
section
set_option maxRecDepth 100000
set_option maxHeartbeats 4000000
namespace Go.Proofs.YteaaopodnbjpoaaGreat
def pr (q : List TNode) (R : List TResult) (f : TFile) : Bool := okQ q && mt q f R q.length (q.length - 1)
def gX (l : List TFile) : List Int := l.map TFile.fID
def kX (fs : List TFile) (q : List TNode) (R : List TResult) : List Int := gX (fs.filter (pr q R))
theorem a1r (fs : List TFile) (q : List TNode) (R : List TResult) : (kX fs q R).length ≤ fs.length := by
 unfold kX gX; rw [List.length_map]; exact List.length_filter_le _ _
theorem a1s (nm : ByteArray) : ∀ (d : List TDir) (R : List TResult) (k : Nat), R.map TResult.fName = d.map TDir.fName → aU nm R = (if 0 ≤ dX (fun x : TDir => decide (x.fName = nm)) d k then (R.getD (dX (fun x : TDir => decide (x.fName = nm)) d k - k).toNat ⟨⟨#[]⟩, []⟩).fIDs else [])
 | [], [], k, _ => by simp [aU, dX]
 | [], _ :: _, _, h => by simp at h
 | _ :: _, [], _, h => by simp at h
 | x :: d, y :: R, k, h => by
  simp only [List.map_cons, List.cons.injEq] at h
  have ih := a1s nm d R (k + 1) h.2
  by_cases hx : x.fName = nm
  ·simp [aU, dX, h.1, hx]
  ·have e0 : dX (fun x : TDir => decide (x.fName = nm)) (x :: d) k = dX (fun x : TDir => decide (x.fName = nm)) d (k + 1) := by simp [dX, hx]
   have e1 : aU nm (y :: R) = aU nm R := by simp [aU, h.1, hx]
   rw [e0, e1, ih]
   have hge : dX (fun x : TDir => decide (x.fName = nm)) d (k + 1) < 0 ∨ ((k + 1 : Nat) : Int) ≤ dX (fun x : TDir => decide (x.fName = nm)) d (k + 1) := by
    rcases idxP_fst (fun x : TDir => decide (x.fName = nm)) d (k + 1) with ⟨h, _, _⟩ | ⟨h, _⟩ <;> omega
   by_cases h0 : 0 ≤ dX (fun x : TDir => decide (x.fName = nm)) d (k + 1)
   ·rw [if_pos h0, if_pos h0]
    have e : (dX (fun x : TDir => decide (x.fName = nm)) d (k + 1) - (k : Int)).toNat = (dX (fun x : TDir => decide (x.fName = nm)) d (k + 1) - ((k + 1 : Nat) : Int)).toNat + 1 := by omega
    rw [e, List.getD_cons_succ]
   ·rw [if_neg h0, if_neg h0]
def fA (R : List TResult) (p : Nat) : List Int := (R.getD p ⟨⟨#[]⟩, []⟩).fIDs
theorem resIDs_at {d : List TDir} {R : List TResult} (h : R.map TResult.fName = d.map TDir.fName) (nm : ByteArray) : (placeD d nm = -1 ∧ aU nm R = []) ∨ ∃ p : Nat, placeD d nm = (p : Int) ∧ p < d.length ∧ aU nm R = fA R p := by
 have := a1s nm d R 0 h
 rcases placeD_cases d nm with hp | ⟨p, hp, hl⟩
 ·left
  refine ⟨hp, ?_⟩
  unfold placeD at hp
  rw [this, hp]; simp
 ·right
  refine ⟨p, hp, hl, ?_⟩
  unfold placeD at hp
  rw [this, hp]
  rw [if_pos (by omega)]
  simp [fA]
theorem tX (R : List TResult) (i j : Nat) (x : TResult) (h : i < R.length) : fA (R.set i x) j = if j = i then x.fIDs else fA R j := by
 unfold fA
 simp only [List.getD_eq_getElem?_getD, List.getElem?_set]
 by_cases e : i = j
 ·subst e; simp [h]
 ·rw [if_neg e, if_neg (fun e' => e e'.symm)]
theorem a6y (R : List TResult) (i : Nat) (x : TResult) (d : List TDir) (h : R.map TResult.fName = d.map TDir.fName) (hi : i < d.length) (hx : x.fName = d[i].fName) : (R.set i x).map TResult.fName = d.map TDir.fName := by
 rw [List.map_set, h, hx]
 apply List.ext_getElem?
 intro j
 rw [List.getElem?_set]
 split
 ·rename_i e; subst e; simp [hi]
 ·rfl
theorem a9x {q : List TNode} {i : Nat} (hi : i < q.length) (h89 : q[i].fOp = 8 ∨ q[i].fOp = 9) (b : Bool) (hb : nb (mK q) i = b) : q[i].fName ∈ dI q b := by
 have hn : i < (mK q).length := by rw [a4I]; exact hi
 have hg : (mK q)[i] = b := by rw [← hb]; simp [nb, List.getD_eq_getElem?_getD, hn]
 have hd : jH q[i] = true := by unfold jH inB; rcases h89 with h | h <;> simp [h]
 unfold dI nP
 refine List.mem_flatMap.2 ⟨i, List.mem_range.2 hi, ?_⟩
 unfold sel
 rw [List.getElem?_eq_getElem hi, List.getElem?_eq_getElem hn]
 simp [hd, hg]
theorem b2q (x : Int) (l : List TFile) : hasI (gX l) x = true ↔ ∃ f ∈ l, f.fID = x := by
 unfold hasI gX
 rw [List.any_eq_true]
 constructor
 ·rintro ⟨y, hy, h⟩
  obtain ⟨f, hf, rfl⟩ := List.mem_map.1 hy
  exact ⟨f, hf, of_decide_eq_true h⟩
 ·rintro ⟨f, hf, rfl⟩
  exact ⟨_, List.mem_map.2 ⟨f, hf, rfl⟩, by simp⟩
structure Ev (fs : List TFile) (d : List TDir) (L : List Nat) (ns : List ByteArray) (c : Nat) (k : Nat) (R : List TResult) : Prop where
 nm : R.map TResult.fName = d.map TDir.fName
 cur : ∀ i, (hi : i < d.length) → hasS ns d[i].fName = true → lv L i = k → ∃ p : TFile → Bool, fA R i = gX (fs.filter p) ∧ ∀ f, p f = true → pr d[i].fQuery R f = true
 top : ∀ i, (hi : i < d.length) → hasS ns d[i].fName = true → k < lv L i → fA R i = []
 bd : ∀ i, (fA R i).length ≤ c
 cap : fs.length ≤ c
theorem Ev.len {fs : List TFile} {d : List TDir} {L : List Nat} {ns : List ByteArray} {c k : Nat} {R : List TResult} (h : Ev fs d L ns c k R) : R.length = d.length := by
 have := congrArg List.length h.nm
 simpa using this
def xZ (fs : List TFile) (d : List TDir) (i : Nat) (R : List TResult) (x : TDir) : List TResult := R.set i ⟨x.fName, kX fs x.fQuery R⟩
theorem b2r {fs : List TFile} {d : List TDir} {L : List Nat} {ns : List ByteArray} {c k : Nat} {R : List TResult} (h : Ev fs d L ns c k R) (hv : ∀ i, (hi : i < d.length) → okQ d[i].fQuery = true) (hc : Clo d.length (EE d) L) {i j : Nat} (hi : i < d.length) (hin : hasS ns d[i].fName = true) (hik : lv L i = k) (hj : j < d.length) (hjk : lv L j = k) (f : TFile) (hp : pr d[j].fQuery R f = true) : pr d[j].fQuery (xZ fs d i R d[i]) f = true := by
 have hq := hv j hj
 have hlen := h.len
 have hl9 := nK hq
 have hnm2 := a6y R i ⟨d[i].fName, kX fs d[i].fQuery R⟩ d h.nm hi rfl
 have grow : ∀ x, hasI (fA R i) x = true → hasI (kX fs d[i].fQuery R) x = true := fun x hx => by
  obtain ⟨p, e, hpp⟩ := h.cur i hi hin hik
  rw [e, b2q] at hx
  obtain ⟨g, hg, rfl⟩ := hx
  rw [List.mem_filter] at hg
  unfold kX
  rw [b2q]
  exact ⟨g, List.mem_filter.2 ⟨hg.1, hpp g hg.2⟩, rfl⟩
 unfold pr at hp ⊢
 rw [hq, Bool.true_and] at hp ⊢
 have key := b2t hq (f := f) (r := R) (r' := xZ fs d i R d[i]) (fun m hm h89 hb x hx => by
  have hmem := a9x hm h89 false hb
  rcases resIDs_at h.nm d[j].fQuery[m].fName with ⟨_, e⟩ | ⟨p, hp1, hp2, e⟩
  ·rw [e] at hx; simp [hasI] at hx
  ·rcases resIDs_at hnm2 d[j].fQuery[m].fName with ⟨e3, _⟩ | ⟨p', hp1', _, e'⟩
   ·omega
   ·have : p' = p := by omega
    subst this
    show hasI (aU _ (R.set i _)) x = true
    rw [e', tX R i p' _ (by omega)]
    rw [e] at hx
    split
    ·rename_i e4; subst e4; exact grow x hx
    ·exact hx) (fun m hm h89 hb x => by
  have hmem := a9x hm h89 true hb
  rcases resIDs_at h.nm d[j].fQuery[m].fName with ⟨e1, e⟩ | ⟨p, hp1, hp2, e⟩
  ·rcases resIDs_at hnm2 d[j].fQuery[m].fName with ⟨_, e'⟩ | ⟨p', hp1', _, _⟩
   ·show _ = hasI (aU _ (R.set i _)) x
    rw [e, e']
   ·omega
  ·rcases resIDs_at hnm2 d[j].fQuery[m].fName with ⟨e3, _⟩ | ⟨p', hp1', _, e'⟩
   ·omega
   ·have : p' = p := by omega
    subst this
    have hee := hc.le j p' 1 ((a0k d j p' 1).2 ⟨d[j], List.getElem?_eq_getElem hj, .inr ⟨rfl, _, hmem, hp1⟩⟩)
    have hne : p' ≠ i := fun e => by subst e; omega
    show _ = hasI (aU _ (R.set i _)) x
    rw [e, e', tX R i p' _ (by omega), if_neg hne]) d[j].fQuery.length (d[j].fQuery.length - 1) (by omega) (by omega)
 cases hb : nb (mK d[j].fQuery) (d[j].fQuery.length - 1) with
 | true => rw [← key.1 hb]; exact hp
 | false => exact key.2 hb hp
theorem Ev.step {fs : List TFile} {d : List TDir} {L : List Nat} {ns : List ByteArray} {c k : Nat} {R : List TResult} (h : Ev fs d L ns c k R) (hv : ∀ i, (hi : i < d.length) → okQ d[i].fQuery = true) (hc : Clo d.length (EE d) L) {i : Nat} (hi : i < d.length) (hin : hasS ns d[i].fName = true) (hik : lv L i = k) : Ev fs d L ns c k (xZ fs d i R d[i]) := by
 have hlen := h.len
 refine ⟨a6y R i _ d h.nm hi rfl, fun j hj hjn hjk => ?_, fun j hj hjn hjk => ?_, fun j => ?_, h.cap⟩
 ·unfold xZ
  rw [tX R i j _ (by omega)]
  split
  ·rename_i e; subst e
   exact ⟨pr d[j].fQuery R, rfl, fun f hf => b2r h hv hc hi hin hik hj hjk f hf⟩
  ·obtain ⟨p, e, hp⟩ := h.cur j hj hjn hjk
   exact ⟨p, e, fun f hf => b2r h hv hc hi hin hik hj hjk f (hp f hf)⟩
 ·unfold xZ
  rw [tX R i j _ (by omega), if_neg (fun e => by subst e; omega)]
  exact h.top j hj hjn hjk
 ·unfold xZ
  rw [tX R i j _ (by omega)]
  split
  ·exact Nat.le_trans (a1r fs _ _) h.cap
  ·exact h.bd j
theorem filter_same {α : Type} (p q : α → Bool) (l : List α) (h : ∀ x ∈ l, p x = true → q x = true) : l.filter p = l.filter q ∨ (l.filter p).length < (l.filter q).length := by
 have le : ∀ l : List α, (∀ x ∈ l, p x = true → q x = true) → (l.filter p).length ≤ (l.filter q).length := by
  intro l
  induction l with
  | nil => intro _; simp
  | cons x l ih =>
   intro h
   have := ih fun y hy => h y (List.mem_cons_of_mem _ hy)
   simp only [List.filter_cons]
   cases hp : p x
   ·cases hq : q x <;> simp <;> omega
   ·rw [h x (by simp) hp]; simpa using this
 induction l with
 | nil => exact .inl rfl
 | cons x l ih =>
  have hl := fun y hy => h y (List.mem_cons_of_mem x hy)
  simp only [List.filter_cons]
  cases hp : p x
  ·cases hq : q x
   ·simpa using ih hl
   ·have := le l hl
    right; simp; omega
  ·rw [h x (by simp) hp]
   rcases ih hl with e | e
   ·left; simp [e]
   ·right; simpa using e
def jB : List TResult → Nat
 | [] => 0
 | x :: l => x.fIDs.length + jB l
theorem b5A (R : List TResult) (i : Nat) (x : TResult) (h : i < R.length) : jB (R.set i x) + (fA R i).length = jB R + x.fIDs.length := by
 induction R generalizing i with
 | nil => simp at h
 | cons y l ih =>
  cases i with
  | zero => simp [jB, fA]; omega
  | succ i =>
   have := ih i (by simpa using h)
   simp only [List.set_cons_succ, jB, fA, List.getD_cons_succ] at this ⊢
   omega
theorem b7e (R : List TResult) (c : Nat) (h : ∀ i, (fA R i).length ≤ c) : jB R ≤ R.length * c := by
 induction R with
 | nil => simp [jB]
 | cons x l ih =>
  have h0 := h 0
  have h1 := ih fun i => by simpa [fA] using h (i + 1)
  simp only [fA, List.getD_cons_zero] at h0
  simp only [jB, List.length_cons, Nat.succ_mul]
  omega
theorem Ev.grow {fs : List TFile} {d : List TDir} {L : List Nat} {ns : List ByteArray} {c k : Nat} {R : List TResult} (h : Ev fs d L ns c k R) {i : Nat} (hi : i < d.length) (hin : hasS ns d[i].fName = true) (hik : lv L i = k) (hne : kX fs d[i].fQuery R ≠ fA R i) : jB R < jB (xZ fs d i R d[i]) := by
 obtain ⟨p, e, hp⟩ := h.cur i hi hin hik
 have hlen := h.len
 have hs := b5A R i ⟨d[i].fName, kX fs d[i].fQuery R⟩ (by omega)
 rcases filter_same p (pr d[i].fQuery R) fs (fun f _ hf => hp f hf) with e2 | e2
 ·exact (hne (by rw [e]; unfold kX; rw [e2])).elim
 ·have h1 : (fA R i).length < (kX fs d[i].fQuery R).length := by
   rw [e]; unfold kX gX; simpa using e2
  unfold xZ
  simp only at hs
  omega
theorem Ev.tot {fs : List TFile} {d : List TDir} {L : List Nat} {ns : List ByteArray} {c k : Nat} {R : List TResult} (h : Ev fs d L ns c k R) : jB R ≤ d.length * c := by
 have := b7e R c h.bd
 rwa [h.len] at this
theorem Ev.next {fs : List TFile} {d : List TDir} {L : List Nat} {ns : List ByteArray} {c k : Nat} {R : List TResult} (h : Ev fs d L ns c k R) : Ev fs d L ns c (k + 1) R :=
 ⟨h.nm, fun i hi hn hk => ⟨fun _ => false, by rw [h.top i hi hn (by omega)]; simp [gX], fun f hf => by cases hf⟩, fun i hi hn hk => h.top i hi hn (by omega), h.bd, h.cap⟩
end Go.Proofs.YteaaopodnbjpoaaGreat
end
section
set_option maxRecDepth 100000
set_option maxHeartbeats 4000000
namespace Go.Proofs.YteaaopodnbjpoaaGreat
def passT (fs : List TFile) (d : List TDir) (L : List Nat) (ns : List ByteArray) (k : Nat) : Nat → List TResult → List TResult
 | 0, R => R
 | m + 1, R => match d[m]? with
  | none => passT fs d L ns k m R
  | some x => if lv L m = k ∧ hasS ns x.fName = true then xZ fs d m (passT fs d L ns k m R) x else passT fs d L ns k m R
def zN (fs : List TFile) (d : List TDir) (L : List Nat) (ns : List ByteArray) (k : Nat) : Nat → List TResult × Nat → List TResult × Nat
 | 0, x => x
 | F + 1, x => if jB x.1 < jB (passT fs d L ns k d.length x.1) then zN fs d L ns k F (passT fs d L ns k d.length x.1, x.2 + 1) else (passT fs d L ns k d.length x.1, x.2 + 1)
def gJ (ns : List ByteArray) (r : List TResult) (d : List TDir) : List TResult := d.map fun x => ⟨x.fName, if hasS ns x.fName then [] else aU x.fName r⟩
def allE (fs : List TFile) (d : List TDir) (L : List Nat) (ns : List ByteArray) (c : Nat) (r : List TResult) : Nat → List TResult × Nat
 | 0 => (gJ ns r d, 0)
 | k + 1 => zN fs d L ns k (d.length * c + 1) (allE fs d L ns c r k)
theorem yV {fs : List TFile} {d : List TDir} {L : List Nat} {ns : List ByteArray} {c k : Nat} {R : List TResult} (h : Ev fs d L ns c k R) {i : Nat} (hi : i < d.length) (he : kX fs d[i].fQuery R = fA R i) : xZ fs d i R d[i] = R := by
 have hlen := h.len
 have hnm : (R[i]'(by omega)).fName = d[i].fName := by
  have := congrArg (fun l : List ByteArray => l[i]?) h.nm
  simp only [List.getElem?_map] at this
  rw [List.getElem?_eq_getElem (by omega), List.getElem?_eq_getElem hi] at this
  simpa using this
 have hids : fA R i = (R[i]'(by omega)).fIDs := by
  have : i < R.length := by omega
  simp [fA, List.getD_eq_getElem?_getD, this]
 unfold xZ
 rw [he, hids, ← hnm]
 exact List.set_getElem_self _
theorem qC (fs : List TFile) (d : List TDir) (L : List Nat) (ns : List ByteArray) (k m : Nat) (R : List TResult) (h : m < d.length) : passT fs d L ns k (m + 1) R = if lv L m = k ∧ hasS ns d[m].fName = true then xZ fs d m (passT fs d L ns k m R) d[m] else passT fs d L ns k m R := by
 rw [passT, List.getElem?_eq_getElem h]
theorem kW {fs : List TFile} {d : List TDir} {L : List Nat} {ns : List ByteArray} {c k : Nat} (hv : ∀ i, (hi : i < d.length) → okQ d[i].fQuery = true) (hc : Clo d.length (EE d) L) : ∀ (m : Nat) (R : List TResult), m ≤ d.length → Ev fs d L ns c k R → Ev fs d L ns c k (passT fs d L ns k m R)
 | 0, R, _, h => h
 | m + 1, R, hm, h => by
  have ih := kW hv hc m R (by omega) h
  rw [qC fs d L ns k m R (by omega)]
  split
  ·rename_i e; exact ih.step hv hc (by omega) e.2 e.1
  ·exact ih
theorem newR_cases {fs : List TFile} {d : List TDir} {L : List Nat} {ns : List ByteArray} {c k : Nat} {R : List TResult} (h : Ev fs d L ns c k R) {i : Nat} (hi : i < d.length) (hin : hasS ns d[i].fName = true) (hik : lv L i = k) : xZ fs d i R d[i] = R ∨ jB R < jB (xZ fs d i R d[i]) := by
 by_cases he : kX fs d[i].fQuery R = fA R i
 ·exact .inl (yV h hi he)
 ·exact .inr (h.grow hi hin hik he)
theorem kG {fs : List TFile} {d : List TDir} {L : List Nat} {ns : List ByteArray} {c k : Nat} (hv : ∀ i, (hi : i < d.length) → okQ d[i].fQuery = true) (hc : Clo d.length (EE d) L) : ∀ (m : Nat) (R : List TResult), m ≤ d.length → Ev fs d L ns c k R → passT fs d L ns k m R = R ∨ jB R < jB (passT fs d L ns k m R)
 | 0, R, _, _ => .inl rfl
 | m + 1, R, hm, h => by
  have ih := kG hv hc m R (by omega) h
  have he := kW hv hc m R (by omega) h
  rw [qC fs d L ns k m R (by omega)]
  split
  ·rename_i e
   rcases newR_cases he (by omega) e.2 e.1 with e2 | g
   ·rw [e2]; exact ih
   ·rcases ih with e3 | g3
    ·rw [e3] at g ⊢; exact .inr g
    ·exact .inr (by omega)
  ·exact ih
theorem a1V (ns : List ByteArray) (r : List TResult) (d : List TDir) (i : Nat) (hi : i < d.length) : fA (gJ ns r d) i = if hasS ns d[i].fName then [] else aU d[i].fName r := by
 unfold fA gJ
 simp only [List.getD_eq_getElem?_getD, List.getElem?_map, List.getElem?_eq_getElem hi]
 rfl
theorem b3H {fs : List TFile} (d : List TDir) (L : List Nat) (ns : List ByteArray) (r : List TResult) : Ev fs d L ns (fs.length + aH r) 0 (gJ ns r d) := by
 refine ⟨by simp [gJ], fun i hi hn _ => ⟨fun _ => false, by rw [a1V ns r d i hi, if_pos hn]; simp [gX], fun f hf => by cases hf⟩, fun i hi hn _ => by rw [a1V ns r d i hi, if_pos hn], fun i => ?_, by omega⟩
 by_cases hi : i < d.length
 ·rw [a1V ns r d i hi]
  split
  ·simp
  ·have := vU d[i].fName r; omega
 ·have e : fA (gJ ns r d) i = [] := by
   unfold fA gJ
   simp only [List.getD_eq_getElem?_getD, List.getElem?_map]
   rw [List.getElem?_eq_none (by omega)]; rfl
  rw [e]; simp
theorem a9w {fs : List TFile} {d : List TDir} {L : List Nat} {ns : List ByteArray} {c k : Nat} (hv : ∀ i, (hi : i < d.length) → okQ d[i].fQuery = true) (hc : Clo d.length (EE d) L) : ∀ (F : Nat) (x : List TResult × Nat), Ev fs d L ns c k x.1 → Ev fs d L ns c k (zN fs d L ns k F x).1
 | 0, x, h => h
 | F + 1, x, h => by
  have hp := kW hv hc d.length x.1 (Nat.le_refl _) h
  unfold zN
  split
  ·exact a9w hv hc F _ hp
  ·exact hp
theorem wB {fs : List TFile} {d : List TDir} {L : List Nat} {ns : List ByteArray} {r : List TResult} (hv : ∀ i, (hi : i < d.length) → okQ d[i].fQuery = true) (hc : Clo d.length (EE d) L) : ∀ k, Ev fs d L ns (fs.length + aH r) k (allE fs d L ns (fs.length + aH r) r k).1
 | 0 => b3H d L ns r
 | k + 1 => (a9w hv hc _ _ (wB hv hc k)).next
structure Round (fs : List TFile) (d : List TDir) (L : List Nat) (ns : List ByteArray) (c : Nat) (k : Nat) (T : List TResult × Nat) (x : List TResult × Nat × Bool) : Prop where
 ev : Ev fs d L ns c k x.1
 run : x.2.2 = true → ∃ F, d.length * c + 1 ≤ F + jB x.1 ∧ T = zN fs d L ns k F (x.1, x.2.1)
 fin : x.2.2 = false → T = (x.1, x.2.1)
theorem Round.start {fs : List TFile} {d : List TDir} {L : List Nat} {ns : List ByteArray} {c k : Nat} {R : List TResult} {n : Nat} (h : Ev fs d L ns c k R) : Round fs d L ns c k (zN fs d L ns k (d.length * c + 1) (R, n)) (R, n, true) :=
 ⟨h, fun _ => ⟨_, by omega, rfl⟩, fun h => by cases h⟩
theorem Round.pass {fs : List TFile} {d : List TDir} {L : List Nat} {ns : List ByteArray} {c k : Nat} (hv : ∀ i, (hi : i < d.length) → okQ d[i].fQuery = true) (hc : Clo d.length (EE d) L) {T : List TResult × Nat} {R : List TResult} {n : Nat} (h : Round fs d L ns c k T (R, n, true)) : Round fs d L ns c k T (passT fs d L ns k d.length R, n + 1, decide (jB R < jB (passT fs d L ns k d.length R))) := by
 have hp := kW hv hc d.length R (Nat.le_refl _) h.ev
 obtain ⟨F, hF, hT⟩ := h.run rfl
 have ht := h.ev.tot
 simp only at ht
 cases F with
 | zero => simp only at hF; omega
 | succ F =>
  unfold zN at hT
  simp only at hT hF
  refine ⟨hp, fun hx => ?_, fun hx => ?_⟩
  ·simp only [decide_eq_true_eq] at hx
   rw [if_pos hx] at hT
   exact ⟨F, by simp only; omega, hT⟩
  ·simp only [decide_eq_false_iff_not] at hx
   rw [if_neg hx] at hT
   exact hT
end Go.Proofs.YteaaopodnbjpoaaGreat
end
section
set_option maxRecDepth 100000
set_option maxHeartbeats 4000000
namespace Go.Proofs.YteaaopodnbjpoaaGreat
open Go Go.Sx Go.RowKit Go.Proofs
def xW : List Nat → Int → Int
 | [], m => m
 | x :: l, m => xW l (if (x : Int) > m then (x : Int) else m)
def a1l (L : List Nat) : Int := xW L (-1)
theorem a1Q (L : List Nat) (k : Nat) (m : Int) (h : k < L.length) : xW (L.drop k) m = xW (L.drop (k + 1)) (if (L[k] : Int) > m then (L[k] : Int) else m) := by
 rw [List.drop_eq_getElem_cons h, xW]
theorem a2y (q : List TNode) (f : TFile) (R : List TResult) (hq : bT q ≤ 4300000) (hf : wFile f ≤ 4300000) (hR : aH R ≤ 67108864) : FnC Tryz.prog 274 [.o (.d (.sl (q.map bC))), dC f, .o (.d (.sl (R.map aJ)))] (ob (pr q R f)) := by
 refine ent Tryz.func274 rfl Tryz.call274 rfl (fun C => ?_); simp only [go_sem, st0, Tryz.ntmps274]
 cases hv : okQ q
 ·have q0 := @hv; refine fC (dA q hq) ?_
  exact aA ⟨⟨_, rfl, by simp only [go_sem, pr, hv, Bool.false_and]⟩, trivial⟩
 ·have hl := nK hv
  have hx : (q.length : Int) - 1 = ((q.length - 1 : Nat) : Int) := by omega
  have q0 := @hv; have q1 := @hx; refine uU (dA q hq) (a7z q f R hv hf hR q.length (q.length - 1) (by omega) (by omega)) ?_
  exact aA ⟨⟨_, rfl, by simp only [go_sem, pr, hv, Bool.true_and]⟩, trivial⟩
theorem a2z (q : List TNode) (f : TFile) (R : List TResult) (hq : bT q ≤ 4300000) (hf : wFile f ≤ 4300000) (hR : aH R ≤ 67108864) : FnC Tryz.prog 265 [.o (.d (.sl (q.map bC))), dC f, .o (.d (.sl (R.map aJ)))] (ob (pr q R f)) := by
 refine ent Tryz.func265 rfl Tryz.call265 rfl (fun C => ?_); simp only [go_sem, st0, Tryz.ntmps265]
 cases hv : okQ q
 ·have q0 := @hv; refine fC (dE q hq) ?_
  exact aA ⟨⟨_, rfl, by simp only [go_sem, pr, hv, Bool.false_and]⟩, trivial⟩
 ·have hl := nK hv
  have hx : (q.length : Int) - 1 = ((q.length - 1 : Nat) : Int) := by omega
  have q0 := @hv; have q1 := @hx; refine uU (dE q hq) (a7A q f R hv hf hR q.length (q.length - 1) (by omega) (by omega)) ?_
  exact aA ⟨⟨_, rfl, by simp only [go_sem, pr, hv, Bool.true_and]⟩, trivial⟩
theorem a1m (s : TStore) (q : List TNode) (R : List TResult) (hs : aL s ≤ 4300000) (hq : bT q ≤ 4300000) (hR : aH R ≤ 67108864) : FnC Tryz.prog 226 [cZ s, .o (.d (.sl (q.map bC))), .o (.d (.sl (R.map aJ)))] (.o (.w 3 1 ((kX s.fFiles q R).map fE))) := by
 unfold aL bY at hs
 refine ent Tryz.func226 rfl Tryz.call226 rfl (fun C => ?_); simp only [go_sem, st0, Tryz.ntmps226]
 refine aD ?_
 refine aN (α := Nat) (fun k => [(7, .o (.s 1)), (10, .o .u), (14, oi k)]) (fun k => [(1, .row 3 1 ((gX ((s.fFiles.take k).filter (pr q R))).map fE) true)]) (fun k => k ≤ s.fFiles.length) (fun k => s.fFiles.length - k) 0 (fun _ => ?_) ?_ ?_ (fun k hk => ?_)
 ·simp only [go_sem]
 ·simp only [go_sem]; simp [gX]
 ·simp
 ·simp only [go_sem]
  refine aD ?_
  refine cnd rfl (fun h => ?_) (fun h => ?_)
  ·simp only [decide_eq_true_eq, Int.ofNat_lt] at h
   have hw := bA wFile s.fFiles h
   have ht : s.fFiles.take (k + 1) = s.fFiles.take k ++ [s.fFiles[k]] := List.take_succ_eq_append_getElem h
   have hl : (gX ((s.fFiles.take k).filter (pr q R))).length ≤ k := by
    unfold gX; rw [List.length_map]
    exact Nat.le_trans (List.length_filter_le _ _) (by rw [List.length_take]; omega)
   have hl1 : (gX ((s.fFiles.take k).filter (pr q R))).length + 1 ≤ 140737488355328 := by omega
   have hl2 : ((gX ((s.fFiles.take k).filter (pr q R))).length + 1) * 8 ≤ 140737488355328 := by omega
   cases hm : pr q R s.fFiles[k]
   ·have hf : gX ((s.fFiles.take (k + 1)).filter (pr q R)) = gX ((s.fFiles.take k).filter (pr q R)) := by rw [ht, List.filter_append]; simp [hm]
    have q0 := @h; have q1 := @hm; refine mM (a2y q s.fFiles[k] R hq (by omega) hR) ?_
    refine aF (k + 1) ?_ ?_ ?_
    ·simp only [go_sem, hf]; simp
    ·omega
    ·omega
   ·have hf : gX ((s.fFiles.take (k + 1)).filter (pr q R)) = gX ((s.fFiles.take k).filter (pr q R)) ++ [s.fFiles[k].fID] := by rw [ht, List.filter_append]; simp [hm, gX]
    have q0 := @h; have q1 := @hm; refine mM (a2y q s.fFiles[k] R hq (by omega) hR) ?_
    refine aF (k + 1) ?_ ?_ ?_
    ·simp only [go_sem, hf, List.map_append]; simp
    ·omega
    ·omega
  ·simp only [decide_eq_false_iff_not] at h
   have e : k = s.fFiles.length := by omega
   subst e
   refine aD ?_
   exact aA ⟨⟨_, rfl, by simp only [go_sem, kX, List.take_length]⟩, trivial⟩
theorem nO (s : TStore) (q : List TNode) (R : List TResult) (hs : aL s ≤ 4300000) (hq : bT q ≤ 4300000) (hR : aH R ≤ 67108864) : FnC Tryz.prog 217 [cZ s, .o (.d (.sl (q.map bC))), .o (.d (.sl (R.map aJ)))] (.o (.w 3 1 ((kX s.fFiles q R).map fE))) := by
 unfold aL bY at hs
 refine ent Tryz.func217 rfl Tryz.call217 rfl (fun C => ?_); simp only [go_sem, st0, Tryz.ntmps217]
 refine aD ?_
 refine aN (α := Nat) (fun k => [(7, .o (.s 1)), (9, .o .u), (8, oi k)]) (fun k => [(1, .row 3 1 ((gX ((s.fFiles.take k).filter (pr q R))).map fE) true)]) (fun k => k ≤ s.fFiles.length) (fun k => s.fFiles.length - k) 0 (fun _ => ?_) ?_ ?_ (fun k hk => ?_)
 ·simp only [go_sem]
 ·simp only [go_sem]; simp [gX]
 ·simp
 ·simp only [go_sem]
  refine aD ?_
  refine cnd rfl (fun h => ?_) (fun h => ?_)
  ·simp only [decide_eq_true_eq, Int.ofNat_lt] at h
   have hw := bA wFile s.fFiles h
   have ht : s.fFiles.take (k + 1) = s.fFiles.take k ++ [s.fFiles[k]] := List.take_succ_eq_append_getElem h
   have hl : (gX ((s.fFiles.take k).filter (pr q R))).length ≤ k := by
    unfold gX; rw [List.length_map]
    exact Nat.le_trans (List.length_filter_le _ _) (by rw [List.length_take]; omega)
   have hl1 : (gX ((s.fFiles.take k).filter (pr q R))).length + 1 ≤ 140737488355328 := by omega
   have hl2 : ((gX ((s.fFiles.take k).filter (pr q R))).length + 1) * 8 ≤ 140737488355328 := by omega
   cases hm : pr q R s.fFiles[k]
   ·have hf : gX ((s.fFiles.take (k + 1)).filter (pr q R)) = gX ((s.fFiles.take k).filter (pr q R)) := by rw [ht, List.filter_append]; simp [hm]
    have q0 := @h; have q1 := @hm; refine mM (a2z q s.fFiles[k] R hq (by omega) hR) ?_
    refine aF (k + 1) ?_ ?_ ?_
    ·simp only [go_sem, hf]; simp
    ·omega
    ·omega
   ·have hf : gX ((s.fFiles.take (k + 1)).filter (pr q R)) = gX ((s.fFiles.take k).filter (pr q R)) ++ [s.fFiles[k].fID] := by rw [ht, List.filter_append]; simp [hm, gX]
    have q0 := @h; have q1 := @hm; refine mM (a2z q s.fFiles[k] R hq (by omega) hR) ?_
    refine aF (k + 1) ?_ ?_ ?_
    ·simp only [go_sem, hf, List.map_append]; simp
    ·omega
    ·omega
  ·simp only [decide_eq_false_iff_not] at h
   have e : k = s.fFiles.length := by omega
   subst e
   refine aD ?_
   exact aA ⟨⟨_, rfl, by simp only [go_sem, kX, List.take_length]⟩, trivial⟩
theorem b5s (d : List TDir) (h : lH d = false) : resL d = [] := by
 unfold lH at h
 unfold resL
 split
 ·rename_i hv
  rw [if_pos hv] at h
  apply a7K
  intro hx
  obtain ⟨F, hF⟩ := hx
  rw [yT hF] at h; cases h
 ·rfl
theorem b7a (A : List Nat) (h : 0 < A.length) (hl : A.length ≤ 4300000) : FnC Tryz.prog 273 [.o (.d (.sl (A.map tJ)))] (oi (a1l A)) := by
 have h1 : ¬ (A.length : Int) < 1 := by omega
 have hst : a1l A = xW (A.drop 1) (A[0] : Int) := by
  have := a1Q A 0 (-1) h
  rw [List.drop_zero] at this
  unfold a1l
  rw [this, if_pos (by omega)]
 refine ent Tryz.func273 rfl Tryz.call273 rfl (fun C => ?_); simp only [go_sem, st0, Tryz.ntmps273]
 have q0 := @h; have q1 := @h1; have q2 := @decide_false; have q3 := @Int.toNat_zero; have q4 := @Int.le_refl; refine a0M ?_
 refine aN (α := Nat × Int) (fun x => [(3, oi x.2), (4, oi x.1)]) (fun _ => []) (fun x => 1 ≤ x.1 ∧ x.1 ≤ A.length ∧ a1l A = xW (A.drop x.1) x.2) (fun x => A.length - x.1) (1, (A[0] : Int)) (fun _ => ?_) ?_ ?_ (fun x hx => ?_)
 ·simp only [go_sem]
 ·simp only [go_sem]; simp
 ·exact ⟨by simp, by simp only; omega, hst⟩
 ·obtain ⟨k, m⟩ := x
  obtain ⟨hk1, hk, hq⟩ := hx
  simp only at hk1 hk hq
  simp only [go_sem]
  refine aD ?_
  refine cnd rfl (fun h2 => ?_) (fun h2 => ?_)
  ·simp only [decide_eq_true_eq, Int.ofNat_lt] at h2
   rw [a1Q A k m h2] at hq
   have q0 := @h2; refine fU ?_
   refine aF (k + 1, mxI m (A[k] : Int)) ?_ ?_ ?_
   ·simp only [go_sem]; simp
   ·exact ⟨by simp, by simp only; omega, hq⟩
   ·simp only; omega
  ·simp only [decide_eq_false_iff_not] at h2
   have e : k = A.length := by omega
   subst e
   rw [List.drop_length, xW] at hq
   refine aD ?_
   exact aA ⟨⟨_, rfl, by simp only [go_sem, hq]⟩, trivial⟩
theorem b0U (d : List TDir) (hd : aP d ≤ 4300000) (hl : (resL d).length ≤ 4300000) : FnC Tryz.prog 225 [.o (.d (.sl (d.map aM)))] (oi (a1l (resL d))) := by
 refine ent Tryz.func225 rfl Tryz.call225 rfl (fun C => ?_); simp only [go_sem, st0, Tryz.ntmps225]
 cases hb : lH d
 ·have e := b5s d hb
  have q0 := @hb; refine fC (iL d hd) ?_
  exact aA ⟨⟨_, rfl, by simp only [go_sem, e, a1l, xW]⟩, trivial⟩
 ·by_cases h0 : 0 < (resL d).length
  ·have hn : ¬ ((resL d).length : Int) = 0 := by omega
   have q0 := @hb; have q1 := @hn; have q2 := @decide_false; refine a5m (iL d hd) (b7a (resL d) h0 hl) ?_
   exact aA ⟨⟨_, rfl, by simp only [go_sem]⟩, trivial⟩
  ·have hn : ((resL d).length : Int) = 0 := by omega
   have e : resL d = [] := List.eq_nil_of_length_eq_zero (by omega)
   have q0 := @hb; have q1 := @hn; have q2 := @decide_true; refine mF (iL d hd) ?_
   exact aA ⟨⟨_, rfl, by simp only [go_sem, e, a1l, xW]⟩, trivial⟩
theorem a4E (d : List TDir) (hd : aP d ≤ 4300000) (hl : (resL d).length ≤ 4300000) : FnC Tryz.prog 216 [.o (.d (.sl (d.map aM)))] (oi (a1l (resL d))) := by
 refine ent Tryz.func216 rfl Tryz.call216 rfl (fun C => ?_); simp only [go_sem, st0, Tryz.ntmps216]
 refine gP (gM d hd) ?_
 generalize resL d = A at *
 refine aN (α := Nat × Int) (fun x => [(5, oi x.2), (6, oi x.1)]) (fun _ => []) (fun x => x.1 ≤ A.length ∧ a1l A = xW (A.drop x.1) x.2) (fun x => A.length - x.1) (0, -1) (fun _ => ?_) ?_ ?_ (fun x hx => ?_)
 ·simp only [go_sem]
 ·simp only [go_sem]; simp
 ·simp [a1l]
 ·obtain ⟨k, m⟩ := x
  obtain ⟨hk, hq⟩ := hx
  simp only at hk hq
  simp only [go_sem]
  refine aD ?_
  refine cnd rfl (fun h2 => ?_) (fun h2 => ?_)
  ·simp only [decide_eq_true_eq, Int.ofNat_lt] at h2
   rw [a1Q A k m h2] at hq
   have q0 := @h2; refine fU ?_
   by_cases hc : m < (A[k] : Int)
   ·rw [if_pos hc] at hq
    refine cnd (b := decide (m < (A[k] : Int))) rfl (fun _ => ?_) (fun hx => ?_)
    ·have q0 := @h2; refine fU ?_
     refine aF (k + 1, (A[k] : Int)) ?_ ?_ ?_
     ·simp only [go_sem]; simp
     ·exact ⟨by simp only; omega, hq⟩
     ·simp only; omega
    ·simp [hc] at hx
   ·rw [if_neg hc] at hq
    refine cnd (b := decide (m < (A[k] : Int))) rfl (fun hx => ?_) (fun _ => ?_)
    ·simp [hc] at hx
    ·have q0 := @h2; refine fU ?_
     refine aF (k + 1, m) ?_ ?_ ?_
     ·simp only [go_sem]; simp
     ·exact ⟨by simp only; omega, hq⟩
     ·simp only; omega
  ·simp only [decide_eq_false_iff_not] at h2
   have e : k = A.length := by omega
   subst e
   rw [List.drop_length, xW] at hq
   refine aD ?_
   exact aA ⟨⟨_, rfl, by simp only [go_sem, hq]⟩, trivial⟩
end Go.Proofs.YteaaopodnbjpoaaGreat
end
