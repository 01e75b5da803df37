/- Joined texts. -/
import Derived.Test.YteaaopodnbjpoaaGreatZ12
import Derived.Test.YteaaopodnbjpoaaGreatZ11
import Derived.Test.YteaaopodnbjpoaaGreatZ08
import Derived.Test.YteaaopodnbjpoaaGreatZ10
import Derived.Test.YteaaopodnbjpoaaGreatZ09
import Derived.Test.YteaaopodnbjpoaaGreatZ04
import Derived.Test.YteaaopodnbjpoaaGreatZ07
set_option linter.all false
section
set_option maxRecDepth 100000
set_option maxHeartbeats 4000000
namespace Go.Sx
theorem vY {P : Program} {C : Ctx} {F : Ex → St → Prop} {st : St} {code : Code} (i id : Nat) {ty sz : Nat} {rows : List (List D)} {lin : Bool} (hi : nth st.t i = .o (.s id)) (hb : fZ st.h id = .row ty sz rows lin) (h : WP P C code F ⟨a8y st.t i (.o (.d (.sl rows))), jP st.h id (.frz rows lin)⟩) : WP P C code F st := by
 intro g V a w hr
 obtain ⟨g', V', h1, h2, h3, h4, h5⟩ := hr.hp.frz hr.mod hr.fr.size (aV hb (by simp))
 have hr1 : Rel C g' V' ⟨st.t, jP st.h id (.frz rows lin)⟩ a w := ⟨hr.sl.mono h1 h2, by rw [dQ]; exact h4, h3, hr.fr, hr.vw.grow h2 h5⟩
 refine h g' V' a w ⟨⟨by rw [nG]; simpa using hr1.sl.size, fun n s y e1 e2 => ?_, hr1.sl.defers⟩, hr1.hp, hr1.mod, hr1.fr, hr1.vw⟩
 rw [nG, List.getElem?_set] at e1
 by_cases e : i = n
 ·subst e
  rw [if_pos rfl] at e1
  split at e1
  ·rename_i hlt
   cases e1
   have hs : st.t[i]? = some (.o (.s id)) := by
    rw [qZ, List.getD_eq_getElem?_getD, List.getElem?_eq_getElem hlt] at hi
    rw [List.getElem?_eq_getElem hlt]
    exact congrArg some hi
   obtain ⟨gh, hgh, hy, _⟩ := hr1.sl.slot i _ y hs e2
   have hf : (jP st.h id (.frz rows lin))[id]? = some (.frz rows lin) := by
    have := aV hb (by simp)
    rw [dQ, List.getElem?_set]; simp [(List.getElem?_eq_some_iff.1 this).1]
   obtain ⟨_, S, q1, _⟩ := hr1.hp.hb id _ gh hf hgh
   exact ⟨S, by rw [hy]; exact q1⟩
  ·cases e1
 ·rw [if_neg e] at e1
  exact hr1.sl.slot n s y e1 e2
end Go.Sx
namespace Go.Proofs.YteaaopodnbjpoaaGreat
open Go Go.Sx Go.RowKit Go.Proofs
theorem a0m {α : Type} [Inhabited α] [DecidableEq α] (d : Array α) : ∀ (m i : Nat), i < m → d[i]! ∈ Lib.compactUpTo d m
 | 0, i, h => by omega
 | m + 1, i, h => by
  rw [Lib.compactUpTo_succ]
  by_cases hi : i < m
  ·exact List.mem_append_left _ (a0m d m i hi)
  ·have e : i = m := by omega
   subst e
   cases hk : Lib.keeps d i with
   | true => exact List.mem_append_right _ (by simp)
   | false =>
    have h0 : 0 < i := by
     rcases Nat.eq_zero_or_pos i with h | h
     ·subst h; rw [Lib.keeps_lt_one d 0 (by omega)] at hk; cases hk
     ·exact h
    have he : d[i]! = d[i - 1]! := Classical.byContradiction fun hn => by rw [Lib.keeps_pos hn] at hk; cases hk
    rw [he]
    exact List.mem_append_left _ (a0m d i (i - 1) (by omega))
theorem a9s {α : Type} [Inhabited α] [DecidableEq α] (zs : List α) (x : α) : x ∈ Lib.compact zs ↔ x ∈ zs := by
 refine ⟨fun h => ?_, fun h => ?_⟩
 ·unfold Lib.compact Lib.compactUpTo at h
  obtain ⟨i, hi, rfl⟩ := List.mem_map.1 h
  have hi' : i < zs.length := List.mem_range.1 (List.mem_filter.1 hi).1
  simp [getElem!_pos, hi']
 ·obtain ⟨i, hi, rfl⟩ := List.mem_iff_getElem.1 h
  have := a0m zs.toArray zs.length i hi
  have e : zs.toArray[i]! = zs[i] := by simp [getElem!_pos, hi]
  rw [e] at this
  exact this
def eX (l : List ByteArray) : List ByteArray := a6v (tV l)
theorem tQ (l : List ByteArray) : (eX l).length ≤ l.length := by
 have := nW ((tV l).map bl).toArray ((tV l).map bl).length
 simp only [eX, a6v, Lib.compact, List.length_map, a1T] at this ⊢
 exact this
theorem kF (l : List ByteArray) (s : ByteArray) : hasS l s = true ↔ s ∈ l := by
 unfold hasS
 rw [List.any_eq_true]
 constructor
 ·rintro ⟨x, h1, h2⟩; rw [of_decide_eq_true h2] at h1; exact h1
 ·intro h; exact ⟨s, h, by simp⟩
theorem nD (l : List ByteArray) (s : ByteArray) : s ∈ eX l ↔ s ∈ l := by
 have e : (tV l).map bl = oD (l.map bl) := by
  unfold tV
  rw [List.map_map]
  have : (bl ∘ lb) = id := by funext x; exact b5y x
  rw [this, List.map_id]
 unfold eX a6v
 rw [e]
 constructor
 ·intro h
  obtain ⟨y, hy, rfl⟩ := List.mem_map.1 h
  rw [a9s, oD, List.mem_mergeSort] at hy
  obtain ⟨z, hz, rfl⟩ := List.mem_map.1 hy
  rw [a9t]; exact hz
 ·intro h
  refine List.mem_map.2 ⟨bl s, ?_, a9t s⟩
  rw [a9s, oD, List.mem_mergeSort]
  exact List.mem_map.2 ⟨s, h, rfl⟩
theorem kV (l : List ByteArray) (hl : l.length ≤ 4300000) : FnC Tryz.prog 191 [.o (.d (.sl (l.map bV)))] (.o (.w 9 1 ((eX l).map bV))) := by
 refine ent Tryz.func191 rfl Tryz.call191 rfl (fun C => ?_); simp only [go_sem, st0, Tryz.ntmps191]
 have qH := trivial; repeat' (with_reducible first | refine nY ?_ | (refine mX ?_; try simp only [go_sem]) | refine kD ?_ | refine rD ?_ | refine cP (a2x l hl) ?_ | refine vI (a4M l (by omega)) ?_ | refine vJ (a4M l (by omega)) ?_ | refine vI (zM (tV l) (by rw [a1T]; omega)) ?_ | refine vJ (zM (tV l) (by rw [a1T]; omega)) ?_ | refine aO ?_ | fail)
 exact aA ⟨⟨_, rfl, by simp only [go_sem, eX]⟩, trivial⟩
def geS (s : ByteArray) (y : ByteArray) : Bool := !gD y s
def putS (l : List ByteArray) (s : ByteArray) : List ByteArray := if (l.drop (fstIx (geS s) l)).head? = some s then l else insAt (fstIx (geS s) l) s l
def putL (l : List ByteArray) : List ByteArray := l.foldl putS []
theorem tT (l : List ByteArray) (s x : ByteArray) : x ∈ putS l s ↔ x = s ∨ x ∈ l := by
 unfold putS
 split
 ·rename_i h
  have : s ∈ l.drop (fstIx (geS s) l) := by
   cases hd : l.drop (fstIx (geS s) l) with
   | nil => rw [hd] at h; cases h
   | cons y r => rw [hd] at h; simp at h; simp [h]
  have hs := List.mem_of_mem_drop this
  constructor
  ·exact .inr
  ·rintro (rfl | h) <;> first | exact hs | exact h
 ·unfold insAt
  conv => rhs; rw [← List.take_append_drop (fstIx (geS s) l) l]
  simp only [List.mem_append, List.mem_cons]
  constructor
  ·rintro (h | h | h) <;> first | exact .inr (.inl h) | exact .inl h | exact .inr (.inr h)
  ·rintro (h | h | h) <;> first | exact .inr (.inl h) | exact .inl h | exact .inr (.inr h)
theorem b5x (l : List ByteArray) (s : ByteArray) : (putS l s).length ≤ l.length + 1 := by
 unfold putS
 split
 ·omega
 ·rw [a6p _ _ _ (tC _ l)]; omega
theorem xY (l : List ByteArray) (s : ByteArray) : putL (l ++ [s]) = putS (putL l) s := by simp [putL]
theorem b3C (l : List ByteArray) : ∀ (a : List ByteArray) (x : ByteArray), x ∈ l.foldl putS a ↔ x ∈ a ∨ x ∈ l := by
 induction l with
 | nil => simp
 | cons y l ih =>
  intro a x
  rw [List.foldl_cons, ih, tT]
  simp only [List.mem_cons]
  constructor
  ·rintro ((h | h) | h) <;> first | exact .inr (.inl h) | exact .inl h | exact .inr (.inr h)
  ·rintro (h | h | h) <;> first | exact .inl (.inr h) | exact .inl (.inl h) | exact .inr h
theorem nQ (l : List ByteArray) (x : ByteArray) : x ∈ putL l ↔ x ∈ l := by rw [putL, b3C]; simp
theorem b3D (l : List ByteArray) : ∀ a : List ByteArray, (l.foldl putS a).length ≤ a.length + l.length := by
 induction l with
 | nil => simp
 | cons y l ih =>
  intro a
  have h1 := ih (putS a y)
  have h2 := b5x a y
  simp only [List.foldl_cons, List.length_cons]; omega
theorem iZ (l : List ByteArray) : (putL l).length ≤ l.length := by have := b3D l []; simpa [putL] using this
theorem b3E {α : Type} (p : α → Bool) (l : List α) (k : Nat) (h : k < l.length) (hk : fstIx p l = k + fstIx p (l.drop k)) : fstIx p l = if p l[k] then k else k + 1 + fstIx p (l.drop (k + 1)) := by
 rw [hk, b0S p l k h]
 split <;> omega
theorem oK {α β : Type} (f : α → β) (l : List α) (n : Nat) : (l.map f).take n = (l.take n).map f := List.map_take.symm
theorem oM {α β : Type} (f : α → β) (l : List α) (n : Nat) : (l.map f).drop n = (l.drop n).map f := List.map_drop.symm
end Go.Proofs.YteaaopodnbjpoaaGreat
end
section
set_option maxRecDepth 100000
set_option maxHeartbeats 4000000
namespace Go.Proofs.YteaaopodnbjpoaaGreat
open Go Go.Sx Go.RowKit Go.Proofs
theorem b7d (l : List ByteArray) : ∀ r ∈ l.map bV, r.length = 1 := by intro r hr; obtain ⟨x, _, rfl⟩ := List.mem_map.1 hr; rfl
theorem oJ (l : List ByteArray) (s : ByteArray) (hl : l.length ≤ 4300000) : FnC Tryz.prog 221 [.o (.d (.sl (l.map bV))), os s] (.o (.d (.sl ((putS l s).map bV)))) := by
 have hle := tC (geS s) l
 refine ent Tryz.func221 rfl Tryz.call221 rfl (fun C => ?_); simp only [go_sem, st0, Tryz.ntmps221]
 refine aD ?_
 refine aN (α := Nat) (fun k => [(5, oi k)]) (fun _ => []) (fun k => k ≤ l.length ∧ fstIx (geS s) l = k + fstIx (geS s) (l.drop k)) (fun k => l.length - k) 0 (fun _ => ?_) ?_ ?_ (fun k hk => ?_)
 ·simp only [go_sem]
 ·simp only [go_sem]; simp
 ·simp
 ·obtain ⟨hk, hf⟩ := hk
  simp only [go_sem]
  by_cases h1 : k < l.length
  ·have hfx := b3E (geS s) l k h1 hf
   have h1' : ((k : Int) < (l.length : Int)) = True := by simp [h1]
   have q0 := @h1; have q1 := @h1'; have q2 := @decide_true; refine mO ?_
   refine cnd (b := gD l[k] s) rfl (fun h2 => ?_) (fun h2 => ?_)
   ·rw [if_neg (by simp [geS, h2])] at hfx
    refine aD ?_
    refine aF (k + 1) ?_ ?_ ?_
    ·simp only [go_sem]; simp
    ·exact ⟨by omega, hfx⟩
    ·omega
   ·rw [if_pos (by simp [geS, h2])] at hfx
    have hd := List.drop_eq_getElem_cons h1
    by_cases h3 : l[k] = s
    ·have hput : putS l s = l := by unfold putS; rw [hfx, hd]; simp [h3]
     have q0 := @h1; have q1 := @h1'; have q2 := @h3; have q3 := @decide_true; refine mW ?_
     exact aA ⟨⟨_, rfl, by simp only [go_sem, hput]⟩, trivial⟩
    ·have hput : putS l s = insAt k s l := by unfold putS; rw [hfx, hd]; exact if_neg (fun h => h3 (Option.some.inj h))
     have hn1 : ((0 : Int) ≤ (k : Int)) := by omega
     have qH := aI @h1 (aI @h1' (aI @h3 (aI @hn1 (aI @decide_true (aI @decide_false (aI @oK (aI @oM (aI @a3P (aI @a3Q @a3R))))))))); repeat' (with_reducible first | refine nY ?_ | (refine mX ?_; try simp only [go_sem, qH]) | refine kD ?_ | refine rD ?_ | refine aO ?_ | fail)
     refine ⟨b7d l, by omega, by omega, by omega, ?_⟩
     have q0 := @oK; have q1 := @oM; have q2 := @a3P; have q3 := @a3Q; have q4 := @a3R; refine a0M ?_
     refine ⟨b7d l, by omega, by omega, by omega, ?_⟩
     have q0 := @oK; have q1 := @oM; have q2 := @a3P; have q3 := @a3Q; have q4 := @a3R; refine a0M ?_
     refine aB (Sees.frz 0 rfl) ?_
     simp only [go_sem]
     exact aA ⟨⟨_, rfl, by simp only [go_sem, hput, insAt, List.take_length, List.map_append, List.map_cons, List.append_assoc, List.cons_append, List.nil_append]⟩, trivial⟩
  ·have e : k = l.length := by omega
   have hfx : fstIx (geS s) l = k := by rw [hf, e, List.drop_length]; rfl
   have hput : putS l s = insAt k s l := by unfold putS; rw [hfx, e, List.drop_length]; simp
   have h1' : ((k : Int) < (l.length : Int)) = False := by simp [h1]
   have q0 := @h1; have q1 := @h1'; have q2 := @decide_false; have q3 := @oK; have q4 := @oM; have q5 := @a3P; have q6 := @a3Q; have q7 := @a3R; refine a3T ?_
   refine ⟨b7d l, by omega, by omega, by omega, ?_⟩
   have q0 := @oK; have q1 := @oM; have q2 := @a3P; have q3 := @a3Q; have q4 := @a3R; refine a0M ?_
   refine ⟨b7d l, by omega, by omega, by omega, ?_⟩
   have q0 := @oK; have q1 := @oM; have q2 := @a3P; have q3 := @a3Q; have q4 := @a3R; refine a0M ?_
   refine aB (Sees.frz 0 rfl) ?_
   simp only [go_sem]
   exact aA ⟨⟨_, rfl, by simp only [go_sem, hput, insAt, List.take_length, List.map_append, List.map_cons, List.append_assoc, List.cons_append, List.nil_append]⟩, trivial⟩
def attrNs (l : List TAttr) : List ByteArray := l.map TAttr.fName
theorem iO (l : List TAttr) : (attrNs l).length = l.length := by simp [attrNs]
theorem tN (x : TFile) (hl : x.fAttrs.length ≤ 4300000) : FnC Tryz.prog 306 [dC x] (.o (.w 9 1 ((attrNs x.fAttrs).map bV))) := by
 refine ent Tryz.func306 rfl Tryz.call306 rfl (fun C => ?_); simp only [go_sem, st0, Tryz.ntmps306]
 refine aD ?_
 generalize x.fAttrs = l at *
 refine aN (α := Nat) (fun k => [(3, .o (.s 1)), (6, .o .u), (10, oi k)]) (fun k => [(1, .row 9 1 ((attrNs (l.take k)).map bV) true)]) (fun k => k ≤ l.length) (fun k => l.length - k) 0 (fun _ => ?_) ?_ ?_ (fun k hk => ?_)
 ·simp only [go_sem]
 ·simp only [go_sem]; simp [attrNs]
 ·simp
 ·simp only [go_sem]
  refine aD ?_
  refine cnd rfl (fun h1 => ?_) (fun h1 => ?_)
  ·simp only [decide_eq_true_eq, Int.ofNat_lt] at h1
   have ht : attrNs (l.take (k + 1)) = attrNs (l.take k) ++ [l[k].fName] := by simp only [attrNs, List.take_succ_eq_append_getElem h1, List.map_append, List.map_cons, List.map_nil]
   have hlen : (attrNs (l.take k)).length = k := by rw [iO]; simp; omega
   have q0 := @h1; have q1 := @hlen; refine lF ?_
   refine aF (k + 1) ?_ ?_ ?_
   ·simp only [go_sem, ht, List.map_append]; simp
   ·omega
   ·omega
  ·simp only [decide_eq_false_iff_not] at h1
   have e : k = l.length := by omega
   subst e
   refine aD ?_
   exact aA ⟨⟨_, rfl, by simp only [go_sem, List.take_length]⟩, trivial⟩
theorem tO (x : TFile) (hl : x.fAttrs.length ≤ 4300000) : FnC Tryz.prog 302 [dC x] (.o (.w 9 1 ((attrNs x.fAttrs).map bV))) := by
 refine ent Tryz.func302 rfl Tryz.call302 rfl (fun C => ?_); simp only [go_sem, st0, Tryz.ntmps302]
 refine aD ?_
 generalize x.fAttrs = l at *
 refine aN (α := Nat) (fun k => [(3, .o (.s 1)), (4, oi k), (5, .o .u)]) (fun k => [(1, .row 9 1 ((attrNs (l.take k)).map bV) true)]) (fun k => k ≤ l.length) (fun k => l.length - k) 0 (fun _ => ?_) ?_ ?_ (fun k hk => ?_)
 ·simp only [go_sem]
 ·simp only [go_sem]; simp [attrNs]
 ·simp
 ·simp only [go_sem]
  refine aD ?_
  refine cnd rfl (fun h1 => ?_) (fun h1 => ?_)
  ·simp only [decide_eq_true_eq, Int.ofNat_lt] at h1
   have ht : attrNs (l.take (k + 1)) = attrNs (l.take k) ++ [l[k].fName] := by simp only [attrNs, List.take_succ_eq_append_getElem h1, List.map_append, List.map_cons, List.map_nil]
   have hlen : (attrNs (l.take k)).length = k := by rw [iO]; simp; omega
   have q0 := @h1; have q1 := @hlen; refine lF ?_
   refine aF (k + 1) ?_ ?_ ?_
   ·simp only [go_sem, ht, List.map_append]; simp
   ·omega
   ·omega
  ·simp only [decide_eq_false_iff_not] at h1
   have e : k = l.length := by omega
   subst e
   refine aD ?_
   exact aA ⟨⟨_, rfl, by simp only [go_sem, List.take_length]⟩, trivial⟩
theorem wN (l : List TDir) (hl : l.length ≤ 4300000) : FnC Tryz.prog 155 [.o (.d (.sl (l.map aM)))] (.o (.w 9 1 ((dirNs l).map bV))) := by
 refine ent Tryz.func155 rfl Tryz.call155 rfl (fun C => ?_); simp only [go_sem, st0, Tryz.ntmps155]
 refine aD ?_
 refine aN (α := Nat) (fun k => [(3, .o (.s 0)), (4, oi k), (5, .o .u)]) (fun k => [(0, .row 9 1 ((dirNs (l.take k)).map bV) true)]) (fun k => k ≤ l.length) (fun k => l.length - k) 0 (fun _ => ?_) ?_ ?_ (fun k hk => ?_)
 ·simp only [go_sem]
 ·simp only [go_sem]; simp [dirNs]
 ·simp
 ·simp only [go_sem]
  refine aD ?_
  refine cnd rfl (fun h1 => ?_) (fun h1 => ?_)
  ·simp only [decide_eq_true_eq, Int.ofNat_lt] at h1
   have ht : dirNs (l.take (k + 1)) = dirNs (l.take k) ++ [l[k].fName] := by simp only [dirNs, List.take_succ_eq_append_getElem h1, List.map_append, List.map_cons, List.map_nil]
   have hlen : (dirNs (l.take k)).length = k := by rw [lN]; simp; omega
   have q0 := @h1; have q1 := @hlen; refine lF ?_
   refine aF (k + 1) ?_ ?_ ?_
   ·simp only [go_sem, ht, List.map_append]; simp
   ·omega
   ·omega
  ·simp only [decide_eq_false_iff_not] at h1
   have e : k = l.length := by omega
   subst e
   refine aD ?_
   exact aA ⟨⟨_, rfl, by simp only [go_sem, List.take_length]⟩, trivial⟩
def eqV (x v : TValue) : Bool := decide (x.fKind = v.fKind) && (decide (x.fInt = v.fInt) && decide (x.fStr = v.fStr))
def a1q (a b : TFile) (n : ByteArray) : Bool := !(eqV (dR n a.fAttrs) (dR n b.fAttrs))
def chL (a b : TFile) (l : List ByteArray) : List ByteArray := l.filter (a1q a b)
theorem a7G (a b : TFile) (l : List ByteArray) : (chL a b l).length ≤ l.length := List.length_filter_le _ _
def chg (a b : TFile) : List ByteArray := chL a b (attrNs a.fAttrs ++ attrNs b.fAttrs)
theorem a9r (a b : TFile) (l : List ByteArray) (k : Nat) (h : k < l.length) : chL a b (l.take (k + 1)) = chL a b (l.take k) ++ (if a1q a b l[k] then [l[k]] else []) := by
 simp only [chL, List.take_succ_eq_append_getElem h, List.filter_append, List.filter_cons, List.filter_nil]
theorem a4K (a b : TFile) (h : wFile a + wFile b ≤ 4300000) : FnC Tryz.prog 276 [dC a, dC b] (.o (.w 9 1 ((eX (chg a b)).map bV))) := by
 have ha : a.fAttrs.length + b.fAttrs.length ≤ 4300000 := by unfold wFile dN at h; omega
 refine ent Tryz.func276 rfl Tryz.call276 rfl (fun C => ?_); simp only [go_sem, st0, Tryz.ntmps276]
 have qH := aI @a3R (aI @a7e @iO); repeat' (with_reducible first | refine nY ?_ | (refine mX ?_; try simp only [go_sem, qH]) | refine kD ?_ | (apply rE [1,3,4] [] [0,2,6] [0,2,6] ((.c 1 [] [2,6] (.c 3 [] [6] (.c 4 [5] [5,6] .n .n) .n) .n)) (by simp only [go_sem]; rfl) (by simp only [go_sem]; rfl) (by simp only [go_sem]; rfl) (by decide +kernel); (focus simp only [go_sem]; done)) | exact dO | refine cB (uX ?_) ?_ | refine cK (aX ?_) ?_ | refine cO (aX ?_) ?_ | exact bZ | exact oH | exact uB | refine rD ?_ | refine cP (tN a (by omega)) ?_ | refine cP (tN b (by omega)) ?_ | refine aO ?_ | fail)
 have hlenN : (attrNs a.fAttrs ++ attrNs b.fAttrs).length = a.fAttrs.length + b.fAttrs.length := by rw [List.length_append, iO, iO]
 rw [← hlenN]
 simp only [← List.map_append]
 unfold chg
 have hN : (attrNs a.fAttrs ++ attrNs b.fAttrs).length ≤ 4300000 := by omega
 generalize attrNs a.fAttrs ++ attrNs b.fAttrs = N at *
 refine vY 13 3 rfl rfl ?_
 simp only [go_sem]
 refine aN (α := Nat) (fun k => [(5, .o (.s 2)), (8, .o .u), (15, oi k)]) (fun k => [(2, .row 9 1 ((chL a b (N.take k)).map bV) true)]) (fun k => k ≤ N.length) (fun k => N.length - k) 0 (fun _ => ?_) ?_ ?_ (fun k hk => ?_)
 ·simp only [go_sem]
 ·simp only [go_sem]; simp [chL]
 ·simp
 ·simp only [go_sem]
  refine aD ?_
  have hlen : (chL a b (N.take k)).length ≤ 4300000 := by have h2 := a7G a b (N.take k); simp at h2; omega
  refine cnd rfl (fun h1 => ?_) (fun h1 => ?_)
  ·simp only [decide_eq_true_eq, Int.ofNat_lt] at h1
   have ht := a9r a b N k h1
   have hl1 : (chL a b (N.take k)).length + 1 ≤ 140737488355328 := by omega
   have hl2 : ((chL a b (N.take k)).length + 1) * 16 ≤ 140737488355328 := by omega
   have q0 := @h1; refine a1H (iW a N[k] (by omega)) (iW b N[k] (by omega)) ?_
   refine cnd (b := a1q a b N[k]) rfl (fun hv => ?_) (fun hv => ?_)
   ·rw [if_pos hv] at ht
    have q0 := @h1; refine fU ?_
    refine aF (k + 1) ?_ ?_ ?_
    ·simp only [go_sem, ht, List.map_append]; simp
    ·omega
    ·omega
   ·rw [if_neg (by simp [hv]), List.append_nil] at ht
    have q0 := @h1; refine fU ?_
    refine aF (k + 1) ?_ ?_ ?_
    ·simp only [go_sem, ht]; simp
    ·omega
    ·omega
  ·simp only [decide_eq_false_iff_not] at h1
   have e : k = N.length := by omega
   subst e
   rw [List.take_length] at *
   refine gP (kV (chL a b N) hlen) ?_
   exact aA ⟨⟨_, rfl, by simp only [go_sem, List.take_length]⟩, trivial⟩
theorem a4L (a b : TFile) (h : wFile a + wFile b ≤ 4300000) : FnC Tryz.prog 266 [dC a, dC b] (.o (.w 9 1 ((putL (chg a b)).map bV))) := by
 have ha : a.fAttrs.length + b.fAttrs.length ≤ 4300000 := by unfold wFile dN at h; omega
 refine ent Tryz.func266 rfl Tryz.call266 rfl (fun C => ?_); simp only [go_sem, st0, Tryz.ntmps266]
 have qH := aI @a3R (aI @a7e @iO); repeat' (with_reducible first | refine nY ?_ | (refine mX ?_; try simp only [go_sem, qH]) | refine kD ?_ | (apply rE [1,3,4] [] [0,2] [0,2] ((.c 1 [] [2] (.c 3 [] [] (.c 4 [5] [5] .n .n) .n) .n)) (by simp only [go_sem]; rfl) (by simp only [go_sem]; rfl) (by simp only [go_sem]; rfl) (by decide +kernel); (focus simp only [go_sem]; done)) | exact dO | refine cB (uX ?_) ?_ | refine cK (aX ?_) ?_ | refine cO (aX ?_) ?_ | exact bZ | exact oH | exact uB | refine rD ?_ | refine cP (tO a (by omega)) ?_ | refine cP (tO b (by omega)) ?_ | refine aO ?_ | fail)
 simp only [← List.map_append]
 unfold chg
 have hN : (attrNs a.fAttrs ++ attrNs b.fAttrs).length ≤ 4300000 := by rw [List.length_append, iO, iO]; omega
 generalize attrNs a.fAttrs ++ attrNs b.fAttrs = N at *
 refine vY 6 3 rfl rfl ?_
 simp only [go_sem]
 refine vY 5 2 rfl rfl ?_
 simp only [go_sem]
 refine aN (α := Nat) (fun k => [(5, .o (.d (.sl ((putL (chL a b (N.take k))).map bV)))), (7, oi k)]) (fun k => []) (fun k => k ≤ N.length) (fun k => N.length - k) 0 (fun _ => ?_) ?_ ?_ (fun k hk => ?_)
 ·simp only [go_sem]
 ·simp only [go_sem]; simp [chL, putL]
 ·simp
 ·simp only [go_sem]
  refine aD ?_
  have hlen : (putL (chL a b (N.take k))).length ≤ 4300000 := by have h1 := iZ (chL a b (N.take k)); have h2 := a7G a b (N.take k); simp at h2; omega
  refine cnd rfl (fun h1 => ?_) (fun h1 => ?_)
  ·simp only [decide_eq_true_eq, Int.ofNat_lt] at h1
   have ht := a9r a b N k h1
   have q0 := @h1; refine a1H (dG a N[k] (by omega)) (dG b N[k] (by omega)) ?_
   refine cnd (b := a1q a b N[k]) rfl (fun hv => ?_) (fun hv => ?_)
   ·rw [if_pos hv] at ht
    have q0 := @h1; refine fC (oJ (putL (chL a b (N.take k))) N[k] hlen) ?_
    refine aF (k + 1) ?_ ?_ ?_
    ·simp only [go_sem, ht, xY]; simp
    ·omega
    ·omega
   ·rw [if_neg (by simp [hv]), List.append_nil] at ht
    have q0 := @h1; refine fU ?_
    refine aF (k + 1) ?_ ?_ ?_
    ·simp only [go_sem, ht]; simp
    ·omega
    ·omega
  ·simp only [decide_eq_false_iff_not] at h1
   have e : k = N.length := by omega
   subst e
   rw [List.take_length] at *
   refine aD ?_
   exact aA ⟨⟨_, rfl, by simp only [go_sem, List.take_length]⟩, trivial⟩
end Go.Proofs.YteaaopodnbjpoaaGreat
end
section
set_option maxRecDepth 100000
set_option maxHeartbeats 4000000
namespace Go.Proofs.YteaaopodnbjpoaaGreat
open Go Go.Sx Go.RowKit Go.Proofs
@[go_sem] def wR (b : Bool) : List D := [bv b]
def c0y (n : TNode) : Bool := decide (n.fOp = 5)
def isTwo (n : TNode) : Bool := decide (n.fOp = 6) || decide (n.fOp = 7)
def kN (q : List TNode) (i : Nat) (L : List Bool) : List Bool := match q[i]? with
 | none => L
 | some n => if n.fOp = 5 then L.set n.fLeft.toNat true else if isTwo n then (L.set n.fLeft.toNat (L.getD i false)).set n.fRight.toNat (L.getD i false) else L
def negJ (q : List TNode) : Nat → List Bool
 | 0 => List.replicate q.length false
 | j + 1 => kN q (q.length - 1 - j) (negJ q j)
theorem a9q (q : List TNode) (i : Nat) (L : List Bool) : (kN q i L).length = L.length := by
 unfold kN
 split
 ·rfl
 ·split
  ·simp
  ·split <;> simp
theorem a1o (q : List TNode) (j : Nat) : (negJ q j).length = q.length := by
 induction j with
 | zero => simp [negJ]
 | succ j ih => simp only [negJ, a9q, ih]
def mK (q : List TNode) : List Bool := negJ q q.length
theorem a4I (q : List TNode) : (mK q).length = q.length := a1o q q.length
theorem a1R (q : List TNode) (i : Nat) (h : i < q.length) : negJ q (q.length - i) = kN q i (negJ q (q.length - (i + 1))) := by
 have e : q.length - i = (q.length - (i + 1)) + 1 := by omega
 have e2 : q.length - 1 - (q.length - (i + 1)) = i := by omega
 rw [e, negJ, e2]
def jH (n : TNode) : Bool := inB n.fOp 8 9
def sel (q : List TNode) (b : Bool) (k : Nat) : List ByteArray := match q[k]?, (mK q)[k]? with
 | some n, some x => if jH n && (x == b) then [n.fName] else []
 | _, _ => []
def nP (q : List TNode) (b : Bool) (k : Nat) : List ByteArray := (List.range k).flatMap (sel q b)
def dI (q : List TNode) (b : Bool) : List ByteArray := nP q b q.length
theorem a0l (q : List TNode) (b : Bool) (k : Nat) : nP q b (k + 1) = nP q b k ++ sel q b k := by
 simp [nP, List.range_succ, List.flatMap_append]
theorem b7b (q : List TNode) (b : Bool) (k : Nat) : (sel q b k).length ≤ 1 := by
 unfold sel
 split
 ·split <;> simp
 ·simp
theorem kP (q : List TNode) (b : Bool) (k : Nat) : (nP q b k).length ≤ k := by
 induction k with
 | zero => simp [nP]
 | succ k ih => rw [a0l, List.length_append]; have := b7b q b k; omega
theorem c0o (L : List Bool) (i : Nat) (h : i < L.length) : L.getD i false = L[i] := by simp [List.getD_eq_getElem?_getD, h]
theorem b2k (L : List Bool) (l : Nat) : (L.map wR).set l [D.v (Value.bool false)] = (L.set l false).map wR := by rw [List.map_set]; rfl
theorem b2l (L : List Bool) (l : Nat) : (L.map wR).set l [D.v (Value.bool true)] = (L.set l true).map wR := by rw [List.map_set]; rfl
theorem b1a {L : List Bool} {i : Nat} {b : Bool} (h : i < L.length) (hb : L[i] = b) (l : Nat) (h' : i < (L.set l b).length) : (L.set l b)[i] = b := by
 rw [List.getElem_set]; split
 ·rfl
 ·exact hb
theorem b2m {L : List Bool} {i : Nat} {b : Bool} (h : i < L.length) (hb : L[i] = b) (l r : Nat) (h' : i < ((L.set l b).set r b).length) : ((L.set l b).set r b)[i] = b := by
 rw [List.getElem_set]; split
 ·rfl
 ·exact b1a h hb l _
theorem a1p {q : List TNode} {i : Nat} (h : i < q.length) (L : List Bool) {l : Nat} (h5 : q[i].fOp = 5) (hl : q[i].fLeft = (l : Int)) : kN q i L = L.set l true := by
 simp [kN, List.getElem?_eq_getElem h, h5, hl]
theorem yS {q : List TNode} {i : Nat} (h : i < q.length) (L : List Bool) (hi : i < L.length) {l m : Nat} (h5 : ¬ q[i].fOp = 5) (h67 : q[i].fOp = 6 ∨ q[i].fOp = 7) (hl : q[i].fLeft = (l : Int)) (hm : q[i].fRight = (m : Int)) : kN q i L = (L.set l L[i]).set m L[i] := by
 have h2 : isTwo q[i] = true := by unfold isTwo; rcases h67 with h | h <;> simp [h]
 simp only [kN, List.getElem?_eq_getElem h, h5, if_false, h2, if_true, hl, hm, Int.toNat_natCast, c0o L i hi]
theorem a1S {q : List TNode} {i : Nat} (h : i < q.length) (L : List Bool) (h5 : ¬ q[i].fOp = 5) (h67 : ¬ (q[i].fOp = 6 ∨ q[i].fOp = 7)) : kN q i L = L := by
 have h2 : isTwo q[i] = false := by
  unfold isTwo
  have h6 : ¬ q[i].fOp = 6 := fun h => h67 (.inl h)
  have h7 : ¬ q[i].fOp = 7 := fun h => h67 (.inr h)
  simp [h6, h7]
 simp only [kN, List.getElem?_eq_getElem h, h5, if_false, h2, Bool.false_eq_true]
theorem b1b (q : List TNode) (hq : okQ q = true) (hw : bT q ≤ 4300000) : FnC Tryz.prog 323 [.o (.d (.sl (q.map bC)))] (.o (.w 4 1 ((mK q).map wR))) := by
 have hl9 := nK hq
 refine ent Tryz.func323 rfl Tryz.call323 rfl (fun C => ?_); simp only [go_sem, st0, Tryz.ntmps323]
 have q0 := @hq; refine fC (dA q hw) ?_
 refine aN (α := Nat) (fun m => [(4, oi ((m : Int) - 1))]) (fun m => [(0, .row 4 1 ((negJ q (q.length - m)).map wR) true)]) (fun m => m ≤ q.length) (fun m => m) q.length (fun _ => ?_) ?_ ?_ (fun m hm => ?_)
 ·simp only [go_sem]
 ·simp only [go_sem]; simp [negJ, wR]
 ·simp
 ·simp only [go_sem]
  refine aD ?_
  refine cnd rfl (fun h => ?_) (fun h => ?_)
  ·simp only [decide_eq_true_eq] at h
   obtain ⟨i, rfl⟩ : ∃ i, m = i + 1 := ⟨m - 1, by omega⟩
   have hx : ((i + 1 : Nat) : Int) - 1 = (i : Int) := by omega
   have hi : i < q.length := by omega
   have hst := a1R q i hi
   have hLl := a1o q (q.length - (i + 1))
   generalize negJ q (q.length - (i + 1)) = L at *
   have hiL : i < L.length := by omega
   have hok := a0h hq (List.getElem?_eq_getElem hi)
   have hop := sW hok
   by_cases h5 : q[i].fOp = 5
   ·obtain ⟨l, hl, hli⟩ := eB hok (.inl h5)
    have hlL : l < L.length := by omega
    rw [a1p hi L h5 hl] at hst
    cases hb : L[i]
    all_goals
     have q0 := @hx; have q1 := @hi; have q2 := @hiL; have q3 := @hb; have q4 := @h5; have q5 := @hl; have q6 := @hlL; have q7 := @decide_true; have q8 := @decide_false; have q9 := @Int.toNat_natCast; refine sP ?_
     refine aF i ?_ ?_ ?_
     ·simp only [go_sem, hst]; simp [wR]
     ·omega
     ·omega
   by_cases h67 : q[i].fOp = 6 ∨ q[i].fOp = 7
   ·obtain ⟨l, hl, hli⟩ := eB hok (.inr h67)
    obtain ⟨r, hr, hri⟩ := gH hok h67
    have hlL : l < L.length := by omega
    have hrL : r < L.length := by omega
    rw [yS hi L hiL h5 h67 hl hr] at hst
    by_cases h6 : q[i].fOp = 6
    ·cases hb : L[i]
     all_goals
      rw [hb] at hst
      have hrL1 : r < (L.set l false).length := by simpa using hrL
      have hrL2 : r < (L.set l true).length := by simpa using hrL
      have qH := aI @hx (aI @hi (aI @hiL (aI @hb (aI @h5 (aI @h6 (aI @hl (aI @hr (aI @hlL (aI @hrL (aI @b2k (aI @b2l (aI @hrL1 (aI @hrL2 (aI @decide_true (aI @decide_false @Int.toNat_natCast))))))))))))))); repeat' (with_reducible first | refine nY ?_ | (refine mX ?_; try simp only [go_sem, qH]) | refine kD ?_ | refine rT [15, 17] [] ?_ | refine dM (aX ?_) (uX ?_) | refine fB (aX ?_) ?_ | exact uB | refine rD ?_ | refine aO ?_ | fail)
      refine aF i ?_ ?_ ?_
      ·simp only [go_sem, hst]; simp [wR]
      ·omega
      ·omega
    ·have h7 : q[i].fOp = 7 := by omega
     cases hb : L[i]
     all_goals
      rw [hb] at hst
      have hrL1 : r < (L.set l false).length := by simpa using hrL
      have hrL2 : r < (L.set l true).length := by simpa using hrL
      have qH := aI @hx (aI @hi (aI @hiL (aI @hb (aI @h5 (aI @h6 (aI @h7 (aI @hl (aI @hr (aI @hlL (aI @hrL (aI @b2k (aI @b2l (aI @hrL1 (aI @hrL2 (aI @decide_true (aI @decide_false @Int.toNat_natCast)))))))))))))))); repeat' (with_reducible first | refine nY ?_ | (refine mX ?_; try simp only [go_sem, qH]) | refine kD ?_ | refine rT [15, 17] [] ?_ | refine dM (aX ?_) (uX ?_) | refine fB (aX ?_) ?_ | exact uB | refine rD ?_ | refine aO ?_ | fail)
      refine aF i ?_ ?_ ?_
      ·simp only [go_sem, hst]; simp [wR]
      ·omega
      ·omega
   ·have h6 : ¬ q[i].fOp = 6 := fun h => h67 (.inl h)
    have h7 : ¬ q[i].fOp = 7 := fun h => h67 (.inr h)
    rw [a1S hi L h5 h67] at hst
    cases hb : L[i]
    all_goals
     have q0 := @hx; have q1 := @hi; have q2 := @hiL; have q3 := @hb; have q4 := @h5; have q5 := @h6; have q6 := @h7; have q7 := @decide_true; have q8 := @decide_false; have q9 := @Int.toNat_natCast; refine sP ?_
     refine aF i ?_ ?_ ?_
     ·simp only [go_sem, hst]; simp [wR]
     ·omega
     ·omega
  ·simp only [decide_eq_false_iff_not] at h
   have e : m = 0 := by omega
   subst e
   refine aD ?_
   exact aA ⟨⟨_, rfl, by simp only [go_sem, mK, Nat.sub_zero]⟩, trivial⟩
theorem b1d (q : List TNode) (hq : okQ q = true) (hw : bT q ≤ 4300000) : FnC Tryz.prog 332 [.o (.d (.sl (q.map bC)))] (.o (.w 4 1 ((mK q).map wR))) := by
 have hl9 := nK hq
 refine ent Tryz.func332 rfl Tryz.call332 rfl (fun C => ?_); simp only [go_sem, st0, Tryz.ntmps332]
 have q0 := @hq; refine fC (dE q hw) ?_
 refine aN (α := Nat) (fun m => [(4, oi ((m : Int) - 1))]) (fun m => [(0, .row 4 1 ((negJ q (q.length - m)).map wR) true)]) (fun m => m ≤ q.length) (fun m => m) q.length (fun _ => ?_) ?_ ?_ (fun m hm => ?_)
 ·simp only [go_sem]
 ·simp only [go_sem]; simp [negJ, wR]
 ·simp
 ·simp only [go_sem]
  refine aD ?_
  refine cnd rfl (fun h => ?_) (fun h => ?_)
  ·simp only [decide_eq_true_eq] at h
   obtain ⟨i, rfl⟩ : ∃ i, m = i + 1 := ⟨m - 1, by omega⟩
   have hx : ((i + 1 : Nat) : Int) - 1 = (i : Int) := by omega
   have hi : i < q.length := by omega
   have hst := a1R q i hi
   have hLl := a1o q (q.length - (i + 1))
   generalize negJ q (q.length - (i + 1)) = L at *
   have hiL : i < L.length := by omega
   have hok := a0h hq (List.getElem?_eq_getElem hi)
   have hop := sW hok
   by_cases h5 : q[i].fOp = 5
   ·obtain ⟨l, hl, hli⟩ := eB hok (.inl h5)
    have hlL : l < L.length := by omega
    rw [a1p hi L h5 hl] at hst
    cases hb : L[i]
    all_goals
     have q0 := @hx; have q1 := @hi; have q2 := @hiL; have q3 := @hb; have q4 := @h5; have q5 := @hl; have q6 := @hlL; have q7 := @decide_true; have q8 := @decide_false; have q9 := @Int.toNat_natCast; refine sP ?_
     refine aF i ?_ ?_ ?_
     ·simp only [go_sem, hst]; simp [wR]
     ·omega
     ·omega
   by_cases h67 : q[i].fOp = 6 ∨ q[i].fOp = 7
   ·obtain ⟨l, hl, hli⟩ := eB hok (.inr h67)
    obtain ⟨r, hr, hri⟩ := gH hok h67
    have hlL : l < L.length := by omega
    have hrL : r < L.length := by omega
    rw [yS hi L hiL h5 h67 hl hr] at hst
    by_cases h6 : q[i].fOp = 6
    ·cases hb : L[i]
     all_goals
      rw [hb] at hst
      have hs1 := b1a hiL hb l
      have hs2 := b2m hiL hb l r
      have hrL1 : r < (L.set l false).length := by simpa using hrL
      have hrL2 : r < (L.set l true).length := by simpa using hrL
      have qH := aI @hx (aI @hi (aI @hiL (aI @hb (aI @h5 (aI @h6 (aI @hl (aI @hr (aI @hlL (aI @hrL (aI @b2k (aI @b2l (aI @hrL1 (aI @hrL2 (aI @hs1 (aI @hs2 (aI @decide_true (aI @decide_false @Int.toNat_natCast))))))))))))))))); repeat' (with_reducible first | refine nY ?_ | (refine mX ?_; try simp only [go_sem, qH]) | refine kD ?_ | refine rT [8] [] ?_ | refine dM (aX ?_) (uX ?_) | refine fB (aX ?_) ?_ | exact uB | refine rD ?_ | refine aO ?_ | fail)
      refine aF i ?_ ?_ ?_
      ·simp only [go_sem, hst]; simp [wR]
      ·omega
      ·omega
    ·have h7 : q[i].fOp = 7 := by omega
     cases hb : L[i]
     all_goals
      rw [hb] at hst
      have hs1 := b1a hiL hb l
      have hs2 := b2m hiL hb l r
      have hrL1 : r < (L.set l false).length := by simpa using hrL
      have hrL2 : r < (L.set l true).length := by simpa using hrL
      have qH := aI @hx (aI @hi (aI @hiL (aI @hb (aI @h5 (aI @h6 (aI @h7 (aI @hl (aI @hr (aI @hlL (aI @hrL (aI @b2k (aI @b2l (aI @hrL1 (aI @hrL2 (aI @hs1 (aI @hs2 (aI @decide_true (aI @decide_false @Int.toNat_natCast)))))))))))))))))); repeat' (with_reducible first | refine nY ?_ | (refine mX ?_; try simp only [go_sem, qH]) | refine kD ?_ | refine rT [8] [] ?_ | refine dM (aX ?_) (uX ?_) | refine fB (aX ?_) ?_ | exact uB | refine rD ?_ | refine aO ?_ | fail)
      refine aF i ?_ ?_ ?_
      ·simp only [go_sem, hst]; simp [wR]
      ·omega
      ·omega
   ·have h6 : ¬ q[i].fOp = 6 := fun h => h67 (.inl h)
    have h7 : ¬ q[i].fOp = 7 := fun h => h67 (.inr h)
    rw [a1S hi L h5 h67] at hst
    cases hb : L[i]
    all_goals
     have q0 := @hx; have q1 := @hi; have q2 := @hiL; have q3 := @hb; have q4 := @h5; have q5 := @h6; have q6 := @h7; have q7 := @decide_true; have q8 := @decide_false; have q9 := @Int.toNat_natCast; refine sP ?_
     refine aF i ?_ ?_ ?_
     ·simp only [go_sem, hst]; simp [wR]
     ·omega
     ·omega
  ·simp only [decide_eq_false_iff_not] at h
   have e : m = 0 := by omega
   subst e
   refine aD ?_
   exact aA ⟨⟨_, rfl, by simp only [go_sem, mK, Nat.sub_zero]⟩, trivial⟩
end Go.Proofs.YteaaopodnbjpoaaGreat
end
section
set_option maxRecDepth 100000
set_option maxHeartbeats 4000000
namespace Go.Proofs.YteaaopodnbjpoaaGreat
open Go Go.Sx Go.RowKit Go.Proofs
theorem b5w (q : List TNode) (b : Bool) (k : Nat) (h : k < q.length) (h2 : k < (mK q).length) : sel q b k = if jH q[k] && ((mK q)[k] == b) then [q[k].fName] else [] := by
 unfold sel; rw [List.getElem?_eq_getElem h, List.getElem?_eq_getElem h2]
theorem a9n (n : TNode) : FnC Tryz.prog 284 [wK n] (ob (jH n)) := by
 refine ent Tryz.func284 rfl Tryz.call284 rfl (fun C => ?_); simp only [go_sem, st0, Tryz.ntmps284]
 by_cases c8 : n.fOp = 8
 ·have hd : jH n = true := by simp [jH, inB, c8]
  have q0 := @c8; have q1 := @decide_true; refine lF ?_
  exact aA ⟨⟨_, rfl, by simp only [go_sem, hd]⟩, trivial⟩
 by_cases c9 : n.fOp = 9
 ·have hd : jH n = true := by simp [jH, inB, c9]
  have q0 := @c8; have q1 := @c9; have q2 := @decide_true; have q3 := @decide_false; refine mW ?_
  exact aA ⟨⟨_, rfl, by simp only [go_sem, hd]⟩, trivial⟩
 ·have hd : jH n = false := by
   rw [← Bool.not_eq_true]
   simp only [jH, inB, Bool.and_eq_true, decide_eq_true_eq]; omega
  have q0 := @c8; have q1 := @c9; have q2 := @decide_true; have q3 := @decide_false; refine mW ?_
  exact aA ⟨⟨_, rfl, by simp only [go_sem, hd]⟩, trivial⟩
theorem a2C (q : List TNode) (b : Bool) (hq : okQ q = true) (hw : bT q ≤ 4300000) : FnC Tryz.prog 304 [.o (.d (.sl (q.map bC))), ob b] (.o (.w 9 1 ((eX (dI q b)).map bV))) := by
 have hl9 := nK hq
 have hnl := a4I q
 refine ent Tryz.func304 rfl Tryz.call304 rfl (fun C => ?_); simp only [go_sem, st0, Tryz.ntmps304]
 refine gP (b1b q hq hw) ?_
 refine aN (α := Nat) (fun k => [(5, .o (.s 0)), (8, .o .u), (12, oi k)]) (fun k => [(0, .row 9 1 ((nP q b k).map bV) true)]) (fun k => k ≤ q.length) (fun k => q.length - k) 0 (fun _ => ?_) ?_ ?_ (fun k hk => ?_)
 ·simp only [go_sem]
 ·simp only [go_sem]; simp [nP]
 ·simp
 ·simp only [go_sem]
  refine aD ?_
  refine cnd rfl (fun h1 => ?_) (fun h1 => ?_)
  ·simp only [decide_eq_true_eq, Int.ofNat_lt] at h1
   have h2 : k < (mK q).length := h1
   have h1 : k < q.length := by omega
   have hdl := kP q b k
   have hs := b5w q b k h1 h2
   have ht := a0l q b k
   rw [hs] at ht
   have hl1 : (nP q b k).length + 1 ≤ 140737488355328 := by omega
   have hl2 : ((nP q b k).length + 1) * 16 ≤ 140737488355328 := by omega
   cases hd : jH q[k]
   ·simp only [hd, Bool.false_and, Bool.false_eq_true, if_false, List.append_nil] at ht
    have q0 := @h1; have q1 := @h2; have q2 := @hd; refine mF (a9n q[k]) ?_
    refine aF (k + 1) ?_ ?_ ?_
    ·simp only [go_sem, ht]; simp
    ·omega
    ·omega
   ·cases hx : (mK q)[k] <;> cases b
    all_goals
     simp only [hd, hx, Bool.true_and, Bool.true_beq, Bool.false_beq, Bool.not_true, Bool.not_false, Bool.false_eq_true, if_false, if_true, List.append_nil] at ht
     have q0 := @h1; have q1 := @h2; have q2 := @hd; have q3 := @hx; have q4 := @Bool.true_beq; have q5 := @Bool.false_beq; refine a2P (a9n q[k]) ?_
     refine aF (k + 1) ?_ ?_ ?_
     ·simp only [go_sem, ht, List.map_append]; simp
     ·omega
     ·omega
  ·simp only [decide_eq_false_iff_not] at h1
   have e : k = q.length := by omega
   subst e
   have hdl := kP q b q.length
   refine gP (kV (nP q b q.length) (by omega)) ?_
   exact aA ⟨⟨_, rfl, by simp only [go_sem, dI]⟩, trivial⟩
theorem a2D (q : List TNode) (b : Bool) (hq : okQ q = true) (hw : bT q ≤ 4300000) : FnC Tryz.prog 322 [.o (.d (.sl (q.map bC))), ob b] (.o (.w 9 1 ((putL (dI q b)).map bV))) := by
 have hl9 := nK hq
 have hnl := a4I q
 refine ent Tryz.func322 rfl Tryz.call322 rfl (fun C => ?_); simp only [go_sem, st0, Tryz.ntmps322]
 refine gP (b1d q hq hw) ?_
 refine vY 5 0 rfl rfl ?_
 simp only [go_sem]
 refine aN (α := Nat) (fun k => [(5, .o (.d (.sl ((putL (nP q b k)).map bV)))), (7, oi k), (8, .o .u)]) (fun _ => []) (fun k => k ≤ q.length) (fun k => q.length - k) 0 (fun _ => ?_) ?_ ?_ (fun k hk => ?_)
 ·simp only [go_sem]
 ·simp only [go_sem]; simp [nP, putL]
 ·simp
 ·simp only [go_sem]
  have hdl := kP q b k
  have hlen : (putL (nP q b k)).length ≤ 4300000 := by have h1 := iZ (nP q b k); omega
  refine aD ?_
  refine cnd rfl (fun h1 => ?_) (fun h1 => ?_)
  ·simp only [decide_eq_true_eq, Int.ofNat_lt] at h1
   have h2 : k < (mK q).length := h1
   have h1 : k < q.length := by omega
   have hs := b5w q b k h1 h2
   have ht := a0l q b k
   rw [hs] at ht
   cases hd : jH q[k]
   ·simp only [hd, Bool.false_and, Bool.false_eq_true, if_false, List.append_nil] at ht
    have q0 := @h1; have q1 := @h2; have q2 := @hd; refine mF (show FnC Tryz.prog _ _ (ob (jH q[k])) from aW q[k].fOp 8 9) ?_
    refine aF (k + 1) ?_ ?_ ?_
    ·simp only [go_sem, ht]; simp
    ·omega
    ·omega
   ·cases hx : (mK q)[k] <;> cases b
    all_goals
     simp only [hd, hx, Bool.true_and, Bool.true_beq, Bool.false_beq, Bool.not_true, Bool.not_false, Bool.false_eq_true, if_false, if_true, List.append_nil] at ht
     have q0 := @h1; have q1 := @h2; have q2 := @hd; have q3 := @hx; have q4 := @Bool.true_beq; have q5 := @Bool.false_beq; refine a5n (show FnC Tryz.prog _ _ (ob (jH q[k])) from aW q[k].fOp 8 9) (oJ (putL (nP q _ k)) q[k].fName hlen) ?_
     refine aF (k + 1) ?_ ?_ ?_
     ·simp only [go_sem, ht, xY]; simp
     ·omega
     ·omega
  ·simp only [decide_eq_false_iff_not] at h1
   have e : k = q.length := by omega
   subst e
   refine aD ?_
   exact aA ⟨⟨_, rfl, by simp only [go_sem, dI]⟩, trivial⟩
theorem b0Y (q : List TNode) (hq : okQ q = true) (hw : bT q ≤ 4300000) : FnC Tryz.prog 271 [.o (.d (.sl (q.map bC)))] (.o (.w 9 1 ((eX (dI q false)).map bV))) := by
 refine ent Tryz.func271 rfl Tryz.call271 rfl (fun C => ?_); simp only [go_sem, st0, Tryz.ntmps271]
 refine gP (a2C q false hq hw) ?_
 exact aA ⟨⟨_, rfl, by simp only [go_sem]⟩, trivial⟩
theorem a9o (q : List TNode) (hq : okQ q = true) (hw : bT q ≤ 4300000) : FnC Tryz.prog 272 [.o (.d (.sl (q.map bC)))] (.o (.w 9 1 ((eX (dI q true)).map bV))) := by
 refine ent Tryz.func272 rfl Tryz.call272 rfl (fun C => ?_); simp only [go_sem, st0, Tryz.ntmps272]
 refine gP (a2C q true hq hw) ?_
 exact aA ⟨⟨_, rfl, by simp only [go_sem]⟩, trivial⟩
theorem b0Z (q : List TNode) (hq : okQ q = true) (hw : bT q ≤ 4300000) : FnC Tryz.prog 300 [.o (.d (.sl (q.map bC)))] (.o (.w 9 1 ((putL (dI q false)).map bV))) := by
 refine ent Tryz.func300 rfl Tryz.call300 rfl (fun C => ?_); simp only [go_sem, st0, Tryz.ntmps300]
 refine gP (a2D q false hq hw) ?_
 exact aA ⟨⟨_, rfl, by simp only [go_sem]⟩, trivial⟩
theorem a9p (q : List TNode) (hq : okQ q = true) (hw : bT q ≤ 4300000) : FnC Tryz.prog 301 [.o (.d (.sl (q.map bC)))] (.o (.w 9 1 ((putL (dI q true)).map bV))) := by
 refine ent Tryz.func301 rfl Tryz.call301 rfl (fun C => ?_); simp only [go_sem, st0, Tryz.ntmps301]
 refine gP (a2D q true hq hw) ?_
 exact aA ⟨⟨_, rfl, by simp only [go_sem]⟩, trivial⟩
end Go.Proofs.YteaaopodnbjpoaaGreat
end
section
set_option maxRecDepth 100000
set_option maxHeartbeats 4000000
namespace Go.Proofs.YteaaopodnbjpoaaGreat
def lv (L : List Nat) (i : Nat) : Nat := L.getD i 0
structure Clo (n : Nat) (E : Nat → Nat → Nat → Prop) (F : List Nat) : Prop where
 len : F.length = n
 le : ∀ i k w, E i k w → lv F k + w ≤ lv F i
structure Edges (n : Nat) (E : Nat → Nat → Nat → Prop) : Prop where
 ok : ∀ i k w, E i k w → i < n ∧ k < n ∧ w ≤ 1
structure Least (n : Nat) (E : Nat → Nat → Nat → Prop) (L : List Nat) : Prop where
 clo : Clo n E L
 le : ∀ F, Clo n E F → ∀ i, lv L i ≤ lv F i
theorem b8B {L M : List Nat} (h : L.length = M.length) (hi : ∀ i, lv L i = lv M i) : L = M := by
 apply List.ext_getElem h
 intro i h1 h2
 have := hi i
 simpa [lv, List.getD_eq_getElem?_getD, h1, h2] using this
theorem a7I {n : Nat} {E : Nat → Nat → Nat → Prop} {L M : List Nat} (h : Least n E L) (k : Least n E M) : L = M :=
 b8B (by rw [h.clo.len, k.clo.len]) fun i => Nat.le_antisymm (h.le M k.clo i) (k.le L h.clo i)
open Classical in
noncomputable def b1e (n : Nat) (E : Nat → Nat → Nat → Prop) : List Nat := if h : ∃ L, Least n E L then h.choose else []
theorem a7J {n : Nat} {E : Nat → Nat → Nat → Prop} {L : List Nat} (h : Least n E L) : b1e n E = L := by
 have he : ∃ L, Least n E L := ⟨L, h⟩
 unfold b1e
 rw [dif_pos he]
 exact a7I he.choose_spec h
theorem a7K {n : Nat} {E : Nat → Nat → Nat → Prop} (h : ¬ ∃ F, Clo n E F) : b1e n E = [] := by
 unfold b1e
 rw [dif_neg (fun ⟨L, hL⟩ => h ⟨L, hL.clo⟩)]
open Classical in
noncomputable def a2E (n : Nat) (E : Nat → Nat → Nat → Prop) : Bool := if ∃ F, Clo n E F then true else false
theorem yT {n : Nat} {E : Nat → Nat → Nat → Prop} {L : List Nat} (h : Clo n E L) : a2E n E = true := by
 unfold a2E; rw [if_pos ⟨L, h⟩]
theorem a9u {n : Nat} {E : Nat → Nat → Nat → Prop} (h : ¬ ∃ F, Clo n E F) : a2E n E = false := by
 unfold a2E; rw [if_neg h]
theorem a1U {n : Nat} {E : Nat → Nat → Nat → Prop} (hE : Edges n E) {F : List Nat} (h : Clo n E F) : ∃ G, Clo n E G ∧ ∀ i, i < n → lv G i < n := by
 let r (i : Nat) : Nat := ((List.range n).filter fun j => decide (lv F j < lv F i)).length
 have hr : ∀ i, i < n → lv ((List.range n).map r) i = r i := fun i hi => by simp [lv, List.getD_eq_getElem?_getD, hi]
 have sub : ∀ (p q : Nat → Bool) (l : List Nat), (∀ j, p j = true → q j = true) → (l.filter p).length ≤ (l.filter q).length := by
  intro p q l hpq
  induction l with
  | nil => simp
  | cons x l ih =>
   simp only [List.filter_cons]
   cases hp : p x
   ·cases hq : q x <;> simp <;> omega
   ·rw [hpq x hp]; simpa using ih
 have sub1 : ∀ (p q : Nat → Bool) (l : List Nat) (x : Nat), x ∈ l → (∀ j, p j = true → q j = true) → p x = false → q x = true → (l.filter p).length < (l.filter q).length := by
  intro p q l x hx hpq hp hq
  induction l with
  | nil => simp at hx
  | cons y l ih =>
   simp only [List.filter_cons]
   rcases List.mem_cons.1 hx with rfl | hx
   ·rw [hp, hq]
    have := sub p q l hpq
    simp
    omega
   ·have := ih hx
    cases hp' : p y
    ·cases hq' : q y <;> simp <;> omega
    ·rw [hpq y hp']; simpa using this
 refine ⟨(List.range n).map r, ⟨by simp, fun i k w he => ?_⟩, fun i hi => ?_⟩
 ·obtain ⟨hi, hk, hw⟩ := hE.ok i k w he
  rw [hr i hi, hr k hk]
  have hle := h.le i k w he
  rcases Nat.lt_or_ge w 1 with hw0 | hw1
  ·have hw' : w = 0 := by omega
   subst hw'
   exact sub _ _ _ fun j hj => by simp only [decide_eq_true_eq] at hj ⊢; omega
  ·have hw' : w = 1 := by omega
   subst hw'
   exact sub1 _ _ _ k (List.mem_range.2 hk) (fun j hj => by simp only [decide_eq_true_eq] at hj ⊢; omega) (by simp) (by simp only [decide_eq_true_eq]; omega)
 ·rw [hr i hi]
  have := sub1 (fun j => decide (lv F j < lv F i)) (fun _ => true) (List.range n) i (List.mem_range.2 hi) (fun _ _ => rfl) (by simp) rfl
  rw [List.filter_eq_self.2 (fun _ _ => rfl), List.length_range] at this
  exact this
theorem a4N (L : List Nat) (i v j : Nat) (h : i < L.length) : lv (L.set i v) j = if j = i then v else lv L j := by
 unfold lv
 simp only [List.getD_eq_getElem?_getD, List.getElem?_set]
 by_cases e : i = j
 ·subst e; simp [h]
 ·rw [if_neg e, if_neg (fun e' => e e'.symm)]
def vZ : List Nat → Nat
 | [] => 0
 | x :: l => x + vZ l
theorem a9v (L : List Nat) (i v : Nat) (h : i < L.length) : vZ (L.set i v) + lv L i = vZ L + v := by
 induction L generalizing i with
 | nil => simp at h
 | cons x l ih =>
  cases i with
  | zero => simp [vZ, lv]; omega
  | succ i =>
   have := ih i (by simpa using h)
   simp only [List.set_cons_succ, vZ, lv, List.getD_cons_succ] at this ⊢
   omega
theorem b2p (L : List Nat) (c : Nat) (h : ∀ i, i < L.length → lv L i ≤ c) : vZ L ≤ L.length * c := by
 induction L with
 | nil => simp [vZ]
 | cons x l ih =>
  have h0 : x ≤ c := by simpa [lv] using h 0 (by simp)
  have h1 := ih fun i hi => by simpa [lv] using h (i + 1) (by simpa using hi)
  simp only [vZ, List.length_cons, Nat.succ_mul]
  omega
theorem a7L (n i : Nat) : lv (List.replicate n 0) i = 0 := by
 simp only [lv, List.getD_eq_getElem?_getD, List.getElem?_replicate]
 split <;> rfl
def up1 (i k w : Nat) (L : List Nat) : List Nat := if lv L k + w > lv L i then L.set i (lv L k + w) else L
theorem a3n (i k w : Nat) (L : List Nat) : (up1 i k w L).length = L.length := by unfold up1; split <;> simp
theorem up1_grow (i k w : Nat) (L : List Nat) (h : i < L.length) : up1 i k w L = L ∨ vZ L < vZ (up1 i k w L) := by
 unfold up1
 split
 ·rename_i hc
  have := a9v L i (lv L k + w) h
  right; omega
 ·exact .inl rfl
theorem b5z {i k w : Nat} {L : List Nat} (hl : i < L.length) (h : up1 i k w L = L) : lv L k + w ≤ lv L i := by
 apply Classical.byContradiction
 intro hn
 have hc : lv L k + w > lv L i := by omega
 unfold up1 at h
 rw [if_pos hc] at h
 have := a4N L i (lv L k + w) i hl
 rw [h, if_pos rfl] at this
 omega
theorem b3F {n : Nat} {E : Nat → Nat → Nat → Prop} {F : List Nat} (hF : Clo n E F) {i k w : Nat} (he : E i k w) {L : List Nat} (hl : i < L.length) (h : ∀ j, lv L j ≤ lv F j) : ∀ j, lv (up1 i k w L) j ≤ lv F j := by
 intro j
 unfold up1
 split
 ·rw [a4N L i _ j hl]
  split
  ·rename_i e; subst e
   have := hF.le j k w he
   have := h k
   omega
  ·exact h j
 ·exact h j
theorem b3G {i k w : Nat} {L : List Nat} {B : Nat} (hl : i < L.length) (hw : w ≤ 1) (h : ∀ j, lv L j ≤ B) : ∀ j, lv (up1 i k w L) j ≤ B + 1 := by
 intro j
 unfold up1
 split
 ·rw [a4N L i _ j hl]
  split
  ·have := h k; omega
  ·have := h j; omega
 ·have := h j; omega
def ups : List (Nat × Nat × Nat) → List Nat → List Nat
 | [], L => L
 | (i, k, w) :: l, L => ups l (up1 i k w L)
theorem a3o (l m : List (Nat × Nat × Nat)) (L : List Nat) : ups (l ++ m) L = ups m (ups l L) := by
 induction l generalizing L with
 | nil => rfl
 | cons x l ih => obtain ⟨i, k, w⟩ := x; simp only [List.cons_append, ups, ih]
theorem yU (l : List (Nat × Nat × Nat)) (L : List Nat) : (ups l L).length = L.length := by
 induction l generalizing L with
 | nil => rfl
 | cons x l ih => obtain ⟨i, k, w⟩ := x; simp only [ups, ih, a3n]
theorem ups_grow : ∀ (l : List (Nat × Nat × Nat)) (L : List Nat), (∀ x ∈ l, x.1 < L.length) → (ups l L = L ∧ ∀ x ∈ l, up1 x.1 x.2.1 x.2.2 L = L) ∨ vZ L < vZ (ups l L)
 | [], L, _ => .inl ⟨rfl, fun x h => by simp at h⟩
 | (i, k, w) :: l, L, h => by
  have hi := h (i, k, w) (by simp)
  have hl := ups_grow l (up1 i k w L) fun x hx => by rw [a3n]; exact h x (by simp [hx])
  simp only [ups]
  rcases up1_grow i k w L hi with e | g
  ·rw [e] at hl ⊢
   rcases hl with ⟨h1, h2⟩ | h1
   ·refine .inl ⟨h1, fun x hx => ?_⟩
    rcases List.mem_cons.1 hx with rfl | hx
    ·exact e
    ·exact h2 x hx
   ·exact .inr h1
  ·rcases hl with ⟨h1, _⟩ | h1
   ·rw [h1]; exact .inr g
   ·exact .inr (by omega)
theorem a6w {n : Nat} {E : Nat → Nat → Nat → Prop} {F : List Nat} (hE : Edges n E) (hF : Clo n E F) : ∀ (l : List (Nat × Nat × Nat)) (L : List Nat), L.length = n → (∀ x ∈ l, E x.1 x.2.1 x.2.2) → (∀ j, lv L j ≤ lv F j) → ∀ j, lv (ups l L) j ≤ lv F j
 | [], L, _, _, h => h
 | (i, k, w) :: l, L, hl, he, h => by
  have e := he (i, k, w) (by simp)
  exact a6w hE hF l _ (by rw [a3n]; exact hl) (fun x hx => he x (by simp [hx])) (b3F hF e (by rw [hl]; exact (hE.ok _ _ _ e).1) h)
theorem oN : ∀ (l : List (Nat × Nat × Nat)) (L : List Nat) (B : Nat), (∀ x ∈ l, x.1 < L.length ∧ x.2.2 ≤ 1) → (∀ j, lv L j ≤ B) → ∀ j, lv (ups l L) j ≤ B + l.length
 | [], L, B, _, h => h
 | (i, k, w) :: l, L, B, hx, h => by
  have e := hx (i, k, w) (by simp)
  have := oN l (up1 i k w L) (B + 1) (fun x hx' => by rw [a3n]; exact hx x (by simp [hx'])) (b3G e.1 e.2 h)
  intro j
  have := this j
  simp only [ups, List.length_cons]
  omega
def upsN (l : List (Nat × Nat × Nat)) : Nat → List Nat → List Nat
 | 0, L => L
 | r + 1, L => ups l (upsN l r L)
theorem a4O (l : List (Nat × Nat × Nat)) (r : Nat) (L : List Nat) : (upsN l r L).length = L.length := by
 induction r with
 | zero => rfl
 | succ r ih => simp only [upsN, yU, ih]
theorem a4P (l : List (Nat × Nat × Nat)) (L : List Nat) (hx : ∀ x ∈ l, x.1 < L.length ∧ x.2.2 ≤ 1) (h : ∀ j, lv L j = 0) : ∀ r j, lv (upsN l r L) j ≤ r * l.length
 | 0, j => by simp [upsN, h j]
 | r + 1, j => by
  have := oN l (upsN l r L) (r * l.length) (fun x hx' => by rw [a4O]; exact hx x hx') (a4P l L hx h r) j
  simp only [upsN, Nat.succ_mul]
  omega
theorem a6x {n : Nat} {E : Nat → Nat → Nat → Prop} (hE : Edges n E) (l : List (Nat × Nat × Nat)) (hl : ∀ x, x ∈ l ↔ E x.1 x.2.1 x.2.2) (R : Nat) (hR : n * n < R) :
    let L := upsN l R (List.replicate n 0)
    if ups l L = L then Least n E L else ¬ ∃ F, Clo n E F := by
 intro L
 have hlen : ∀ r, (upsN l r (List.replicate n 0)).length = n := fun r => by rw [a4O]; simp
 have hbel : ∀ F, Clo n E F → ∀ r j, lv (upsN l r (List.replicate n 0)) j ≤ lv F j := fun F hF r => by
  induction r with
  | zero => intro j; simp only [upsN, a7L]; omega
  | succ r ih => exact a6w hE hF l _ (hlen r) (fun x hx => (hl x).1 hx) ih
 have hix : ∀ r, ∀ x ∈ l, x.1 < (upsN l r (List.replicate n 0)).length := fun r x hx => by rw [hlen]; exact (hE.ok _ _ _ ((hl x).1 hx)).1
 have hgrow : ∀ r, ups l (upsN l r (List.replicate n 0)) = upsN l r (List.replicate n 0) ∨ r ≤ vZ (upsN l r (List.replicate n 0)) := fun r => by
  induction r with
  | zero => exact .inr (by omega)
  | succ r ih =>
   rcases ih with e | h
   ·left; simp only [upsN]; rw [e, e]
   ·rcases ups_grow l _ (hix r) with ⟨e, _⟩ | g
    ·left; simp only [upsN]; rw [e, e]
    ·right; simp only [upsN]; omega
 by_cases hs : ups l L = L
 ·rw [if_pos hs]
  refine ⟨⟨hlen R, fun i k w he => ?_⟩, fun F hF => hbel F hF R⟩
  rcases ups_grow l L (hix R) with ⟨_, h⟩ | g
  ·exact b5z (by rw [hlen]; exact (hE.ok _ _ _ he).1) (h (i, k, w) ((hl (i, k, w)).2 he))
  ·rw [hs] at g; omega
 ·rw [if_neg hs]
  rintro ⟨F, hF⟩
  obtain ⟨G, hG, hsm⟩ := a1U hE hF
  rcases hgrow R with e | h
  ·exact hs e
  ·have h1 := b2p L n fun i hi => by
    have h2 := hbel G hG R i
    have h3 := hsm i (by rw [← hlen R]; exact hi)
    show lv (upsN l R (List.replicate n 0)) i ≤ n
    omega
   rw [hlen R] at h1
   show False
   have : vZ L = vZ (upsN l R (List.replicate n 0)) := rfl
   omega
end Go.Proofs.YteaaopodnbjpoaaGreat
end
section
set_option maxRecDepth 100000
set_option maxHeartbeats 4000000
namespace Go.Proofs.YteaaopodnbjpoaaGreat
def placeD (d : List TDir) (nm : ByteArray) : Int := dX (fun x => decide (x.fName = nm)) d 0
theorem placeD_cases (d : List TDir) (nm : ByteArray) : placeD d nm = -1 ∨ ∃ k : Nat, placeD d nm = (k : Int) ∧ k < d.length := by
 unfold placeD
 rcases idxP_fst (fun x => decide (x.fName = nm)) d 0 with ⟨_, h, _⟩ | ⟨h, hl⟩
 ·exact .inl h
 ·exact .inr ⟨_, by rw [h]; simp, hl⟩
def eF (d : List TDir) (i w : Nat) (names : List ByteArray) : List (Nat × Nat × Nat) := names.flatMap fun nm => if 0 ≤ placeD d nm then [(i, (placeD d nm).toNat, w)] else []
theorem a0j (d : List TDir) (i w : Nat) (names : List ByteArray) (x : Nat × Nat × Nat) : x ∈ eF d i w names ↔ ∃ nm ∈ names, ∃ k : Nat, placeD d nm = (k : Int) ∧ x = (i, k, w) := by
 unfold eF
 simp only [List.mem_flatMap]
 constructor
 ·rintro ⟨nm, h1, h2⟩
  split at h2
  ·rename_i hp
   refine ⟨nm, h1, (placeD d nm).toNat, by omega, by simpa using h2⟩
  ·simp at h2
 ·rintro ⟨nm, h1, k, h2, rfl⟩
  refine ⟨nm, h1, ?_⟩
  rw [if_pos (by omega), h2]; simp
def rM (d : List TDir) (i : Nat) : List (Nat × Nat × Nat) := match d[i]? with
 | none => []
 | some x => eF d i 0 (putL (dI x.fQuery false)) ++ eF d i 1 (putL (dI x.fQuery true))
def gZ (d : List TDir) : List (Nat × Nat × Nat) := (List.range d.length).flatMap (rM d)
def EE (d : List TDir) (i k w : Nat) : Prop := (i, k, w) ∈ gZ d
theorem a0k (d : List TDir) (i k w : Nat) : EE d i k w ↔ ∃ x, d[i]? = some x ∧ ((w = 0 ∧ ∃ nm ∈ dI x.fQuery false, placeD d nm = (k : Int)) ∨ (w = 1 ∧ ∃ nm ∈ dI x.fQuery true, placeD d nm = (k : Int))) := by
 unfold EE gZ
 simp only [List.mem_flatMap, List.mem_range]
 constructor
 ·rintro ⟨j, hj, h⟩
  unfold rM at h
  rw [List.getElem?_eq_getElem hj] at h
  simp only [List.mem_append, a0j, nQ] at h
  rcases h with ⟨nm, h1, k', h2, h3⟩ | ⟨nm, h1, k', h2, h3⟩
  ·cases h3; exact ⟨_, List.getElem?_eq_getElem hj, .inl ⟨rfl, nm, h1, h2⟩⟩
  ·cases h3; exact ⟨_, List.getElem?_eq_getElem hj, .inr ⟨rfl, nm, h1, h2⟩⟩
 ·rintro ⟨x, hx, h⟩
  refine ⟨i, (List.getElem?_eq_some_iff.1 hx).1, ?_⟩
  unfold rM
  rw [hx]
  simp only [List.mem_append, a0j, nQ]
  rcases h with ⟨rfl, nm, h1, h2⟩ | ⟨rfl, nm, h1, h2⟩
  ·exact .inl ⟨nm, h1, k, h2, rfl⟩
  ·exact .inr ⟨nm, h1, k, h2, rfl⟩
theorem tK (d : List TDir) : Edges d.length (EE d) := ⟨fun i k w h => by
 obtain ⟨x, hx, h⟩ := (a0k d i k w).1 h
 refine ⟨(List.getElem?_eq_some_iff.1 hx).1, ?_, by rcases h with ⟨rfl, _⟩ | ⟨rfl, _⟩ <;> omega⟩
 obtain ⟨nm, hp⟩ : ∃ nm, placeD d nm = (k : Int) := by rcases h with ⟨_, nm, _, h⟩ | ⟨_, nm, _, h⟩ <;> exact ⟨nm, h⟩
 rcases placeD_cases d nm with h | ⟨k', h, hl⟩ <;> omega⟩
def abv (d : List TDir) (L : List Nat) (w : Nat) : List ByteArray → Nat → Nat
 | [], m => m
 | nm :: r, m => abv d L w r (if 0 ≤ placeD d nm then (if lv L (placeD d nm).toNat + w > m then lv L (placeD d nm).toNat + w else m) else m)
theorem b5v (d : List TDir) (L : List Nat) (w : Nat) (l : List ByteArray) (k m : Nat) (h : k < l.length) : abv d L w (l.drop k) m = abv d L w (l.drop (k + 1)) (if 0 ≤ placeD d l[k] then (if lv L (placeD d l[k]).toNat + w > m then lv L (placeD d l[k]).toNat + w else m) else m) := by
 rw [List.drop_eq_getElem_cons h, abv]
theorem b0W (d : List TDir) (L : List Nat) (w c : Nat) : ∀ (l : List ByteArray) (m : Nat), abv d L w l m ≤ c ↔ m ≤ c ∧ ∀ nm ∈ l, ∀ k : Nat, placeD d nm = (k : Int) → lv L k + w ≤ c
 | [], m => by simp [abv]
 | nm :: r, m => by
  rw [abv, b0W d L w c r]
  constructor
  ·rintro ⟨h1, h2⟩
   refine ⟨?_, fun n hn k hk => ?_⟩
   ·split at h1
    ·split at h1 <;> omega
    ·exact h1
   ·rcases List.mem_cons.1 hn with rfl | hn
    ·have e : (placeD d n).toNat = k := by omega
     rw [if_pos (by omega), e] at h1
     split at h1 <;> omega
    ·exact h2 n hn k hk
  ·rintro ⟨h1, h2⟩
   refine ⟨?_, fun n hn k hk => h2 n (List.mem_cons_of_mem _ hn) k hk⟩
   split
   ·rename_i hp
    have := h2 nm (by simp) (placeD d nm).toNat (by omega)
    split <;> omega
   ·exact h1
def iH (d : List TDir) (L : List Nat) (x : TDir) : Nat := if abv d L 1 (eX (dI x.fQuery true)) 0 > abv d L 0 (eX (dI x.fQuery false)) 0 then abv d L 1 (eX (dI x.fQuery true)) 0 else abv d L 0 (eX (dI x.fQuery false)) 0
theorem a4H (d : List TDir) (L : List Nat) (i c : Nat) (h : i < d.length) : iH d L d[i] ≤ c ↔ ∀ k w, EE d i k w → lv L k + w ≤ c := by
 have h0 := b0W d L 0 c (eX (dI d[i].fQuery false)) 0
 have h1 := b0W d L 1 c (eX (dI d[i].fQuery true)) 0
 have hm : iH d L d[i] ≤ c ↔ abv d L 0 (eX (dI d[i].fQuery false)) 0 ≤ c ∧ abv d L 1 (eX (dI d[i].fQuery true)) 0 ≤ c := by
  unfold iH; split <;> omega
 rw [hm, h0, h1]
 constructor
 ·rintro ⟨⟨_, a⟩, ⟨_, b⟩⟩ k w he
  obtain ⟨x, hx, he⟩ := (a0k d i k w).1 he
  rw [List.getElem?_eq_getElem h] at hx
  cases hx
  rcases he with ⟨rfl, nm, q1, q2⟩ | ⟨rfl, nm, q1, q2⟩
  ·exact a nm ((nD _ _).2 q1) k q2
  ·exact b nm ((nD _ _).2 q1) k q2
 ·intro a
  exact ⟨⟨by omega, fun nm q k hk => a k 0 ((a0k d i k 0).2 ⟨d[i], List.getElem?_eq_getElem h, .inl ⟨rfl, nm, (nD _ _).1 q, hk⟩⟩)⟩,
   ⟨by omega, fun nm q k hk => a k 1 ((a0k d i k 1).2 ⟨d[i], List.getElem?_eq_getElem h, .inr ⟨rfl, nm, (nD _ _).1 q, hk⟩⟩)⟩⟩
structure Low (d : List TDir) (L : List Nat) : Prop where
 len : L.length = d.length
 clo : ∀ F, Clo d.length (EE d) F → ∀ j, lv L j ≤ lv F j
 small : ∀ j, lv L j ≤ d.length
theorem Low.start (d : List TDir) : Low d (List.replicate d.length 0) := ⟨by simp, fun F _ j => by rw [a7L]; omega, fun j => by rw [a7L]; omega⟩
theorem Low.least_le {d : List TDir} {L : List Nat} (h : Low d L) {i : Nat} (hi : i < d.length) {F : List Nat} (hF : Clo d.length (EE d) F) : iH d L d[i] ≤ lv F i :=
 (a4H d L i _ hi).2 fun k w he => by
  have h1 := hF.le i k w he
  have h2 := h.clo F hF k
  omega
theorem Low.over {d : List TDir} {L : List Nat} (h : Low d L) {i : Nat} (hi : i < d.length) (ho : iH d L d[i] > d.length) : ¬ ∃ F, Clo d.length (EE d) F := by
 rintro ⟨F, hF⟩
 obtain ⟨G, hG, hs⟩ := a1U (tK d) hF
 have h1 := h.least_le hi hG
 have h2 := hs i hi
 omega
theorem Low.set {d : List TDir} {L : List Nat} (h : Low d L) {i : Nat} (hi : i < d.length) (ho : ¬ iH d L d[i] > d.length) : Low d (L.set i (iH d L d[i])) := by
 have hl : i < L.length := by rw [h.len]; exact hi
 refine ⟨by simp [h.len], fun F hF j => ?_, fun j => ?_⟩
 ·rw [a4N L i _ j hl]
  split
  ·rename_i e; subst e; exact h.least_le hi hF
  ·exact h.clo F hF j
 ·rw [a4N L i _ j hl]
  split
  ·omega
  ·exact h.small j
theorem Low.done {d : List TDir} {L : List Nat} (h : Low d L) (hc : ∀ i, (hi : i < d.length) → iH d L d[i] ≤ lv L i) : Least d.length (EE d) L :=
 ⟨⟨h.len, fun i k w he => (a4H d L i _ ((tK d).ok i k w he).1).1 (hc i _) k w he⟩, h.clo⟩
theorem Low.sum {d : List TDir} {L : List Nat} (h : Low d L) : vZ L ≤ d.length * d.length := by
 have := b2p L d.length fun i _ => h.small i
 rwa [h.len] at this
end Go.Proofs.YteaaopodnbjpoaaGreat
end
section
set_option maxRecDepth 100000
set_option maxHeartbeats 4000000
namespace Go.Proofs.YteaaopodnbjpoaaGreat
open Go Go.Sx Go.RowKit Go.Proofs
@[go_sem] def tJ (n : Nat) : List D := [iv (n : Int)]
theorem b3B (nm : ByteArray) (x : TDir) : FnC Tryz.prog 236 [a0W x, .o (.q [sv nm])] (ob (decide (x.fName = nm))) := by
 refine ent Tryz.func236 rfl Tryz.call236 rfl (fun C => ?_); simp only [go_sem, st0, Tryz.ntmps236]
 refine aD ?_
 exact aA ⟨⟨_, rfl, by simp only [go_sem]⟩, trivial⟩
theorem a1n (d : List TDir) (nm : ByteArray) (hl : d.length ≤ 4300000) : FnC Tryz.prog 184 [.o (.d (.sl (d.map aM))), os nm] (oi (placeD d nm)) := by
 refine ent Tryz.func184 rfl Tryz.call184 rfl (fun C => ?_); simp only [go_sem, st0, Tryz.ntmps184]
 refine gP (wM _ _ (fun x => decide (x.fName = nm)) d (fun y _ => b3B nm y) (by omega)) ?_
 exact aA ⟨⟨_, rfl, by simp only [go_sem, placeD]⟩, trivial⟩
theorem jZ (d : List TDir) (nm : ByteArray) (hl : d.length ≤ 4300000) : FnC Tryz.prog 200 [.o (.d (.sl (d.map aM))), os nm] (oi (placeD d nm)) := by
 refine ent Tryz.func200 rfl Tryz.call200 rfl (fun C => ?_); simp only [go_sem, st0, Tryz.ntmps200]
 refine aD ?_
 refine aN (α := Nat) (fun k => [(5, oi k)]) (fun _ => []) (fun k => k ≤ d.length ∧ placeD d nm = dX (fun x => decide (x.fName = nm)) (d.drop k) k) (fun k => d.length - k) 0 (fun _ => ?_) ?_ ?_ (fun k hk => ?_)
 ·simp only [go_sem]
 ·simp only [go_sem]; simp
 ·simp [placeD]
 ·obtain ⟨hk, hq⟩ := hk
  simp only [go_sem]
  refine aD ?_
  refine cnd rfl (fun h => ?_) (fun h => ?_)
  ·simp only [decide_eq_true_eq, Int.ofNat_lt] at h
   have hd := List.drop_eq_getElem_cons h
   rw [hd, dX] at hq
   by_cases h2 : d[k].fName = nm
   ·rw [if_pos (by simp [h2])] at hq
    have q0 := @h; have q1 := @h2; have q2 := @decide_true; refine mO ?_
    exact aA ⟨⟨_, rfl, by simp only [go_sem, hq]⟩, trivial⟩
   ·rw [if_neg (by simp [h2])] at hq
    have q0 := @h; have q1 := @h2; have q2 := @decide_false; refine mO ?_
    refine aF (k + 1) ?_ ?_ ?_
    ·simp only [go_sem]; simp
    ·rw [hq]; exact ⟨h, by simp⟩
    ·omega
  ·simp only [decide_eq_false_iff_not] at h
   have e : k = d.length := by omega
   subst e
   simp only [List.drop_length, dX] at hq
   refine aD ?_
   exact aA ⟨⟨_, rfl, by simp only [go_sem, hq]⟩, trivial⟩
theorem rJ (L : List Nat) (i : Nat) (h : i < L.length) : L[i] = lv L i := by simp [lv, List.getD_eq_getElem?_getD, h]
def mxN (a b : Nat) : Nat := if b > a then b else a
theorem b2j (a b : Nat) : mxI (a : Int) (b : Int) = ((mxN a b : Nat) : Int) := by
 unfold mxI mxN
 split <;> split <;> omega
theorem a9m (d : List TDir) (L : List Nat) (w : Nat) (names : List ByteArray) (hd : d.length ≤ 4300000) (hL : L.length = d.length) (hn : names.length ≤ 4300000) (hB : ∀ j, lv L j ≤ 1000000) (hw : w ≤ 1) : FnC Tryz.prog 270 [.o (.d (.sl (d.map aM))), .o (.d (.sl (L.map tJ))), .o (.d (.sl (names.map bV))), oi (w : Nat)] (oi (abv d L w names 0 : Nat)) := by
 refine ent Tryz.func270 rfl Tryz.call270 rfl (fun C => ?_); simp only [go_sem, st0, Tryz.ntmps270]
 refine aD ?_
 refine aN (α := Nat × Nat) (fun x => [(9, oi (x.2 : Nat)), (15, oi x.1)]) (fun _ => []) (fun x => x.1 ≤ names.length ∧ abv d L w names 0 = abv d L w (names.drop x.1) x.2 ∧ x.2 ≤ 1000001) (fun x => names.length - x.1) (0, 0) (fun _ => ?_) ?_ ?_ (fun x hx => ?_)
 ·simp only [go_sem]
 ·simp only [go_sem]; simp
 ·simp
 ·obtain ⟨k, m⟩ := x
  obtain ⟨hk, hq, hm⟩ := hx
  simp only at hk hq hm
  simp only [go_sem]
  refine aD ?_
  refine cnd rfl (fun h => ?_) (fun h => ?_)
  ·simp only [decide_eq_true_eq, Int.ofNat_lt] at h
   rw [b5v d L w names k m h] at hq
   rcases placeD_cases d names[k] with hp | ⟨p, hp, hpl⟩
   ·rw [if_neg (by omega)] at hq
    have q0 := @h; have q1 := @hp; have q2 := @decide_true; have q3 := @decide_false; refine a1J (a1n d names[k] hd) ?_
    refine aF (k + 1, m) ?_ ?_ ?_
    ·simp only [go_sem]; simp
    ·exact ⟨by simp only; omega, hq, hm⟩
    ·simp only; omega
   ·have hpL : p < L.length := by omega
    have hb := hB p
    have hg := rJ L p hpL
    have hge : (0 : Int) ≤ (p : Int) := by omega
    have hs : ((lv L p : Nat) : Int) + (w : Int) = ((lv L p + w : Nat) : Int) := by omega
    have hmx := b2j m (lv L p + w)
    rw [if_pos (by omega), hp, Int.toNat_natCast] at hq
    have q0 := @h; have q1 := @hp; have q2 := @hge; have q3 := @hpL; have q4 := @hg; have q5 := @hs; have q6 := @hmx; have q7 := @decide_true; have q8 := @decide_false; have q9 := @Int.toNat_natCast; refine b1R (a1n d names[k] hd) ?_
    refine aF (k + 1, mxN m (lv L p + w)) ?_ ?_ ?_
    ·simp only [go_sem]; simp
    ·exact ⟨by simp only; omega, hq, by simp only [mxN]; split <;> omega⟩
    ·simp only; omega
  ·simp only [decide_eq_false_iff_not] at h
   have e : k = names.length := by omega
   subst e
   rw [List.drop_length, abv] at hq
   refine aD ?_
   exact aA ⟨⟨_, rfl, by simp only [go_sem, hq]⟩, trivial⟩
end Go.Proofs.YteaaopodnbjpoaaGreat
end
