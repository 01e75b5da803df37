/- Joined texts. -/
import Derived.Test.YtolgdibgnndoaaaGreatZ12
import Derived.Test.YtolgdibgnndoaaaGreatZ08
import Derived.Test.YtolgdibgnndoaaaGreatZ07
import Derived.Test.YtolgdibgnndoaaaGreatZ09
import Derived.Test.YtolgdibgnndoaaaGreatZ10
import Derived.Test.YtolgdibgnndoaaaGreatZ04
set_option linter.all false
section
set_option maxRecDepth 100000
set_option maxHeartbeats 4000000
namespace Go.Sx
theorem nM {P : Program} {C : Ctx} {F : Ex → St → Prop} {st : St} {code : Code} (i id : Nat) {ty sz : Nat} {rows : List (List D)} {lin : Bool} (hi : nth st.t i = .o (.s id)) (hb : bM st.h id = .row ty sz rows lin) (h : WP P C code F ⟨a4A st.t i (.o (.d (.sl rows))), setH st.h id (.frz rows lin)⟩) : WP P C code F st := by
 intro g V a w hr
 obtain ⟨g', V', h1, h2, h3, h4, h5⟩ := hr.hp.frz hr.mod hr.fr.size (aG hb (by simp))
 have hr1 : Rel C g' V' ⟨st.t, setH st.h id (.frz rows lin)⟩ a w := ⟨hr.sl.mono h1 h2, by rw [bQ]; exact h4, h3, hr.fr, hr.vw.grow h2 h5⟩
 refine h g' V' a w ⟨⟨by rw [kC]; simpa using hr1.sl.size, fun n s y e1 e2 => ?_, hr1.sl.defers⟩, hr1.hp, hr1.mod, hr1.fr, hr1.vw⟩
 rw [kC, List.getElem?_set] at e1
 by_cases e : i = n
 ·subst e
  rw [if_pos rfl] at e1
  split at e1
  ·rename_i hlt
   cases e1
   have hs : st.t[i]? = some (.o (.s id)) := by
    rw [nQ, List.getD_eq_getElem?_getD, List.getElem?_eq_getElem hlt] at hi
    rw [List.getElem?_eq_getElem hlt]
    exact congrArg some hi
   obtain ⟨gh, hgh, hy, _⟩ := hr1.sl.slot i _ y hs e2
   have hf : (setH st.h id (.frz rows lin))[id]? = some (.frz rows lin) := by
    have := aG hb (by simp)
    rw [bQ, List.getElem?_set]; simp [(List.getElem?_eq_some_iff.1 this).1]
   obtain ⟨_, S, q1, _⟩ := hr1.hp.hb id _ gh hf hgh
   exact ⟨S, by rw [hy]; exact q1⟩
  ·cases e1
 ·rw [if_neg e] at e1
  exact hr1.sl.slot n s y e1 e2
end Go.Sx
namespace Go.Proofs.YtolgdibgnndoaaaGreat
open Go Go.Sx Go.RowKit Go.Proofs
theorem vT {α : Type} [Inhabited α] [DecidableEq α] (d : Array α) : ∀ (m i : Nat), i < m → d[i]! ∈ Lib.compactUpTo d m
 | 0, i, h => by omega
 | m + 1, i, h => by
  rw [Lib.compactUpTo_succ]
  by_cases hi : i < m
  ·exact List.mem_append_left _ (vT d m i hi)
  ·have e : i = m := by omega
   subst e
   cases hk : Lib.keeps d i with
   | true => exact List.mem_append_right _ (by simp)
   | false =>
    have h0 : 0 < i := by
     rcases Nat.eq_zero_or_pos i with h | h
     ·subst h; rw [Lib.keeps_lt_one d 0 (by omega)] at hk; cases hk
     ·exact h
    have he : d[i]! = d[i - 1]! := Classical.byContradiction fun hn => by rw [Lib.keeps_pos hn] at hk; cases hk
    rw [he]
    exact List.mem_append_left _ (vT d i (i - 1) (by omega))
theorem a5v {α : Type} [Inhabited α] [DecidableEq α] (zs : List α) (x : α) : x ∈ Lib.compact zs ↔ x ∈ zs := by
 refine ⟨fun h => ?_, fun h => ?_⟩
 ·unfold Lib.compact Lib.compactUpTo at h
  obtain ⟨i, hi, rfl⟩ := List.mem_map.1 h
  have hi' : i < zs.length := List.mem_range.1 (List.mem_filter.1 hi).1
  simp [getElem!_pos, hi']
 ·obtain ⟨i, hi, rfl⟩ := List.mem_iff_getElem.1 h
  have := vT zs.toArray zs.length i hi
  have e : zs.toArray[i]! = zs[i] := by simp [getElem!_pos, hi]
  rw [e] at this
  exact this
def fH (l : List ByteArray) : List ByteArray := a2L (pK l)
theorem yZ (l : List ByteArray) : (fH l).length ≤ l.length := by
 have := kQ ((pK l).map bl).toArray ((pK l).map bl).length
 simp only [fH, a2L, Lib.compact, List.length_map, zA] at this ⊢
 exact this
theorem gI (l : List ByteArray) (s : ByteArray) : hasS l s = true ↔ s ∈ l := by
 unfold hasS
 rw [List.any_eq_true]
 constructor
 ·rintro ⟨x, h1, h2⟩; rw [of_decide_eq_true h2] at h1; exact h1
 ·intro h; exact ⟨s, h, by simp⟩
theorem jX (l : List ByteArray) (s : ByteArray) : s ∈ fH l ↔ s ∈ l := by
 have e : (pK l).map bl = kU (l.map bl) := by
  unfold pK
  rw [List.map_map]
  have : (bl ∘ lb) = id := by funext x; exact b0V x
  rw [this, List.map_id]
 unfold fH a2L
 rw [e]
 constructor
 ·intro h
  obtain ⟨y, hy, rfl⟩ := List.mem_map.1 h
  rw [a5v, kU, List.mem_mergeSort] at hy
  obtain ⟨z, hz, rfl⟩ := List.mem_map.1 hy
  rw [a5w]; exact hz
 ·intro h
  refine List.mem_map.2 ⟨bl s, ?_, a5w s⟩
  rw [a5v, kU, List.mem_mergeSort]
  exact List.mem_map.2 ⟨s, h, rfl⟩
theorem kF (l : List ByteArray) (hl : l.length ≤ 4300000) : FnC Tryz.prog 123 [.o (.d (.sl (l.map bH)))] (.o (.w 9 1 ((fH l).map bH))) := by
 refine ent Tryz.func123 rfl Tryz.call123 rfl (fun C => ?_); simp only [go_sem, st0, Tryz.ntmps123]
 have qH := trivial; repeat' (with_reducible first | refine nY ?_ | (refine mX ?_; try simp only [go_sem]) | refine kD ?_ | refine rD ?_ | refine cP (zV l hl) ?_ | refine vI (a1y l (by omega)) ?_ | refine vJ (a1y l (by omega)) ?_ | refine vI (uU (pK l) (by rw [zA]; omega)) ?_ | refine vJ (uU (pK l) (by rw [zA]; omega)) ?_ | refine aO ?_ | fail)
 exact aA ⟨⟨_, rfl, by simp only [go_sem, fH]⟩, trivial⟩
def geS (s : ByteArray) (y : ByteArray) : Bool := !gF y s
def putS (l : List ByteArray) (s : ByteArray) : List ByteArray := if (l.drop (dM (geS s) l)).head? = some s then l else iA (dM (geS s) l) s l
def putL (l : List ByteArray) : List ByteArray := l.foldl putS []
theorem kK (l : List ByteArray) (s x : ByteArray) : x ∈ putS l s ↔ x = s ∨ x ∈ l := by
 unfold putS
 split
 ·rename_i h
  have : s ∈ l.drop (dM (geS s) l) := by
   cases hd : l.drop (dM (geS s) l) with
   | nil => rw [hd] at h; cases h
   | cons y r => rw [hd] at h; simp at h; simp [h]
  have hs := List.mem_of_mem_drop this
  constructor
  ·exact .inr
  ·rintro (rfl | h) <;> first | exact hs | exact h
 ·unfold iA
  conv => rhs; rw [← List.take_append_drop (dM (geS s) l) l]
  simp only [List.mem_append, List.mem_cons]
  constructor
  ·rintro (h | h | h) <;> first | exact .inr (.inl h) | exact .inl h | exact .inr (.inr h)
  ·rintro (h | h | h) <;> first | exact .inr (.inl h) | exact .inl h | exact .inr (.inr h)
theorem b0U (l : List ByteArray) (s : ByteArray) : (putS l s).length ≤ l.length + 1 := by
 unfold putS
 split
 ·omega
 ·rw [a2B _ _ _ (xQ _ l)]; omega
theorem sV (l : List ByteArray) (s : ByteArray) : putL (l ++ [s]) = putS (putL l) s := by simp [putL]
theorem a8Y (l : List ByteArray) : ∀ (a : List ByteArray) (x : ByteArray), x ∈ l.foldl putS a ↔ x ∈ a ∨ x ∈ l := by
 induction l with
 | nil => simp
 | cons y l ih =>
  intro a x
  rw [List.foldl_cons, ih, kK]
  simp only [List.mem_cons]
  constructor
  ·rintro ((h | h) | h) <;> first | exact .inr (.inl h) | exact .inl h | exact .inr (.inr h)
  ·rintro (h | h | h) <;> first | exact .inl (.inr h) | exact .inl (.inl h) | exact .inr h
theorem iY (l : List ByteArray) (x : ByteArray) : x ∈ putL l ↔ x ∈ l := by rw [putL, a8Y]; simp
theorem a8Z (l : List ByteArray) : ∀ a : List ByteArray, (l.foldl putS a).length ≤ a.length + l.length := by
 induction l with
 | nil => simp
 | cons y l ih =>
  intro a
  have h1 := ih (putS a y)
  have h2 := b0U a y
  simp only [List.foldl_cons, List.length_cons]; omega
theorem gJ (l : List ByteArray) : (putL l).length ≤ l.length := by have := a8Z l []; simpa [putL] using this
theorem a9a {α : Type} (p : α → Bool) (l : List α) (k : Nat) (h : k < l.length) (hk : dM p l = k + dM p (l.drop k)) : dM p l = if p l[k] then k else k + 1 + dM p (l.drop (k + 1)) := by
 rw [hk, a1j p l k h]
 split <;> omega
theorem lJ {α β : Type} (f : α → β) (l : List α) (n : Nat) : (l.map f).take n = (l.take n).map f := List.map_take.symm
theorem lK {α β : Type} (f : α → β) (l : List α) (n : Nat) : (l.map f).drop n = (l.drop n).map f := List.map_drop.symm
end Go.Proofs.YtolgdibgnndoaaaGreat
end
section
set_option maxRecDepth 100000
set_option maxHeartbeats 4000000
namespace Go.Proofs.YtolgdibgnndoaaaGreat
open Go Go.Sx Go.RowKit Go.Proofs
theorem b2z (l : List ByteArray) : ∀ r ∈ l.map bH, r.length = 1 := by intro r hr; obtain ⟨x, _, rfl⟩ := List.mem_map.1 hr; rfl
theorem lI (l : List ByteArray) (s : ByteArray) (hl : l.length ≤ 4300000) : FnC Tryz.prog 124 [.o (.d (.sl (l.map bH))), os s] (.o (.d (.sl ((putS l s).map bH)))) := by
 have hle := xQ (geS s) l
 refine ent Tryz.func124 rfl Tryz.call124 rfl (fun C => ?_); simp only [go_sem, st0, Tryz.ntmps124]
 refine aB ?_
 refine bB (α := Nat) (fun k => [(5, oi k)]) (fun _ => []) (fun k => k ≤ l.length ∧ dM (geS s) l = k + dM (geS s) (l.drop k)) (fun k => l.length - k) 0 (fun _ => ?_) ?_ ?_ (fun k hk => ?_)
 ·simp only [go_sem]
 ·simp only [go_sem]; simp
 ·simp
 ·obtain ⟨hk, hf⟩ := hk
  simp only [go_sem]
  by_cases h1 : k < l.length
  ·have hfx := a9a (geS s) l k h1 hf
   have h1' : ((k : Int) < (l.length : Int)) = True := by simp [h1]
   have q0 := @h1; have q1 := @h1'; have q2 := @decide_true; refine mD ?_
   refine cnd (b := gF l[k] s) rfl (fun h2 => ?_) (fun h2 => ?_)
   ·rw [if_neg (by simp [geS, h2])] at hfx
    refine aB ?_
    refine aD (k + 1) ?_ ?_ ?_
    ·simp only [go_sem]; simp
    ·exact ⟨by omega, hfx⟩
    ·omega
   ·rw [if_pos (by simp [geS, h2])] at hfx
    have hd := List.drop_eq_getElem_cons h1
    by_cases h3 : l[k] = s
    ·have hput : putS l s = l := by unfold putS; rw [hfx, hd]; simp [h3]
     have q0 := @h1; have q1 := @h1'; have q2 := @h3; have q3 := @decide_true; refine mE ?_
     exact aA ⟨⟨_, rfl, by simp only [go_sem, hput]⟩, trivial⟩
    ·have hput : putS l s = iA k s l := by unfold putS; rw [hfx, hd]; exact if_neg (fun h => h3 (Option.some.inj h))
     have hn1 : ((0 : Int) ≤ (k : Int)) := by omega
     have qH := aI @h1 (aI @h1' (aI @h3 (aI @hn1 (aI @decide_true (aI @decide_false (aI @lJ (aI @lK (aI @xB (aI @xC @a0Y))))))))); repeat' (with_reducible first | refine nY ?_ | (refine mX ?_; try simp only [go_sem, qH]) | refine kD ?_ | refine rD ?_ | refine aO ?_ | fail)
     refine ⟨b2z l, by omega, by omega, by omega, ?_⟩
     have q0 := @lJ; have q1 := @lK; have q2 := @xB; have q3 := @xC; have q4 := @a0Y; refine xD ?_
     refine ⟨b2z l, by omega, by omega, by omega, ?_⟩
     have q0 := @lJ; have q1 := @lK; have q2 := @xB; have q3 := @xC; have q4 := @a0Y; refine xD ?_
     refine tL (Sees.frz 0 rfl) ?_
     simp only [go_sem]
     exact aA ⟨⟨_, rfl, by simp only [go_sem, hput, iA, List.take_length, List.map_append, List.map_cons, List.append_assoc, List.cons_append, List.nil_append]⟩, trivial⟩
  ·have e : k = l.length := by omega
   have hfx : dM (geS s) l = k := by rw [hf, e, List.drop_length]; rfl
   have hput : putS l s = iA k s l := by unfold putS; rw [hfx, e, List.drop_length]; simp
   have h1' : ((k : Int) < (l.length : Int)) = False := by simp [h1]
   have q0 := @h1; have q1 := @h1'; have q2 := @decide_false; have q3 := @lJ; have q4 := @lK; have q5 := @xB; have q6 := @xC; have q7 := @a0Y; refine a4K ?_
   refine ⟨b2z l, by omega, by omega, by omega, ?_⟩
   have q0 := @lJ; have q1 := @lK; have q2 := @xB; have q3 := @xC; have q4 := @a0Y; refine xD ?_
   refine ⟨b2z l, by omega, by omega, by omega, ?_⟩
   have q0 := @lJ; have q1 := @lK; have q2 := @xB; have q3 := @xC; have q4 := @a0Y; refine xD ?_
   refine tL (Sees.frz 0 rfl) ?_
   simp only [go_sem]
   exact aA ⟨⟨_, rfl, by simp only [go_sem, hput, iA, List.take_length, List.map_append, List.map_cons, List.append_assoc, List.cons_append, List.nil_append]⟩, trivial⟩
def attrNs (l : List TAttr) : List ByteArray := l.map TAttr.fName
theorem fZ (l : List TAttr) : (attrNs l).length = l.length := by simp [attrNs]
theorem pI (x : TFile) (hl : x.fAttrs.length ≤ 4300000) : FnC Tryz.prog 126 [dQ x] (.o (.w 9 1 ((attrNs x.fAttrs).map bH))) := by
 refine ent Tryz.func126 rfl Tryz.call126 rfl (fun C => ?_); simp only [go_sem, st0, Tryz.ntmps126]
 refine aB ?_
 generalize x.fAttrs = l at *
 refine bB (α := Nat) (fun k => [(3, .o (.s 1)), (6, .o .u), (10, oi k)]) (fun k => [(1, .row 9 1 ((attrNs (l.take k)).map bH) true)]) (fun k => k ≤ l.length) (fun k => l.length - k) 0 (fun _ => ?_) ?_ ?_ (fun k hk => ?_)
 ·simp only [go_sem]
 ·simp only [go_sem]; simp [attrNs]
 ·simp
 ·simp only [go_sem]
  refine aB ?_
  refine cnd rfl (fun h1 => ?_) (fun h1 => ?_)
  ·simp only [decide_eq_true_eq, Int.ofNat_lt] at h1
   have ht : attrNs (l.take (k + 1)) = attrNs (l.take k) ++ [l[k].fName] := by simp only [attrNs, List.take_succ_eq_append_getElem h1, List.map_append, List.map_cons, List.map_nil]
   have hlen : (attrNs (l.take k)).length = k := by rw [fZ]; simp; omega
   have q0 := @h1; have q1 := @hlen; refine gT ?_
   refine aD (k + 1) ?_ ?_ ?_
   ·simp only [go_sem, ht, List.map_append]; simp
   ·omega
   ·omega
  ·simp only [decide_eq_false_iff_not] at h1
   have e : k = l.length := by omega
   subst e
   refine aB ?_
   exact aA ⟨⟨_, rfl, by simp only [go_sem, List.take_length]⟩, trivial⟩
theorem pJ (x : TFile) (hl : x.fAttrs.length ≤ 4300000) : FnC Tryz.prog 131 [dQ x] (.o (.w 9 1 ((attrNs x.fAttrs).map bH))) := by
 refine ent Tryz.func131 rfl Tryz.call131 rfl (fun C => ?_); simp only [go_sem, st0, Tryz.ntmps131]
 refine aB ?_
 generalize x.fAttrs = l at *
 refine bB (α := Nat) (fun k => [(3, .o (.s 1)), (4, oi k), (5, .o .u)]) (fun k => [(1, .row 9 1 ((attrNs (l.take k)).map bH) true)]) (fun k => k ≤ l.length) (fun k => l.length - k) 0 (fun _ => ?_) ?_ ?_ (fun k hk => ?_)
 ·simp only [go_sem]
 ·simp only [go_sem]; simp [attrNs]
 ·simp
 ·simp only [go_sem]
  refine aB ?_
  refine cnd rfl (fun h1 => ?_) (fun h1 => ?_)
  ·simp only [decide_eq_true_eq, Int.ofNat_lt] at h1
   have ht : attrNs (l.take (k + 1)) = attrNs (l.take k) ++ [l[k].fName] := by simp only [attrNs, List.take_succ_eq_append_getElem h1, List.map_append, List.map_cons, List.map_nil]
   have hlen : (attrNs (l.take k)).length = k := by rw [fZ]; simp; omega
   have q0 := @h1; have q1 := @hlen; refine gT ?_
   refine aD (k + 1) ?_ ?_ ?_
   ·simp only [go_sem, ht, List.map_append]; simp
   ·omega
   ·omega
  ·simp only [decide_eq_false_iff_not] at h1
   have e : k = l.length := by omega
   subst e
   refine aB ?_
   exact aA ⟨⟨_, rfl, by simp only [go_sem, List.take_length]⟩, trivial⟩
theorem a0o (l : List TDir) (hl : l.length ≤ 4300000) : FnC Tryz.prog 29 [.o (.d (.sl (l.map bD)))] (.o (.w 9 1 ((dirNs l).map bH))) := by
 refine ent Tryz.func29 rfl Tryz.call29 rfl (fun C => ?_); simp only [go_sem, st0, Tryz.ntmps29]
 refine aB ?_
 refine bB (α := Nat) (fun k => [(3, .o (.s 0)), (4, oi k), (5, .o .u)]) (fun k => [(0, .row 9 1 ((dirNs (l.take k)).map bH) true)]) (fun k => k ≤ l.length) (fun k => l.length - k) 0 (fun _ => ?_) ?_ ?_ (fun k hk => ?_)
 ·simp only [go_sem]
 ·simp only [go_sem]; simp [dirNs]
 ·simp
 ·simp only [go_sem]
  refine aB ?_
  refine cnd rfl (fun h1 => ?_) (fun h1 => ?_)
  ·simp only [decide_eq_true_eq, Int.ofNat_lt] at h1
   have ht : dirNs (l.take (k + 1)) = dirNs (l.take k) ++ [l[k].fName] := by simp only [dirNs, List.take_succ_eq_append_getElem h1, List.map_append, List.map_cons, List.map_nil]
   have hlen : (dirNs (l.take k)).length = k := by rw [lM]; simp; omega
   have q0 := @h1; have q1 := @hlen; refine gT ?_
   refine aD (k + 1) ?_ ?_ ?_
   ·simp only [go_sem, ht, List.map_append]; simp
   ·omega
   ·omega
  ·simp only [decide_eq_false_iff_not] at h1
   have e : k = l.length := by omega
   subst e
   refine aB ?_
   exact aA ⟨⟨_, rfl, by simp only [go_sem, List.take_length]⟩, trivial⟩
def eqV (x v : TValue) : Bool := decide (x.fKind = v.fKind) && (decide (x.fInt = v.fInt) && decide (x.fStr = v.fStr))
def qQ (a b : TFile) (n : ByteArray) : Bool := !(eqV (dB n a.fAttrs) (dB n b.fAttrs))
def chL (a b : TFile) (l : List ByteArray) : List ByteArray := l.filter (qQ a b)
theorem a3Q (a b : TFile) (l : List ByteArray) : (chL a b l).length ≤ l.length := List.length_filter_le _ _
def chg (a b : TFile) : List ByteArray := chL a b (attrNs a.fAttrs ++ attrNs b.fAttrs)
theorem a5u (a b : TFile) (l : List ByteArray) (k : Nat) (h : k < l.length) : chL a b (l.take (k + 1)) = chL a b (l.take k) ++ (if qQ a b l[k] then [l[k]] else []) := by
 simp only [chL, List.take_succ_eq_append_getElem h, List.filter_append, List.filter_cons, List.filter_nil]
theorem a1w (a b : TFile) (h : aW a + aW b ≤ 4300000) : FnC Tryz.prog 55 [dQ a, dQ b] (.o (.w 9 1 ((fH (chg a b)).map bH))) := by
 have ha : a.fAttrs.length + b.fAttrs.length ≤ 4300000 := by unfold aW eB at h; omega
 refine ent Tryz.func55 rfl Tryz.call55 rfl (fun C => ?_); simp only [go_sem, st0, Tryz.ntmps55]
 have qH := aI @a0Y (aI @a8z @fZ); repeat' (with_reducible first | refine nY ?_ | (refine mX ?_; try simp only [go_sem, qH]) | refine kD ?_ | (apply rE [1,3,4] [] [0,2,6] [0,2,6] ((.c 1 [] [2,6] (.c 3 [] [6] (.c 4 [5] [5,6] .n .n) .n) .n)) (by simp only [go_sem]; rfl) (by simp only [go_sem]; rfl) (by simp only [go_sem]; rfl) (by decide +kernel); (focus simp only [go_sem]; done)) | exact aQ | refine aK (uX ?_) ?_ | refine aL (aX ?_) ?_ | refine aM (aX ?_) ?_ | exact bE | exact oH | exact uB | refine rD ?_ | refine cP (pI a (by omega)) ?_ | refine cP (pI b (by omega)) ?_ | refine aO ?_ | fail)
 have hlenN : (attrNs a.fAttrs ++ attrNs b.fAttrs).length = a.fAttrs.length + b.fAttrs.length := by rw [List.length_append, fZ, fZ]
 rw [← hlenN]
 simp only [← List.map_append]
 unfold chg
 have hN : (attrNs a.fAttrs ++ attrNs b.fAttrs).length ≤ 4300000 := by omega
 generalize attrNs a.fAttrs ++ attrNs b.fAttrs = N at *
 refine nM 13 3 rfl rfl ?_
 simp only [go_sem]
 refine bB (α := Nat) (fun k => [(5, .o (.s 2)), (8, .o .u), (15, oi k)]) (fun k => [(2, .row 9 1 ((chL a b (N.take k)).map bH) true)]) (fun k => k ≤ N.length) (fun k => N.length - k) 0 (fun _ => ?_) ?_ ?_ (fun k hk => ?_)
 ·simp only [go_sem]
 ·simp only [go_sem]; simp [chL]
 ·simp
 ·simp only [go_sem]
  refine aB ?_
  have hlen : (chL a b (N.take k)).length ≤ 4300000 := by have h2 := a3Q a b (N.take k); simp at h2; omega
  refine cnd rfl (fun h1 => ?_) (fun h1 => ?_)
  ·simp only [decide_eq_true_eq, Int.ofNat_lt] at h1
   have ht := a5u a b N k h1
   have hl1 : (chL a b (N.take k)).length + 1 ≤ 140737488355328 := by omega
   have hl2 : ((chL a b (N.take k)).length + 1) * 16 ≤ 140737488355328 := by omega
   have q0 := @h1; refine a8A (sO a N[k] (by omega)) (sO b N[k] (by omega)) ?_
   refine cnd (b := qQ a b N[k]) rfl (fun hv => ?_) (fun hv => ?_)
   ·rw [if_pos hv] at ht
    have q0 := @h1; refine dZ ?_
    refine aD (k + 1) ?_ ?_ ?_
    ·simp only [go_sem, ht, List.map_append]; simp
    ·omega
    ·omega
   ·rw [if_neg (by simp [hv]), List.append_nil] at ht
    have q0 := @h1; refine dZ ?_
    refine aD (k + 1) ?_ ?_ ?_
    ·simp only [go_sem, ht]; simp
    ·omega
    ·omega
  ·simp only [decide_eq_false_iff_not] at h1
   have e : k = N.length := by omega
   subst e
   rw [List.take_length] at *
   refine iV (kF (chL a b N) hlen) ?_
   exact aA ⟨⟨_, rfl, by simp only [go_sem, List.take_length]⟩, trivial⟩
theorem a1x (a b : TFile) (h : aW a + aW b ≤ 4300000) : FnC Tryz.prog 62 [dQ a, dQ b] (.o (.w 9 1 ((putL (chg a b)).map bH))) := by
 have ha : a.fAttrs.length + b.fAttrs.length ≤ 4300000 := by unfold aW eB at h; omega
 refine ent Tryz.func62 rfl Tryz.call62 rfl (fun C => ?_); simp only [go_sem, st0, Tryz.ntmps62]
 have qH := aI @a0Y (aI @a8z @fZ); repeat' (with_reducible first | refine nY ?_ | (refine mX ?_; try simp only [go_sem, qH]) | refine kD ?_ | (apply rE [1,3,4] [] [0,2] [0,2] ((.c 1 [] [2] (.c 3 [] [] (.c 4 [5] [5] .n .n) .n) .n)) (by simp only [go_sem]; rfl) (by simp only [go_sem]; rfl) (by simp only [go_sem]; rfl) (by decide +kernel); (focus simp only [go_sem]; done)) | exact aQ | refine aK (uX ?_) ?_ | refine aL (aX ?_) ?_ | refine aM (aX ?_) ?_ | exact bE | exact oH | exact uB | refine rD ?_ | refine cP (pJ a (by omega)) ?_ | refine cP (pJ b (by omega)) ?_ | refine aO ?_ | fail)
 simp only [← List.map_append]
 unfold chg
 have hN : (attrNs a.fAttrs ++ attrNs b.fAttrs).length ≤ 4300000 := by rw [List.length_append, fZ, fZ]; omega
 generalize attrNs a.fAttrs ++ attrNs b.fAttrs = N at *
 refine nM 6 3 rfl rfl ?_
 simp only [go_sem]
 refine nM 5 2 rfl rfl ?_
 simp only [go_sem]
 refine bB (α := Nat) (fun k => [(5, .o (.d (.sl ((putL (chL a b (N.take k))).map bH)))), (7, oi k)]) (fun k => []) (fun k => k ≤ N.length) (fun k => N.length - k) 0 (fun _ => ?_) ?_ ?_ (fun k hk => ?_)
 ·simp only [go_sem]
 ·simp only [go_sem]; simp [chL, putL]
 ·simp
 ·simp only [go_sem]
  refine aB ?_
  have hlen : (putL (chL a b (N.take k))).length ≤ 4300000 := by have h1 := gJ (chL a b (N.take k)); have h2 := a3Q a b (N.take k); simp at h2; omega
  refine cnd rfl (fun h1 => ?_) (fun h1 => ?_)
  ·simp only [decide_eq_true_eq, Int.ofNat_lt] at h1
   have ht := a5u a b N k h1
   have q0 := @h1; refine a8A (bS a N[k] (by omega)) (bS b N[k] (by omega)) ?_
   refine cnd (b := qQ a b N[k]) rfl (fun hv => ?_) (fun hv => ?_)
   ·rw [if_pos hv] at ht
    have q0 := @h1; refine jB (lI (putL (chL a b (N.take k))) N[k] hlen) ?_
    refine aD (k + 1) ?_ ?_ ?_
    ·simp only [go_sem, ht, sV]; simp
    ·omega
    ·omega
   ·rw [if_neg (by simp [hv]), List.append_nil] at ht
    have q0 := @h1; refine dZ ?_
    refine aD (k + 1) ?_ ?_ ?_
    ·simp only [go_sem, ht]; simp
    ·omega
    ·omega
  ·simp only [decide_eq_false_iff_not] at h1
   have e : k = N.length := by omega
   subst e
   rw [List.take_length] at *
   refine aB ?_
   exact aA ⟨⟨_, rfl, by simp only [go_sem, List.take_length]⟩, trivial⟩
@[go_sem] def a1s (b : Bool) : List D := [bv b]
def b6T (n : TNode) : Bool := decide (n.fOp = 5)
def isTwo (n : TNode) : Bool := decide (n.fOp = 6) || decide (n.fOp = 7)
def iN (q : List TNode) (i : Nat) (L : List Bool) : List Bool := match q[i]? with
 | none => L
 | some n => if n.fOp = 5 then L.set n.fLeft.toNat true else if isTwo n then (L.set n.fLeft.toNat (L.getD i false)).set n.fRight.toNat (L.getD i false) else L
def negJ (q : List TNode) : Nat → List Bool
 | 0 => List.replicate q.length false
 | j + 1 => iN q (q.length - 1 - j) (negJ q j)
theorem a5s (q : List TNode) (i : Nat) (L : List Bool) : (iN q i L).length = L.length := by
 unfold iN
 split
 ·rfl
 ·split
  ·simp
  ·split <;> simp
theorem a1t (q : List TNode) (j : Nat) : (negJ q j).length = q.length := by
 induction j with
 | zero => simp [negJ]
 | succ j ih => simp only [negJ, a5s, ih]
def kP (q : List TNode) : List Bool := negJ q q.length
theorem a5t (q : List TNode) : (kP q).length = q.length := a1t q q.length
theorem a2J (q : List TNode) (i : Nat) (h : i < q.length) : negJ q (q.length - i) = iN q i (negJ q (q.length - (i + 1))) := by
 have e : q.length - i = (q.length - (i + 1)) + 1 := by omega
 have e2 : q.length - 1 - (q.length - (i + 1)) = i := by omega
 rw [e, negJ, e2]
def qP (n : TNode) : Bool := inB n.fOp 8 9
def sel (q : List TNode) (b : Bool) (k : Nat) : List ByteArray := match q[k]?, (kP q)[k]? with
 | some n, some x => if qP n && (x == b) then [n.fName] else []
 | _, _ => []
def rG (q : List TNode) (b : Bool) (k : Nat) : List ByteArray := (List.range k).flatMap (sel q b)
def dS (q : List TNode) (b : Bool) : List ByteArray := rG q b q.length
theorem a1u (q : List TNode) (b : Bool) (k : Nat) : rG q b (k + 1) = rG q b k ++ sel q b k := by
 simp [rG, List.range_succ, List.flatMap_append]
theorem b2y (q : List TNode) (b : Bool) (k : Nat) : (sel q b k).length ≤ 1 := by
 unfold sel
 split
 ·split <;> simp
 ·simp
theorem pG (q : List TNode) (b : Bool) (k : Nat) : (rG q b k).length ≤ k := by
 induction k with
 | zero => simp [rG]
 | succ k ih => rw [a1u, List.length_append]; have := b2y q b k; omega
theorem b6G (L : List Bool) (i : Nat) (h : i < L.length) : L.getD i false = L[i] := by simp [List.getD_eq_getElem?_getD, h]
theorem b2Z (L : List Bool) (l : Nat) : (L.map a1s).set l [D.v (Value.bool false)] = (L.set l false).map a1s := by rw [List.map_set]; rfl
theorem b3a (L : List Bool) (l : Nat) : (L.map a1s).set l [D.v (Value.bool true)] = (L.set l true).map a1s := by rw [List.map_set]; rfl
theorem a6N {L : List Bool} {i : Nat} {b : Bool} (h : i < L.length) (hb : L[i] = b) (l : Nat) (h' : i < (L.set l b).length) : (L.set l b)[i] = b := by
 rw [List.getElem_set]; split
 ·rfl
 ·exact hb
theorem a7P {L : List Bool} {i : Nat} {b : Bool} (h : i < L.length) (hb : L[i] = b) (l r : Nat) (h' : i < ((L.set l b).set r b).length) : ((L.set l b).set r b)[i] = b := by
 rw [List.getElem_set]; split
 ·rfl
 ·exact a6N h hb l _
theorem a1v {q : List TNode} {i : Nat} (h : i < q.length) (L : List Bool) {l : Nat} (h5 : q[i].fOp = 5) (hl : q[i].fLeft = (l : Int)) : iN q i L = L.set l true := by
 simp [iN, List.getElem?_eq_getElem h, h5, hl]
theorem yY {q : List TNode} {i : Nat} (h : i < q.length) (L : List Bool) (hi : i < L.length) {l m : Nat} (h5 : ¬ q[i].fOp = 5) (h67 : q[i].fOp = 6 ∨ q[i].fOp = 7) (hl : q[i].fLeft = (l : Int)) (hm : q[i].fRight = (m : Int)) : iN q i L = (L.set l L[i]).set m L[i] := by
 have h2 : isTwo q[i] = true := by unfold isTwo; rcases h67 with h | h <;> simp [h]
 simp only [iN, List.getElem?_eq_getElem h, h5, if_false, h2, if_true, hl, hm, Int.toNat_natCast, b6G L i hi]
theorem a2K {q : List TNode} {i : Nat} (h : i < q.length) (L : List Bool) (h5 : ¬ q[i].fOp = 5) (h67 : ¬ (q[i].fOp = 6 ∨ q[i].fOp = 7)) : iN q i L = L := by
 have h2 : isTwo q[i] = false := by
  unfold isTwo
  have h6 : ¬ q[i].fOp = 6 := fun h => h67 (.inl h)
  have h7 : ¬ q[i].fOp = 7 := fun h => h67 (.inr h)
  simp [h6, h7]
 simp only [iN, List.getElem?_eq_getElem h, h5, if_false, h2, Bool.false_eq_true]
theorem a6O (q : List TNode) (hq : okQ q = true) (hw : gM q ≤ 4300000) : FnC Tryz.prog 277 [.o (.d (.sl (q.map bC)))] (.o (.w 4 1 ((kP q).map a1s))) := by
 have hl9 := tZ hq
 refine ent Tryz.func277 rfl Tryz.call277 rfl (fun C => ?_); simp only [go_sem, st0, Tryz.ntmps277]
 have q0 := @hq; refine jB (bR q hw) ?_
 refine bB (α := Nat) (fun m => [(4, oi ((m : Int) - 1))]) (fun m => [(0, .row 4 1 ((negJ q (q.length - m)).map a1s) true)]) (fun m => m ≤ q.length) (fun m => m) q.length (fun _ => ?_) ?_ ?_ (fun m hm => ?_)
 ·simp only [go_sem]
 ·simp only [go_sem]; simp [negJ, a1s]
 ·simp
 ·simp only [go_sem]
  refine aB ?_
  refine cnd rfl (fun h => ?_) (fun h => ?_)
  ·simp only [decide_eq_true_eq] at h
   obtain ⟨i, rfl⟩ : ∃ i, m = i + 1 := ⟨m - 1, by omega⟩
   have hx : ((i + 1 : Nat) : Int) - 1 = (i : Int) := by omega
   have hi : i < q.length := by omega
   have hst := a2J q i hi
   have hLl := a1t q (q.length - (i + 1))
   generalize negJ q (q.length - (i + 1)) = L at *
   have hiL : i < L.length := by omega
   have hok := yQ hq (List.getElem?_eq_getElem hi)
   have hop := yR hok
   by_cases h5 : q[i].fOp = 5
   ·obtain ⟨l, hl, hli⟩ := fB hok (.inl h5)
    have hlL : l < L.length := by omega
    rw [a1v hi L h5 hl] at hst
    cases hb : L[i]
    all_goals
     have q0 := @hx; have q1 := @hi; have q2 := @hiL; have q3 := @hb; have q4 := @h5; have q5 := @hl; have q6 := @hlL; have q7 := @decide_true; have q8 := @decide_false; have q9 := @Int.toNat_natCast; refine xE ?_
     refine aD i ?_ ?_ ?_
     ·simp only [go_sem, hst]; simp [a1s]
     ·omega
     ·omega
   by_cases h67 : q[i].fOp = 6 ∨ q[i].fOp = 7
   ·obtain ⟨l, hl, hli⟩ := fB hok (.inr h67)
    obtain ⟨r, hr, hri⟩ := iM hok h67
    have hlL : l < L.length := by omega
    have hrL : r < L.length := by omega
    rw [yY hi L hiL h5 h67 hl hr] at hst
    by_cases h6 : q[i].fOp = 6
    ·cases hb : L[i]
     all_goals
      rw [hb] at hst
      have hs1 := a6N hiL hb l
      have hs2 := a7P hiL hb l r
      have hrL1 : r < (L.set l false).length := by simpa using hrL
      have hrL2 : r < (L.set l true).length := by simpa using hrL
      have qH := aI @hx (aI @hi (aI @hiL (aI @hb (aI @h5 (aI @h6 (aI @hl (aI @hr (aI @hlL (aI @hrL (aI @b2Z (aI @b3a (aI @hrL1 (aI @hrL2 (aI @hs1 (aI @hs2 (aI @decide_true (aI @decide_false @Int.toNat_natCast))))))))))))))))); repeat' (with_reducible first | refine nY ?_ | (refine mX ?_; try simp only [go_sem, qH]) | refine kD ?_ | refine rT [8] [] ?_ | refine xA (aX ?_) (uX ?_) | refine a0X (aX ?_) ?_ | exact uB | refine rD ?_ | refine aO ?_ | fail)
      refine aD i ?_ ?_ ?_
      ·simp only [go_sem, hst]; simp [a1s]
      ·omega
      ·omega
    ·have h7 : q[i].fOp = 7 := by omega
     cases hb : L[i]
     all_goals
      rw [hb] at hst
      have hs1 := a6N hiL hb l
      have hs2 := a7P hiL hb l r
      have hrL1 : r < (L.set l false).length := by simpa using hrL
      have hrL2 : r < (L.set l true).length := by simpa using hrL
      have qH := aI @hx (aI @hi (aI @hiL (aI @hb (aI @h5 (aI @h6 (aI @h7 (aI @hl (aI @hr (aI @hlL (aI @hrL (aI @b2Z (aI @b3a (aI @hrL1 (aI @hrL2 (aI @hs1 (aI @hs2 (aI @decide_true (aI @decide_false @Int.toNat_natCast)))))))))))))))))); repeat' (with_reducible first | refine nY ?_ | (refine mX ?_; try simp only [go_sem, qH]) | refine kD ?_ | refine rT [8] [] ?_ | refine xA (aX ?_) (uX ?_) | refine a0X (aX ?_) ?_ | exact uB | refine rD ?_ | refine aO ?_ | fail)
      refine aD i ?_ ?_ ?_
      ·simp only [go_sem, hst]; simp [a1s]
      ·omega
      ·omega
   ·have h6 : ¬ q[i].fOp = 6 := fun h => h67 (.inl h)
    have h7 : ¬ q[i].fOp = 7 := fun h => h67 (.inr h)
    rw [a2K hi L h5 h67] at hst
    cases hb : L[i]
    all_goals
     have q0 := @hx; have q1 := @hi; have q2 := @hiL; have q3 := @hb; have q4 := @h5; have q5 := @h6; have q6 := @h7; have q7 := @decide_true; have q8 := @decide_false; have q9 := @Int.toNat_natCast; refine xE ?_
     refine aD i ?_ ?_ ?_
     ·simp only [go_sem, hst]; simp [a1s]
     ·omega
     ·omega
  ·simp only [decide_eq_false_iff_not] at h
   have e : m = 0 := by omega
   subst e
   refine aB ?_
   exact aA ⟨⟨_, rfl, by simp only [go_sem, kP, Nat.sub_zero]⟩, trivial⟩
theorem b4p (q : List TNode) (b : Bool) (k : Nat) (h : k < q.length) (h2 : k < (kP q).length) : sel q b k = if qP q[k] && ((kP q)[k] == b) then [q[k].fName] else [] := by
 unfold sel; rw [List.getElem?_eq_getElem h, List.getElem?_eq_getElem h2]
theorem zZ (q : List TNode) (b : Bool) (hq : okQ q = true) (hw : gM q ≤ 4300000) : FnC Tryz.prog 245 [.o (.d (.sl (q.map bC))), ob b] (.o (.w 9 1 ((putL (dS q b)).map bH))) := by
 have hl9 := tZ hq
 have hnl := a5t q
 refine ent Tryz.func245 rfl Tryz.call245 rfl (fun C => ?_); simp only [go_sem, st0, Tryz.ntmps245]
 refine iV (a6O q hq hw) ?_
 refine nM 5 0 rfl rfl ?_
 simp only [go_sem]
 refine bB (α := Nat) (fun k => [(5, .o (.d (.sl ((putL (rG q b k)).map bH)))), (7, oi k), (8, .o .u)]) (fun _ => []) (fun k => k ≤ q.length) (fun k => q.length - k) 0 (fun _ => ?_) ?_ ?_ (fun k hk => ?_)
 ·simp only [go_sem]
 ·simp only [go_sem]; simp [rG, putL]
 ·simp
 ·simp only [go_sem]
  have hdl := pG q b k
  have hlen : (putL (rG q b k)).length ≤ 4300000 := by have h1 := gJ (rG q b k); omega
  refine aB ?_
  refine cnd rfl (fun h1 => ?_) (fun h1 => ?_)
  ·simp only [decide_eq_true_eq, Int.ofNat_lt] at h1
   have h2 : k < (kP q).length := h1
   have h1 : k < q.length := by omega
   have hs := b4p q b k h1 h2
   have ht := a1u q b k
   rw [hs] at ht
   cases hd : qP q[k]
   ·simp only [hd, Bool.false_and, Bool.false_eq_true, if_false, List.append_nil] at ht
    have q0 := @h1; have q1 := @h2; have q2 := @hd; refine b1V (show FnC Tryz.prog _ _ (ob (qP q[k])) from bI q[k].fOp 8 9) ?_
    refine aD (k + 1) ?_ ?_ ?_
    ·simp only [go_sem, ht]; simp
    ·omega
    ·omega
   ·cases hx : (kP q)[k] <;> cases b
    all_goals
     simp only [hd, hx, Bool.true_and, Bool.true_beq, Bool.false_beq, Bool.not_true, Bool.not_false, Bool.false_eq_true, if_false, if_true, List.append_nil] at ht
     have q0 := @h1; have q1 := @h2; have q2 := @hd; have q3 := @hx; have q4 := @Bool.true_beq; have q5 := @Bool.false_beq; refine a6u (show FnC Tryz.prog _ _ (ob (qP q[k])) from bI q[k].fOp 8 9) (lI (putL (rG q _ k)) q[k].fName hlen) ?_
     refine aD (k + 1) ?_ ?_ ?_
     ·simp only [go_sem, ht, sV]; simp
     ·omega
     ·omega
  ·simp only [decide_eq_false_iff_not] at h1
   have e : k = q.length := by omega
   subst e
   refine aB ?_
   exact aA ⟨⟨_, rfl, by simp only [go_sem, dS]⟩, trivial⟩
theorem a6M (q : List TNode) (hq : okQ q = true) (hw : gM q ≤ 4300000) : FnC Tryz.prog 210 [.o (.d (.sl (q.map bC)))] (.o (.w 9 1 ((putL (dS q false)).map bH))) := by
 refine ent Tryz.func210 rfl Tryz.call210 rfl (fun C => ?_); simp only [go_sem, st0, Tryz.ntmps210]
 refine iV (zZ q false hq hw) ?_
 exact aA ⟨⟨_, rfl, by simp only [go_sem]⟩, trivial⟩
theorem a5r (q : List TNode) (hq : okQ q = true) (hw : gM q ≤ 4300000) : FnC Tryz.prog 212 [.o (.d (.sl (q.map bC)))] (.o (.w 9 1 ((putL (dS q true)).map bH))) := by
 refine ent Tryz.func212 rfl Tryz.call212 rfl (fun C => ?_); simp only [go_sem, st0, Tryz.ntmps212]
 refine iV (zZ q true hq hw) ?_
 exact aA ⟨⟨_, rfl, by simp only [go_sem]⟩, trivial⟩
end Go.Proofs.YtolgdibgnndoaaaGreat
end
section
set_option maxRecDepth 100000
set_option maxHeartbeats 4000000
namespace Go.Proofs.YtolgdibgnndoaaaGreat
def lv (L : List Nat) (i : Nat) : Nat := L.getD i 0
structure Clo (n : Nat) (E : Nat → Nat → Nat → Prop) (F : List Nat) : Prop where
 len : F.length = n
 le : ∀ i k w, E i k w → lv F k + w ≤ lv F i
structure Edges (n : Nat) (E : Nat → Nat → Nat → Prop) : Prop where
 ok : ∀ i k w, E i k w → i < n ∧ k < n ∧ w ≤ 1
structure Least (n : Nat) (E : Nat → Nat → Nat → Prop) (L : List Nat) : Prop where
 clo : Clo n E L
 le : ∀ F, Clo n E F → ∀ i, lv L i ≤ lv F i
theorem b4q {L M : List Nat} (h : L.length = M.length) (hi : ∀ i, lv L i = lv M i) : L = M := by
 apply List.ext_getElem h
 intro i h1 h2
 have := hi i
 simpa [lv, List.getD_eq_getElem?_getD, h1, h2] using this
theorem a3U {n : Nat} {E : Nat → Nat → Nat → Prop} {L M : List Nat} (h : Least n E L) (k : Least n E M) : L = M :=
 b4q (by rw [h.clo.len, k.clo.len]) fun i => Nat.le_antisymm (h.le M k.clo i) (k.le L h.clo i)
open Classical in
noncomputable def a9d (n : Nat) (E : Nat → Nat → Nat → Prop) : List Nat := if h : ∃ L, Least n E L then h.choose else []
theorem a7R {n : Nat} {E : Nat → Nat → Nat → Prop} {L : List Nat} (h : Least n E L) : a9d n E = L := by
 have he : ∃ L, Least n E L := ⟨L, h⟩
 unfold a9d
 rw [dif_pos he]
 exact a3U he.choose_spec h
theorem b2A {n : Nat} {E : Nat → Nat → Nat → Prop} (h : ¬ ∃ F, Clo n E F) : a9d n E = [] := by
 unfold a9d
 rw [dif_neg (fun ⟨L, hL⟩ => h ⟨L, hL.clo⟩)]
open Classical in
noncomputable def a1z (n : Nat) (E : Nat → Nat → Nat → Prop) : Bool := if ∃ F, Clo n E F then true else false
theorem a2N {n : Nat} {E : Nat → Nat → Nat → Prop} {L : List Nat} (h : Clo n E L) : a1z n E = true := by
 unfold a1z; rw [if_pos ⟨L, h⟩]
theorem b0X {n : Nat} {E : Nat → Nat → Nat → Prop} (h : ¬ ∃ F, Clo n E F) : a1z n E = false := by
 unfold a1z; rw [if_neg h]
theorem zB {n : Nat} {E : Nat → Nat → Nat → Prop} (hE : Edges n E) {F : List Nat} (h : Clo n E F) : ∃ G, Clo n E G ∧ ∀ i, i < n → lv G i < n := by
 let r (i : Nat) : Nat := ((List.range n).filter fun j => decide (lv F j < lv F i)).length
 have hr : ∀ i, i < n → lv ((List.range n).map r) i = r i := fun i hi => by simp [lv, List.getD_eq_getElem?_getD, hi]
 have sub : ∀ (p q : Nat → Bool) (l : List Nat), (∀ j, p j = true → q j = true) → (l.filter p).length ≤ (l.filter q).length := by
  intro p q l hpq
  induction l with
  | nil => simp
  | cons x l ih =>
   simp only [List.filter_cons]
   cases hp : p x
   ·cases hq : q x <;> simp <;> omega
   ·rw [hpq x hp]; simpa using ih
 have sub1 : ∀ (p q : Nat → Bool) (l : List Nat) (x : Nat), x ∈ l → (∀ j, p j = true → q j = true) → p x = false → q x = true → (l.filter p).length < (l.filter q).length := by
  intro p q l x hx hpq hp hq
  induction l with
  | nil => simp at hx
  | cons y l ih =>
   simp only [List.filter_cons]
   rcases List.mem_cons.1 hx with rfl | hx
   ·rw [hp, hq]
    have := sub p q l hpq
    simp
    omega
   ·have := ih hx
    cases hp' : p y
    ·cases hq' : q y <;> simp <;> omega
    ·rw [hpq y hp']; simpa using this
 refine ⟨(List.range n).map r, ⟨by simp, fun i k w he => ?_⟩, fun i hi => ?_⟩
 ·obtain ⟨hi, hk, hw⟩ := hE.ok i k w he
  rw [hr i hi, hr k hk]
  have hle := h.le i k w he
  rcases Nat.lt_or_ge w 1 with hw0 | hw1
  ·have hw' : w = 0 := by omega
   subst hw'
   exact sub _ _ _ fun j hj => by simp only [decide_eq_true_eq] at hj ⊢; omega
  ·have hw' : w = 1 := by omega
   subst hw'
   exact sub1 _ _ _ k (List.mem_range.2 hk) (fun j hj => by simp only [decide_eq_true_eq] at hj ⊢; omega) (by simp) (by simp only [decide_eq_true_eq]; omega)
 ·rw [hr i hi]
  have := sub1 (fun j => decide (lv F j < lv F i)) (fun _ => true) (List.range n) i (List.mem_range.2 hi) (fun _ _ => rfl) (by simp) rfl
  rw [List.filter_eq_self.2 (fun _ _ => rfl), List.length_range] at this
  exact this
theorem a1A (L : List Nat) (i v j : Nat) (h : i < L.length) : lv (L.set i v) j = if j = i then v else lv L j := by
 unfold lv
 simp only [List.getD_eq_getElem?_getD, List.getElem?_set]
 by_cases e : i = j
 ·subst e; simp [h]
 ·rw [if_neg e, if_neg (fun e' => e e'.symm)]
def sW : List Nat → Nat
 | [] => 0
 | x :: l => x + sW l
theorem a5x (L : List Nat) (i v : Nat) (h : i < L.length) : sW (L.set i v) + lv L i = sW L + v := by
 induction L generalizing i with
 | nil => simp at h
 | cons x l ih =>
  cases i with
  | zero => simp [sW, lv]; omega
  | succ i =>
   have := ih i (by simpa using h)
   simp only [List.set_cons_succ, sW, lv, List.getD_cons_succ] at this ⊢
   omega
theorem b2B (L : List Nat) (c : Nat) (h : ∀ i, i < L.length → lv L i ≤ c) : sW L ≤ L.length * c := by
 induction L with
 | nil => simp [sW]
 | cons x l ih =>
  have h0 : x ≤ c := by simpa [lv] using h 0 (by simp)
  have h1 := ih fun i hi => by simpa [lv] using h (i + 1) (by simpa using hi)
  simp only [sW, List.length_cons, Nat.succ_mul]
  omega
theorem a3V (n i : Nat) : lv (List.replicate n 0) i = 0 := by
 simp only [lv, List.getD_eq_getElem?_getD, List.getElem?_replicate]
 split <;> rfl
def up1 (i k w : Nat) (L : List Nat) : List Nat := if lv L k + w > lv L i then L.set i (lv L k + w) else L
theorem a0D (i k w : Nat) (L : List Nat) : (up1 i k w L).length = L.length := by unfold up1; split <;> simp
theorem up1_grow (i k w : Nat) (L : List Nat) (h : i < L.length) : up1 i k w L = L ∨ sW L < sW (up1 i k w L) := by
 unfold up1
 split
 ·rename_i hc
  have := a5x L i (lv L k + w) h
  right; omega
 ·exact .inl rfl
theorem b0Y {i k w : Nat} {L : List Nat} (hl : i < L.length) (h : up1 i k w L = L) : lv L k + w ≤ lv L i := by
 apply Classical.byContradiction
 intro hn
 have hc : lv L k + w > lv L i := by omega
 unfold up1 at h
 rw [if_pos hc] at h
 have := a1A L i (lv L k + w) i hl
 rw [h, if_pos rfl] at this
 omega
theorem a9e {n : Nat} {E : Nat → Nat → Nat → Prop} {F : List Nat} (hF : Clo n E F) {i k w : Nat} (he : E i k w) {L : List Nat} (hl : i < L.length) (h : ∀ j, lv L j ≤ lv F j) : ∀ j, lv (up1 i k w L) j ≤ lv F j := by
 intro j
 unfold up1
 split
 ·rw [a1A L i _ j hl]
  split
  ·rename_i e; subst e
   have := hF.le j k w he
   have := h k
   omega
  ·exact h j
 ·exact h j
theorem a9f {i k w : Nat} {L : List Nat} {B : Nat} (hl : i < L.length) (hw : w ≤ 1) (h : ∀ j, lv L j ≤ B) : ∀ j, lv (up1 i k w L) j ≤ B + 1 := by
 intro j
 unfold up1
 split
 ·rw [a1A L i _ j hl]
  split
  ·have := h k; omega
  ·have := h j; omega
 ·have := h j; omega
def ups : List (Nat × Nat × Nat) → List Nat → List Nat
 | [], L => L
 | (i, k, w) :: l, L => ups l (up1 i k w L)
theorem a0E (l m : List (Nat × Nat × Nat)) (L : List Nat) : ups (l ++ m) L = ups m (ups l L) := by
 induction l generalizing L with
 | nil => rfl
 | cons x l ih => obtain ⟨i, k, w⟩ := x; simp only [List.cons_append, ups, ih]
theorem uE (l : List (Nat × Nat × Nat)) (L : List Nat) : (ups l L).length = L.length := by
 induction l generalizing L with
 | nil => rfl
 | cons x l ih => obtain ⟨i, k, w⟩ := x; simp only [ups, ih, a0D]
theorem ups_grow : ∀ (l : List (Nat × Nat × Nat)) (L : List Nat), (∀ x ∈ l, x.1 < L.length) → (ups l L = L ∧ ∀ x ∈ l, up1 x.1 x.2.1 x.2.2 L = L) ∨ sW L < sW (ups l L)
 | [], L, _ => .inl ⟨rfl, fun x h => by simp at h⟩
 | (i, k, w) :: l, L, h => by
  have hi := h (i, k, w) (by simp)
  have hl := ups_grow l (up1 i k w L) fun x hx => by rw [a0D]; exact h x (by simp [hx])
  simp only [ups]
  rcases up1_grow i k w L hi with e | g
  ·rw [e] at hl ⊢
   rcases hl with ⟨h1, h2⟩ | h1
   ·refine .inl ⟨h1, fun x hx => ?_⟩
    rcases List.mem_cons.1 hx with rfl | hx
    ·exact e
    ·exact h2 x hx
   ·exact .inr h1
  ·rcases hl with ⟨h1, _⟩ | h1
   ·rw [h1]; exact .inr g
   ·exact .inr (by omega)
theorem a2O {n : Nat} {E : Nat → Nat → Nat → Prop} {F : List Nat} (hE : Edges n E) (hF : Clo n E F) : ∀ (l : List (Nat × Nat × Nat)) (L : List Nat), L.length = n → (∀ x ∈ l, E x.1 x.2.1 x.2.2) → (∀ j, lv L j ≤ lv F j) → ∀ j, lv (ups l L) j ≤ lv F j
 | [], L, _, _, h => h
 | (i, k, w) :: l, L, hl, he, h => by
  have e := he (i, k, w) (by simp)
  exact a2O hE hF l _ (by rw [a0D]; exact hl) (fun x hx => he x (by simp [hx])) (a9e hF e (by rw [hl]; exact (hE.ok _ _ _ e).1) h)
theorem lN : ∀ (l : List (Nat × Nat × Nat)) (L : List Nat) (B : Nat), (∀ x ∈ l, x.1 < L.length ∧ x.2.2 ≤ 1) → (∀ j, lv L j ≤ B) → ∀ j, lv (ups l L) j ≤ B + l.length
 | [], L, B, _, h => h
 | (i, k, w) :: l, L, B, hx, h => by
  have e := hx (i, k, w) (by simp)
  have := lN l (up1 i k w L) (B + 1) (fun x hx' => by rw [a0D]; exact hx x (by simp [hx'])) (a9f e.1 e.2 h)
  intro j
  have := this j
  simp only [ups, List.length_cons]
  omega
def upsN (l : List (Nat × Nat × Nat)) : Nat → List Nat → List Nat
 | 0, L => L
 | r + 1, L => ups l (upsN l r L)
theorem a1B (l : List (Nat × Nat × Nat)) (r : Nat) (L : List Nat) : (upsN l r L).length = L.length := by
 induction r with
 | zero => rfl
 | succ r ih => simp only [upsN, uE, ih]
theorem a1C (l : List (Nat × Nat × Nat)) (L : List Nat) (hx : ∀ x ∈ l, x.1 < L.length ∧ x.2.2 ≤ 1) (h : ∀ j, lv L j = 0) : ∀ r j, lv (upsN l r L) j ≤ r * l.length
 | 0, j => by simp [upsN, h j]
 | r + 1, j => by
  have := lN l (upsN l r L) (r * l.length) (fun x hx' => by rw [a1B]; exact hx x hx') (a1C l L hx h r) j
  simp only [upsN, Nat.succ_mul]
  omega
theorem a2P {n : Nat} {E : Nat → Nat → Nat → Prop} (hE : Edges n E) (l : List (Nat × Nat × Nat)) (hl : ∀ x, x ∈ l ↔ E x.1 x.2.1 x.2.2) (R : Nat) (hR : n * n < R) :
    let L := upsN l R (List.replicate n 0)
    if ups l L = L then Least n E L else ¬ ∃ F, Clo n E F := by
 intro L
 have hlen : ∀ r, (upsN l r (List.replicate n 0)).length = n := fun r => by rw [a1B]; simp
 have hbel : ∀ F, Clo n E F → ∀ r j, lv (upsN l r (List.replicate n 0)) j ≤ lv F j := fun F hF r => by
  induction r with
  | zero => intro j; simp only [upsN, a3V]; omega
  | succ r ih => exact a2O hE hF l _ (hlen r) (fun x hx => (hl x).1 hx) ih
 have hix : ∀ r, ∀ x ∈ l, x.1 < (upsN l r (List.replicate n 0)).length := fun r x hx => by rw [hlen]; exact (hE.ok _ _ _ ((hl x).1 hx)).1
 have hgrow : ∀ r, ups l (upsN l r (List.replicate n 0)) = upsN l r (List.replicate n 0) ∨ r ≤ sW (upsN l r (List.replicate n 0)) := fun r => by
  induction r with
  | zero => exact .inr (by omega)
  | succ r ih =>
   rcases ih with e | h
   ·left; simp only [upsN]; rw [e, e]
   ·rcases ups_grow l _ (hix r) with ⟨e, _⟩ | g
    ·left; simp only [upsN]; rw [e, e]
    ·right; simp only [upsN]; omega
 by_cases hs : ups l L = L
 ·rw [if_pos hs]
  refine ⟨⟨hlen R, fun i k w he => ?_⟩, fun F hF => hbel F hF R⟩
  rcases ups_grow l L (hix R) with ⟨_, h⟩ | g
  ·exact b0Y (by rw [hlen]; exact (hE.ok _ _ _ he).1) (h (i, k, w) ((hl (i, k, w)).2 he))
  ·rw [hs] at g; omega
 ·rw [if_neg hs]
  rintro ⟨F, hF⟩
  obtain ⟨G, hG, hsm⟩ := zB hE hF
  rcases hgrow R with e | h
  ·exact hs e
  ·have h1 := b2B L n fun i hi => by
    have h2 := hbel G hG R i
    have h3 := hsm i (by rw [← hlen R]; exact hi)
    show lv (upsN l R (List.replicate n 0)) i ≤ n
    omega
   rw [hlen R] at h1
   show False
   have : sW L = sW (upsN l R (List.replicate n 0)) := rfl
   omega
end Go.Proofs.YtolgdibgnndoaaaGreat
end
section
set_option maxRecDepth 100000
set_option maxHeartbeats 4000000
namespace Go.Proofs.YtolgdibgnndoaaaGreat
def placeD (d : List TDir) (nm : ByteArray) : Int := eU (fun x => decide (x.fName = nm)) d 0
theorem placeD_cases (d : List TDir) (nm : ByteArray) : placeD d nm = -1 ∨ ∃ k : Nat, placeD d nm = (k : Int) ∧ k < d.length := by
 unfold placeD
 rcases idxP_fst (fun x => decide (x.fName = nm)) d 0 with ⟨_, h, _⟩ | ⟨h, hl⟩
 ·exact .inl h
 ·exact .inr ⟨_, by rw [h]; simp, hl⟩
def dC (d : List TDir) (i w : Nat) (names : List ByteArray) : List (Nat × Nat × Nat) := names.flatMap fun nm => if 0 ≤ placeD d nm then [(i, (placeD d nm).toNat, w)] else []
theorem vS (d : List TDir) (i w : Nat) (names : List ByteArray) (x : Nat × Nat × Nat) : x ∈ dC d i w names ↔ ∃ nm ∈ names, ∃ k : Nat, placeD d nm = (k : Int) ∧ x = (i, k, w) := by
 unfold dC
 simp only [List.mem_flatMap]
 constructor
 ·rintro ⟨nm, h1, h2⟩
  split at h2
  ·rename_i hp
   refine ⟨nm, h1, (placeD d nm).toNat, by omega, by simpa using h2⟩
  ·simp at h2
 ·rintro ⟨nm, h1, k, h2, rfl⟩
  refine ⟨nm, h1, ?_⟩
  rw [if_pos (by omega), h2]; simp
def nZ (d : List TDir) (i : Nat) : List (Nat × Nat × Nat) := match d[i]? with
 | none => []
 | some x => dC d i 0 (putL (dS x.fQuery false)) ++ dC d i 1 (putL (dS x.fQuery true))
def fJ (d : List TDir) : List (Nat × Nat × Nat) := (List.range d.length).flatMap (nZ d)
def EE (d : List TDir) (i k w : Nat) : Prop := (i, k, w) ∈ fJ d
theorem yX (d : List TDir) (i k w : Nat) : EE d i k w ↔ ∃ x, d[i]? = some x ∧ ((w = 0 ∧ ∃ nm ∈ dS x.fQuery false, placeD d nm = (k : Int)) ∨ (w = 1 ∧ ∃ nm ∈ dS x.fQuery true, placeD d nm = (k : Int))) := by
 unfold EE fJ
 simp only [List.mem_flatMap, List.mem_range]
 constructor
 ·rintro ⟨j, hj, h⟩
  unfold nZ at h
  rw [List.getElem?_eq_getElem hj] at h
  simp only [List.mem_append, vS, iY] at h
  rcases h with ⟨nm, h1, k', h2, h3⟩ | ⟨nm, h1, k', h2, h3⟩
  ·cases h3; exact ⟨_, List.getElem?_eq_getElem hj, .inl ⟨rfl, nm, h1, h2⟩⟩
  ·cases h3; exact ⟨_, List.getElem?_eq_getElem hj, .inr ⟨rfl, nm, h1, h2⟩⟩
 ·rintro ⟨x, hx, h⟩
  refine ⟨i, (List.getElem?_eq_some_iff.1 hx).1, ?_⟩
  unfold nZ
  rw [hx]
  simp only [List.mem_append, vS, iY]
  rcases h with ⟨rfl, nm, h1, h2⟩ | ⟨rfl, nm, h1, h2⟩
  ·exact .inl ⟨nm, h1, k, h2, rfl⟩
  ·exact .inr ⟨nm, h1, k, h2, rfl⟩
theorem sU (d : List TDir) : Edges d.length (EE d) := ⟨fun i k w h => by
 obtain ⟨x, hx, h⟩ := (yX d i k w).1 h
 refine ⟨(List.getElem?_eq_some_iff.1 hx).1, ?_, by rcases h with ⟨rfl, _⟩ | ⟨rfl, _⟩ <;> omega⟩
 obtain ⟨nm, hp⟩ : ∃ nm, placeD d nm = (k : Int) := by rcases h with ⟨_, nm, _, h⟩ | ⟨_, nm, _, h⟩ <;> exact ⟨nm, h⟩
 rcases placeD_cases d nm with h | ⟨k', h, hl⟩ <;> omega⟩
def abv (d : List TDir) (L : List Nat) (w : Nat) : List ByteArray → Nat → Nat
 | [], m => m
 | nm :: r, m => abv d L w r (if 0 ≤ placeD d nm then (if lv L (placeD d nm).toNat + w > m then lv L (placeD d nm).toNat + w else m) else m)
theorem a6L (d : List TDir) (L : List Nat) (w c : Nat) : ∀ (l : List ByteArray) (m : Nat), abv d L w l m ≤ c ↔ m ≤ c ∧ ∀ nm ∈ l, ∀ k : Nat, placeD d nm = (k : Int) → lv L k + w ≤ c
 | [], m => by simp [abv]
 | nm :: r, m => by
  rw [abv, a6L d L w c r]
  constructor
  ·rintro ⟨h1, h2⟩
   refine ⟨?_, fun n hn k hk => ?_⟩
   ·split at h1
    ·split at h1 <;> omega
    ·exact h1
   ·rcases List.mem_cons.1 hn with rfl | hn
    ·have e : (placeD d n).toNat = k := by omega
     rw [if_pos (by omega), e] at h1
     split at h1 <;> omega
    ·exact h2 n hn k hk
  ·rintro ⟨h1, h2⟩
   refine ⟨?_, fun n hn k hk => h2 n (List.mem_cons_of_mem _ hn) k hk⟩
   split
   ·rename_i hp
    have := h2 nm (by simp) (placeD d nm).toNat (by omega)
    split <;> omega
   ·exact h1
def iB (d : List TDir) (L : List Nat) (x : TDir) : Nat := if abv d L 1 (fH (dS x.fQuery true)) 0 > abv d L 0 (fH (dS x.fQuery false)) 0 then abv d L 1 (fH (dS x.fQuery true)) 0 else abv d L 0 (fH (dS x.fQuery false)) 0
theorem a1r (d : List TDir) (L : List Nat) (i c : Nat) (h : i < d.length) : iB d L d[i] ≤ c ↔ ∀ k w, EE d i k w → lv L k + w ≤ c := by
 have h0 := a6L d L 0 c (fH (dS d[i].fQuery false)) 0
 have h1 := a6L d L 1 c (fH (dS d[i].fQuery true)) 0
 have hm : iB d L d[i] ≤ c ↔ abv d L 0 (fH (dS d[i].fQuery false)) 0 ≤ c ∧ abv d L 1 (fH (dS d[i].fQuery true)) 0 ≤ c := by
  unfold iB; split <;> omega
 rw [hm, h0, h1]
 constructor
 ·rintro ⟨⟨_, a⟩, ⟨_, b⟩⟩ k w he
  obtain ⟨x, hx, he⟩ := (yX d i k w).1 he
  rw [List.getElem?_eq_getElem h] at hx
  cases hx
  rcases he with ⟨rfl, nm, q1, q2⟩ | ⟨rfl, nm, q1, q2⟩
  ·exact a nm ((jX _ _).2 q1) k q2
  ·exact b nm ((jX _ _).2 q1) k q2
 ·intro a
  exact ⟨⟨by omega, fun nm q k hk => a k 0 ((yX d i k 0).2 ⟨d[i], List.getElem?_eq_getElem h, .inl ⟨rfl, nm, (jX _ _).1 q, hk⟩⟩)⟩,
   ⟨by omega, fun nm q k hk => a k 1 ((yX d i k 1).2 ⟨d[i], List.getElem?_eq_getElem h, .inr ⟨rfl, nm, (jX _ _).1 q, hk⟩⟩)⟩⟩
structure Low (d : List TDir) (L : List Nat) : Prop where
 len : L.length = d.length
 clo : ∀ F, Clo d.length (EE d) F → ∀ j, lv L j ≤ lv F j
 small : ∀ j, lv L j ≤ d.length
theorem Low.start (d : List TDir) : Low d (List.replicate d.length 0) := ⟨by simp, fun F _ j => by rw [a3V]; omega, fun j => by rw [a3V]; omega⟩
theorem Low.least_le {d : List TDir} {L : List Nat} (h : Low d L) {i : Nat} (hi : i < d.length) {F : List Nat} (hF : Clo d.length (EE d) F) : iB d L d[i] ≤ lv F i :=
 (a1r d L i _ hi).2 fun k w he => by
  have h1 := hF.le i k w he
  have h2 := h.clo F hF k
  omega
theorem Low.over {d : List TDir} {L : List Nat} (h : Low d L) {i : Nat} (hi : i < d.length) (ho : iB d L d[i] > d.length) : ¬ ∃ F, Clo d.length (EE d) F := by
 rintro ⟨F, hF⟩
 obtain ⟨G, hG, hs⟩ := zB (sU d) hF
 have h1 := h.least_le hi hG
 have h2 := hs i hi
 omega
theorem Low.set {d : List TDir} {L : List Nat} (h : Low d L) {i : Nat} (hi : i < d.length) (ho : ¬ iB d L d[i] > d.length) : Low d (L.set i (iB d L d[i])) := by
 have hl : i < L.length := by rw [h.len]; exact hi
 refine ⟨by simp [h.len], fun F hF j => ?_, fun j => ?_⟩
 ·rw [a1A L i _ j hl]
  split
  ·rename_i e; subst e; exact h.least_le hi hF
  ·exact h.clo F hF j
 ·rw [a1A L i _ j hl]
  split
  ·omega
  ·exact h.small j
theorem Low.done {d : List TDir} {L : List Nat} (h : Low d L) (hc : ∀ i, (hi : i < d.length) → iB d L d[i] ≤ lv L i) : Least d.length (EE d) L :=
 ⟨⟨h.len, fun i k w he => (a1r d L i _ ((sU d).ok i k w he).1).1 (hc i _) k w he⟩, h.clo⟩
end Go.Proofs.YtolgdibgnndoaaaGreat
end
section
set_option maxRecDepth 100000
set_option maxHeartbeats 4000000
namespace Go.Proofs.YtolgdibgnndoaaaGreat
open Go Go.Sx Go.RowKit Go.Proofs
@[go_sem] def a0n (n : Nat) : List D := [iv (n : Int)]
theorem jG (d : List TDir) (nm : ByteArray) (hl : d.length ≤ 4300000) : FnC Tryz.prog 211 [.o (.d (.sl (d.map bD))), os nm] (oi (placeD d nm)) := by
 refine ent Tryz.func211 rfl Tryz.call211 rfl (fun C => ?_); simp only [go_sem, st0, Tryz.ntmps211]
 refine aB ?_
 refine bB (α := Nat) (fun k => [(5, oi k)]) (fun _ => []) (fun k => k ≤ d.length ∧ placeD d nm = eU (fun x => decide (x.fName = nm)) (d.drop k) k) (fun k => d.length - k) 0 (fun _ => ?_) ?_ ?_ (fun k hk => ?_)
 ·simp only [go_sem]
 ·simp only [go_sem]; simp
 ·simp [placeD]
 ·obtain ⟨hk, hq⟩ := hk
  simp only [go_sem]
  refine aB ?_
  refine cnd rfl (fun h => ?_) (fun h => ?_)
  ·simp only [decide_eq_true_eq, Int.ofNat_lt] at h
   have hd := List.drop_eq_getElem_cons h
   rw [hd, eU] at hq
   by_cases h2 : d[k].fName = nm
   ·rw [if_pos (by simp [h2])] at hq
    have q0 := @h; have q1 := @h2; have q2 := @decide_true; refine mD ?_
    exact aA ⟨⟨_, rfl, by simp only [go_sem, hq]⟩, trivial⟩
   ·rw [if_neg (by simp [h2])] at hq
    have q0 := @h; have q1 := @h2; have q2 := @decide_false; refine mD ?_
    refine aD (k + 1) ?_ ?_ ?_
    ·simp only [go_sem]; simp
    ·rw [hq]; exact ⟨h, by simp⟩
    ·omega
  ·simp only [decide_eq_false_iff_not] at h
   have e : k = d.length := by omega
   subst e
   simp only [List.drop_length, eU] at hq
   refine aB ?_
   exact aA ⟨⟨_, rfl, by simp only [go_sem, hq]⟩, trivial⟩
theorem yV (L : List Nat) (i : Nat) (h : i < L.length) : L[i] = lv L i := by simp [lv, List.getD_eq_getElem?_getD, h]
def mxN (a b : Nat) : Nat := if b > a then b else a
theorem lH {d : List TDir} (h : fE d = true) (i : Nat) (hi : i < d.length) : okQ d[i].fQuery = true := by
 unfold fE at h
 simp only [Bool.and_eq_true, List.all_eq_true, List.mem_range] at h
 have := h.1 i hi
 unfold nK at this
 rw [List.getElem?_eq_getElem hi] at this
 simp only [Bool.and_eq_true] at this
 exact this.2.2
theorem mP {d : List TDir} (h : fE d = true) : d.length ≤ 5 := by
 unfold fE at h
 simp only [Bool.and_eq_true, decide_eq_true_eq] at h
 omega
noncomputable def resL (d : List TDir) : List Nat := if fE d then a9d d.length (EE d) else []
noncomputable def sS (d : List TDir) : Bool := if fE d then a1z d.length (EE d) else false
theorem b2Y (L : List Nat) (i v : Nat) : (L.map a0n).set i [D.v (Value.int .i64 (v : Int))] = (L.set i v).map a0n := by rw [List.map_set]; rfl
structure Pass (d : List TDir) (L : List Nat) (i : Nat) (M : List Nat) (ch : Bool) : Prop where
 low : Low d M
 no : ch = false → M = L ∧ ∀ j, (hj : j < d.length) → j < i → iB d L d[j] ≤ lv L j
 yes : ch = true → sW L < sW M
theorem Pass.start {d : List TDir} {L : List Nat} (h : Low d L) : Pass d L 0 L false := ⟨h, fun _ => ⟨rfl, fun j _ hj => by omega⟩, fun h => by cases h⟩
theorem Pass.keep {d : List TDir} {L M : List Nat} {i : Nat} {ch : Bool} (h : Pass d L i M ch) (hi : i < d.length) (hle : ¬ iB d M d[i] > lv M i) : Pass d L (i + 1) M ch := by
 refine ⟨h.low, fun hc => ⟨(h.no hc).1, fun j hj hlt => ?_⟩, h.yes⟩
 by_cases e : j = i
 ·subst e
  have := (h.no hc).1
  subst this
  omega
 ·exact (h.no hc).2 j hj (by omega)
theorem Pass.set {d : List TDir} {L M : List Nat} {i : Nat} {ch : Bool} (h : Pass d L i M ch) (hi : i < d.length) (ho : ¬ iB d M d[i] > d.length) (hgt : iB d M d[i] > lv M i) : Pass d L (i + 1) (M.set i (iB d M d[i])) true := by
 have hl : i < M.length := by rw [h.low.len]; exact hi
 have hs := a5x M i (iB d M d[i]) hl
 refine ⟨h.low.set hi ho, fun hc => (by cases hc), fun _ => ?_⟩
 cases ch with
 | false =>
  have := (h.no rfl).1
  subst this
  omega
 | true =>
  have := h.yes rfl
  omega
theorem a5p (q : List TNode) (hq : okQ q = true) (hw : gM q ≤ 4300000) : FnC Tryz.prog 210 [.o (.d (.sl (q.map bC)))] (.o (.d (.sl ((putL (dS q false)).map bH)))) := (a6M q hq hw).pu (by simp only [go_sem, and_self])
theorem a5q (q : List TNode) (hq : okQ q = true) (hw : gM q ≤ 4300000) : FnC Tryz.prog 212 [.o (.d (.sl (q.map bC)))] (.o (.d (.sl ((putL (dS q true)).map bH)))) := (a5r q hq hw).pu (by simp only [go_sem, and_self])
theorem zX (d : List TDir) (i w : Nat) (names : List ByteArray) (k : Nat) (h : k < names.length) : dC d i w (names.take (k + 1)) = dC d i w (names.take k) ++ (if 0 ≤ placeD d names[k] then [(i, (placeD d names[k]).toNat, w)] else []) := by
 unfold dC
 rw [List.take_succ_eq_append_getElem h, List.flatMap_append]
 simp
theorem mO (d : List TDir) (i w : Nat) (names : List ByteArray) : (dC d i w names).length ≤ names.length := by
 induction names with
 | nil => simp [dC]
 | cons x l ih =>
  have e : dC d i w (x :: l) = (if 0 ≤ placeD d x then [(i, (placeD d x).toNat, w)] else []) ++ dC d i w l := by simp [dC]
  rw [e, List.length_append, List.length_cons]
  split <;> simp <;> omega
theorem pF (d : List TDir) (i w : Nat) (hi : i < d.length) (hw : w ≤ 1) (names : List ByteArray) (x : Nat × Nat × Nat) (hx : x ∈ dC d i w names) : x.1 < d.length ∧ x.2.2 ≤ 1 := by
 obtain ⟨nm, _, k, _, rfl⟩ := (vS d i w names x).1 hx
 exact ⟨hi, hw⟩
def iH (d : List TDir) (k : Nat) : List (Nat × Nat × Nat) := (List.range k).flatMap (nZ d)
theorem zY (d : List TDir) (k : Nat) : iH d (k + 1) = iH d k ++ nZ d k := by
 simp [iH, List.range_succ, List.flatMap_append]
theorem a8X (d : List TDir) (i : Nat) (h : i < d.length) : nZ d i = dC d i 0 (putL (dS d[i].fQuery false)) ++ dC d i 1 (putL (dS d[i].fQuery true)) := by
 unfold nZ; rw [List.getElem?_eq_getElem h]
theorem a6K (d : List TDir) (hv : fE d = true) (i : Nat) : (nZ d i).length ≤ 18 := by
 unfold nZ
 cases hx : d[i]? with
 | none => simp
 | some x =>
  have hi := (List.getElem?_eq_some_iff.1 hx).1
  have hxe : d[i] = x := (List.getElem?_eq_some_iff.1 hx).2
  have hq := (tZ (lH hv i hi)).2
  rw [hxe] at hq
  have h1 := mO d i 0 (putL (dS x.fQuery false))
  have h2 := mO d i 1 (putL (dS x.fQuery true))
  have h3 := gJ (dS x.fQuery false)
  have h4 := gJ (dS x.fQuery true)
  have h5 : (dS x.fQuery false).length ≤ x.fQuery.length := pG _ _ _
  have h6 : (dS x.fQuery true).length ≤ x.fQuery.length := pG _ _ _
  simp only [List.length_append]
  omega
theorem a1p (d : List TDir) (hv : fE d = true) (k : Nat) : (iH d k).length ≤ 18 * k := by
 induction k with
 | zero => simp [iH]
 | succ k ih => rw [zY, List.length_append]; have := a6K d hv k; omega
theorem a2I (d : List TDir) (k : Nat) (x : Nat × Nat × Nat) (hx : x ∈ iH d k) : x.1 < d.length ∧ x.2.2 ≤ 1 := by
 unfold iH at hx
 obtain ⟨i, _, h⟩ := List.mem_flatMap.1 hx
 unfold nZ at h
 cases hd : d[i]? with
 | none => rw [hd] at h; simp at h
 | some y =>
  rw [hd] at h
  have hi := (List.getElem?_eq_some_iff.1 hd).1
  simp only [List.mem_append] at h
  rcases h with h | h
  ·exact pF d i 0 hi (by omega) _ x h
  ·exact pF d i 1 hi (by omega) _ x h
theorem a7O {i p w : Nat} {L : List Nat} (h : lv L p + w > lv L i) : up1 i p w L = L.set i (lv L p + w) := by unfold up1; rw [if_pos h]
theorem b0T {i p w : Nat} {L : List Nat} (h : ¬ lv L p + w > lv L i) : up1 i p w L = L := by unfold up1; rw [if_neg h]
theorem a1q (d : List TDir) (L : List Nat) (hv : fE d = true) (hd : dK d ≤ 4300000) (hL : L.length = d.length) (hB : ∀ j, lv L j ≤ 1000000) : FnC Tryz.prog 154 [.o (.d (.sl (d.map bD))), .o (.d (.sl (L.map a0n)))] (.o (.w 3 1 ((ups (fJ d) L).map a0n))) := by
 have hd0 : d.length + dD mG d ≤ 4300000 := hd
 have hl5 := mP hv
 refine ent Tryz.func154 rfl Tryz.call154 rfl (fun C => ?_); simp only [go_sem, st0, Tryz.ntmps154]
 refine aB ?_
 refine bB (α := Nat) (fun i => [(5, .o (.s 0)), (13, .o .u), (15, .o .u), (6, oi i)]) (fun i => [(0, .row 3 1 ((ups (iH d i) L).map a0n) true)]) (fun i => i ≤ d.length) (fun i => d.length - i) 0 (fun _ => ?_) ?_ ?_ (fun i hi => ?_)
 ·simp only [go_sem]
 ·simp only [go_sem]; simp [iH, ups]
 ·simp
 ·simp only [go_sem]
  refine aB ?_
  refine cnd rfl (fun h => ?_) (fun h => ?_)
  ·simp only [decide_eq_true_eq, Int.ofNat_lt] at h
   have hq := lH hv i h
   have hwd := eY mG d h
   have hwq : gM d[i].fQuery ≤ mG d[i] := by unfold mG; omega
   have hsuc := zY d i
   rw [a8X d i h] at hsuc
   have hML : (ups (iH d i) L).length = d.length := by rw [uE]; exact hL
   have hMB := lN (iH d i) L 1000000 (fun x hx => by rw [hL]; exact a2I d i x hx) hB
   have hKl := a1p d hv i
   have hfin : ups (iH d (i + 1)) L = ups (dC d i 1 (putL (dS d[i].fQuery true))) (ups (dC d i 0 (putL (dS d[i].fQuery false))) (ups (iH d i) L)) := by
    rw [hsuc, a0E, a0E]
   have hn1 := gJ (dS d[i].fQuery false)
   have hn2 := gJ (dS d[i].fQuery true)
   have hn3 : (dS d[i].fQuery false).length ≤ d[i].fQuery.length := pG _ _ _
   have hn4 : (dS d[i].fQuery true).length ≤ d[i].fQuery.length := pG _ _ _
   have hq9 := tZ hq
   have hMB2 : ∀ j, lv (ups (iH d i) L) j ≤ 1000200 := fun j => by have := hMB j; omega
   generalize ups (iH d i) L = M at *
   have q0 := @h; refine jB (a5p d[i].fQuery hq (by omega)) ?_
   generalize putL (dS d[i].fQuery false) = P at *
   refine bB (α := Nat) (fun k => [(8, oi k)]) (fun k => [(0, .row 3 1 ((ups (dC d i 0 (P.take k)) M).map a0n) true)]) (fun k => k ≤ P.length) (fun k => P.length - k) 0 (fun _ => ?_) ?_ ?_ (fun k hk => ?_)
   ·simp only [go_sem]
   ·simp only [go_sem]; simp [dC, ups]
   ·simp
   ·simp only [go_sem]
    refine aB ?_
    refine cnd rfl (fun h1 => ?_) (fun h1 => ?_)
    ·simp only [decide_eq_true_eq, Int.ofNat_lt] at h1
     have ht := zX d i 0 P k h1
     have hXL : (ups (dC d i 0 (P.take k)) M).length = d.length := by rw [uE]; exact hML
     have hXB := lN (dC d i 0 (P.take k)) M 1000200 (fun x hx => by rw [hML]; exact pF d i 0 h (by omega) _ x hx) hMB2
     have hel := mO d i 0 (P.take k)
     rw [List.length_take] at hel
     have hup : ups (dC d i 0 (P.take (k + 1))) M = ups (if 0 ≤ placeD d P[k] then [(i, (placeD d P[k]).toNat, 0)] else []) (ups (dC d i 0 (P.take k)) M) := by rw [ht, a0E]
     generalize ups (dC d i 0 (P.take k)) M = X at *
     have hiX : i < X.length := by omega
     have hg := yV X i hiX
     rcases placeD_cases d P[k] with hp | ⟨p, hp, hpl⟩
     ·rw [if_neg (by omega)] at hup
      have q0 := @h1; have q1 := @hp; have q2 := @decide_true; have q3 := @decide_false; refine a6t (jG d P[k] (by omega)) ?_
      refine aD (k + 1) ?_ ?_ ?_
      ·simp only [go_sem, hup, ups]; simp
      ·omega
      ·omega
     ·have hpX : p < X.length := by omega
      have hge : (0 : Int) ≤ (p : Int) := by omega
      have hgp := yV X p hpX
      rw [if_pos (by omega), hp, Int.toNat_natCast] at hup
      simp only [ups] at hup
      by_cases hc : lv X p > lv X i
      ·have hcI : ((lv X i : Nat) : Int) < ((lv X p : Nat) : Int) := by omega
       rw [a7O (by omega), Nat.add_zero] at hup
       have qH := aI @h1 (aI @hp (aI @hge (aI @hpX (aI @hiX (aI @hg (aI @hgp (aI @hcI (aI @decide_true (aI @decide_false @Int.toNat_natCast))))))))); repeat' (with_reducible first | refine nY ?_ | (refine mX ?_; try simp only [go_sem, qH]) | refine kD ?_ | refine rD ?_ | refine cP (jG d P[k] (by omega)) ?_ | refine aO ?_ | fail)
       refine aD (k + 1) ?_ ?_ ?_
       ·simp only [go_sem, hup, ← b2Y]; simp
       ·omega
       ·omega
      ·have hcI : ¬ ((lv X i : Nat) : Int) < ((lv X p : Nat) : Int) := by omega
       rw [b0T (by omega)] at hup
       have qH := aI @h1 (aI @hp (aI @hge (aI @hpX (aI @hiX (aI @hg (aI @hgp (aI @hcI (aI @decide_true (aI @decide_false @Int.toNat_natCast))))))))); repeat' (with_reducible first | refine nY ?_ | (refine mX ?_; try simp only [go_sem, qH]) | refine kD ?_ | refine rD ?_ | refine cP (jG d P[k] (by omega)) ?_ | refine aO ?_ | fail)
       refine aD (k + 1) ?_ ?_ ?_
       ·simp only [go_sem, hup]; simp
       ·omega
       ·omega
    ·simp only [decide_eq_false_iff_not] at h1
     have e : k = P.length := by omega
     subst e
     rw [List.take_length]
     have hXL : (ups (dC d i 0 P) M).length = d.length := by rw [uE]; exact hML
     have hXB := lN (dC d i 0 P) M 1000200 (fun x hx => by rw [hML]; exact pF d i 0 h (by omega) _ x hx) hMB2
     have hel := mO d i 0 P
     have hXB2 : ∀ j, lv (ups (dC d i 0 P) M) j ≤ 1000400 := fun j => by have := hXB j; omega
     generalize ups (dC d i 0 P) M = Y at *
     have q0 := @h; refine jB (a5q d[i].fQuery hq (by omega)) ?_
     generalize putL (dS d[i].fQuery true) = N at *
     refine bB (α := Nat) (fun k => [(11, oi k)]) (fun k => [(0, .row 3 1 ((ups (dC d i 1 (N.take k)) Y).map a0n) true)]) (fun k => k ≤ N.length) (fun k => N.length - k) 0 (fun _ => ?_) ?_ ?_ (fun k hk => ?_)
     ·simp only [go_sem]
     ·simp only [go_sem]; simp [dC, ups]
     ·simp
     ·simp only [go_sem]
      refine aB ?_
      refine cnd rfl (fun h1 => ?_) (fun h1 => ?_)
      ·simp only [decide_eq_true_eq, Int.ofNat_lt] at h1
       have ht := zX d i 1 N k h1
       have hZL : (ups (dC d i 1 (N.take k)) Y).length = d.length := by rw [uE]; exact hXL
       have hZB := lN (dC d i 1 (N.take k)) Y 1000400 (fun x hx => by rw [hXL]; exact pF d i 1 h (by omega) _ x hx) hXB2
       have hel := mO d i 1 (N.take k)
       rw [List.length_take] at hel
       have hup : ups (dC d i 1 (N.take (k + 1))) Y = ups (if 0 ≤ placeD d N[k] then [(i, (placeD d N[k]).toNat, 1)] else []) (ups (dC d i 1 (N.take k)) Y) := by rw [ht, a0E]
       generalize ups (dC d i 1 (N.take k)) Y = X at *
       have hiX : i < X.length := by omega
       have hg := yV X i hiX
       rcases placeD_cases d N[k] with hp | ⟨p, hp, hpl⟩
       ·rw [if_neg (by omega)] at hup
        have q0 := @h1; have q1 := @hp; have q2 := @decide_true; have q3 := @decide_false; refine a6t (jG d N[k] (by omega)) ?_
        refine aD (k + 1) ?_ ?_ ?_
        ·simp only [go_sem, hup, ups]; simp
        ·omega
        ·omega
       ·have hpX : p < X.length := by omega
        have hge : (0 : Int) ≤ (p : Int) := by omega
        have hgp := yV X p hpX
        have hbp := hZB p
        have hs1 : ((lv X p : Nat) : Int) + 1 = ((lv X p + 1 : Nat) : Int) := by omega
        rw [if_pos (by omega), hp, Int.toNat_natCast] at hup
        simp only [ups] at hup
        by_cases hc : lv X p + 1 > lv X i
        ·have hcI : ((lv X i : Nat) : Int) < ((lv X p + 1 : Nat) : Int) := by omega
         rw [a7O hc] at hup
         have qH := aI @h1 (aI @hp (aI @hge (aI @hpX (aI @hiX (aI @hg (aI @hgp (aI @hs1 (aI @hcI (aI @decide_true (aI @decide_false @Int.toNat_natCast)))))))))); repeat' (with_reducible first | refine nY ?_ | (refine mX ?_; try simp only [go_sem, qH]) | refine kD ?_ | refine rD ?_ | refine cP (jG d N[k] (by omega)) ?_ | refine aO ?_ | fail)
         refine aD (k + 1) ?_ ?_ ?_
         ·simp only [go_sem, hup, ← b2Y]; simp
         ·omega
         ·omega
        ·have hcI : ¬ ((lv X i : Nat) : Int) < ((lv X p + 1 : Nat) : Int) := by omega
         rw [b0T hc] at hup
         have qH := aI @h1 (aI @hp (aI @hge (aI @hpX (aI @hiX (aI @hg (aI @hgp (aI @hs1 (aI @hcI (aI @decide_true (aI @decide_false @Int.toNat_natCast)))))))))); repeat' (with_reducible first | refine nY ?_ | (refine mX ?_; try simp only [go_sem, qH]) | refine kD ?_ | refine rD ?_ | refine cP (jG d N[k] (by omega)) ?_ | refine aO ?_ | fail)
         refine aD (k + 1) ?_ ?_ ?_
         ·simp only [go_sem, hup]; simp
         ·omega
         ·omega
      ·simp only [decide_eq_false_iff_not] at h1
       have e : k = N.length := by omega
       subst e
       rw [List.take_length]
       refine aB ?_
       refine aD (i + 1) ?_ ?_ ?_
       ·simp only [go_sem, hfin]; simp
       ·omega
       ·omega
  ·simp only [decide_eq_false_iff_not] at h
   have e : i = d.length := by omega
   subst e
   refine aB ?_
   exact aA ⟨⟨_, rfl, by simp only [go_sem, iH, fJ]⟩, trivial⟩
end Go.Proofs.YtolgdibgnndoaaaGreat
end
