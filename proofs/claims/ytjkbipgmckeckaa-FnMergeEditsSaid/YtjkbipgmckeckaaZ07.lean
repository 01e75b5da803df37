/- Joined texts. -/
import Derived.Test.YtjkbipgmckeckaaZ04
import Derived.Test.YtjkbipgmckeckaaZ06
import Derived.Test.YtjkbipgmckeckaaZ05
import Derived.Shelf.RegionOpenPlain
import Derived.WalkKit
import Derived.Deep.LoopGhost
import Derived.Deep.Draws
import Derived.Lib.Walk
import Derived.Lib.SliceRun
import Derived.Shelf.SlicesE.Kit
import Derived.Shelf.SlicesE.DeleteFunc
set_option linter.all false
section
namespace Go.Sx
open Go Go.RowKit
def xK : Option Nat → SV → SV
 | none, s => s
 | some id, s => kK id s
def iD (φ : Option Nat) (T : List SV) : List SV := T.map (xK φ)
theorem xL (φ : Option Nat) : xK φ (.o .u) = .o .u := by cases φ <;> rfl
theorem aN (T : List SV) : iD none T = T := by
 have e : xK none = id := rfl
 rw [iD, e, List.map_id]
def eG (all : List Oper) : Nat → Nat → Nat → Bool
 | 0, a, b => match all[b]? with
  | some o => onE o a
  | none => false
 | n + 1, a, b => match all[b]? with
  | some o => onE o a || o.after.any fun e => Region.binds .any e && eG all n a e.on
  | none => false
def a2u (all : List Oper) (L : Array Bool) : Prop := ∀ (b : Nat) (o : Oper), all[b]? = some o → L.getD b true = true → ∀ e ∈ o.after, Region.binds .any e = true → L.getD e.on true = true
theorem pF {all : List Oper} {L : Array Bool} {a b : Nat} {o : Oper} (ho : all[b]? = some o) (hd : ∀ e ∈ o.after, Region.binds .any e = true → L.getD e.on true = true) (h : onE o a = true) : L.getD a true = true := by
 obtain ⟨e, he, hb⟩ := Array.any_eq_true'.1 h
 simp only [Bool.and_eq_true, beq_iff_eq] at hb
 have := hd e he hb.1
 rwa [hb.2] at this
theorem iQ {all : List Oper} {L : Array Bool} (hc : a2u all L) : ∀ (n a b : Nat) (o : Oper), all[b]? = some o → (∀ e ∈ o.after, Region.binds .any e = true → L.getD e.on true = true) → eG all n a b = true → L.getD a true = true
 | 0, a, b, o, ho, hd, h => by
  unfold eG at h; rw [ho] at h; exact pF ho hd h
 | n + 1, a, b, o, ho, hd, h => by
  unfold eG at h
  rw [ho] at h
  rcases Bool.or_eq_true_iff.1 h with h | h
  ·exact pF ho hd h
  ·obtain ⟨e, he, hb⟩ := Array.any_eq_true'.1 h
   rw [Bool.and_eq_true] at hb
   have h1 := hd e he hb.1
   cases hq : all[e.on]? with
   | none => have := hb.2; cases n <;> (unfold eG at this; rw [hq] at this; cases this)
   | some p => exact iQ hc n a e.on p hq (hc e.on p hq h1) hb.2
def okE (all : List Oper) (ps ls : List Nat) : Bool := (ls.all fun i => ps.contains i) &&
 (List.range all.length).all fun i => yC all i fun o =>
  (match o.guard with | none => true | some _ => false) && (o.after.all fun e => !Region.binds .any e || decide (e.on < i)) &&
  (ps.contains i || o.dst.isSome) &&
  ((List.range all.length).all fun j => yC all j fun p => match p.dst with
   | none => true
   | some d => ((eY (opL o.op)).all fun t => t != d || onE o j || ls.contains j) && (j == i || o.dst != some d))
def a3G (all : List Oper) (ps dn rest w : List Nat) : Bool :=
 (List.range all.length).all fun i => ps.contains i || dn.any (fun e => eG all 4 i e) || rest.any (fun e => eG all 4 e i) || w.contains i
inductive PT where
 | n : PT
 | c : Nat → List Nat → List Nat → PT → PT → PT
def PT.tops : PT → List Nat
 | .n => []
 | .c p _ _ _ r => p :: r.tops
def PT.isNil : PT → Bool
 | .n => true
 | .c .. => false
def okN (all : List Oper) (ps dn rem w : List Nat) (t : PT) : Bool := a3G all ps dn rem w && rem.all fun p => (rem.any fun q => q != p && eG all 4 q p) || t.tops.contains p
def pV (all : List Oper) (ps : List Nat) : PT → List Nat → List Nat → Bool
 | .n, _, _ => true
 | .c p li w' sub r, dn, rem => rem.contains p && (li.all fun i => !ps.contains i && eG all 4 p i) && okN all ps (p :: dn) (rem.filter (· != p)) w' sub && pV all ps sub (p :: dn) (rem.filter (· != p)) && pV all ps r dn rem
def bV (all : List Oper) : List Nat → List Oper
 | [] => []
 | i :: l => match qY all i with
  | some o => o :: bV all l
  | none => bV all l
theorem fT {all : List Oper} {o : Oper} : ∀ {l : List Nat}, o ∈ bV all l ↔ ∃ i ∈ l, all[i]? = some o
 | [] => by simp [bV]
 | j :: l => by
  have ih := fT (all := all) (o := o) (l := l)
  unfold bV
  rw [mP]
  cases hq : all[j]? with
  | none => simp only [ih, List.mem_cons]; constructor
            ·rintro ⟨i, h1, h2⟩; exact ⟨i, .inr h1, h2⟩
            ·rintro ⟨i, h1 | h1, h2⟩
             ·subst h1; rw [hq] at h2; cases h2
             ·exact ⟨i, h1, h2⟩
  | some p =>
   simp only [List.mem_cons, ih]
   constructor
   ·rintro (rfl | ⟨i, h1, h2⟩)
    ·exact ⟨j, .inl rfl, hq⟩
    ·exact ⟨i, .inr h1, h2⟩
   ·rintro ⟨i, h1 | h1, h2⟩
    ·subst h1; rw [hq] at h2; exact .inl (Option.some.inj h2).symm
    ·exact .inr ⟨i, h1, h2⟩
def lat (all : List Oper) (ls : List Nat) : List Oper := all.mapIdx fun i o => if ls.contains i then { o with dst := none } else o
theorem kU {all : List Oper} {ls : List Nat} {j d : Nat} {o' : Oper} (h : (lat all ls)[j]? = some o') (hd : o'.dst = some d) : ∃ o, all[j]? = some o ∧ o.dst = some d ∧ j ∉ ls := by
 unfold lat at h
 rw [List.getElem?_mapIdx] at h
 cases ho : all[j]? with
 | none => rw [ho] at h; cases h
 | some o =>
  rw [ho] at h
  simp only [Option.map_some, Option.some.injEq] at h
  split at h
  ·subst h; cases hd
  ·rename_i hn
   subst h
   exact ⟨o, rfl, hd, fun hm => hn (List.contains_iff_mem.2 hm)⟩
theorem pG {all : List Oper} {ls : List Nat} {j : Nat} {o : Oper} (h : all[j]? = some o) (hj : j ∉ ls) : (lat all ls)[j]? = some o := by
 unfold lat
 rw [List.getElem?_mapIdx, h, Option.map_some, if_neg (fun hm => hj (List.contains_iff_mem.1 hm))]
section
variable {E : Env}
def a1m : Op → Bool
 | .alloc _ => true
 | .assign _ => true
 | .move _ => true
 | .buildSlice .. => true
 | .store .. => true
 | .call c => match c.callee with
  | .builtin .append => true
  | _ => false
 | _ => false
def pI (E : Env) (o : Oper) (st : St) (k : St → SV → Prop) : Prop := if a1m o.op then aU E o.op st k else zS E o st fun h' s => k ⟨st.t, h'⟩ s
theorem kV {T : List SV} {st : St} : ∀ (l : List (Nat × Operand)) (n : Nat), (∀ p ∈ l, ev ⟨T, st.h⟩ p.2 = ev st p.2) → cK ⟨T, st.h⟩ n l = cK st n l
 | [], _, _ => rfl
 | (i, x) :: r, n, h => by
  have h1 : ev ⟨T, st.h⟩ x = ev st x := h (i, x) (by simp)
  simp only [cK, h1, kV r (n + 1) fun p hp => h p (by simp [hp])]
theorem a0m {op : Op} (ha : a1m op = true) {st : St} {k : St → SV → Prop} (h : aU E op st k) : ∃ φ h' s, (∀ T : List SV, (∀ x ∈ op.operands, ev ⟨T, st.h⟩ x = ev st x) → aU E op ⟨T, st.h⟩ fun st2 s2 => st2 = ⟨iD φ T, h'⟩ ∧ s2 = s) ∧ k ⟨iD φ st.t, h'⟩ s := by
 cases op <;> simp only [a1m, Bool.false_eq_true] at ha
 case alloc t =>
  simp only [aU] at h
  exact ⟨none, st.h ++ [.box t (E.T t).zero], _, fun T _ => by simp only [aU]; exact ⟨h.1, by rw [aN]; rfl, rfl⟩, by rw [aN]; exact h.2⟩
 case assign x => exact ⟨none, st.h, ev st x, fun T he => by simp only [aU, he x (by simp [Op.operands])]; exact ⟨by rw [aN], trivial⟩, by rw [aN]; exact h⟩
 case move x => exact ⟨none, st.h, ev st x, fun T he => by simp only [aU, he x (by simp [Op.operands])]; exact ⟨by rw [aN], trivial⟩, by rw [aN]; exact h⟩
 case buildSlice t len parts =>
  simp only [aU] at h
  unfold dA at h
  obtain ⟨h1, h2, h3, h4, h⟩ := h
  split at h
  ·rename_i cs e
   obtain ⟨h5, h⟩ := h
   split at h
   ·rename_i rows lin e2
    refine ⟨none, _, .o (.s st.h.length), fun T he => ?_, by rw [aN]; exact h.2⟩
    simp only [aU]
    unfold dA
    have hp : cK ⟨T, st.h⟩ 0 parts.toList = cK st 0 parts.toList := kV _ _ fun p hp => he p.2 (by rw [← Array.mem_toList_iff, ← yV]; exact List.mem_map.2 ⟨p, hp, rfl⟩)
    refine ⟨h1, h2, h3, h4, ?_⟩
    rw [hp, e]
    refine ⟨h5, ?_⟩
    simp only [e2]
    exact ⟨h.1, by rw [aN], trivial⟩
   ·exact h.elim
  ·exact h.elim
 case store t x v =>
  have key : ∀ T : List SV, (∀ y ∈ (Op.store t x v).operands, ev ⟨T, st.h⟩ y = ev st y) → ev ⟨T, st.h⟩ x = ev st x ∧ ev ⟨T, st.h⟩ v = ev st v := fun T he => ⟨he x (by simp [Op.operands]), he v (by simp [Op.operands])⟩
  simp only [aU] at h
  split at h
  ·rename_i id sz i fo e
   unfold eD at h
   obtain ⟨h1, h2, h3, h4, h5, h⟩ := h
   split at h
   ·rename_i e1 e2
    split at h
    ·rename_i e3
     refine ⟨none, _, .t [], fun T he => ?_, by rw [aN]; exact h.2.2⟩
     obtain ⟨hx, hv⟩ := key T he
     simp only [aU, hx, hv, e]
     unfold eD
     refine ⟨h1, h2, h3, h4, h5, ?_⟩
     simp only [e1, e2, e3]
     exact ⟨h.1, h.2.1, by rw [aN], trivial⟩
    ·exact h.elim
   ·exact h.elim
  ·rename_i id sz i fo e
   unfold dD at h
   split at h
   ·rename_i e0
    split at h
    ·rename_i e1
     split at h
     ·rename_i e2 e3
      refine ⟨none, _, .t [], fun T he => ?_, by rw [aN]; exact h.2.2.2.2⟩
      obtain ⟨hx, hv⟩ := key T he
      simp only [aU, hx, hv, e]
      unfold dD
      simp only [e0, e1, e2, e3]
      exact ⟨h.1, h.2.1, h.2.2.1, h.2.2.2.1, by rw [aN], trivial⟩
     ·exact h.elim
    ·exact h.elim
   ·exact h.elim
  ·rename_i e0 e1
   unfold gJ at h
   split at h
   ·rename_i e
    split at h
    ·rename_i e2
     split at h
     ·rename_i e3
      refine ⟨none, _, .t [], fun T he => ?_, by rw [aN]; exact h.2.2.2.2⟩
      obtain ⟨hx, hv⟩ := key T he
      simp only [aU, hx, hv, e]
      unfold gJ
      simp only [e2, e3]
      exact ⟨h.1, h.2.1, h.2.2.1, h.2.2.2.1, by rw [aN], trivial⟩
     ·exact h.elim
    ·rename_i e2
     split at h
     ·rename_i e4
      split at h
      ·rename_i e3
       refine ⟨none, _, .t [], fun T he => ?_, by rw [aN]; exact h.2.2⟩
       obtain ⟨hx, hv⟩ := key T he
       simp only [aU, hx, hv, e]
       unfold gJ
       simp only [e2, e4, e3]
       exact ⟨h.1, h.2.1, by rw [aN], trivial⟩
      ·exact h.elim
     ·exact h.elim
    ·exact h.elim
   ·exact h.elim
 case call c =>
  have hc : c.callee = .builtin .append := by
   split at ha
   ·rename_i e; exact e
   ·cases ha
  simp only [aU, bX, hc] at h
  split at h
  ·rename_i s x t t' e1 e2
   have key : ∀ T : List SV, (∀ y ∈ (Op.call c).operands, ev ⟨T, st.h⟩ y = ev st y) → ev ⟨T, st.h⟩ s = ev st s ∧ ev ⟨T, st.h⟩ x = ev st x := fun T he =>
    ⟨he s (by simp only [Op.operands, Call.operands, Array.mem_append]; exact .inr (by rw [← Array.mem_toList_iff, e1]; simp)), he x (by simp only [Op.operands, Call.operands, Array.mem_append]; exact .inr (by rw [← Array.mem_toList_iff, e1]; simp))⟩
   have src : ∀ (T : List SV) (y : SV), wB ⟨T, st.h⟩ y = wB st y := fun T y => by unfold wB; rfl
   obtain ⟨h0, h⟩ := h
   unfold fK at h
   obtain ⟨h1, h2, h⟩ := h
   split at h
   ·rename_i rows2 lin2 ids e3
    obtain ⟨h3, h⟩ := h
    split at h
    ·rename_i id e4
     split at h
     ·rename_i ty sz rows lin e5
      refine ⟨some id, _, .o (.s id), fun T he => ?_, h.2.2.2.2.2⟩
      obtain ⟨hs, hx⟩ := key T he
      simp only [aU, bX, hc, e1, e2]
      refine ⟨h0, ?_⟩
      unfold fK
      refine ⟨h1, h2, ?_⟩
      rw [hx, src, e3]
      refine ⟨h3, ?_⟩
      rw [hs, e4]
      simp only [e5]
      exact ⟨h.1, h.2.1, h.2.2.1, h.2.2.2.1, h.2.2.2.2.1, rfl, trivial⟩
     ·exact h.elim
    ·rename_i e4
     refine ⟨none, _, _, fun T he => ?_, by rw [aN]; exact h.2.2⟩
     obtain ⟨hs, hx⟩ := key T he
     simp only [aU, bX, hc, e1, e2]
     refine ⟨h0, ?_⟩
     unfold fK
     refine ⟨h1, h2, ?_⟩
     rw [hx, src, e3]
     refine ⟨h3, ?_⟩
     rw [hs, e4]
     exact ⟨h.1, h.2.1, by rw [aN], rfl⟩
    ·exact h.elim
   ·exact h.elim
  ·exact h.elim
end
section
variable {E : Env}
def lS (E : Env) (all : List Oper) : PT → St → (St → Prop) → Prop
 | .n, _, _ => True
 | .c p li w' sub r, st, K => (∃ o, all[p]? = some o ∧ pI E o st fun st' s => nO E all (bV all li) (st'.put o.dst s) fun st'' => jB E st'' (bV all w') ∧ if sub.isNil = true then K st'' else lS E all sub st'' K) ∧ lS E all r st K
theorem xM {all : List Oper} {ps dn rem : List Nat} {st : St} {K : St → Prop} {p : Nat} : ∀ {t : PT}, p ∈ t.tops → pV all ps t dn rem = true → lS E all t st K → ∃ li w' sub, (li.all fun i => !ps.contains i && eG all 4 p i) = true ∧ okN all ps (p :: dn) (rem.filter (· != p)) w' sub = true ∧ pV all ps sub (p :: dn) (rem.filter (· != p)) = true ∧
    ∃ o, all[p]? = some o ∧ pI E o st fun st' s => nO E all (bV all li) (st'.put o.dst s) fun st'' => jB E st'' (bV all w') ∧ if sub.isNil = true then K st'' else lS E all sub st'' K
 | .n, h, _, _ => by simp [PT.tops] at h
 | .c q li w' sub r, h, ho, hv => by
  unfold pV at ho
  simp only [Bool.and_eq_true] at ho
  obtain ⟨⟨⟨⟨h1, h2⟩, h3⟩, h4⟩, h5⟩ := ho
  obtain ⟨v1, v2⟩ := hv
  simp only [PT.tops, List.mem_cons] at h
  rcases h with rfl | h
  ·exact ⟨li, w', sub, h2, h3, h4, v1⟩
  ·exact xM h h5 v2
theorem pJ {all : List Oper} : ∀ {l : List Oper} {st : St} {K : St → Prop}, nO E all l st K → ∃ st1, K st1 ∧ st1.h = st.h ∧ st1.t.length = st.t.length ∧ ∀ d, (∀ o ∈ l, o.dst ≠ some d) → nth st1.t d = nth st.t d
 | [], st, K, h => ⟨st, h, rfl, rfl, fun _ _ => rfl⟩
 | o :: l, st, K, h => by
  obtain ⟨s, h1, _⟩ := wU h
  obtain ⟨st1, k1, k2, k3, k4⟩ := pJ h1
  refine ⟨st1, k1, by rw [k2, tT], by rw [k3, rO], fun d hd => ?_⟩
  rw [k4 d fun p hp => hd p (List.mem_cons_of_mem _ hp)]
  cases ho : o.dst with
  | none => rfl
  | some e => exact xE fun e2 => hd o (by simp) (by rw [ho, e2])
theorem vB (φ : Option Nat) (T : List SV) (d : Nat) : nth (iD φ T) d = xK φ (nth T d) := by
 rw [gG, gG, List.getD_eq_getElem?_getD, List.getD_eq_getElem?_getD, iD, List.getElem?_map]
 cases T[d]? with
 | none => simp [xL]
 | some s => rfl
theorem a0n {o : Oper} {st : St} {k : St → SV → Prop} (h : pI E o st k) : ∃ φ h' s, (∀ T : List SV, (∀ x ∈ o.op.operands, ev ⟨T, st.h⟩ x = ev st x) → aU E o.op ⟨T, st.h⟩ fun st2 s2 => st2 = ⟨iD φ T, h'⟩ ∧ s2 = s) ∧ k ⟨iD φ st.t, h'⟩ s := by
 unfold pI at h
 split at h
 ·rename_i ha; exact a0m ha h
 ·unfold zS at h
  split at h
  ·rename_i c hop
   split at h
   ·rename_i f hc
    split at h
    ·rename_i fn caps hfn
     obtain ⟨h', s', hcall, hk⟩ := h
     refine ⟨none, h', s', fun T he => ?_, by rw [aN]; exact hk⟩
     rw [hop] at he
     have hfe : ev ⟨T, st.h⟩ f = ev st f := he f (by simp [Op.operands, Call.operands, hc])
     have hargs : c.args.toList.map (ev ⟨T, st.h⟩) = c.args.toList.map (ev st) := List.map_congr_left fun x hx => he x (by simp only [Op.operands, Call.operands, Array.mem_append]; exact .inr (by simpa using hx))
     rw [hop]
     simp only [aU, bX, hc, hfe, hfn, hargs]
     rw [aN]
     exact ⟨hcall T⟩
    ·exact h.elim
   ·exact h.elim
  ·exact h.elim
theorem a1n {all : List Oper} {listed : Array Bool} {i d : Nat} {o : Oper} {T : List SV} {H : List HB} (s6 : ∀ (j : Nat) (p : Oper) (d : Nat), all[j]? = some p → p.dst = some d → j ≠ i → o.dst ≠ some d) (ho : all[i]? = some o) (hd : o.dst = some d) :
    St.put ⟨dJ all listed T, H⟩ o.dst (nth T d) = ⟨dJ all (listed.setIfInBounds i true) T, H⟩ := by
 have keep : ∀ j, j ≠ i → (listed.setIfInBounds i true).getD j true = listed.getD j true := fun j hj => getD_set_ne true (fun e => hj e.symm)
 rw [hd]
 simp only [St.put, gH]
 congr 1
 apply List.ext_getElem?
 intro m
 rw [List.getElem?_set]
 rcases Nat.lt_or_ge m T.length with hm | hm
 ·rw [fH (l := dJ all (listed.setIfInBounds i true) T) (by rw [bG]; exact hm), eF]
  by_cases e : d = m
  ·subst e
   rw [if_pos rfl, if_pos (by rw [bG]; exact hm)]
   have : iC all (listed.setIfInBounds i true) d = false := by
    cases hh : iC all (listed.setIfInBounds i true) d with
    | false => rfl
    | true =>
     obtain ⟨j, p, hj, hd2, hu⟩ := (dI _ _ d).1 hh
     by_cases e : j = i
     ·subst e; rw [aW] at hu; cases hu
     ·exact (s6 j p d hj hd2 e hd).elim
   rw [this]; simp
  ·rw [if_neg e, fH (by rw [bG]; exact hm), eF]
   have : iC all (listed.setIfInBounds i true) m = iC all listed m := by
    rw [Bool.eq_iff_iff, dI, dI]
    constructor
    ·rintro ⟨j, p, hj, hd2, hu⟩
     refine ⟨j, p, hj, hd2, ?_⟩
     by_cases e2 : j = i
     ·subst e2; rw [aW] at hu; cases hu
     ·rwa [keep j e2] at hu
    ·rintro ⟨j, p, hj, hd2, hu⟩
     refine ⟨j, p, hj, hd2, ?_⟩
     by_cases e2 : j = i
     ·subst e2; rw [ho] at hj; cases hj; rw [hd] at hd2; cases hd2; exact (e rfl).elim
     ·rwa [keep j e2]
   rw [this]
 ·rw [List.getElem?_eq_none (l := dJ all (listed.setIfInBounds i true) T) (by rw [bG]; exact hm)]
  split
  ·rename_i e; subst e
   rw [if_neg (by rw [bG]; omega)]
  ·rw [List.getElem?_eq_none (l := dJ all listed T) (by rw [bG]; exact hm)]
theorem a2v (hT : TyOK E.P E.T) (hE : ∀ t, E.eqk t ≠ [] → EqT E.P t (E.eqk t)) {all : List Oper} {ps0 ls : List Nat} (hok : okE all ps0 ls = true) {Q : Exit → Act → World → Prop} {K : St → Prop} (hQ : ∀ g V st a w, Rel E.C g V st a w → K st → Q .normal a w) :
    ∀ (n : Nat) (listed : Array Bool) (dn rem : List Nat) (t : PT) (wi : List Nat) (st : St) (g : List Gh) (V : View) (a : Act) (w : World), listed.size = all.length → wH all listed ≤ n → a2u all listed → okN all ps0 dn rem wi t = true → pV all ps0 t dn rem = true → (∀ e ∈ dn, listed.getD e true = true) → (∀ q ∈ rem, q < all.length ∧ q ∈ ps0 ∧ listed.getD q true = false) → (∀ i, i < all.length → i ∈ ps0 → listed.getD i true = false → i ∈ rem) →
     jB E st (bV all wi) → (if t.isNil = true then K st else lS E all t st K) → Rel E.C g V ⟨dJ (lat all ls) listed st.t, st.h⟩ a w → wpAny E.P .any all.toArray Q n listed a w := by
 unfold okE at hok
 rw [Bool.and_eq_true] at hok
 obtain ⟨hls0, hok⟩ := hok
 have hls : ∀ i ∈ ls, i ∈ ps0 := fun i hi => List.contains_iff_mem.1 (List.all_eq_true.1 hls0 i hi)
 have spec : ∀ (i : Nat) (o : Oper), all[i]? = some o → o.guard = none ∧ (∀ e ∈ o.after, Region.binds .any e = true → e.on < i) ∧ (i ∉ ps0 → ∃ d, o.dst = some d) ∧
     (∀ (j : Nat) (p : Oper) (d : Nat), all[j]? = some p → p.dst = some d → (∀ t ∈ eY (opL o.op), t = d → onE o j = true ∨ j ∈ ls) ∧ (j ≠ i → o.dst ≠ some d)) := fun i o ho => by
  have h := List.all_eq_true.1 hok i (List.mem_range.2 (List.getElem?_eq_some_iff.1 ho).1)
  unfold yC at h
  rw [ho] at h
  simp only [Bool.and_eq_true] at h
  obtain ⟨⟨⟨h1, h2⟩, h4⟩, h5⟩ := h
  refine ⟨?_, fun e he hb => ?_, fun hs => ?_, fun j p d hj hd => ?_⟩
  ·cases hg : o.guard with
   | none => rfl
   | some x => rw [hg] at h1; cases h1
  ·have := (Array.all_eq_true_iff_forall_mem.1 h2) e he
   rw [hb] at this
   simpa using this
  ·rcases Bool.or_eq_true_iff.1 h4 with h | h
   ·exact (hs (List.contains_iff_mem.1 h)).elim
   ·exact Option.isSome_iff_exists.1 h
  ·have h := List.all_eq_true.1 h5 j (List.mem_range.2 (List.getElem?_eq_some_iff.1 hj).1)
   rw [hj] at h
   simp only [hd, Bool.and_eq_true] at h
   refine ⟨fun t ht e => ?_, fun hne => ?_⟩
   ·have := List.all_eq_true.1 h.1 t ht
    subst e
    simp only [bne_self_eq_false, Bool.false_or, Bool.or_eq_true] at this
    exact this.imp id List.contains_iff_mem.1
   ·rcases Bool.or_eq_true_iff.1 h.2 with h | h
    ·exact (hne (beq_iff_eq.1 h)).elim
    ·simpa using h
 have toT : ∀ {listed : Array Bool} {j : Nat}, listed.getD j false = true → listed.getD j true = true := fun {listed j} h => by
  rcases Nat.lt_or_ge j listed.size with h' | h'
  ·simp [h'] at h ⊢; exact h
  ·simp [Array.getElem?_eq_none h'] at h
 have fin : ∀ (listed : Array Bool) (dn rem : List Nat) (t : PT) (wi : List Nat) (st : St) (g : List Gh) (V : View) (a : Act) (w : World), (∀ j, j < all.length → listed.getD j true = true) → pV all ps0 t dn rem = true → (∀ q ∈ rem, q < all.length ∧ q ∈ ps0 ∧ listed.getD q true = false) → (if t.isNil = true then K st else lS E all t st K) → Rel E.C g V ⟨dJ (lat all ls) listed st.t, st.h⟩ a w → Q .normal a w := fun listed dn rem t wi st g V a w hl hpt h2 hv hr => by
  have hm : dJ (lat all ls) listed st.t = st.t := by
   apply List.ext_getElem?
   intro d
   rcases Nat.lt_or_ge d st.t.length with h | h
   ·rw [fH (by rw [bG]; exact h), fH h, eF]
    have : iC (lat all ls) listed d = false := by
     cases hh : iC (lat all ls) listed d with
     | false => rfl
     | true =>
      obtain ⟨j, o', ho', hd', hu⟩ := (dI (lat all ls) listed d).1 hh
      obtain ⟨o, ho, _, _⟩ := kU ho' hd'
      rw [hl j (List.getElem?_eq_some_iff.1 ho).1] at hu; cases hu
    rw [this]; simp
   ·rw [List.getElem?_eq_none (by rw [bG]; exact h), List.getElem?_eq_none h]
  rw [hm] at hr
  cases t with
  | n => exact hQ _ _ _ _ _ hr hv
  | c p li w' sub r =>
   unfold pV at hpt
   simp only [Bool.and_eq_true] at hpt
   obtain ⟨h3, _, h4⟩ := h2 p (List.contains_iff_mem.1 hpt.1.1.1.1)
   rw [hl _ h3] at h4; cases h4
 have none_left : ∀ (listed : Array Bool), listed.size = all.length → Region.ready .any all.toArray listed = [] → ∀ j, j < all.length → listed.getD j true = true := fun listed hsz hr => by
  intro j
  induction j using Nat.strongRecOn with
  | _ j ih =>
   intro hj
   cases hq : listed.getD j true with
   | true => rfl
   | false =>
    have ho : all[j]? = some (all[j]'hj) := List.getElem?_eq_getElem hj
    have : j ∈ Region.ready .any all.toArray listed := mem_ready.2 ⟨hq, _, toA ho, fun e he hb => by
     have hlt := (spec j _ ho).2.1 e he hb
     have h1 := ih e.on hlt (by omega)
     have hes : e.on < listed.size := by omega
     simp [hes] at h1 ⊢; exact h1⟩
    rw [hr] at this; cases this
 intro n
 induction n with
 | zero =>
  intro listed dn rem t wi st g V a w hsz hn hclo hokn hokt hdn hphs hall hchk hv hr
  have hl : ∀ j, j < all.length → listed.getD j true = true := fun j hj => by
   cases hq : listed.getD j true with
   | true => rfl
   | false =>
    have : j ∈ (List.range all.length).filter fun j => !listed.getD j true := List.mem_filter.2 ⟨List.mem_range.2 hj, by rw [hq]; rfl⟩
    have := List.length_pos_of_mem this
    unfold wH at hn
    omega
  refine ⟨List.eq_nil_iff_forall_not_mem.2 fun i hi => ?_, fin listed dn rem t wi st g V a w hl hokt hphs hv hr⟩
  obtain ⟨h1, o, h2, _⟩ := mem_ready.1 hi
  rw [hl i (by simpa using (Array.getElem?_eq_some_iff.1 h2).1)] at h1; cases h1
 | succ n ih =>
  intro listed dn rem t wi st g V a w hsz hn hclo hokn hokt hdn hphs hall hchk hv hr
  refine ⟨fun he => fin listed dn rem t wi st g V a w (none_left listed hsz he) hokt hphs hv hr, fun i hi => ?_⟩
  obtain ⟨hun, o, ho', haft⟩ := mem_ready.1 hi
  have ho : all[i]? = some o := by simpa using ho'
  have hil := (List.getElem?_eq_some_iff.1 ho).1
  obtain ⟨s1, s2, s5, s6⟩ := spec i o ho
  have hun' : wH all (listed.setIfInBounds i true) ≤ n := by have := yD hil hun; omega
  have haft' : ∀ e ∈ o.after, Region.binds .any e = true → listed.getD e.on true = true := fun e he hb => toT (haft e he hb)
  have keep : ∀ j, j ≠ i → (listed.setIfInBounds i true).getD j true = listed.getD j true := fun j hj => getD_set_ne true (fun e => hj e.symm)
  have up : ∀ j, listed.getD j true = true → (listed.setIfInBounds i true).getD j true = true := fun j hj => by
   by_cases e : j = i
   ·subst e; rw [aW]
   ·rw [keep j e]; exact hj
  have hclo' : a2u all (listed.setIfInBounds i true) := fun b p hb hl e he hbd => by
   by_cases e2 : b = i
   ·subst e2; rw [ho] at hb; cases hb; exact up _ (haft' e he hbd)
   ·rw [keep b e2] at hl; exact up _ (hclo b p hb hl e he hbd)
  have evEq : ∀ x ∈ o.op.operands, ev ⟨dJ (lat all ls) listed st.t, st.h⟩ x = ev st x := fun x hx => by
   cases x with
   | tmp t =>
    show nth (dJ (lat all ls) listed st.t) t = nth st.t t
    rw [eF]
    have : iC (lat all ls) listed t = false := by
     cases hh : iC (lat all ls) listed t with
     | false => rfl
     | true =>
      obtain ⟨j, p', hj', hd', hu⟩ := (dI (lat all ls) listed t).1 hh
      obtain ⟨p, hj, hd, hnl⟩ := kU hj' hd'
      rcases (s6 j p t hj hd).1 t (jL.2 (by rw [yV]; simpa using hx)) rfl with h1 | h1
      ·have h2 := pF ho haft' h1
       rw [hu] at h2; cases h2
      ·exact (hnl h1).elim
    rw [this]; simp
   | const v => rfl
   | func f => rfl
   | global m => rfl
  unfold wpOp
  rw [ho']
  simp only [Region.wanted, s1, if_true]
  refine .inl ?_
  have hwin : ∀ (rest : List Nat), a3G all ps0 dn rest wi = true → i ∉ ps0 → (∀ e ∈ rest, listed.getD e true = false) → i ∈ wi := fun rest hw hni hrest => by
   have h := List.all_eq_true.1 hw i (List.mem_range.2 hil)
   simp only [Bool.or_eq_true] at h
   rcases h with ((h | h) | h) | h
   ·exact (hni (List.contains_iff_mem.1 h)).elim
   ·obtain ⟨e, he, hr⟩ := List.any_eq_true.1 h
    have hle := hdn e he
    cases hq : all[e]? with
    | none => unfold eG at hr; rw [hq] at hr; cases hr
    | some p =>
     have := iQ hclo 4 i e p hq (hclo e p hq hle) hr
     rw [hun] at this; cases this
   ·obtain ⟨e, he, hr⟩ := List.any_eq_true.1 h
    have := iQ hclo 4 e i o ho haft' hr
    rw [hrest e he] at this; cases this
   ·exact List.contains_iff_mem.1 h
  by_cases hp : i ∈ ps0
  ·have hip := hall i hil hp hun
   have htop : i ∈ t.tops := by
    unfold okN at hokn
    rw [Bool.and_eq_true] at hokn
    have h1 := List.all_eq_true.1 hokn.2 i hip
    rcases Bool.or_eq_true_iff.1 h1 with h | h
    ·obtain ⟨q, hq, hr⟩ := List.any_eq_true.1 h
     rw [Bool.and_eq_true] at hr
     have h2 := iQ hclo 4 q i o ho haft' hr.2
     rw [(hphs q hq).2.2] at h2; cases h2
    ·exact List.contains_iff_mem.1 h
   have hv' : lS E all t st K := by
    cases t with
    | n => simp [PT.tops] at htop
    | c => exact hv
   obtain ⟨l, w', sub, hw3, hw4, hw5, o2, ho2, hvo⟩ := xM htop hokt hv'
   rw [ho] at ho2; cases ho2
   obtain ⟨p, rfl⟩ : ∃ p, p = i := ⟨i, rfl⟩
   have hphs0 := hphs
   ·skip
    obtain ⟨φ, h', s, hsw, hk⟩ := a0n hvo
    obtain ⟨st1, k1, k2, k3, k4⟩ := pJ hk
    refine eO hT hE (hsw _ evEq) hr fun g' V' st' w2 s2 y hr' hsy hk2 => ?_
    obtain ⟨rfl, rfl⟩ := hk2
    have hr2 := hr'.put o.dst hsy
    have hh1 : st1.h = h' := by rw [k2, tT]
    have hlen1 : st1.t.length = st.t.length := by rw [k3, rO]; simp [iD]
    have e : (St.put ⟨iD φ (dJ (lat all ls) listed st.t), h'⟩ o.dst s2) = ⟨dJ (lat all ls) (listed.setIfInBounds p true) st1.t, st1.h⟩ := by
     rw [hh1]
     have key : ∀ m, m < st.t.length → nth (St.put ⟨iD φ (dJ (lat all ls) listed st.t), h'⟩ o.dst s2).t m = nth (dJ (lat all ls) (listed.setIfInBounds p true) st1.t) m := fun m hm => by
      rw [eF]
      by_cases ed : o.dst = some m
      ·have hid : iC (lat all ls) (listed.setIfInBounds p true) m = false := by
        cases hh : iC (lat all ls) (listed.setIfInBounds p true) m with
        | false => rfl
        | true =>
         obtain ⟨j, q', hj', hd', hu⟩ := (dI _ _ m).1 hh
         obtain ⟨q, hj, hd2, _⟩ := kU hj' hd'
         by_cases e : j = p
         ·subst e; rw [aW] at hu; cases hu
         ·exact ((s6 j q m hj hd2).2 e ed).elim
       have hnl : ∀ q ∈ bV all l, q.dst ≠ some m := fun q hq hd => by
        obtain ⟨j, hj, hjq⟩ := fT.1 hq
        have h1 := List.all_eq_true.1 hw3 j hj
        simp only [Bool.and_eq_true] at h1
        by_cases e : j = p
        ·subst e
         have := h1.1
         simp [hp] at this
        ·exact (s6 j q m hjq hd).2 e ed
       rw [hid, k4 m hnl, ed]
       simp only [St.put, gH, gG, List.getD_eq_getElem?_getD, List.getElem?_set, Bool.false_eq_true, if_false, if_true]
       rw [if_pos (by simp [iD, bG]; exact hm), if_pos (by simp [iD]; exact hm)]
      ·have ep : ∀ (T : List SV) (H : List HB), nth (St.put ⟨T, H⟩ o.dst s2).t m = nth T m := fun T H => by
        cases hq : o.dst with
        | none => rfl
        | some d => exact xE (st := ⟨T, H⟩) fun e => ed (by rw [hq, e])
       rw [ep, vB, eF]
       have ehid : iC (lat all ls) (listed.setIfInBounds p true) m = iC (lat all ls) listed m := by
        rw [Bool.eq_iff_iff, dI, dI]
        constructor
        ·rintro ⟨j, q, hj, hd2, hu⟩
         refine ⟨j, q, hj, hd2, ?_⟩
         by_cases e2 : j = p
         ·subst e2; rw [aW] at hu; cases hu
         ·rwa [keep j e2] at hu
        ·rintro ⟨j, q, hj, hd2, hu⟩
         refine ⟨j, q, hj, hd2, ?_⟩
         by_cases e2 : j = p
         ·subst e2
          obtain ⟨q0, hq0, hd3, _⟩ := kU hj hd2
          rw [ho] at hq0; cases hq0; exact (ed hd3).elim
         ·rwa [keep j e2]
       rw [ehid]
       cases hh : iC (lat all ls) listed m with
       | true => simp [xL]
       | false =>
        simp only [Bool.false_eq_true, if_false]
        have hnl : ∀ q ∈ bV all l, q.dst ≠ some m := fun q hq hd => by
         obtain ⟨j, hj, hjq⟩ := fT.1 hq
         have h1 := List.all_eq_true.1 hw3 j hj
         simp only [Bool.and_eq_true] at h1
         have hju : listed.getD j true = false := by
          cases hx : listed.getD j true with
          | false => rfl
          | true =>
           have := iQ hclo 4 p j q hjq (hclo j q hjq hx) h1.2
           rw [hun] at this; cases this
         have hjl : j ∉ ls := fun hm => by have := h1.1; simp [hls j hm] at this
         have := (dI (lat all ls) listed m).2 ⟨j, q, pG hjq hjl, hd, hju⟩
         rw [hh] at this; cases this
        rw [k4 m hnl, ep, vB]
     have eh : (St.put ⟨iD φ (dJ (lat all ls) listed st.t), h'⟩ o.dst s2).h = h' := tT _ _ _
     have el : (St.put ⟨iD φ (dJ (lat all ls) listed st.t), h'⟩ o.dst s2).t.length = st.t.length := by rw [rO]; simp [iD, bG]
     have et : (St.put ⟨iD φ (dJ (lat all ls) listed st.t), h'⟩ o.dst s2).t = dJ (lat all ls) (listed.setIfInBounds p true) st1.t := by
      apply List.ext_getElem?
      intro m
      rcases Nat.lt_or_ge m st.t.length with hm | hm
      ·rw [fH (by rw [el]; exact hm), fH (by rw [bG, hlen1]; exact hm), key m hm]
      ·rw [List.getElem?_eq_none (by rw [el]; exact hm), List.getElem?_eq_none (by rw [bG, hlen1]; exact hm)]
     generalize (St.put ⟨iD φ (dJ (lat all ls) listed st.t), h'⟩ o.dst s2) = X at eh et
     cases X
     simp only at eh et
     rw [eh, et]
    rw [e] at hr2
    have memf : ∀ q, q ∈ rem.filter (· != p) → q ∈ rem ∧ q ≠ p := fun q hq => by
     obtain ⟨h1, h2⟩ := List.mem_filter.1 hq
     exact ⟨h1, by simpa using h2⟩
    refine ih _ (p :: dn) (rem.filter (· != p)) sub w' st1 g' V' _ _ (by simp [hsz]) hun' hclo' hw4 hw5 (fun e2 he => ?_) (fun q hq => ?_) (fun j hj hj0 hu => ?_) k1.1 k1.2 hr2
    ·rcases List.mem_cons.1 he with rfl | he
     ·rw [aW]
     ·exact up _ (hdn e2 he)
    ·obtain ⟨hq, hne⟩ := memf q hq
     obtain ⟨q1, q2, q3⟩ := hphs q hq
     exact ⟨q1, q2, by rw [keep _ hne]; exact q3⟩
    ·by_cases e2 : j = p
     ·subst e2; rw [aW] at hu; cases hu
     ·rw [keep j e2] at hu
      exact List.mem_filter.2 ⟨hall j hj hj0 hu, by simpa using e2⟩
  ·have hmem : i ∈ wi ∧ jB E st (bV all wi) := by
    unfold okN at hokn
    rw [Bool.and_eq_true] at hokn
    exact ⟨hwin rem hokn.1 hp fun e he => (hphs e he).2.2, hchk⟩
   obtain ⟨d, hd, hvc⟩ := uL hmem.2 (fT.2 ⟨i, hmem.1, ho⟩)
   have h1 := tQ (st := ⟨dJ (lat all ls) listed st.t, st.h⟩) (kY (fun x hx => (evEq x hx).symm) hvc)
   refine eO hT hE h1 hr fun g' V' st' w' s y hr' hsy hk => ?_
   obtain ⟨rfl, rfl⟩ := hk
   have hr2 := hr'.put o.dst hsy
   have hil : i ∉ ls := fun hm => hp (hls i hm)
   rw [a1n (all := lat all ls) (fun j p d hj hd hne => by
    obtain ⟨p0, hj0, hd0, _⟩ := kU hj hd
    exact (s6 j p0 d hj0 hd0).2 hne) (pG ho hil) hd] at hr2
   refine ih _ dn rem t wi st g' V' _ _ (by simp [hsz]) hun' hclo' hokn hokt (fun e he => up e (hdn e he)) (fun q hq => ?_) (fun j hj hj0 hu => ?_) hchk hv hr2
   ·obtain ⟨q1, q2, q3⟩ := hphs q hq
    exact ⟨q1, q2, by rw [keep q (fun e => hp (e ▸ q2))]; exact q3⟩
   ·by_cases e2 : j = i
    ·subst e2; rw [aW] at hu; cases hu
    ·rw [keep j e2] at hu; exact hall j hj hj0 hu
end
section
variable {E : Env}
inductive PO where
 | nil : PO
 | cons : Nat → List Oper → List Oper → PO → PO → PO
def PO.isNil : PO → Bool
 | .nil => true
 | .cons .. => false
def jG (all : List Oper) : PT → PO
 | .n => .nil
 | .c p l w sub r => .cons p (bV all l) (bV all w) (jG all sub) (jG all r)
theorem lT {all : List Oper} (t : PT) : (jG all t).isNil = t.isNil := by cases t <;> rfl
def vcEJ (E : Env) (all : List Oper) : PO → St → (St → Prop) → Prop
 | .nil, _, _ => True
 | .cons p l w' sub r, st, K => (∃ o, all[p]? = some o ∧ pI E o st fun st' s => nO E all l (st'.put o.dst s) fun st'' => jB E st'' w' ∧ if sub.isNil = true then K st'' else vcEJ E all sub st'' K) ∧ vcEJ E all r st K
theorem tC {all : List Oper} {K : St → Prop} : ∀ (t : PT) (st : St), vcEJ E all (jG all t) st K = lS E all t st K
 | .n, _ => rfl
 | .c p l w' sub r, st => by
  have h1 : ∀ st, vcEJ E all (jG all sub) st K = lS E all sub st K := tC sub
  have h2 : vcEJ E all (jG all r) st K = lS E all r st K := tC r st
  simp only [jG, vcEJ, lS, h1, h2, lT]
def vC (G : St) (s : St) : Prop := ∃ (l : List (Nat × Nat)) (s' : St), swL s l = some s' ∧ s'.le G
theorem vD : ∀ l : List SV, leT l l
 | [] => trivial
 | _ :: l => ⟨.inr rfl, vD l⟩
theorem St.le_refl (s : St) : s.le s := ⟨vD _, oM _⟩
theorem nD {s : St} : vC s s := ⟨[], s, rfl, s.le_refl⟩
theorem a2w (hT : TyOK E.P E.T) (hE : ∀ t, E.eqk t ≠ [] → EqT E.P t (E.eqk t)) (hm : E.P.follows .mixedOrders = true) {id : Nat} {ops : List Oper} {F : Ex → St → Prop} {st G : St} (ps ls l0 w0 : List Nat) (t : PT)
    (hok : okE ops ps ls = true) (hl0 : (l0.all fun i => !ps.contains i) = true) (hn : okN ops ps [] ps w0 t = true) (ht : pV ops ps t [] ps = true) (hlt : (ps.all fun q => decide (q < ops.length)) = true) (hb : st.okB = true)
    (h : nO E ops (bV ops l0) st fun st1 => jB E st1 (bV ops w0) ∧ if t.isNil = true then vC G st1 else lS E ops t st1 (vC G)) (hG : G.okB = true) (hF : F .normal G) : WP E.P E.C (.region id ops.toArray true) F st := fun g V a w hr => by
 refine wp_region_any hm ?_
 obtain ⟨st1, k1, k2, k3, k4⟩ := pJ h
 have hf : ∀ j : Nat, j < ops.length → (Array.replicate ops.toArray.size false).getD j true = false := fun j hj => by simp [hj]
 have hle : st.le ⟨dJ (lat ops ls) (Array.replicate ops.toArray.size false) st1.t, st1.h⟩ := by
  refine ⟨zT (by rw [bG, k3]) fun d _ => ?_, by show leH st.h st1.h; rw [k2]; exact oM _⟩
  rw [eF]
  cases hh : iC (lat ops ls) (Array.replicate ops.toArray.size false) d with
  | true => exact .inl rfl
  | false =>
   right
   simp only [Bool.false_eq_true, if_false]
   refine (k4 d fun o ho hd => ?_).symm
   obtain ⟨j, hjl, hj⟩ := fT.1 ho
   have hnl : j ∉ ls := fun hm => by
    unfold okE at hok
    rw [Bool.and_eq_true] at hok
    have h1 := List.all_eq_true.1 hok.1 j hm
    have h2 := List.all_eq_true.1 hl0 j hjl
    rw [h1] at h2; cases h2
   have := (dI (lat ops ls) (Array.replicate ops.toArray.size false) d).2 ⟨j, o, pG hj hnl, hd, hf j (List.getElem?_eq_some_iff.1 hj).1⟩
   rw [hh] at this; cases this
 have hbt : ((dJ (lat ops ls) (Array.replicate ops.toArray.size false) st1.t).all (·.below st1.h.length) && st1.h.all (·.below st1.h.length)) = true := by
  unfold St.okB at hb
  rw [Bool.and_eq_true] at hb ⊢
  rw [k2]
  refine ⟨List.all_eq_true.2 fun s hs => ?_, hb.2⟩
  obtain ⟨d, hd⟩ := List.mem_iff_getElem?.1 hs
  rcases (hle.1.get).2 d s hd with e | e
  ·subst e; rfl
  ·exact List.all_eq_true.1 hb.1 s (List.mem_of_getElem? e)
 have := a2v hT hE hok (Q := fun e a w => Post E.C F e a w) (K := vC G) (fun g V st _ _ hr h => by
     obtain ⟨l, s', hs, hle⟩ := h
     obtain ⟨g', h1⟩ := hr.swL l hs
     exact ⟨_, V, G, h1.forget hle hG, hF⟩) ops.toArray.size (Array.replicate ops.toArray.size false) [] ps t w0 st1 _ V a { w with drawn := w.drawn + 1 } (by simp)
  (by unfold wH; exact Nat.le_trans (List.length_filter_le _ _) (by simp)) (fun b o ho hl => by rw [hf b (List.getElem?_eq_some_iff.1 ho).1] at hl; cases hl) hn ht (fun e he => by simp at he)
  (fun q hq => by
   have hlq := of_decide_eq_true (List.all_eq_true.1 hlt q hq)
   exact ⟨hlq, hq, hf _ hlq⟩) (fun i _ hi _ => hi) k1.1 k1.2 ((hr.drawn).forget hle hbt)
 exact this
structure vcTT (E : Env) (all : List Oper) (t : PO) (st : St) (K : St → Prop) (u : Tie (all, t, K)) : Prop where
 out : vcEJ E all t st K
structure vcTN (E : Env) (all w : List Oper) (t : PO) (st : St) (K : St → Prop) (u : Tie (all, w, t, K)) : Prop where
 out : jB E st w ∧ if t.isNil = true then K st else vcEJ E all t st K
def a0o (E : Env) (all : List Oper) (p : Nat) (l : List Oper) (st : St) (k : St → Prop) (_ : Tie (l, k)) : Prop := match qY all p with
 | some o => pI E o st fun st' s => vcDRun E all l (st'.put o.dst s) k ⟨⟩
 | none => False
theorem tF {all : List Oper} {st : St} {K : St → Prop} : vcTT E all .nil st K ⟨⟩ := ⟨trivial⟩
theorem nE {all l w' : List Oper} {p : Nat} {sub r : PO} {st : St} {K : St → Prop} (h : a0o E all p l st (fun st'' => vcTN E all w' sub st'' K ⟨⟩) ⟨⟩) (hr : vcTT E all r st K ⟨⟩) : vcTT E all (.cons p l w' sub r) st K ⟨⟩ := ⟨by
 refine ⟨?_, hr.out⟩
 have e2 : (fun st'' => vcTN E all w' sub st'' K ⟨⟩) = (fun st'' => jB E st'' w' ∧ if sub.isNil = true then K st'' else vcEJ E all sub st'' K) := funext fun s => propext ⟨fun h => h.out, fun h => ⟨h⟩⟩
 rw [e2] at h
 unfold a0o at h
 rw [mP] at h
 split at h
 ·rename_i o ho
  refine ⟨o, ho, ?_⟩
  have e4 : (fun (st' : St) (s : SV) => vcDRun E all l (st'.put o.dst s) (fun st'' => jB E st'' w' ∧ if sub.isNil = true then K st'' else vcEJ E all sub st'' K) ⟨⟩) = (fun st' s => nO E all l (st'.put o.dst s) (fun st'' => jB E st'' w' ∧ if sub.isNil = true then K st'' else vcEJ E all sub st'' K)) := funext fun st' => funext fun s => propext ⟨fun h => h.out, fun h => ⟨h⟩⟩
  rw [e4] at h
  exact h
 ·exact h.elim⟩
theorem nG {all w : List Oper} {st : St} {K : St → Prop} (hc : jB E st w) (h : K st) : vcTN E all w .nil st K ⟨⟩ := ⟨hc, h⟩
theorem nH {all w l w' : List Oper} {p : Nat} {sub r : PO} {st : St} {K : St → Prop} (hc : jB E st w) (h : vcTT E all (.cons p l w' sub r) st K ⟨⟩) : vcTN E all w (.cons p l w' sub r) st K ⟨⟩ := ⟨hc, h.out⟩
end
attribute [go_sem] bV jG a0o pI a1m
end Go.Sx
end
section
namespace Go.Proofs.Ytjkbipgmckeckaa
open Go Go.Sx Go.RowKit Go.Proofs
def Ok2 (s : St) : Prop := s.okB = true
theorem oH {s : St} (h : s.okB = true := by simp only [go_sem] <;> fail) : Ok2 s := h
theorem rE {C : Ctx} {id : Nat} {ops L W : List Oper} {T : PO} {F : Ex → St → Prop} {st G : St} (ps ls l0 w0 : List Nat) (t : PT) (hl : bV ops l0 = L) (hw : bV ops w0 = W) (hp : jG ops t = T)
    (hok : (okE ops ps ls && (l0.all fun i => !ps.contains i) && okN ops ps [] ps w0 t && pV ops ps t [] ps && ps.all fun q => decide (q < ops.length)) = true) (hb : st.okB = true) (h : vcDRun (EV C) ops L st (fun st1 => vcTN (EV C) ops W T st1 (vC G) ⟨⟩) ⟨⟩) (hG : Ok2 G) (hF : F .normal G) : WP Try.prog C (.region id ops.toArray true) F st := by
 subst hl hw hp
 simp only [Bool.and_eq_true] at hok
 refine a2w (E := EV C) sH a0S fol ps ls l0 w0 t hok.1.1.1.1 hok.1.1.1.2 hok.1.1.2 hok.1.2 hok.2 hb ?_ hG hF
 have e : (fun st1 => vcTN (EV C) ops (bV ops w0) (jG ops t) st1 (vC G) ⟨⟩) = (fun st1 => jB (EV C) st1 (bV ops w0) ∧ if t.isNil = true then vC G st1 else lS (EV C) ops t st1 (vC G)) := funext fun s => propext (by
  constructor
  ·intro h; have := h.out; rwa [tC, lT] at this
  ·intro h; exact ⟨by rwa [tC, lT]⟩)
 rw [e] at h
 exact h.out
end Go.Proofs.Ytjkbipgmckeckaa
end
section
set_option maxRecDepth 100000
set_option maxHeartbeats 4000000
namespace Go.Proofs.Ytjkbipgmckeckaa
open Go Go.Sx Go.RowKit Go.Proofs
def bB (s : ByteArray) (y : TAttr) : Bool := !eB y.fName s
def bS (a : List TAttr) (x : TAttr) : Bool := a.any fun y => decide (y.fName = x.fName) && !mG y.fValue x.fValue
def dG (a : List TAttr) (x : TAttr) : Bool := a.any fun y => decide (y.fName = x.fName)
def mergeL (a : List TAttr) : List TAttr → List TAttr → Option (List TAttr)
 | l, [] => some l
 | l, x :: b => if bS a x then none else if dG a x then mergeL a l b else mergeL a (dC (bH (bB x.fName) l) x l) b
def mergeE (a b : TEdit) : TEdit := if a.fOK && b.fOK then (match mergeL a.fSet a.fSet b.fSet with | none => ⟨false, []⟩ | some l => ⟨true, l⟩) else ⟨false, []⟩
theorem uV (a l b : List TAttr) (k : Nat) (h : k < b.length) : mergeL a l (b.drop k) = if bS a b[k] then none else if dG a b[k] then mergeL a l (b.drop (k + 1)) else mergeL a (dC (bH (bB b[k].fName) l) b[k] l) (b.drop (k + 1)) := by
 rw [List.drop_eq_getElem_cons h, mergeL]
theorem uW (a : List TAttr) (x : TAttr) (k : Nat) (h : k < a.length) : bS (a.drop k) x = ((decide (a[k].fName = x.fName) && !mG a[k].fValue x.fValue) || bS (a.drop (k + 1)) x) := by
 rw [List.drop_eq_getElem_cons h]; rfl
theorem uY (a : List TAttr) (x : TAttr) (k : Nat) (h : k < a.length) : dG (a.take (k + 1)) x = (dG (a.take k) x || decide (a[k].fName = x.fName)) := by
 unfold dG; rw [List.take_succ_eq_append_getElem h, List.any_append]; simp
theorem yM (s : ByteArray) (x y : TAttr) (h : x.fName = s) : FnC Try.prog 36 [a1t y, .o (.q [sv x.fName, iv x.fValue.fKind, iv x.fValue.fInt, sv x.fValue.fStr])] (ob (bB s y)) := by
 subst h
 refine ent Try.func36 rfl Try.call36 rfl (fun C => ?_); simp only [go_sem, st0, Try.ntmps36]
 refine bY ?_
 exact aY ⟨⟨_, rfl, by simp only [go_sem, bB]⟩, trivial⟩
theorem gT (a b : TEdit) (ha : a.fSet.length ≤ 1048576) (hb : b.fSet.length ≤ 1048576) : FnC Try.prog 10 [uT a, uT b] (uU (mergeE a b)) := by
 refine ent Try.func10 rfl Try.call10 rfl (fun C => ?_); simp only [go_sem, st0, Try.ntmps10]
 cases ha0 : a.fOK
 case false =>
  have q0 := @ha0; refine oN ?_
  exact aY ⟨⟨_, rfl, by simp only [go_sem, mergeE, ha0, Bool.false_and]⟩, trivial⟩
 cases hb0 : b.fOK
 case false =>
  have q0 := @ha0; have q1 := @hb0; refine uM ?_
  exact aY ⟨⟨_, rfl, by simp only [go_sem, mergeE, ha0, hb0, Bool.and_false]⟩, trivial⟩
 have hm : mergeE a b = (match mergeL a.fSet a.fSet b.fSet with | none => ⟨false, []⟩ | some l => ⟨true, l⟩) := by simp [mergeE, ha0, hb0]
 rw [hm]
 clear hm
 have q0 := @ha0; have q1 := @hb0; refine a0X (sZ a.fSet (by omega)) ?_
 generalize a.fSet = a at *
 generalize b.fSet = b at *
 refine nN (α := Nat × List TAttr) (fun x => [(23, .o .u), (24, .o .u), (28, oi x.1)]) (fun x => [(3, .row 65 4 (x.2.map aR) true)]) (fun x => x.1 ≤ b.length ∧ mergeL a a b = mergeL a x.2 (b.drop x.1) ∧ x.2.length ≤ a.length + x.1) (fun x => b.length - x.1) (0, a) (fun _ => ?_) ?_ ?_ (fun x hx => ?_)
 ·simp only [go_sem]
 ·simp only [go_sem]; simp
 ·simp
 ·obtain ⟨i, l⟩ := x
  obtain ⟨hi, hq, hl⟩ := hx
  simp only at hi hq hl
  simp only [go_sem]
  refine bY ?_
  refine cnd rfl (fun h => ?_) (fun h => ?_)
  ·simp only [decide_eq_true_eq, Int.ofNat_lt] at h
   rw [uV a l b i h] at hq
   have q0 := @h; refine oN ?_
   refine nN (α := Nat) (fun k => [(8, ob (dG (a.take k) b[i])), (35, oi k)]) (fun _ => []) (fun k => k ≤ a.length ∧ bS a b[i] = bS (a.drop k) b[i]) (fun k => a.length - k) 0 (fun _ => ?_) ?_ ?_ (fun k hk => ?_)
   ·simp only [go_sem]
   ·simp only [go_sem]; simp [dG]
   ·simp
   ·obtain ⟨hk, hc⟩ := hk
    simp only [go_sem]
    refine bY ?_
    refine cnd rfl (fun h2 => ?_) (fun h2 => ?_)
    ·simp only [decide_eq_true_eq, Int.ofNat_lt] at h2
     rw [uW a b[i] k h2] at hc
     have hkn := uY a b[i] k h2
     by_cases h3 : a[k].fName = b[i].fName
     case neg =>
      have hc' : bS a b[i] = bS (a.drop (k + 1)) b[i] := by simpa [h3] using hc
      cases hkk : dG (a.take k) b[i]
      ·have q0 := @h2; have q1 := @h3; have q2 := @hkk; have q3 := @decide_false; refine yF ?_
       refine bW (k + 1) ?_ ?_ ?_
       ·simp only [go_sem]; simp [hkn, hkk, h3]
       ·exact ⟨by omega, hc'⟩
       ·omega
      ·have q0 := @h2; have q1 := @h3; have q2 := @hkk; have q3 := @decide_false; refine yF ?_
       refine bW (k + 1) ?_ ?_ ?_
       ·simp only [go_sem]; simp [hkn, hkk, h3]
       ·exact ⟨by omega, hc'⟩
       ·omega
     have q0 := @h2; have q1 := @h3; have q2 := @decide_true; refine a0Y ?_
     refine cnd (b := !(mG a[k].fValue b[i].fValue)) rfl (fun h4 => ?_) (fun h4 => ?_)
     ·have hn : mergeL a a b = none := by rw [hq, if_pos (by rw [hc, h4]; simp [h3])]
      refine bY ?_
      exact aY ⟨⟨_, rfl, by simp only [go_sem, hn]⟩, trivial⟩
     ·have hc' : bS a b[i] = bS (a.drop (k + 1)) b[i] := by rw [hc, h4]; simp
      cases hkk : dG (a.take k) b[i]
      ·have q0 := @h2; have q1 := @h3; have q2 := @hkk; have q3 := @decide_true; refine yF ?_
       refine bW (k + 1) ?_ ?_ ?_
       ·simp only [go_sem]; simp [hkn, hkk, h3]
       ·exact ⟨by omega, hc'⟩
       ·omega
      ·have q0 := @h2; have q1 := @h3; have q2 := @hkk; have q3 := @decide_true; refine yF ?_
       refine bW (k + 1) ?_ ?_ ?_
       ·simp only [go_sem]; simp [hkn, hkk, h3]
       ·exact ⟨by omega, hc'⟩
       ·omega
    ·simp only [decide_eq_false_iff_not] at h2
     have e : k = a.length := by omega
     subst e
     have hcl : bS a b[i] = false := by rw [hc, List.drop_length]; rfl
     rw [hcl, if_neg (by simp)] at hq
     have htl : a.take a.length = a := List.take_length
     have q0 := @htl; refine oN ?_
     refine cnd (b := dG a b[i]) rfl (fun h4 => ?_) (fun h4 => ?_)
     ·rw [if_pos h4] at hq
      refine bY ?_
      refine bW (i + 1, l) ?_ ?_ ?_
      ·simp only [go_sem]; simp
      ·exact ⟨by omega, hq, by simp only; omega⟩
      ·simp only; omega
     ·rw [if_neg (by simp [h4])] at hq
      have hx := idxP_fst (bB b[i].fName) l 0
      have hle := pE (bB b[i].fName) l
      have qH := trivial; repeat' (with_reducible first | refine nY ?_ | (refine mX ?_; try simp only [go_sem]) | refine kD ?_ | refine rD ?_ | refine vL (lN _ _ (bB b[i].fName) l (fun y _ => yM _ b[i] y rfl) (by omega)) ?_ | refine aO ?_ | fail)
      refine cnd (b := decide (lL (bB b[i].fName) l 0 < 0)) rfl (fun h5 => ?_) (fun h5 => ?_)
      ·have h5' := of_decide_eq_true h5
       have e5 : bH (bB b[i].fName) l = l.length := by
        rcases hx with hx | hx
        ·exact hx.2.2
        ·omega
       rw [e5] at hq
       have qH := trivial; repeat' (with_reducible first | refine nY ?_ | (refine mX ?_; try simp only [go_sem]) | refine kD ?_ | refine rD ?_ | refine vK (jF (l.map aR) (aR b[i]) l.length (by simp) (by simp; omega)) ?_ | refine aO ?_ | fail)
       refine bW (i + 1, dC l.length b[i] l) ?_ ?_ ?_
       ·simp only [go_sem]; simp [dC, aR, ← List.map_take, ← List.map_drop]
       ·exact ⟨by omega, hq, by simp only; rw [lQ _ _ _ (Nat.le_refl _)]; omega⟩
       ·simp only; omega
      ·have h5' := of_decide_eq_false h5
       have e5 : lL (bB b[i].fName) l 0 = ((bH (bB b[i].fName) l : Nat) : Int) := by
        rcases hx with hx | hx
        ·omega
        ·simpa using hx.1
       have qH := @e5; repeat' (with_reducible first | refine nY ?_ | (refine mX ?_; try simp only [go_sem, qH]) | refine kD ?_ | refine rD ?_ | refine vK (jF (l.map aR) (aR b[i]) (bH (bB b[i].fName) l) (by simpa using hle) (by simp; omega)) ?_ | refine aO ?_ | fail)
       refine bW (i + 1, dC (bH (bB b[i].fName) l) b[i] l) ?_ ?_ ?_
       ·simp only [go_sem]; simp [dC, aR, ← List.map_take, ← List.map_drop]
       ·exact ⟨by omega, hq, by simp only; rw [lQ _ _ _ hle]; omega⟩
       ·simp only; omega
  ·simp only [decide_eq_false_iff_not] at h
   have e : i = b.length := by omega
   subst e
   rw [List.drop_length, mergeL] at hq
   refine bY ?_
   exact aY ⟨⟨_, rfl, by simp only [go_sem, hq]⟩, trivial⟩
def a3E (a b : TEdit) : TEdit := if a.fOK then (if b.fOK then ⟨false, []⟩ else a) else (if b.fOK then b else ⟨false, []⟩)
def wt (q : List TNode) (f : TFile) (r : List TResult) : Nat → Nat → Bool → TEdit
 | 0, _, _ => ⟨false, []⟩
 | k + 1, i, b => match q[i]? with
  | none => ⟨false, []⟩
  | some n =>
   if mt q f r (k + 1) i = b then ⟨true, []⟩
   else if n.fOp = 3 then (if b then ⟨true, [⟨n.fName, n.fValue⟩]⟩ else ⟨false, []⟩)
   else if n.fOp = 2 then (if b then ⟨false, []⟩ else ⟨true, [⟨n.fName, ⟨0, 0, ⟨#[]⟩⟩⟩]⟩)
   else if n.fOp = 5 then wt q f r k n.fLeft.toNat (!b)
   else if n.fOp = 6 then (if b then mergeE (wt q f r k n.fLeft.toNat b) (wt q f r k n.fRight.toNat b) else a3E (wt q f r k n.fLeft.toNat b) (wt q f r k n.fRight.toNat b))
   else if n.fOp = 7 then (if b then a3E (wt q f r k n.fLeft.toNat b) (wt q f r k n.fRight.toNat b) else mergeE (wt q f r k n.fLeft.toNat b) (wt q f r k n.fRight.toNat b))
   else ⟨false, []⟩
theorem lJ {f : Nat} {args : List SV} {e : TEdit} (h : FnC Try.prog f args (uU e)) (ha : args.map (bO []) = args) (hf : args.all bK = true) : FnC Try.prog f args (uT e) := h.pure ha hf (by simp only [go_sem]) (by simp only [go_sem])
def a4Y (q : List TNode) (f : TFile) (r : List TResult) (b : Bool) : TEdit := if okQ q then wt q f r q.length (q.length - 1) b else ⟨false, []⟩
end Go.Proofs.Ytjkbipgmckeckaa
end
section
set_option maxRecDepth 100000
namespace Go.Sx
open Go Go.RowKit
structure DelK (k : Nat) (xs : List (List Value × Bool)) (i j : Nat) (F : List Value) : Prop where
 un : ∀ x ∈ xs, x.1.length = k
 len : F.length = xs.length * k
 ij : i < j
 jn : j ≤ xs.length
 lo : F.take (i * k) = (((xs.take j).filter fun x => !x.2).map (·.1)).flatten
 hi : F.drop (j * k) = ((xs.drop j).map (·.1)).flatten
 il : i = ((xs.take j).filter fun x => !x.2).length
theorem yN {k : Nat} {xs : List (List Value × Bool)} (h : ∀ x ∈ xs, x.1.length = k) : ((xs.map (·.1)).flatten).length = xs.length * k := by
 rw [oW (sz := k) fun r hr => by obtain ⟨x, hx, rfl⟩ := List.mem_map.1 hr; exact h x hx, List.length_map]
theorem DelK.at {k : Nat} {xs : List (List Value × Bool)} {i j : Nat} {F : List Value} (h : DelK k xs i j F) (hj : j < xs.length) {t : Nat} {v : Value} (ht : xs[j].1[t]? = some v) : F[j * k + t]? = some v := by
 have h0 : (F.drop (j * k))[t]? = ((xs.drop j).map (·.1)).flatten[t]? := by rw [h.hi]
 rw [List.getElem?_drop] at h0
 rw [h0, List.drop_eq_getElem_cons hj, List.map_cons, List.flatten_cons, List.getElem?_append_left (List.getElem?_eq_some_iff.1 ht).1]
 exact ht
theorem a0p (xs : List (List Value × Bool)) (k : Nat) (h : ∀ j (hj : j < xs.length), j < k → xs[j].2 = false) : (xs.take k).filter (fun x => !x.2) = xs.take k := by
 refine List.filter_eq_self.2 fun x hx => ?_
 obtain ⟨j, hj, rfl⟩ := List.mem_iff_getElem.1 hx
 simp only [List.length_take] at hj
 rw [List.getElem_take, h j (by omega) (by omega)]; rfl
theorem DelK.start {k n : Nat} {xs : List (List Value × Bool)} (hu : ∀ x ∈ xs, x.1.length = k) (hn : n < xs.length) (h : ∀ j (hj : j < xs.length), j < n → xs[j].2 = false) (hp : xs[n].2 = true) : DelK k xs n (n + 1) (xs.map (·.1)).flatten := by
 have e1 : (xs.take (n + 1)).filter (fun x => !x.2) = xs.take n := by
  rw [List.take_succ_eq_append_getElem hn, List.filter_append, a0p xs n h]
  simp [hp]
 have hu' : ∀ r ∈ xs.map (·.1), r.length = k := fun r hr => by obtain ⟨x, hx, rfl⟩ := List.mem_map.1 hr; exact hu x hx
 refine ⟨hu, yN hu, by omega, by omega, ?_, ?_, ?_⟩
 ·rw [e1, List.map_take, lM n hu']
 ·rw [List.map_drop, fQ (n + 1) hu']
 ·rw [e1]; simp; omega
theorem DelK.keep {k : Nat} {xs : List (List Value × Bool)} {i j : Nat} {F : List Value} (h : DelK k xs i j F) (hj : j < xs.length) (hp : xs[j].2 = false) : DelK k xs (i + 1) (j + 1) (F.take (i * k) ++ xs[j].1 ++ F.drop (i * k + xs[j].1.length)) := by
 have e1 : (xs.take (j + 1)).filter (fun x => !x.2) = (xs.take j).filter (fun x => !x.2) ++ [xs[j]] := by
  rw [List.take_succ_eq_append_getElem hj, List.filter_append]
  simp [hp]
 have hl := h.len
 have hij := h.ij
 have hu := h.un xs[j] (List.getElem_mem hj)
 have hle : (i + 1) * k ≤ j * k := Nat.mul_le_mul_right k hij
 have hle2 : (j + 1) * k ≤ xs.length * k := Nat.mul_le_mul_right k hj
 rw [Nat.add_mul] at hle hle2
 simp only [Nat.one_mul] at hle hle2
 have hFl : i * k + k ≤ F.length := by omega
 refine ⟨h.un, ?_, by omega, by omega, ?_, ?_, ?_⟩
 ·simp only [List.length_append, List.length_take, List.length_drop, hu]; omega
 ·rw [List.take_append_of_le_length (by simp [hu, Nat.add_mul]; omega), List.take_of_length_le (by simp [hu, Nat.add_mul]; omega), e1, List.map_append, List.flatten_append, h.lo]; simp
 ·rw [List.drop_append, List.drop_of_length_le (by simp [hu, Nat.add_mul]; omega), List.nil_append, List.drop_drop]
  have e2 : F.drop ((j + 1) * k) = ((xs.drop (j + 1)).map (·.1)).flatten := by
   have hu' : ∀ r ∈ (xs.drop j).map (·.1), r.length = k := fun r hr => by obtain ⟨x, hx, rfl⟩ := List.mem_map.1 hr; exact h.un x (List.mem_of_mem_drop hx)
   have := fQ 1 hu'
   rw [Nat.add_mul, ← List.drop_drop, h.hi, ← this, ← List.map_drop, List.drop_drop]
  rw [← e2]
  congr 1
  simp only [List.length_append, List.length_take, hu, Nat.add_mul]
  omega
 ·rw [e1, List.length_append, ← h.il]; rfl
theorem DelK.skip {k : Nat} {xs : List (List Value × Bool)} {i j : Nat} {F : List Value} (h : DelK k xs i j F) (hj : j < xs.length) (hp : xs[j].2 = true) : DelK k xs i (j + 1) F := by
 have e1 : (xs.take (j + 1)).filter (fun x => !x.2) = (xs.take j).filter (fun x => !x.2) := by
  rw [List.take_succ_eq_append_getElem hj, List.filter_append]
  simp [hp]
 have hij := h.ij
 refine ⟨h.un, h.len, by omega, by omega, by rw [e1]; exact h.lo, ?_, by rw [e1]; exact h.il⟩
 have hu' : ∀ r ∈ (xs.drop j).map (·.1), r.length = k := fun r hr => by obtain ⟨x, hx, rfl⟩ := List.mem_map.1 hr; exact h.un x (List.mem_of_mem_drop hx)
 have := fQ 1 hu'
 rw [Nat.add_mul, ← List.drop_drop, h.hi, ← this, ← List.map_drop, List.drop_drop]
theorem DelK.fin {k : Nat} {xs : List (List Value × Bool)} {i : Nat} {F : List Value} (h : DelK k xs i xs.length F) : F.take (i * k) = ((xs.filter fun x => !x.2).map (·.1)).flatten ∧ i = (xs.filter fun x => !x.2).length := by
 have h1 := h.lo
 have h2 := h.il
 rw [List.take_length] at h1 h2
 exact ⟨h1, h2⟩
theorem RowAt.other {w wr W : World} {b ty N : Nat} {F : List Value} (h : RowAt w wr b ty N F) (hb : Below wr.heap.size wr W) : RowAt w W b ty N F := h.behind hb
def a2B {τ : Type} (k : Nat) (p : τ → Bool) : List Value → List τ → List (List Value × Bool)
 | _, [] => []
 | ys, x :: l => (ys.take k, p x) :: a2B k p (ys.drop k) l
def a4O {α τ : Type} (k : Nat) (p : τ → Bool) : List α → List τ → List α
 | _, [] => []
 | ys, x :: l => (if p x then [] else ys.take k) ++ a4O k p (ys.drop k) l
end Go.Sx
end
section
namespace Go.Proofs.Ytjkbipgmckeckaa
open Go Go.Sx Go.RowKit Go.Proofs Go.Lib
end Go.Proofs.Ytjkbipgmckeckaa
end
section
set_option maxRecDepth 100000
set_option maxHeartbeats 4000000
namespace Go.Proofs.Ytjkbipgmckeckaa
open Go Go.Sx Go.RowKit Go.Proofs
def a2y (s : ByteArray) (y : TAttr) : Bool := decide (y.fName = s)
def a2z (s : ByteArray) (y : TAttr) : Bool := !(eB y.fName s || decide (y.fName = s))
def a2A (s : ByteArray) (l : List TAttr) : List TAttr := l.filter fun y => !a2y s y
def a3H (s : ByteArray) (v : TValue) (l : List TAttr) : List TAttr := if v.fKind = 0 then a2A s l else dC (bH (a2z s) (a2A s l)) ⟨s, v⟩ (a2A s l)
def a5n (f : TFile) (s : ByteArray) (v : TValue) : TFile := { f with fAttrs := a3H s v f.fAttrs }
def a2x (l : List TAttr) (e : List TAttr) : List TAttr := e.foldl (fun l a => a3H a.fName a.fValue l) l
def a4N (f : TFile) (e : TEdit) : TFile := { f with fAttrs := a2x f.fAttrs e.fSet }
theorem a2b (l : List Int) (hl : l.length ≤ 9223372036854775807) : FnC Try.prog 8 [.o (.d (.sl (l.map oO)))] (ob (decide ((1048576 : Int) < (l.length : Int)))) := by
 refine ent Try.func8 rfl Try.call8 rfl (fun C => ?_); simp only [go_sem, st0, Try.ntmps8]
 refine bY ?_
 exact aY ⟨⟨_, rfl, by simp only [go_sem]⟩, trivial⟩
theorem xF (n : Int) : FnC Try.prog 13 [oi n] (zZ ⟨1, n, ⟨#[]⟩⟩) := by
 refine ent Try.func13 rfl Try.call13 rfl (fun C => ?_); simp only [go_sem, st0, Try.ntmps13]
 refine bY ?_
 exact aY ⟨⟨_, rfl, by simp only [go_sem]⟩, trivial⟩
theorem a1a (s : ByteArray) : FnC Try.prog 17 [os s] (zZ ⟨2, 0, s⟩) := by
 refine ent Try.func17 rfl Try.call17 rfl (fun C => ?_); simp only [go_sem, st0, Try.ntmps17]
 refine bY ?_
 exact aY ⟨⟨_, rfl, by simp only [go_sem]⟩, trivial⟩
def amQ (x y : Int) : List TNode := [⟨3, 0, 0, ⟨#[97]⟩, ⟨1, x, ⟨#[]⟩⟩⟩, ⟨3, 0, 0, ⟨#[98]⟩, ⟨1, y, ⟨#[]⟩⟩⟩, ⟨7, 0, 1, ⟨#[]⟩, ⟨0, 0, ⟨#[]⟩⟩⟩]
def amL (x : Int) : List TNode := [⟨4, 0, 0, ⟨#[97]⟩, ⟨1, x, ⟨#[]⟩⟩⟩]
def amF : TFile := ⟨1, 0, false, 0, []⟩
end Go.Proofs.Ytjkbipgmckeckaa
end
