/- Joined texts. -/
import Derived.Test.YteaaopodnbjpoaaGreatZ04
import Derived.Test.YteaaopodnbjpoaaGreatZ05
import Derived.Test.YteaaopodnbjpoaaGreatZ09
import Derived.Test.YteaaopodnbjpoaaGreatZ07
import Derived.Test.YteaaopodnbjpoaaGreatZ08
import Derived.Test.YteaaopodnbjpoaaGreatZ06
set_option linter.all false
section
namespace Go.Sx
open Go Go.RowKit
def b2d : Option Nat → SV → SV
 | none, s => s
 | some id, s => xC id s
def wQ (φ : Option Nat) (T : List SV) : List SV := T.map (b2d φ)
theorem b2e (φ : Option Nat) : b2d φ (.o .u) = .o .u := by cases φ <;> rfl
theorem eT (T : List SV) : wQ none T = T := by
 have e : b2d none = id := rfl
 rw [wQ, e, List.map_id]
def pR (all : List Oper) : Nat → Nat → Nat → Bool
 | 0, a, b => match all[b]? with
  | some o => onE o a
  | none => false
 | n + 1, a, b => match all[b]? with
  | some o => onE o a || o.after.any fun e => Region.binds .any e && pR all n a e.on
  | none => false
def b8y (all : List Oper) (L : Array Bool) : Prop := ∀ (b : Nat) (o : Oper), all[b]? = some o → L.getD b true = true → ∀ e ∈ o.after, Region.binds .any e = true → L.getD e.on true = true
theorem a4z {all : List Oper} {L : Array Bool} {a b : Nat} {o : Oper} (ho : all[b]? = some o) (hd : ∀ e ∈ o.after, Region.binds .any e = true → L.getD e.on true = true) (h : onE o a = true) : L.getD a true = true := by
 obtain ⟨e, he, hb⟩ := Array.any_eq_true'.1 h
 simp only [Bool.and_eq_true, beq_iff_eq] at hb
 have := hd e he hb.1
 rwa [hb.2] at this
theorem xR {all : List Oper} {L : Array Bool} (hc : b8y all L) : ∀ (n a b : Nat) (o : Oper), all[b]? = some o → (∀ e ∈ o.after, Region.binds .any e = true → L.getD e.on true = true) → pR all n a b = true → L.getD a true = true
 | 0, a, b, o, ho, hd, h => by
  unfold pR at h; rw [ho] at h; exact a4z ho hd h
 | n + 1, a, b, o, ho, hd, h => by
  unfold pR at h
  rw [ho] at h
  rcases Bool.or_eq_true_iff.1 h with h | h
  ·exact a4z ho hd h
  ·obtain ⟨e, he, hb⟩ := Array.any_eq_true'.1 h
   rw [Bool.and_eq_true] at hb
   have h1 := hd e he hb.1
   cases hq : all[e.on]? with
   | none => have := hb.2; cases n <;> (unfold pR at this; rw [hq] at this; cases this)
   | some p => exact xR hc n a e.on p hq (hc e.on p hq h1) hb.2
def okE (all : List Oper) (ps ls : List Nat) : Bool := (ls.all fun i => ps.contains i) &&
 (List.range all.length).all fun i => a8D all i fun o =>
  (match o.guard with | none => true | some _ => false) && (o.after.all fun e => !Region.binds .any e || decide (e.on < i)) &&
  (ps.contains i || o.dst.isSome) &&
  ((List.range all.length).all fun j => a8D all j fun p => match p.dst with
   | none => true
   | some d => ((oV (opL o.op)).all fun t => t != d || onE o j || ls.contains j) && (j == i || o.dst != some d))
def b9z (all : List Oper) (ps dn rest w : List Nat) : Bool :=
 (List.range all.length).all fun i => ps.contains i || dn.any (fun e => pR all 4 i e) || rest.any (fun e => pR all 4 e i) || w.contains i
inductive PT where
 | n : PT
 | c : Nat → List Nat → List Nat → PT → PT → PT
def PT.tops : PT → List Nat
 | .n => []
 | .c p _ _ _ r => p :: r.tops
def PT.isNil : PT → Bool
 | .n => true
 | .c .. => false
def okN (all : List Oper) (ps dn rem w : List Nat) (t : PT) : Bool := b9z all ps dn rem w && rem.all fun p => (rem.any fun q => q != p && pR all 4 q p) || t.tops.contains p
def a5y (all : List Oper) (ps : List Nat) : PT → List Nat → List Nat → Bool
 | .n, _, _ => true
 | .c p li w' sub r, dn, rem => rem.contains p && (li.all fun i => !ps.contains i && pR all 4 p i) && okN all ps (p :: dn) (rem.filter (· != p)) w' sub && a5y all ps sub (p :: dn) (rem.filter (· != p)) && a5y all ps r dn rem
def kR (all : List Oper) : List Nat → List Oper
 | [] => []
 | i :: l => match a6F all i with
  | some o => o :: kR all l
  | none => kR all l
theorem sZ {all : List Oper} {o : Oper} : ∀ {l : List Nat}, o ∈ kR all l ↔ ∃ i ∈ l, all[i]? = some o
 | [] => by simp [kR]
 | j :: l => by
  have ih := sZ (all := all) (o := o) (l := l)
  unfold kR
  rw [yH]
  cases hq : all[j]? with
  | none => simp only [ih, List.mem_cons]; constructor
            ·rintro ⟨i, h1, h2⟩; exact ⟨i, .inr h1, h2⟩
            ·rintro ⟨i, h1 | h1, h2⟩
             ·subst h1; rw [hq] at h2; cases h2
             ·exact ⟨i, h1, h2⟩
  | some p =>
   simp only [List.mem_cons, ih]
   constructor
   ·rintro (rfl | ⟨i, h1, h2⟩)
    ·exact ⟨j, .inl rfl, hq⟩
    ·exact ⟨i, .inr h1, h2⟩
   ·rintro ⟨i, h1 | h1, h2⟩
    ·subst h1; rw [hq] at h2; exact .inl (Option.some.inj h2).symm
    ·exact .inr ⟨i, h1, h2⟩
def lat (all : List Oper) (ls : List Nat) : List Oper := all.mapIdx fun i o => if ls.contains i then { o with dst := none } else o
theorem a1h {all : List Oper} {ls : List Nat} {j d : Nat} {o' : Oper} (h : (lat all ls)[j]? = some o') (hd : o'.dst = some d) : ∃ o, all[j]? = some o ∧ o.dst = some d ∧ j ∉ ls := by
 unfold lat at h
 rw [List.getElem?_mapIdx] at h
 cases ho : all[j]? with
 | none => rw [ho] at h; cases h
 | some o =>
  rw [ho] at h
  simp only [Option.map_some, Option.some.injEq] at h
  split at h
  ·subst h; cases hd
  ·rename_i hn
   subst h
   exact ⟨o, rfl, hd, fun hm => hn (List.contains_iff_mem.2 hm)⟩
theorem a4A {all : List Oper} {ls : List Nat} {j : Nat} {o : Oper} (h : all[j]? = some o) (hj : j ∉ ls) : (lat all ls)[j]? = some o := by
 unfold lat
 rw [List.getElem?_mapIdx, h, Option.map_some, if_neg (fun hm => hj (List.contains_iff_mem.1 hm))]
section
variable {E : Env}
def b6U : Op → Bool
 | .alloc _ => true
 | .assign _ => true
 | .move _ => true
 | .buildSlice .. => true
 | .store .. => true
 | .call c => match c.callee with
  | .builtin .append => true
  | _ => false
 | _ => false
def a4B (E : Env) (o : Oper) (st : St) (k : St → SV → Prop) : Prop := if b6U o.op then fF E o.op st k else b0t E o st fun h' s => k ⟨st.t, h'⟩ s
theorem a1i {T : List SV} {st : St} : ∀ (l : List (Nat × Operand)) (n : Nat), (∀ p ∈ l, ev ⟨T, st.h⟩ p.2 = ev st p.2) → lC ⟨T, st.h⟩ n l = lC st n l
 | [], _, _ => rfl
 | (i, x) :: r, n, h => by
  have h1 : ev ⟨T, st.h⟩ x = ev st x := h (i, x) (by simp)
  simp only [lC, h1, a1i r (n + 1) fun p hp => h p (by simp [hp])]
theorem b5m {op : Op} (ha : b6U op = true) {st : St} {k : St → SV → Prop} (h : fF E op st k) : ∃ φ h' s, (∀ T : List SV, (∀ x ∈ op.operands, ev ⟨T, st.h⟩ x = ev st x) → fF E op ⟨T, st.h⟩ fun st2 s2 => st2 = ⟨wQ φ T, h'⟩ ∧ s2 = s) ∧ k ⟨wQ φ st.t, h'⟩ s := by
 cases op <;> simp only [b6U, Bool.false_eq_true] at ha
 case alloc t =>
  simp only [fF] at h
  exact ⟨none, st.h ++ [.box t (E.T t).zero], _, fun T _ => by simp only [fF]; exact ⟨h.1, by rw [eT]; rfl, rfl⟩, by rw [eT]; exact h.2⟩
 case assign x => exact ⟨none, st.h, ev st x, fun T he => by simp only [fF, he x (by simp [Op.operands])]; exact ⟨by rw [eT], trivial⟩, by rw [eT]; exact h⟩
 case move x => exact ⟨none, st.h, ev st x, fun T he => by simp only [fF, he x (by simp [Op.operands])]; exact ⟨by rw [eT], trivial⟩, by rw [eT]; exact h⟩
 case buildSlice t len parts =>
  simp only [fF] at h
  unfold mE at h
  obtain ⟨h1, h2, h3, h4, h⟩ := h
  split at h
  ·rename_i cs e
   obtain ⟨h5, h⟩ := h
   split at h
   ·rename_i rows lin e2
    refine ⟨none, _, .o (.s st.h.length), fun T he => ?_, by rw [eT]; exact h.2⟩
    simp only [fF]
    unfold mE
    have hp : lC ⟨T, st.h⟩ 0 parts.toList = lC st 0 parts.toList := a1i _ _ fun p hp => he p.2 (by rw [← Array.mem_toList_iff, ← a9X]; exact List.mem_map.2 ⟨p, hp, rfl⟩)
    refine ⟨h1, h2, h3, h4, ?_⟩
    rw [hp, e]
    refine ⟨h5, ?_⟩
    simp only [e2]
    exact ⟨h.1, by rw [eT], trivial⟩
   ·exact h.elim
  ·exact h.elim
 case store t x v =>
  have key : ∀ T : List SV, (∀ y ∈ (Op.store t x v).operands, ev ⟨T, st.h⟩ y = ev st y) → ev ⟨T, st.h⟩ x = ev st x ∧ ev ⟨T, st.h⟩ v = ev st v := fun T he => ⟨he x (by simp [Op.operands]), he v (by simp [Op.operands])⟩
  simp only [fF] at h
  split at h
  ·rename_i id sz i fo e
   unfold mV at h
   obtain ⟨h1, h2, h3, h4, h5, h⟩ := h
   split at h
   ·rename_i e1 e2
    split at h
    ·rename_i e3
     refine ⟨none, _, .t [], fun T he => ?_, by rw [eT]; exact h.2.2⟩
     obtain ⟨hx, hv⟩ := key T he
     simp only [fF, hx, hv, e]
     unfold mV
     refine ⟨h1, h2, h3, h4, h5, ?_⟩
     simp only [e1, e2, e3]
     exact ⟨h.1, h.2.1, by rw [eT], trivial⟩
    ·exact h.elim
   ·exact h.elim
  ·rename_i id sz i fo e
   unfold kZ at h
   split at h
   ·rename_i e0
    split at h
    ·rename_i e1
     split at h
     ·rename_i e2 e3
      refine ⟨none, _, .t [], fun T he => ?_, by rw [eT]; exact h.2.2.2.2⟩
      obtain ⟨hx, hv⟩ := key T he
      simp only [fF, hx, hv, e]
      unfold kZ
      simp only [e0, e1, e2, e3]
      exact ⟨h.1, h.2.1, h.2.2.1, h.2.2.2.1, by rw [eT], trivial⟩
     ·exact h.elim
    ·exact h.elim
   ·exact h.elim
  ·rename_i e0 e1
   unfold uO at h
   split at h
   ·rename_i e
    split at h
    ·rename_i e2
     split at h
     ·rename_i e3
      refine ⟨none, _, .t [], fun T he => ?_, by rw [eT]; exact h.2.2.2.2⟩
      obtain ⟨hx, hv⟩ := key T he
      simp only [fF, hx, hv, e]
      unfold uO
      simp only [e2, e3]
      exact ⟨h.1, h.2.1, h.2.2.1, h.2.2.2.1, by rw [eT], trivial⟩
     ·exact h.elim
    ·exact h.elim
   ·exact h.elim
 case call c =>
  have hc : c.callee = .builtin .append := by
   split at ha
   ·rename_i e; exact e
   ·cases ha
  simp only [fF, jU, hc] at h
  split at h
  ·rename_i s x t t' e1 e2
   have key : ∀ T : List SV, (∀ y ∈ (Op.call c).operands, ev ⟨T, st.h⟩ y = ev st y) → ev ⟨T, st.h⟩ s = ev st s ∧ ev ⟨T, st.h⟩ x = ev st x := fun T he =>
    ⟨he s (by simp only [Op.operands, Call.operands, Array.mem_append]; exact .inr (by rw [← Array.mem_toList_iff, e1]; simp)), he x (by simp only [Op.operands, Call.operands, Array.mem_append]; exact .inr (by rw [← Array.mem_toList_iff, e1]; simp))⟩
   have src : ∀ (T : List SV) (y : SV), b0m ⟨T, st.h⟩ y = b0m st y := fun T y => by unfold b0m; rfl
   obtain ⟨h0, h⟩ := h
   unfold sM at h
   obtain ⟨h1, h2, h⟩ := h
   split at h
   ·rename_i rows2 lin2 ids e3
    obtain ⟨h3, h⟩ := h
    split at h
    ·rename_i id e4
     split at h
     ·rename_i ty sz rows lin e5
      refine ⟨some id, _, .o (.s id), fun T he => ?_, h.2.2.2.2.2⟩
      obtain ⟨hs, hx⟩ := key T he
      simp only [fF, jU, hc, e1, e2]
      refine ⟨h0, ?_⟩
      unfold sM
      refine ⟨h1, h2, ?_⟩
      rw [hx, src, e3]
      refine ⟨h3, ?_⟩
      rw [hs, e4]
      simp only [e5]
      exact ⟨h.1, h.2.1, h.2.2.1, h.2.2.2.1, h.2.2.2.2.1, rfl, trivial⟩
     ·exact h.elim
    ·rename_i e4
     refine ⟨none, _, _, fun T he => ?_, by rw [eT]; exact h.2.2⟩
     obtain ⟨hs, hx⟩ := key T he
     simp only [fF, jU, hc, e1, e2]
     refine ⟨h0, ?_⟩
     unfold sM
     refine ⟨h1, h2, ?_⟩
     rw [hx, src, e3]
     refine ⟨h3, ?_⟩
     rw [hs, e4]
     exact ⟨h.1, h.2.1, by rw [eT], rfl⟩
    ·exact h.elim
   ·exact h.elim
  ·exact h.elim
end
section
variable {E : Env}
def a1N (E : Env) (all : List Oper) : PT → St → (St → Prop) → Prop
 | .n, _, _ => True
 | .c p li w' sub r, st, K => (∃ o, all[p]? = some o ∧ a4B E o st fun st' s => a3v E all (kR all li) (st'.put o.dst s) fun st'' => zB E st'' (kR all w') ∧ if sub.isNil = true then K st'' else a1N E all sub st'' K) ∧ a1N E all r st K
theorem b2f {all : List Oper} {ps dn rem : List Nat} {st : St} {K : St → Prop} {p : Nat} : ∀ {t : PT}, p ∈ t.tops → a5y all ps t dn rem = true → a1N E all t st K → ∃ li w' sub, (li.all fun i => !ps.contains i && pR all 4 p i) = true ∧ okN all ps (p :: dn) (rem.filter (· != p)) w' sub = true ∧ a5y all ps sub (p :: dn) (rem.filter (· != p)) = true ∧
    ∃ o, all[p]? = some o ∧ a4B E o st fun st' s => a3v E all (kR all li) (st'.put o.dst s) fun st'' => zB E st'' (kR all w') ∧ if sub.isNil = true then K st'' else a1N E all sub st'' K
 | .n, h, _, _ => by simp [PT.tops] at h
 | .c q li w' sub r, h, ho, hv => by
  unfold a5y at ho
  simp only [Bool.and_eq_true] at ho
  obtain ⟨⟨⟨⟨h1, h2⟩, h3⟩, h4⟩, h5⟩ := ho
  obtain ⟨v1, v2⟩ := hv
  simp only [PT.tops, List.mem_cons] at h
  rcases h with rfl | h
  ·exact ⟨li, w', sub, h2, h3, h4, v1⟩
  ·exact b2f h h5 v2
theorem a4C {all : List Oper} : ∀ {l : List Oper} {st : St} {K : St → Prop}, a3v E all l st K → ∃ st1, K st1 ∧ st1.h = st.h ∧ st1.t.length = st.t.length ∧ ∀ d, (∀ o ∈ l, o.dst ≠ some d) → nth st1.t d = nth st.t d
 | [], st, K, h => ⟨st, h, rfl, rfl, fun _ _ => rfl⟩
 | o :: l, st, K, h => by
  obtain ⟨s, h1, _⟩ := a6K h
  obtain ⟨st1, k1, k2, k3, k4⟩ := a4C h1
  refine ⟨st1, k1, by rw [k2, a8m], by rw [k3, a2Z], fun d hd => ?_⟩
  rw [k4 d fun p hp => hd p (List.mem_cons_of_mem _ hp)]
  cases ho : o.dst with
  | none => rfl
  | some e => exact a7c fun e2 => hd o (by simp) (by rw [ho, e2])
theorem a9f (φ : Option Nat) (T : List SV) (d : Nat) : nth (wQ φ T) d = b2d φ (nth T d) := by
 rw [qZ, qZ, List.getD_eq_getElem?_getD, List.getD_eq_getElem?_getD, wQ, List.getElem?_map]
 cases T[d]? with
 | none => simp [b2e]
 | some s => rfl
theorem b5n {o : Oper} {st : St} {k : St → SV → Prop} (h : a4B E o st k) : ∃ φ h' s, (∀ T : List SV, (∀ x ∈ o.op.operands, ev ⟨T, st.h⟩ x = ev st x) → fF E o.op ⟨T, st.h⟩ fun st2 s2 => st2 = ⟨wQ φ T, h'⟩ ∧ s2 = s) ∧ k ⟨wQ φ st.t, h'⟩ s := by
 unfold a4B at h
 split at h
 ·rename_i ha; exact b5m ha h
 ·unfold b0t at h
  split at h
  ·rename_i c hop
   split at h
   ·rename_i f hc
    split at h
    ·rename_i fn caps hfn
     obtain ⟨h', s', hcall, hk⟩ := h
     refine ⟨none, h', s', fun T he => ?_, by rw [eT]; exact hk⟩
     rw [hop] at he
     have hfe : ev ⟨T, st.h⟩ f = ev st f := he f (by simp [Op.operands, Call.operands, hc])
     have hargs : c.args.toList.map (ev ⟨T, st.h⟩) = c.args.toList.map (ev st) := List.map_congr_left fun x hx => he x (by simp only [Op.operands, Call.operands, Array.mem_append]; exact .inr (by simpa using hx))
     rw [hop]
     simp only [fF, jU, hc, hfe, hfn, hargs]
     rw [eT]
     exact ⟨hcall T⟩
    ·exact h.elim
   ·exact h.elim
  ·exact h.elim
theorem b6V {all : List Oper} {listed : Array Bool} {i d : Nat} {o : Oper} {T : List SV} {H : List HB} (s6 : ∀ (j : Nat) (p : Oper) (d : Nat), all[j]? = some p → p.dst = some d → j ≠ i → o.dst ≠ some d) (ho : all[i]? = some o) (hd : o.dst = some d) :
    St.put ⟨gB all listed T, H⟩ o.dst (nth T d) = ⟨gB all (listed.setIfInBounds i true) T, H⟩ := by
 have keep : ∀ j, j ≠ i → (listed.setIfInBounds i true).getD j true = listed.getD j true := fun j hj => getD_set_ne true (fun e => hj e.symm)
 rw [hd]
 simp only [St.put, nG]
 congr 1
 apply List.ext_getElem?
 intro m
 rw [List.getElem?_set]
 rcases Nat.lt_or_ge m T.length with hm | hm
 ·rw [kT (l := gB all (listed.setIfInBounds i true) T) (by rw [dZ]; exact hm), iR]
  by_cases e : d = m
  ·subst e
   rw [if_pos rfl, if_pos (by rw [dZ]; exact hm)]
   have : lD all (listed.setIfInBounds i true) d = false := by
    cases hh : lD all (listed.setIfInBounds i true) d with
    | false => rfl
    | true =>
     obtain ⟨j, p, hj, hd2, hu⟩ := (gG _ _ d).1 hh
     by_cases e : j = i
     ·subst e; rw [dD] at hu; cases hu
     ·exact (s6 j p d hj hd2 e hd).elim
   rw [this]; simp
  ·rw [if_neg e, kT (by rw [dZ]; exact hm), iR]
   have : lD all (listed.setIfInBounds i true) m = lD all listed m := by
    rw [Bool.eq_iff_iff, gG, gG]
    constructor
    ·rintro ⟨j, p, hj, hd2, hu⟩
     refine ⟨j, p, hj, hd2, ?_⟩
     by_cases e2 : j = i
     ·subst e2; rw [dD] at hu; cases hu
     ·rwa [keep j e2] at hu
    ·rintro ⟨j, p, hj, hd2, hu⟩
     refine ⟨j, p, hj, hd2, ?_⟩
     by_cases e2 : j = i
     ·subst e2; rw [ho] at hj; cases hj; rw [hd] at hd2; cases hd2; exact (e rfl).elim
     ·rwa [keep j e2]
   rw [this]
 ·rw [List.getElem?_eq_none (l := gB all (listed.setIfInBounds i true) T) (by rw [dZ]; exact hm)]
  split
  ·rename_i e; subst e
   rw [if_neg (by rw [dZ]; omega)]
  ·rw [List.getElem?_eq_none (l := gB all listed T) (by rw [dZ]; exact hm)]
theorem b8z (hT : TyOK E.P E.T) (hE : ∀ t, E.eqk t ≠ [] → EqT E.P t (E.eqk t)) {all : List Oper} {ps0 ls : List Nat} (hok : okE all ps0 ls = true) {Q : Exit → Act → World → Prop} {K : St → Prop} (hQ : ∀ g V st a w, Rel E.C g V st a w → K st → Q .normal a w) :
    ∀ (n : Nat) (listed : Array Bool) (dn rem : List Nat) (t : PT) (wi : List Nat) (st : St) (g : List Gh) (V : View) (a : Act) (w : World), listed.size = all.length → a3N all listed ≤ n → b8y all listed → okN all ps0 dn rem wi t = true → a5y all ps0 t dn rem = true → (∀ e ∈ dn, listed.getD e true = true) → (∀ q ∈ rem, q < all.length ∧ q ∈ ps0 ∧ listed.getD q true = false) → (∀ i, i < all.length → i ∈ ps0 → listed.getD i true = false → i ∈ rem) →
     zB E st (kR all wi) → (if t.isNil = true then K st else a1N E all t st K) → Rel E.C g V ⟨gB (lat all ls) listed st.t, st.h⟩ a w → wpAny E.P .any all.toArray Q n listed a w := by
 unfold okE at hok
 rw [Bool.and_eq_true] at hok
 obtain ⟨hls0, hok⟩ := hok
 have hls : ∀ i ∈ ls, i ∈ ps0 := fun i hi => List.contains_iff_mem.1 (List.all_eq_true.1 hls0 i hi)
 have spec : ∀ (i : Nat) (o : Oper), all[i]? = some o → o.guard = none ∧ (∀ e ∈ o.after, Region.binds .any e = true → e.on < i) ∧ (i ∉ ps0 → ∃ d, o.dst = some d) ∧
     (∀ (j : Nat) (p : Oper) (d : Nat), all[j]? = some p → p.dst = some d → (∀ t ∈ oV (opL o.op), t = d → onE o j = true ∨ j ∈ ls) ∧ (j ≠ i → o.dst ≠ some d)) := fun i o ho => by
  have h := List.all_eq_true.1 hok i (List.mem_range.2 (List.getElem?_eq_some_iff.1 ho).1)
  unfold a8D at h
  rw [ho] at h
  simp only [Bool.and_eq_true] at h
  obtain ⟨⟨⟨h1, h2⟩, h4⟩, h5⟩ := h
  refine ⟨?_, fun e he hb => ?_, fun hs => ?_, fun j p d hj hd => ?_⟩
  ·cases hg : o.guard with
   | none => rfl
   | some x => rw [hg] at h1; cases h1
  ·have := (Array.all_eq_true_iff_forall_mem.1 h2) e he
   rw [hb] at this
   simpa using this
  ·rcases Bool.or_eq_true_iff.1 h4 with h | h
   ·exact (hs (List.contains_iff_mem.1 h)).elim
   ·exact Option.isSome_iff_exists.1 h
  ·have h := List.all_eq_true.1 h5 j (List.mem_range.2 (List.getElem?_eq_some_iff.1 hj).1)
   rw [hj] at h
   simp only [hd, Bool.and_eq_true] at h
   refine ⟨fun t ht e => ?_, fun hne => ?_⟩
   ·have := List.all_eq_true.1 h.1 t ht
    subst e
    simp only [bne_self_eq_false, Bool.false_or, Bool.or_eq_true] at this
    exact this.imp id List.contains_iff_mem.1
   ·rcases Bool.or_eq_true_iff.1 h.2 with h | h
    ·exact (hne (beq_iff_eq.1 h)).elim
    ·simpa using h
 have toT : ∀ {listed : Array Bool} {j : Nat}, listed.getD j false = true → listed.getD j true = true := fun {listed j} h => by
  rcases Nat.lt_or_ge j listed.size with h' | h'
  ·simp [h'] at h ⊢; exact h
  ·simp [Array.getElem?_eq_none h'] at h
 have fin : ∀ (listed : Array Bool) (dn rem : List Nat) (t : PT) (wi : List Nat) (st : St) (g : List Gh) (V : View) (a : Act) (w : World), (∀ j, j < all.length → listed.getD j true = true) → a5y all ps0 t dn rem = true → (∀ q ∈ rem, q < all.length ∧ q ∈ ps0 ∧ listed.getD q true = false) → (if t.isNil = true then K st else a1N E all t st K) → Rel E.C g V ⟨gB (lat all ls) listed st.t, st.h⟩ a w → Q .normal a w := fun listed dn rem t wi st g V a w hl hpt h2 hv hr => by
  have hm : gB (lat all ls) listed st.t = st.t := by
   apply List.ext_getElem?
   intro d
   rcases Nat.lt_or_ge d st.t.length with h | h
   ·rw [kT (by rw [dZ]; exact h), kT h, iR]
    have : lD (lat all ls) listed d = false := by
     cases hh : lD (lat all ls) listed d with
     | false => rfl
     | true =>
      obtain ⟨j, o', ho', hd', hu⟩ := (gG (lat all ls) listed d).1 hh
      obtain ⟨o, ho, _, _⟩ := a1h ho' hd'
      rw [hl j (List.getElem?_eq_some_iff.1 ho).1] at hu; cases hu
    rw [this]; simp
   ·rw [List.getElem?_eq_none (by rw [dZ]; exact h), List.getElem?_eq_none h]
  rw [hm] at hr
  cases t with
  | n => exact hQ _ _ _ _ _ hr hv
  | c p li w' sub r =>
   unfold a5y at hpt
   simp only [Bool.and_eq_true] at hpt
   obtain ⟨h3, _, h4⟩ := h2 p (List.contains_iff_mem.1 hpt.1.1.1.1)
   rw [hl _ h3] at h4; cases h4
 have none_left : ∀ (listed : Array Bool), listed.size = all.length → Region.ready .any all.toArray listed = [] → ∀ j, j < all.length → listed.getD j true = true := fun listed hsz hr => by
  intro j
  induction j using Nat.strongRecOn with
  | _ j ih =>
   intro hj
   cases hq : listed.getD j true with
   | true => rfl
   | false =>
    have ho : all[j]? = some (all[j]'hj) := List.getElem?_eq_getElem hj
    have : j ∈ Region.ready .any all.toArray listed := mem_ready.2 ⟨hq, _, toA ho, fun e he hb => by
     have hlt := (spec j _ ho).2.1 e he hb
     have h1 := ih e.on hlt (by omega)
     have hes : e.on < listed.size := by omega
     simp [hes] at h1 ⊢; exact h1⟩
    rw [hr] at this; cases this
 intro n
 induction n with
 | zero =>
  intro listed dn rem t wi st g V a w hsz hn hclo hokn hokt hdn hphs hall hchk hv hr
  have hl : ∀ j, j < all.length → listed.getD j true = true := fun j hj => by
   cases hq : listed.getD j true with
   | true => rfl
   | false =>
    have : j ∈ (List.range all.length).filter fun j => !listed.getD j true := List.mem_filter.2 ⟨List.mem_range.2 hj, by rw [hq]; rfl⟩
    have := List.length_pos_of_mem this
    unfold a3N at hn
    omega
  refine ⟨List.eq_nil_iff_forall_not_mem.2 fun i hi => ?_, fin listed dn rem t wi st g V a w hl hokt hphs hv hr⟩
  obtain ⟨h1, o, h2, _⟩ := mem_ready.1 hi
  rw [hl i (by simpa using (Array.getElem?_eq_some_iff.1 h2).1)] at h1; cases h1
 | succ n ih =>
  intro listed dn rem t wi st g V a w hsz hn hclo hokn hokt hdn hphs hall hchk hv hr
  refine ⟨fun he => fin listed dn rem t wi st g V a w (none_left listed hsz he) hokt hphs hv hr, fun i hi => ?_⟩
  obtain ⟨hun, o, ho', haft⟩ := mem_ready.1 hi
  have ho : all[i]? = some o := by simpa using ho'
  have hil := (List.getElem?_eq_some_iff.1 ho).1
  obtain ⟨s1, s2, s5, s6⟩ := spec i o ho
  have hun' : a3N all (listed.setIfInBounds i true) ≤ n := by have := a6a hil hun; omega
  have haft' : ∀ e ∈ o.after, Region.binds .any e = true → listed.getD e.on true = true := fun e he hb => toT (haft e he hb)
  have keep : ∀ j, j ≠ i → (listed.setIfInBounds i true).getD j true = listed.getD j true := fun j hj => getD_set_ne true (fun e => hj e.symm)
  have up : ∀ j, listed.getD j true = true → (listed.setIfInBounds i true).getD j true = true := fun j hj => by
   by_cases e : j = i
   ·subst e; rw [dD]
   ·rw [keep j e]; exact hj
  have hclo' : b8y all (listed.setIfInBounds i true) := fun b p hb hl e he hbd => by
   by_cases e2 : b = i
   ·subst e2; rw [ho] at hb; cases hb; exact up _ (haft' e he hbd)
   ·rw [keep b e2] at hl; exact up _ (hclo b p hb hl e he hbd)
  have evEq : ∀ x ∈ o.op.operands, ev ⟨gB (lat all ls) listed st.t, st.h⟩ x = ev st x := fun x hx => by
   cases x with
   | tmp t =>
    show nth (gB (lat all ls) listed st.t) t = nth st.t t
    rw [iR]
    have : lD (lat all ls) listed t = false := by
     cases hh : lD (lat all ls) listed t with
     | false => rfl
     | true =>
      obtain ⟨j, p', hj', hd', hu⟩ := (gG (lat all ls) listed t).1 hh
      obtain ⟨p, hj, hd, hnl⟩ := a1h hj' hd'
      rcases (s6 j p t hj hd).1 t (uK.2 (by rw [a9X]; simpa using hx)) rfl with h1 | h1
      ·have h2 := a4z ho haft' h1
       rw [hu] at h2; cases h2
      ·exact (hnl h1).elim
    rw [this]; simp
   | const v => rfl
   | func f => rfl
   | global m => rfl
  unfold wpOp
  rw [ho']
  simp only [Region.wanted, s1, if_true]
  refine .inl ?_
  have hwin : ∀ (rest : List Nat), b9z all ps0 dn rest wi = true → i ∉ ps0 → (∀ e ∈ rest, listed.getD e true = false) → i ∈ wi := fun rest hw hni hrest => by
   have h := List.all_eq_true.1 hw i (List.mem_range.2 hil)
   simp only [Bool.or_eq_true] at h
   rcases h with ((h | h) | h) | h
   ·exact (hni (List.contains_iff_mem.1 h)).elim
   ·obtain ⟨e, he, hr⟩ := List.any_eq_true.1 h
    have hle := hdn e he
    cases hq : all[e]? with
    | none => unfold pR at hr; rw [hq] at hr; cases hr
    | some p =>
     have := xR hclo 4 i e p hq (hclo e p hq hle) hr
     rw [hun] at this; cases this
   ·obtain ⟨e, he, hr⟩ := List.any_eq_true.1 h
    have := xR hclo 4 e i o ho haft' hr
    rw [hrest e he] at this; cases this
   ·exact List.contains_iff_mem.1 h
  by_cases hp : i ∈ ps0
  ·have hip := hall i hil hp hun
   have htop : i ∈ t.tops := by
    unfold okN at hokn
    rw [Bool.and_eq_true] at hokn
    have h1 := List.all_eq_true.1 hokn.2 i hip
    rcases Bool.or_eq_true_iff.1 h1 with h | h
    ·obtain ⟨q, hq, hr⟩ := List.any_eq_true.1 h
     rw [Bool.and_eq_true] at hr
     have h2 := xR hclo 4 q i o ho haft' hr.2
     rw [(hphs q hq).2.2] at h2; cases h2
    ·exact List.contains_iff_mem.1 h
   have hv' : a1N E all t st K := by
    cases t with
    | n => simp [PT.tops] at htop
    | c => exact hv
   obtain ⟨l, w', sub, hw3, hw4, hw5, o2, ho2, hvo⟩ := b2f htop hokt hv'
   rw [ho] at ho2; cases ho2
   obtain ⟨p, rfl⟩ : ∃ p, p = i := ⟨i, rfl⟩
   have hphs0 := hphs
   ·skip
    obtain ⟨φ, h', s, hsw, hk⟩ := b5n hvo
    obtain ⟨st1, k1, k2, k3, k4⟩ := a4C hk
    refine uL hT hE (hsw _ evEq) hr fun g' V' st' w2 s2 y hr' hsy hk2 => ?_
    obtain ⟨rfl, rfl⟩ := hk2
    have hr2 := hr'.put o.dst hsy
    have hh1 : st1.h = h' := by rw [k2, a8m]
    have hlen1 : st1.t.length = st.t.length := by rw [k3, a2Z]; simp [wQ]
    have e : (St.put ⟨wQ φ (gB (lat all ls) listed st.t), h'⟩ o.dst s2) = ⟨gB (lat all ls) (listed.setIfInBounds p true) st1.t, st1.h⟩ := by
     rw [hh1]
     have key : ∀ m, m < st.t.length → nth (St.put ⟨wQ φ (gB (lat all ls) listed st.t), h'⟩ o.dst s2).t m = nth (gB (lat all ls) (listed.setIfInBounds p true) st1.t) m := fun m hm => by
      rw [iR]
      by_cases ed : o.dst = some m
      ·have hid : lD (lat all ls) (listed.setIfInBounds p true) m = false := by
        cases hh : lD (lat all ls) (listed.setIfInBounds p true) m with
        | false => rfl
        | true =>
         obtain ⟨j, q', hj', hd', hu⟩ := (gG _ _ m).1 hh
         obtain ⟨q, hj, hd2, _⟩ := a1h hj' hd'
         by_cases e : j = p
         ·subst e; rw [dD] at hu; cases hu
         ·exact ((s6 j q m hj hd2).2 e ed).elim
       have hnl : ∀ q ∈ kR all l, q.dst ≠ some m := fun q hq hd => by
        obtain ⟨j, hj, hjq⟩ := sZ.1 hq
        have h1 := List.all_eq_true.1 hw3 j hj
        simp only [Bool.and_eq_true] at h1
        by_cases e : j = p
        ·subst e
         have := h1.1
         simp [hp] at this
        ·exact (s6 j q m hjq hd).2 e ed
       rw [hid, k4 m hnl, ed]
       simp only [St.put, nG, qZ, List.getD_eq_getElem?_getD, List.getElem?_set, Bool.false_eq_true, if_false, if_true]
       rw [if_pos (by simp [wQ, dZ]; exact hm), if_pos (by simp [wQ]; exact hm)]
      ·have ep : ∀ (T : List SV) (H : List HB), nth (St.put ⟨T, H⟩ o.dst s2).t m = nth T m := fun T H => by
        cases hq : o.dst with
        | none => rfl
        | some d => exact a7c (st := ⟨T, H⟩) fun e => ed (by rw [hq, e])
       rw [ep, a9f, iR]
       have ehid : lD (lat all ls) (listed.setIfInBounds p true) m = lD (lat all ls) listed m := by
        rw [Bool.eq_iff_iff, gG, gG]
        constructor
        ·rintro ⟨j, q, hj, hd2, hu⟩
         refine ⟨j, q, hj, hd2, ?_⟩
         by_cases e2 : j = p
         ·subst e2; rw [dD] at hu; cases hu
         ·rwa [keep j e2] at hu
        ·rintro ⟨j, q, hj, hd2, hu⟩
         refine ⟨j, q, hj, hd2, ?_⟩
         by_cases e2 : j = p
         ·subst e2
          obtain ⟨q0, hq0, hd3, _⟩ := a1h hj hd2
          rw [ho] at hq0; cases hq0; exact (ed hd3).elim
         ·rwa [keep j e2]
       rw [ehid]
       cases hh : lD (lat all ls) listed m with
       | true => simp [b2e]
       | false =>
        simp only [Bool.false_eq_true, if_false]
        have hnl : ∀ q ∈ kR all l, q.dst ≠ some m := fun q hq hd => by
         obtain ⟨j, hj, hjq⟩ := sZ.1 hq
         have h1 := List.all_eq_true.1 hw3 j hj
         simp only [Bool.and_eq_true] at h1
         have hju : listed.getD j true = false := by
          cases hx : listed.getD j true with
          | false => rfl
          | true =>
           have := xR hclo 4 p j q hjq (hclo j q hjq hx) h1.2
           rw [hun] at this; cases this
         have hjl : j ∉ ls := fun hm => by have := h1.1; simp [hls j hm] at this
         have := (gG (lat all ls) listed m).2 ⟨j, q, a4A hjq hjl, hd, hju⟩
         rw [hh] at this; cases this
        rw [k4 m hnl, ep, a9f]
     have eh : (St.put ⟨wQ φ (gB (lat all ls) listed st.t), h'⟩ o.dst s2).h = h' := a8m _ _ _
     have el : (St.put ⟨wQ φ (gB (lat all ls) listed st.t), h'⟩ o.dst s2).t.length = st.t.length := by rw [a2Z]; simp [wQ, dZ]
     have et : (St.put ⟨wQ φ (gB (lat all ls) listed st.t), h'⟩ o.dst s2).t = gB (lat all ls) (listed.setIfInBounds p true) st1.t := by
      apply List.ext_getElem?
      intro m
      rcases Nat.lt_or_ge m st.t.length with hm | hm
      ·rw [kT (by rw [el]; exact hm), kT (by rw [dZ, hlen1]; exact hm), key m hm]
      ·rw [List.getElem?_eq_none (by rw [el]; exact hm), List.getElem?_eq_none (by rw [dZ, hlen1]; exact hm)]
     generalize (St.put ⟨wQ φ (gB (lat all ls) listed st.t), h'⟩ o.dst s2) = X at eh et
     cases X
     simp only at eh et
     rw [eh, et]
    rw [e] at hr2
    have memf : ∀ q, q ∈ rem.filter (· != p) → q ∈ rem ∧ q ≠ p := fun q hq => by
     obtain ⟨h1, h2⟩ := List.mem_filter.1 hq
     exact ⟨h1, by simpa using h2⟩
    refine ih _ (p :: dn) (rem.filter (· != p)) sub w' st1 g' V' _ _ (by simp [hsz]) hun' hclo' hw4 hw5 (fun e2 he => ?_) (fun q hq => ?_) (fun j hj hj0 hu => ?_) k1.1 k1.2 hr2
    ·rcases List.mem_cons.1 he with rfl | he
     ·rw [dD]
     ·exact up _ (hdn e2 he)
    ·obtain ⟨hq, hne⟩ := memf q hq
     obtain ⟨q1, q2, q3⟩ := hphs q hq
     exact ⟨q1, q2, by rw [keep _ hne]; exact q3⟩
    ·by_cases e2 : j = p
     ·subst e2; rw [dD] at hu; cases hu
     ·rw [keep j e2] at hu
      exact List.mem_filter.2 ⟨hall j hj hj0 hu, by simpa using e2⟩
  ·have hmem : i ∈ wi ∧ zB E st (kR all wi) := by
    unfold okN at hokn
    rw [Bool.and_eq_true] at hokn
    exact ⟨hwin rem hokn.1 hp fun e he => (hphs e he).2.2, hchk⟩
   obtain ⟨d, hd, hvc⟩ := a8F hmem.2 (sZ.2 ⟨i, hmem.1, ho⟩)
   have h1 := a8l (st := ⟨gB (lat all ls) listed st.t, st.h⟩) (yK (fun x hx => (evEq x hx).symm) hvc)
   refine uL hT hE h1 hr fun g' V' st' w' s y hr' hsy hk => ?_
   obtain ⟨rfl, rfl⟩ := hk
   have hr2 := hr'.put o.dst hsy
   have hil : i ∉ ls := fun hm => hp (hls i hm)
   rw [b6V (all := lat all ls) (fun j p d hj hd hne => by
    obtain ⟨p0, hj0, hd0, _⟩ := a1h hj hd
    exact (s6 j p0 d hj0 hd0).2 hne) (a4A ho hil) hd] at hr2
   refine ih _ dn rem t wi st g' V' _ _ (by simp [hsz]) hun' hclo' hokn hokt (fun e he => up e (hdn e he)) (fun q hq => ?_) (fun j hj hj0 hu => ?_) hchk hv hr2
   ·obtain ⟨q1, q2, q3⟩ := hphs q hq
    exact ⟨q1, q2, by rw [keep q (fun e => hp (e ▸ q2))]; exact q3⟩
   ·by_cases e2 : j = i
    ·subst e2; rw [dD] at hu; cases hu
    ·rw [keep j e2] at hu; exact hall j hj hj0 hu
end
section
variable {E : Env}
inductive PO where
 | nil : PO
 | cons : Nat → List Oper → List Oper → PO → PO → PO
def PO.isNil : PO → Bool
 | .nil => true
 | .cons .. => false
def zK (all : List Oper) : PT → PO
 | .n => .nil
 | .c p l w sub r => .cons p (kR all l) (kR all w) (zK all sub) (zK all r)
theorem a1O {all : List Oper} (t : PT) : (zK all t).isNil = t.isNil := by cases t <;> rfl
def vcEJ (E : Env) (all : List Oper) : PO → St → (St → Prop) → Prop
 | .nil, _, _ => True
 | .cons p l w' sub r, st, K => (∃ o, all[p]? = some o ∧ a4B E o st fun st' s => a3v E all l (st'.put o.dst s) fun st'' => zB E st'' w' ∧ if sub.isNil = true then K st'' else vcEJ E all sub st'' K) ∧ vcEJ E all r st K
theorem a7x {all : List Oper} {K : St → Prop} : ∀ (t : PT) (st : St), vcEJ E all (zK all t) st K = a1N E all t st K
 | .n, _ => rfl
 | .c p l w' sub r, st => by
  have h1 : ∀ st, vcEJ E all (zK all sub) st K = a1N E all sub st K := a7x sub
  have h2 : vcEJ E all (zK all r) st K = a1N E all r st K := a7x r st
  simp only [zK, vcEJ, a1N, h1, h2, a1O]
def a7y (G : St) (s : St) : Prop := ∃ (l : List (Nat × Nat)) (s' : St), swL s l = some s' ∧ s'.le G
theorem a9g : ∀ l : List SV, leT l l
 | [] => trivial
 | _ :: l => ⟨.inr rfl, a9g l⟩
theorem St.le_refl (s : St) : s.le s := ⟨a9g _, a0L _⟩
theorem bZ {s : St} : a7y s s := ⟨[], s, rfl, s.le_refl⟩
theorem a3m {G s s' : St} (l : List (Nat × Nat)) (h : swL s l = some s') (e : s' = G) : a7y G s := ⟨l, s', h, e ▸ s'.le_refl⟩
theorem b8A (hT : TyOK E.P E.T) (hE : ∀ t, E.eqk t ≠ [] → EqT E.P t (E.eqk t)) (hm : E.P.follows .mixedOrders = true) {id : Nat} {ops : List Oper} {F : Ex → St → Prop} {st G : St} (ps ls l0 w0 : List Nat) (t : PT)
    (hok : okE ops ps ls = true) (hl0 : (l0.all fun i => !ps.contains i) = true) (hn : okN ops ps [] ps w0 t = true) (ht : a5y ops ps t [] ps = true) (hlt : (ps.all fun q => decide (q < ops.length)) = true) (hb : st.okB = true)
    (h : a3v E ops (kR ops l0) st fun st1 => zB E st1 (kR ops w0) ∧ if t.isNil = true then a7y G st1 else a1N E ops t st1 (a7y G)) (hG : G.okB = true) (hF : F .normal G) : WP E.P E.C (.region id ops.toArray true) F st := fun g V a w hr => by
 refine wp_region_any hm ?_
 obtain ⟨st1, k1, k2, k3, k4⟩ := a4C h
 have hf : ∀ j : Nat, j < ops.length → (Array.replicate ops.toArray.size false).getD j true = false := fun j hj => by simp [hj]
 have hle : st.le ⟨gB (lat ops ls) (Array.replicate ops.toArray.size false) st1.t, st1.h⟩ := by
  refine ⟨b0v (by rw [dZ, k3]) fun d _ => ?_, by show leH st.h st1.h; rw [k2]; exact a0L _⟩
  rw [iR]
  cases hh : lD (lat ops ls) (Array.replicate ops.toArray.size false) d with
  | true => exact .inl rfl
  | false =>
   right
   simp only [Bool.false_eq_true, if_false]
   refine (k4 d fun o ho hd => ?_).symm
   obtain ⟨j, hjl, hj⟩ := sZ.1 ho
   have hnl : j ∉ ls := fun hm => by
    unfold okE at hok
    rw [Bool.and_eq_true] at hok
    have h1 := List.all_eq_true.1 hok.1 j hm
    have h2 := List.all_eq_true.1 hl0 j hjl
    rw [h1] at h2; cases h2
   have := (gG (lat ops ls) (Array.replicate ops.toArray.size false) d).2 ⟨j, o, a4A hj hnl, hd, hf j (List.getElem?_eq_some_iff.1 hj).1⟩
   rw [hh] at this; cases this
 have hbt : ((gB (lat ops ls) (Array.replicate ops.toArray.size false) st1.t).all (·.below st1.h.length) && st1.h.all (·.below st1.h.length)) = true := by
  unfold St.okB at hb
  rw [Bool.and_eq_true] at hb ⊢
  rw [k2]
  refine ⟨List.all_eq_true.2 fun s hs => ?_, hb.2⟩
  obtain ⟨d, hd⟩ := List.mem_iff_getElem?.1 hs
  rcases (hle.1.get).2 d s hd with e | e
  ·subst e; rfl
  ·exact List.all_eq_true.1 hb.1 s (List.mem_of_getElem? e)
 have := b8z hT hE hok (Q := fun e a w => Post E.C F e a w) (K := a7y G) (fun g V st _ _ hr h => by
     obtain ⟨l, s', hs, hle⟩ := h
     obtain ⟨g', h1⟩ := hr.swL l hs
     exact ⟨_, V, G, h1.forget hle hG, hF⟩) ops.toArray.size (Array.replicate ops.toArray.size false) [] ps t w0 st1 _ V a { w with drawn := w.drawn + 1 } (by simp)
  (by unfold a3N; exact Nat.le_trans (List.length_filter_le _ _) (by simp)) (fun b o ho hl => by rw [hf b (List.getElem?_eq_some_iff.1 ho).1] at hl; cases hl) hn ht (fun e he => by simp at he)
  (fun q hq => by
   have hlq := of_decide_eq_true (List.all_eq_true.1 hlt q hq)
   exact ⟨hlq, hq, hf _ hlq⟩) (fun i _ hi _ => hi) k1.1 k1.2 ((hr.drawn).forget hle hbt)
 exact this
structure vcTT (E : Env) (all : List Oper) (t : PO) (st : St) (K : St → Prop) (u : Tie (all, t, K)) : Prop where
 out : vcEJ E all t st K
structure vcTN (E : Env) (all w : List Oper) (t : PO) (st : St) (K : St → Prop) (u : Tie (all, w, t, K)) : Prop where
 out : zB E st w ∧ if t.isNil = true then K st else vcEJ E all t st K
def b5o (E : Env) (all : List Oper) (p : Nat) (l : List Oper) (st : St) (k : St → Prop) (_ : Tie (l, k)) : Prop := match a6F all p with
 | some o => a4B E o st fun st' s => vcDRun E all l (st'.put o.dst s) k ⟨⟩
 | none => False
theorem dO {all : List Oper} {st : St} {K : St → Prop} : vcTT E all .nil st K ⟨⟩ := ⟨trivial⟩
theorem cB {all l w' : List Oper} {p : Nat} {sub r : PO} {st : St} {K : St → Prop} (h : b5o E all p l st (fun st'' => vcTN E all w' sub st'' K ⟨⟩) ⟨⟩) (hr : vcTT E all r st K ⟨⟩) : vcTT E all (.cons p l w' sub r) st K ⟨⟩ := ⟨by
 refine ⟨?_, hr.out⟩
 have e2 : (fun st'' => vcTN E all w' sub st'' K ⟨⟩) = (fun st'' => zB E st'' w' ∧ if sub.isNil = true then K st'' else vcEJ E all sub st'' K) := funext fun s => propext ⟨fun h => h.out, fun h => ⟨h⟩⟩
 rw [e2] at h
 unfold b5o at h
 rw [yH] at h
 split at h
 ·rename_i o ho
  refine ⟨o, ho, ?_⟩
  have e4 : (fun (st' : St) (s : SV) => vcDRun E all l (st'.put o.dst s) (fun st'' => zB E st'' w' ∧ if sub.isNil = true then K st'' else vcEJ E all sub st'' K) ⟨⟩) = (fun st' s => a3v E all l (st'.put o.dst s) (fun st'' => zB E st'' w' ∧ if sub.isNil = true then K st'' else vcEJ E all sub st'' K)) := funext fun st' => funext fun s => propext ⟨fun h => h.out, fun h => ⟨h⟩⟩
  rw [e4] at h
  exact h
 ·exact h.elim⟩
theorem cK {all w : List Oper} {st : St} {K : St → Prop} (hc : zB E st w) (h : K st) : vcTN E all w .nil st K ⟨⟩ := ⟨hc, h⟩
theorem cO {all w l w' : List Oper} {p : Nat} {sub r : PO} {st : St} {K : St → Prop} (hc : zB E st w) (h : vcTT E all (.cons p l w' sub r) st K ⟨⟩) : vcTN E all w (.cons p l w' sub r) st K ⟨⟩ := ⟨hc, h.out⟩
end
attribute [go_sem] kR zK b5o a4B b6U
end Go.Sx
end
section
namespace Go.Proofs.YteaaopodnbjpoaaGreat
open Go Go.Sx Go.RowKit Go.Proofs
def Ok2 (s : St) : Prop := s.okB = true
theorem oH {s : St} (h : s.okB = true := by simp only [go_sem] <;> fail) : Ok2 s := h
theorem rE {C : Ctx} {id : Nat} {ops L W : List Oper} {T : PO} {F : Ex → St → Prop} {st G : St} (ps ls l0 w0 : List Nat) (t : PT) (hl : kR ops l0 = L) (hw : kR ops w0 = W) (hp : zK ops t = T)
    (hok : (okE ops ps ls && (l0.all fun i => !ps.contains i) && okN ops ps [] ps w0 t && a5y ops ps t [] ps && ps.all fun q => decide (q < ops.length)) = true) (hb : st.okB = true) (h : vcDRun (EV C) ops L st (fun st1 => vcTN (EV C) ops W T st1 (a7y G) ⟨⟩) ⟨⟩) (hG : Ok2 G) (hF : F .normal G) : WP Tryz.prog C (.region id ops.toArray true) F st := by
 subst hl hw hp
 simp only [Bool.and_eq_true] at hok
 refine b8A (E := EV C) b0r b6z fol ps ls l0 w0 t hok.1.1.1.1 hok.1.1.1.2 hok.1.1.2 hok.1.2 hok.2 hb ?_ hG hF
 have e : (fun st1 => vcTN (EV C) ops (kR ops w0) (zK ops t) st1 (a7y G) ⟨⟩) = (fun st1 => zB (EV C) st1 (kR ops w0) ∧ if t.isNil = true then a7y G st1 else a1N (EV C) ops t st1 (a7y G)) := funext fun s => propext (by
  constructor
  ·intro h; have := h.out; rwa [a7x, a1O] at this
  ·intro h; exact ⟨by rwa [a7x, a1O]⟩)
 rw [e] at h
 exact h.out
end Go.Proofs.YteaaopodnbjpoaaGreat
end
section
set_option maxRecDepth 100000
set_option maxHeartbeats 4000000
namespace Go.Proofs.YteaaopodnbjpoaaGreat
open Go Go.Sx Go.RowKit Go.Proofs
theorem vU (s : ByteArray) : ∀ l : List TResult, (aU s l).length ≤ aH l
 | [] => by simp [aU]
 | x :: l => by
  have := vU s l
  unfold aU
  simp only [aH, wsum, List.length_cons] at this ⊢
  split
  ·unfold wResult; omega
  ·omega
theorem pU (l : List TResult) (s : ByteArray) (hl : aH l ≤ 67108864) : FnC Tryz.prog 115 [.o (.d (.sl (l.map aJ))), os s] (.o (.d (.sl ((aU s l).map fE)))) := (nI l s hl).pu (by simp only [go_sem, and_self])
theorem jX (l : List TResult) (s : ByteArray) (hl : aH l ≤ 67108864) : FnC Tryz.prog 93 [.o (.d (.sl (l.map aJ))), os s] (.o (.d (.sl ((aU s l).map fE)))) := (nJ l s hl).pu (by simp only [go_sem, and_self])
def b5p (v : TValue) : Int := if v.fKind = 1 then v.fInt else 0
theorem xS (f : TFile) (s : ByteArray) (hf : wFile f ≤ 4300000) : FnC Tryz.prog 296 [dC f, os s] (.t [(false, [.d (iv (b5p (dR s f.fAttrs)))]), (false, [.d (bv (decide ((dR s f.fAttrs).fKind = 1)))])]) := by
 refine ent Tryz.func296 rfl Tryz.call296 rfl (fun C => ?_); simp only [go_sem, st0, Tryz.ntmps296]
 by_cases h : (dR s f.fAttrs).fKind = 1
 ·have q0 := @h; have q1 := @decide_true; have q2 := @decide_false; refine mF (iW f s hf) ?_
  exact aA ⟨⟨_, rfl, by simp only [go_sem, b5p, h, if_true, decide_true]⟩, by simp [aK]⟩
 ·have q0 := @h; have q1 := @decide_true; have q2 := @decide_false; refine mF (iW f s hf) ?_
  exact aA ⟨⟨_, rfl, by simp only [go_sem, b5p, h, if_false, decide_false]⟩, by simp [aK]⟩
theorem a7z (q : List TNode) (f : TFile) (r : List TResult) (hv : okQ q = true) (hf : wFile f ≤ 4300000) (hr : aH r ≤ 67108864) : ∀ k i, i < k → k ≤ q.length → FnC Tryz.prog 257 [.o (.d (.sl (q.map bC))), oi (i : Nat), dC f, .o (.d (.sl (r.map aJ)))] (ob (mt q f r k i)) := by
 intro k
 induction k with
 | zero => intro i hi _; omega
 | succ k ih => ?_
 intro i hi hk
 have hlt : i < q.length := by omega
 have hn := List.getElem?_eq_getElem hlt
 have hok := a0h hv hn
 have hop := sW hok
 refine ent Tryz.func257 rfl Tryz.call257 rfl (fun C => ?_); simp only [go_sem, st0, Tryz.ntmps257]
 by_cases h2 : q[i].fOp = 2
 ·have hm : mt q f r (k + 1) i = !decide ((dR q[i].fName f.fAttrs).fKind = 0) := by simp [mt, hn, h2]
  have q0 := @hlt; have q1 := @h2; have q2 := @decide_true; refine mF (iW f q[i].fName hf) ?_
  exact aA ⟨⟨_, rfl, by simp only [go_sem, hm, decide_not]⟩, trivial⟩
 by_cases h3 : q[i].fOp = 3
 ·have hm : mt q f r (k + 1) i = a6n (dR q[i].fName f.fAttrs) q[i].fValue := by simp [mt, hn, h3]
  have q0 := @hlt; have q1 := @h2; have q2 := @h3; have q3 := @decide_true; have q4 := @decide_false; refine a2O (iW f q[i].fName hf) ?_
  exact aA ⟨⟨_, rfl, by simp only [go_sem, hm, a6n]⟩, trivial⟩
 by_cases h4 : q[i].fOp = 4
 ·have hm : mt q f r (k + 1) i = a4v (dR q[i].fName f.fAttrs) q[i].fValue.fInt := by simp [mt, hn, h4]
  by_cases hj : (dR q[i].fName f.fAttrs).fKind = 1
  ·repeat' (with_reducible first | refine nY ?_ | (refine mX ?_; try simp only [go_sem, hlt, h2, h3, h4, decide_true, decide_false, hj, b5p, if_true]) | refine kO ?_ (by decide) | refine a3M (by kernel_rfl) ?_ | (refine cC (xS f q[i].fName hf) ?_ ?_; focus simp only [go_sem, and_self]; done) | (refine And.intro ?_ ?_; focus omega))
   exact aA ⟨⟨_, rfl, by simp only [go_sem, hm, a4v, hj, decide_true, Bool.true_and]⟩, trivial⟩
  ·repeat' (with_reducible first | refine nY ?_ | (refine mX ?_; try simp only [go_sem, hlt, h2, h3, h4, decide_true, decide_false, hj, b5p, if_false]) | refine kO ?_ (by decide) | refine a3M (by kernel_rfl) ?_ | (refine cC (xS f q[i].fName hf) ?_ ?_; focus simp only [go_sem, and_self]; done) | (refine And.intro ?_ ?_; focus omega))
   exact aA ⟨⟨_, rfl, by simp only [go_sem, hm, a4v, hj, decide_false, Bool.false_and]⟩, trivial⟩
 by_cases h5 : q[i].fOp = 5
 ·obtain ⟨l, hl, hli⟩ := eB hok (.inl h5)
  have hm : mt q f r (k + 1) i = !mt q f r k l := by simp [mt, hn, h5, hl]
  have q0 := @hlt; have q1 := @h2; have q2 := @h3; have q3 := @h4; have q4 := @h5; have q5 := @decide_true; have q6 := @decide_false; have q7 := @hl; refine a2Q (ih l (by omega) (by omega)) ?_
  exact aA ⟨⟨_, rfl, by simp only [go_sem, hm]⟩, trivial⟩
 by_cases h6 : q[i].fOp = 6
 ·obtain ⟨l, hl, hli⟩ := eB hok (.inr (.inl h6))
  obtain ⟨m, hr2, hmi⟩ := gH hok (.inl h6)
  have hm : mt q f r (k + 1) i = (mt q f r k l && mt q f r k m) := by simp [mt, hn, h6, hl, hr2]
  cases hx : mt q f r k l
  all_goals
   have qH := aI @hlt (aI @h2 (aI @h3 (aI @h4 (aI @h5 (aI @h6 (aI @decide_true (aI @decide_false (aI @hl (aI @hr2 @hx))))))))); repeat' (with_reducible first | refine nY ?_ | (refine mX ?_; try simp only [go_sem, qH]) | refine kD ?_ | refine rD ?_ | refine cP (ih l (by omega) (by omega)) ?_ | refine cP (ih m (by omega) (by omega)) ?_ | refine aO ?_ | fail)
   exact aA ⟨⟨_, rfl, by simp only [go_sem, hm, hx, Bool.true_and, Bool.false_and]⟩, trivial⟩
 by_cases h7 : q[i].fOp = 7
 ·obtain ⟨l, hl, hli⟩ := eB hok (.inr (.inr h7))
  obtain ⟨m, hr2, hmi⟩ := gH hok (.inr h7)
  have hm : mt q f r (k + 1) i = (mt q f r k l || mt q f r k m) := by simp [mt, hn, h7, hl, hr2]
  cases hx : mt q f r k l
  all_goals
   have qH := aI @hlt (aI @h2 (aI @h3 (aI @h4 (aI @h5 (aI @h6 (aI @h7 (aI @decide_true (aI @decide_false (aI @hl (aI @hr2 @hx)))))))))); repeat' (with_reducible first | refine nY ?_ | (refine mX ?_; try simp only [go_sem, qH]) | refine kD ?_ | refine rD ?_ | refine cP (ih l (by omega) (by omega)) ?_ | refine cP (ih m (by omega) (by omega)) ?_ | refine aO ?_ | fail)
   exact aA ⟨⟨_, rfl, by simp only [go_sem, hm, hx, Bool.true_or, Bool.false_or]⟩, trivial⟩
 have hrl := vU q[i].fName r
 by_cases h8 : q[i].fOp = 8
 ·have hm : mt q f r (k + 1) i = hasI (aU q[i].fName r) f.fID := by simp [mt, hn, h8]
  have q0 := @hlt; have q1 := @h2; have q2 := @h3; have q3 := @h4; have q4 := @h5; have q5 := @h6; have q6 := @h7; have q7 := @h8; have q8 := @decide_true; have q9 := @decide_false; refine a6b (pU r q[i].fName hr) (mH (aU q[i].fName r) f.fID (by omega)) ?_
  exact aA ⟨⟨_, rfl, by simp only [go_sem, hm]⟩, trivial⟩
 by_cases h9 : q[i].fOp = 9
 ·have hm : mt q f r (k + 1) i = (!decide (f.fLink = 0) && hasI (aU q[i].fName r) f.fLink) := by simp [mt, hn, h9]
  by_cases hz : f.fLink = 0
  ·have qH := aI @hlt (aI @h2 (aI @h3 (aI @h4 (aI @h5 (aI @h6 (aI @h7 (aI @h8 (aI @h9 (aI @decide_true (aI @decide_false @hz)))))))))); repeat' (with_reducible first | refine nY ?_ | (refine mX ?_; try simp only [go_sem, qH]) | refine kD ?_ | refine rD ?_ | refine cP (pU r q[i].fName hr) ?_ | refine cP (mH (aU q[i].fName r) f.fLink (by omega)) ?_ | refine aO ?_ | fail)
   exact aA ⟨⟨_, rfl, by simp only [go_sem, hm, hz, decide_true, Bool.not_true, Bool.false_and]⟩, trivial⟩
  ·have qH := aI @hlt (aI @h2 (aI @h3 (aI @h4 (aI @h5 (aI @h6 (aI @h7 (aI @h8 (aI @h9 (aI @decide_true (aI @decide_false @hz)))))))))); repeat' (with_reducible first | refine nY ?_ | (refine mX ?_; try simp only [go_sem, qH]) | refine kD ?_ | refine rD ?_ | refine cP (pU r q[i].fName hr) ?_ | refine cP (mH (aU q[i].fName r) f.fLink (by omega)) ?_ | refine aO ?_ | fail)
   exact aA ⟨⟨_, rfl, by simp only [go_sem, hm, hz, decide_false, Bool.not_false, Bool.true_and]⟩, trivial⟩
 have h1 : q[i].fOp = 1 := by omega
 have hm : mt q f r (k + 1) i = true := by simp [mt, hn, h1]
 have qH := aI @hlt (aI @h1 (aI @h2 (aI @h3 (aI @h4 (aI @h5 (aI @h6 (aI @h7 (aI @h8 (aI @h9 (aI @decide_true @decide_false)))))))))); repeat' (with_reducible first | refine nY ?_ | (refine mX ?_; try simp only [go_sem, qH]) | refine kD ?_ | refine rD ?_ | refine aO ?_ | fail)
 exact aA ⟨⟨_, rfl, by simp only [go_sem, hm]⟩, trivial⟩
theorem a7A (q : List TNode) (f : TFile) (r : List TResult) (hv : okQ q = true) (hf : wFile f ≤ 4300000) (hr : aH r ≤ 67108864) : ∀ k i, i < k → k ≤ q.length → FnC Tryz.prog 250 [.o (.d (.sl (q.map bC))), oi (i : Nat), dC f, .o (.d (.sl (r.map aJ)))] (ob (mt q f r k i)) := by
 intro k
 induction k with
 | zero => intro i hi _; omega
 | succ k ih => ?_
 intro i hi hk
 have hlt : i < q.length := by omega
 have hn := List.getElem?_eq_getElem hlt
 have hok := a0h hv hn
 have hop := sW hok
 refine ent Tryz.func250 rfl Tryz.call250 rfl (fun C => ?_); simp only [go_sem, st0, Tryz.ntmps250]
 by_cases h1 : q[i].fOp = 1
 ·have hm : mt q f r (k + 1) i = true := by simp [mt, hn, h1]
  have q0 := @hlt; have q1 := @h1; have q2 := @decide_true; refine mF (dG f q[i].fName hf) ?_
  exact aA ⟨⟨_, rfl, by simp only [go_sem, hm]⟩, trivial⟩
 by_cases h2 : q[i].fOp = 2
 ·have hm : mt q f r (k + 1) i = !decide ((dR q[i].fName f.fAttrs).fKind = 0) := by simp [mt, hn, h2]
  have q0 := @hlt; have q1 := @h1; have q2 := @h2; have q3 := @decide_true; have q4 := @decide_false; refine a2O (dG f q[i].fName hf) ?_
  exact aA ⟨⟨_, rfl, by simp only [go_sem, hm, decide_not]⟩, trivial⟩
 by_cases h3 : q[i].fOp = 3
 ·have hm : mt q f r (k + 1) i = a6n (dR q[i].fName f.fAttrs) q[i].fValue := by simp [mt, hn, h3]
  have q0 := @hlt; have q1 := @h1; have q2 := @h2; have q3 := @h3; have q4 := @decide_true; have q5 := @decide_false; refine a2P (dG f q[i].fName hf) ?_
  exact aA ⟨⟨_, rfl, by simp only [go_sem, hm, a6n]⟩, trivial⟩
 by_cases h4 : q[i].fOp = 4
 ·have hm : mt q f r (k + 1) i = a4v (dR q[i].fName f.fAttrs) q[i].fValue.fInt := by simp [mt, hn, h4]
  by_cases hj : (dR q[i].fName f.fAttrs).fKind = 1
  ·have hj' : decide ((dR q[i].fName f.fAttrs).fKind = 1) = true := decide_eq_true hj
   have q0 := @hlt; have q1 := @h1; have q2 := @h2; have q3 := @h3; have q4 := @h4; have q5 := @decide_true; have q6 := @decide_false; have q7 := @hj'; refine a2Q (dG f q[i].fName hf) ?_
   exact aA ⟨⟨_, rfl, by simp only [go_sem, hm, a4v, hj, decide_true, Bool.true_and]⟩, trivial⟩
  ·have hj' : decide ((dR q[i].fName f.fAttrs).fKind = 1) = false := decide_eq_false hj
   have q0 := @hlt; have q1 := @h1; have q2 := @h2; have q3 := @h3; have q4 := @h4; have q5 := @decide_true; have q6 := @decide_false; have q7 := @hj'; refine a2Q (dG f q[i].fName hf) ?_
   exact aA ⟨⟨_, rfl, by simp only [go_sem, hm, a4v, hj, decide_false, Bool.false_and]⟩, trivial⟩
 by_cases h5 : q[i].fOp = 5
 ·obtain ⟨l, hl, hli⟩ := eB hok (.inl h5)
  have hm : mt q f r (k + 1) i = !mt q f r k l := by simp [mt, hn, h5, hl]
  have q0 := @hlt; have q1 := @h1; have q2 := @h2; have q3 := @h3; have q4 := @h4; have q5 := @h5; have q6 := @decide_true; have q7 := @decide_false; have q8 := @hl; refine a8L (dG f q[i].fName hf) (ih l (by omega) (by omega)) ?_
  exact aA ⟨⟨_, rfl, by simp only [go_sem, hm]⟩, trivial⟩
 by_cases h6 : q[i].fOp = 6
 ·obtain ⟨l, hl, hli⟩ := eB hok (.inr (.inl h6))
  obtain ⟨m, hr2, hmi⟩ := gH hok (.inl h6)
  have hm : mt q f r (k + 1) i = (mt q f r k l && mt q f r k m) := by simp [mt, hn, h6, hl, hr2]
  cases hx : mt q f r k l
  all_goals
   have qH := aI @hlt (aI @h1 (aI @h2 (aI @h3 (aI @h4 (aI @h5 (aI @h6 (aI @decide_true (aI @decide_false (aI @hl (aI @hr2 @hx)))))))))); repeat' (with_reducible first | refine nY ?_ | (refine mX ?_; try simp only [go_sem, qH]) | refine kD ?_ | refine rD ?_ | refine cP (dG f q[i].fName hf) ?_ | refine cP (ih l (by omega) (by omega)) ?_ | refine cP (ih m (by omega) (by omega)) ?_ | refine aO ?_ | fail)
   exact aA ⟨⟨_, rfl, by simp only [go_sem, hm, hx, Bool.true_and, Bool.false_and]⟩, trivial⟩
 by_cases h7 : q[i].fOp = 7
 ·obtain ⟨l, hl, hli⟩ := eB hok (.inr (.inr h7))
  obtain ⟨m, hr2, hmi⟩ := gH hok (.inr h7)
  have hm : mt q f r (k + 1) i = (mt q f r k l || mt q f r k m) := by simp [mt, hn, h7, hl, hr2]
  cases hx : mt q f r k l
  all_goals
   have qH := aI @hlt (aI @h1 (aI @h2 (aI @h3 (aI @h4 (aI @h5 (aI @h6 (aI @h7 (aI @decide_true (aI @decide_false (aI @hl (aI @hr2 @hx))))))))))); repeat' (with_reducible first | refine nY ?_ | (refine mX ?_; try simp only [go_sem, qH]) | refine kD ?_ | refine rD ?_ | refine cP (dG f q[i].fName hf) ?_ | refine cP (ih l (by omega) (by omega)) ?_ | refine cP (ih m (by omega) (by omega)) ?_ | refine aO ?_ | fail)
   exact aA ⟨⟨_, rfl, by simp only [go_sem, hm, hx, Bool.true_or, Bool.false_or]⟩, trivial⟩
 have hrl := vU q[i].fName r
 by_cases h8 : q[i].fOp = 8
 ·have hm : mt q f r (k + 1) i = hasI (aU q[i].fName r) f.fID := by simp [mt, hn, h8]
  have qH := aI @hlt (aI @h1 (aI @h2 (aI @h3 (aI @h4 (aI @h5 (aI @h6 (aI @h7 (aI @h8 (aI @decide_true @decide_false))))))))); repeat' (with_reducible first | refine nY ?_ | (refine mX ?_; try simp only [go_sem, qH]) | refine kD ?_ | refine rD ?_ | refine cP (dG f q[i].fName hf) ?_ | refine cP (jX r q[i].fName hr) ?_ | refine cP (iF (aU q[i].fName r) f.fID (by omega)) ?_ | refine aO ?_ | fail)
  exact aA ⟨⟨_, rfl, by simp only [go_sem, hm]⟩, trivial⟩
 have h9 : q[i].fOp = 9 := by omega
 have hm : mt q f r (k + 1) i = (!decide (f.fLink = 0) && hasI (aU q[i].fName r) f.fLink) := by simp [mt, hn, h9]
 by_cases hz : f.fLink = 0
 ·have hz1 : decide (f.fLink = 0) = true := decide_eq_true hz
  have hz2 : decide (¬ f.fLink = 0) = false := decide_eq_false (fun h => h hz)
  have qH := aI @hlt (aI @h1 (aI @h2 (aI @h3 (aI @h4 (aI @h5 (aI @h6 (aI @h7 (aI @h8 (aI @decide_true (aI @decide_false (aI @hz1 @hz2))))))))))); repeat' (with_reducible first | refine nY ?_ | (refine mX ?_; try simp only [go_sem, qH]) | refine kD ?_ | refine rD ?_ | refine cP (dG f q[i].fName hf) ?_ | refine cP (jX r q[i].fName hr) ?_ | refine cP (iF (aU q[i].fName r) f.fLink (by omega)) ?_ | refine aO ?_ | fail)
  exact aA ⟨⟨_, rfl, by simp only [go_sem, hm, hz, decide_true, Bool.not_true, Bool.false_and]⟩, trivial⟩
 ·have hz1 : decide (f.fLink = 0) = false := decide_eq_false hz
  have hz2 : decide (¬ f.fLink = 0) = true := decide_eq_true hz
  have qH := aI @hlt (aI @h1 (aI @h2 (aI @h3 (aI @h4 (aI @h5 (aI @h6 (aI @h7 (aI @h8 (aI @decide_true (aI @decide_false (aI @hz1 @hz2))))))))))); repeat' (with_reducible first | refine nY ?_ | (refine mX ?_; try simp only [go_sem, qH]) | refine kD ?_ | refine rD ?_ | refine cP (dG f q[i].fName hf) ?_ | refine cP (jX r q[i].fName hr) ?_ | refine cP (iF (aU q[i].fName r) f.fLink (by omega)) ?_ | refine aO ?_ | fail)
  exact aA ⟨⟨_, rfl, by simp only [go_sem, hm, hz, decide_false, Bool.not_false, Bool.true_and]⟩, trivial⟩
end Go.Proofs.YteaaopodnbjpoaaGreat
end
section
set_option maxRecDepth 100000
set_option maxHeartbeats 4000000
namespace Go.Proofs.YteaaopodnbjpoaaGreat
open Go Go.Sx Go.RowKit Go.Proofs
theorem b4V (b : List Int) (x : Int) (hb : b.length ≤ 67108864) : FnC Tryz.prog 243 [oi x, .o (.q [.sl (b.map fE)])] (ob (hasI b x)) := by
 refine ent Tryz.func243 rfl Tryz.call243 rfl (fun C => ?_); simp only [go_sem, st0, Tryz.ntmps243]
 refine gP (a0Y b x hb) ?_
 exact aA ⟨⟨_, rfl, by simp only [go_sem]⟩, trivial⟩
theorem a3Y (a b : List Int) (ha : a.length ≤ 67108864) (hb : b.length ≤ 67108864) : FnC Tryz.prog 193 [.o (.d (.sl (a.map fE))), .o (.d (.sl (b.map fE)))] (.o (.w 3 1 ((gQ a b).map fE))) := by
 refine ent Tryz.func193 rfl Tryz.call193 rfl (fun C => ?_); simp only [go_sem, st0, Tryz.ntmps193]
 have qH := trivial; repeat' (with_reducible first | refine nY ?_ | (refine mX ?_; try simp only [go_sem]) | refine kD ?_ | refine rD ?_ | refine cP (xQ a ha) ?_ | refine vI (xG _ [.sl (b.map fE)] (hasI b) a (fun s _ => b4V b s hb) ha) ?_ | refine vJ (xG _ [.sl (b.map fE)] (hasI b) a (fun s _ => b4V b s hb) ha) ?_ | refine aO ?_ | fail)
 exact aA ⟨⟨_, rfl, by simp only [go_sem, gQ]⟩, trivial⟩
theorem xF (a b : List Int) (ha : a.length ≤ 67108864) (hb : b.length ≤ 67108864) : FnC Tryz.prog 114 [.o (.d (.sl (a.map fE))), .o (.d (.sl (b.map fE)))] (.t [(false, [.w 3 1 ((gQ b a).map fE)]), (false, [.w 3 1 ((gQ a b).map fE)])]) := by
 refine ent Tryz.func114 rfl Tryz.call114 rfl (fun C => ?_); simp only [go_sem, st0, Tryz.ntmps114]
 refine a3S (a3Y b a hb ha) (a3Y a b ha hb) ?_
 exact aA ⟨⟨_, rfl, by simp only [go_sem]⟩, by simp [aK]⟩
theorem a6c (a b : List Int) (k : Nat) (h : k < a.length) : gQ (a.take (k + 1)) b = gQ (a.take k) b ++ (if hasI b a[k] then [] else [a[k]]) := by
 unfold gQ
 rw [List.take_succ_eq_append_getElem h, List.filter_append]
 cases hc : hasI b a[k]
 ·simp [hc]
 ·simp [hc]
theorem pI (a b : List Int) (ha : a.length ≤ 67108864) (hb : b.length ≤ 67108864) : FnC Tryz.prog 92 [.o (.d (.sl (a.map fE))), .o (.d (.sl (b.map fE)))] (.t [(false, [.w 3 1 ((gQ b a).map fE)]), (false, [.w 3 1 ((gQ a b).map fE)])]) := by
 refine ent Tryz.func92 rfl Tryz.call92 rfl (fun C => ?_); simp only [go_sem, st0, Tryz.ntmps92]
 refine aD ?_
 refine aN (α := Nat) (fun k => [(6, .o (.s 0)), (10, .o .u), (8, oi k)]) (fun k => [(0, .row 3 1 ((gQ (b.take k) a).map fE) true)]) (fun k => k ≤ b.length) (fun k => b.length - k) 0 (fun _ => ?_) ?_ ?_ (fun k hk => ?_)
 ·simp only [go_sem]
 ·simp only [go_sem]; simp [gQ]
 ·simp
 ·simp only [go_sem]
  refine aD ?_
  refine cnd rfl (fun h1 => ?_) (fun h1 => ?_)
  ·simp only [decide_eq_true_eq, Int.ofNat_lt] at h1
   have ht := a6c b a k h1
   have hl := nM (b.take k) a
   rw [List.length_take] at hl
   have hl1 : (gQ (b.take k) a).length + 1 ≤ 140737488355328 := by omega
   have hl2 : ((gQ (b.take k) a).length + 1) * 8 ≤ 140737488355328 := by omega
   cases hv : hasI a b[k]
   all_goals
    rw [hv] at ht
    have q0 := @h1; have q1 := @hv; have q2 := @hl1; have q3 := @hl2; refine a1J (iF a b[k] ha) ?_
    refine aF (k + 1) ?_ ?_ ?_
    ·simp only [go_sem, ht, List.map_append]; simp
    ·omega
    ·omega
  ·simp only [decide_eq_false_iff_not] at h1
   have e : k = b.length := by omega
   subst e
   rw [List.take_length]
   refine aD ?_
   refine aN (α := Nat) (fun k => [(7, .o (.s 1)), (11, .o .u), (9, oi k)]) (fun k => [(1, .row 3 1 ((gQ (a.take k) b).map fE) true)]) (fun k => k ≤ a.length) (fun k => a.length - k) 0 (fun _ => ?_) ?_ ?_ (fun k hk => ?_)
   ·simp only [go_sem]
   ·simp only [go_sem]; simp [gQ]
   ·simp
   ·simp only [go_sem]
    refine aD ?_
    refine cnd rfl (fun h1 => ?_) (fun h1 => ?_)
    ·simp only [decide_eq_true_eq, Int.ofNat_lt] at h1
     have ht := a6c a b k h1
     have hl := nM (a.take k) b
     rw [List.length_take] at hl
     have hl1 : (gQ (a.take k) b).length + 1 ≤ 140737488355328 := by omega
     have hl2 : ((gQ (a.take k) b).length + 1) * 8 ≤ 140737488355328 := by omega
     cases hv : hasI b a[k]
     all_goals
      rw [hv] at ht
      have q0 := @h1; have q1 := @hv; have q2 := @hl1; have q3 := @hl2; refine a1J (iF b a[k] hb) ?_
      refine aF (k + 1) ?_ ?_ ?_
      ·simp only [go_sem, ht, List.map_append]; simp
      ·omega
      ·omega
    ·simp only [decide_eq_false_iff_not] at h1
     have e : k = a.length := by omega
     subst e
     rw [List.take_length]
     refine aD ?_
     exact aA ⟨⟨_, rfl, by simp only [go_sem]⟩, by simp [aK]⟩
theorem uW (a b : List TResult) (ha : aH a ≤ 4300000) (hb : aH b ≤ 67108864) : FnC Tryz.prog 51 [.o (.d (.sl (a.map aJ))), .o (.d (.sl (b.map aJ)))] (.o (.w 100 3 ((gF a b).map dH))) := by
 have hb0 : b.length + wsum wResult b ≤ 67108864 := hb
 refine ent Tryz.func51 rfl Tryz.call51 rfl (fun C => ?_); simp only [go_sem, st0, Tryz.ntmps51]
 refine aD ?_
 refine aN (α := Nat) (fun k => [(5, .o (.s 0)), (10, .o .u), (13, oi k)]) (fun k => [(0, .row 100 3 ((gF a (b.take k)).map dH) true)]) (fun k => k ≤ b.length) (fun k => b.length - k) 0 (fun _ => ?_) ?_ ?_ (fun k hk => ?_)
 ·simp only [go_sem]
 ·simp only [go_sem]; simp [gF]
 ·simp
 ·simp only [go_sem]
  refine aD ?_
  refine cnd rfl (fun h1 => ?_) (fun h1 => ?_)
  ·simp only [decide_eq_true_eq, Int.ofNat_lt] at h1
   have ht := a4k a b k h1
   have hw := bA wResult b h1
   have ex : wResult b[k] = b[k].fName.size + b[k].fIDs.length := rfl
   have hr := a4l b[k].fName a
   have hl := a6j a b k
   have hl1 : (gF a (b.take k)).length + 1 ≤ 140737488355328 := by omega
   have hl2 : ((gF a (b.take k)).length + 1) * 64 ≤ 140737488355328 := by omega
   have hs1 := nM b[k].fIDs (aU b[k].fName a)
   have hs2 := nM (aU b[k].fName a) b[k].fIDs
   have hI : ((gQ b[k].fIDs (aU b[k].fName a)).length : Int) + ((gQ (aU b[k].fName a) b[k].fIDs).length : Int) = (((gQ b[k].fIDs (aU b[k].fName a)).length + (gQ (aU b[k].fName a) b[k].fIDs).length : Nat) : Int) := by omega
   by_cases hv : 0 < (gQ b[k].fIDs (aU b[k].fName a)).length + (gQ (aU b[k].fName a) b[k].fIDs).length
   ·have hz : (0 : Int) < (((gQ b[k].fIDs (aU b[k].fName a)).length + (gQ (aU b[k].fName a) b[k].fIDs).length : Nat) : Int) := by omega
    have hd : pM a b[k] = [⟨b[k].fName, gQ b[k].fIDs (aU b[k].fName a), gQ (aU b[k].fName a) b[k].fIDs⟩] := by unfold pM; rw [if_pos hv]
    rw [hd] at ht
    have qH := aI @h1 (aI @hl1 (aI @hl2 (aI @hI (aI @hz @decide_true)))); repeat' (with_reducible first | refine nY ?_ | (refine mX ?_; try simp only [go_sem, qH]) | refine kD ?_ | (apply rE [3,6] [] [0,1,2,4,5] [0,1,2,4,5] ((.c 3 [] [4,5] (.c 6 [7,8,9,10,11] [7,8,9,10,11] .n .n) .n)) (by simp only [go_sem]; rfl) (by simp only [go_sem]; rfl) (by simp only [go_sem]; rfl) (by decide +kernel); (focus simp only [go_sem]; done)) | exact dO | refine cB (uX ?_) ?_ | refine cK (aX ?_) ?_ | refine cO (aX ?_) ?_ | exact bZ | exact oH | exact uB | refine rD ?_ | refine cP (nI a b[k].fName (by omega)) ?_ | refine cP (xF (aU b[k].fName a) b[k].fIDs (by omega) (by omega)) ?_ | refine aO ?_ | fail)
    refine aF (k + 1) ?_ ?_ ?_
    ·simp only [go_sem, ht, List.map_append]; simp [dH]
    ·omega
    ·omega
   ·have hz : ¬ (0 : Int) < (((gQ b[k].fIDs (aU b[k].fName a)).length + (gQ (aU b[k].fName a) b[k].fIDs).length : Nat) : Int) := by omega
    have hd : pM a b[k] = [] := by unfold pM; rw [if_neg hv]
    rw [hd, List.append_nil] at ht
    have qH := aI @h1 (aI @hI (aI @hz @decide_false)); repeat' (with_reducible first | refine nY ?_ | (refine mX ?_; try simp only [go_sem, qH]) | refine kD ?_ | (apply rE [3,6] [] [0,1,2,4,5] [0,1,2,4,5] ((.c 3 [] [4,5] (.c 6 [7,8,9,10,11] [7,8,9,10,11] .n .n) .n)) (by simp only [go_sem]; rfl) (by simp only [go_sem]; rfl) (by simp only [go_sem]; rfl) (by decide +kernel); (focus simp only [go_sem]; done)) | exact dO | refine cB (uX ?_) ?_ | refine cK (aX ?_) ?_ | refine cO (aX ?_) ?_ | exact bZ | exact oH | exact uB | refine rD ?_ | refine cP (nI a b[k].fName (by omega)) ?_ | refine cP (xF (aU b[k].fName a) b[k].fIDs (by omega) (by omega)) ?_ | refine aO ?_ | fail)
    refine aF (k + 1) ?_ ?_ ?_
    ·simp only [go_sem, ht]; simp
    ·omega
    ·omega
  ·simp only [decide_eq_false_iff_not] at h1
   have e : k = b.length := by omega
   subst e
   refine aD ?_
   exact aA ⟨⟨_, rfl, by simp only [go_sem, List.take_length]⟩, trivial⟩
theorem a0Q (a b : List TResult) (ha : aH a ≤ 4300000) (hb : aH b ≤ 67108864) : FnC Tryz.prog 43 [.o (.d (.sl (a.map aJ))), .o (.d (.sl (b.map aJ)))] (.o (.w 100 3 ((gF a b).map dH))) := by
 have hb0 : b.length + wsum wResult b ≤ 67108864 := hb
 refine ent Tryz.func43 rfl Tryz.call43 rfl (fun C => ?_); simp only [go_sem, st0, Tryz.ntmps43]
 refine aD ?_
 refine aN (α := Nat) (fun k => [(5, .o (.s 0)), (9, .o .u), (6, oi k)]) (fun k => [(0, .row 100 3 ((gF a (b.take k)).map dH) true)]) (fun k => k ≤ b.length) (fun k => b.length - k) 0 (fun _ => ?_) ?_ ?_ (fun k hk => ?_)
 ·simp only [go_sem]
 ·simp only [go_sem]; simp [gF]
 ·simp
 ·simp only [go_sem]
  refine aD ?_
  refine cnd rfl (fun h1 => ?_) (fun h1 => ?_)
  ·simp only [decide_eq_true_eq, Int.ofNat_lt] at h1
   have ht := a4k a b k h1
   have hw := bA wResult b h1
   have ex : wResult b[k] = b[k].fName.size + b[k].fIDs.length := rfl
   have hr := a4l b[k].fName a
   have hl := a6j a b k
   have hl1 : (gF a (b.take k)).length + 1 ≤ 140737488355328 := by omega
   have hl2 : ((gF a (b.take k)).length + 1) * 64 ≤ 140737488355328 := by omega
   have hs1 := nM b[k].fIDs (aU b[k].fName a)
   have hs2 := nM (aU b[k].fName a) b[k].fIDs
   have hI : ((gQ b[k].fIDs (aU b[k].fName a)).length : Int) + ((gQ (aU b[k].fName a) b[k].fIDs).length : Int) = (((gQ b[k].fIDs (aU b[k].fName a)).length + (gQ (aU b[k].fName a) b[k].fIDs).length : Nat) : Int) := by omega
   by_cases hv : 0 < (gQ b[k].fIDs (aU b[k].fName a)).length + (gQ (aU b[k].fName a) b[k].fIDs).length
   ·have hd : pM a b[k] = [⟨b[k].fName, gQ b[k].fIDs (aU b[k].fName a), gQ (aU b[k].fName a) b[k].fIDs⟩] := by unfold pM; rw [if_pos hv]
    rw [hd] at ht
    by_cases hz1 : 0 < (gQ b[k].fIDs (aU b[k].fName a)).length
    ·have hz : (0 : Int) < ((gQ b[k].fIDs (aU b[k].fName a)).length : Int) := by omega
     have qH := aI @h1 (aI @hl1 (aI @hl2 (aI @hz @decide_true))); repeat' (with_reducible first | refine nY ?_ | (refine mX ?_; try simp only [go_sem, qH]) | refine kD ?_ | (apply rE [6,12] [] [0,1,2,3,4,5,7,8,9,10,11] [0,1,2,3,4,5,7,8,9,10,11] ((.c 6 [] [7,8,9,10,11] (.c 12 [13,14,15,16,17] [13,14,15,16,17] .n .n) .n)) (by simp only [go_sem]; rfl) (by simp only [go_sem]; rfl) (by simp only [go_sem]; rfl) (by decide +kernel); (focus simp only [go_sem]; done)) | exact dO | refine cB (uX ?_) ?_ | refine cK (aX ?_) ?_ | refine cO (aX ?_) ?_ | exact bZ | exact oH | exact uB | refine rD ?_ | refine cP (nJ a b[k].fName (by omega)) ?_ | refine cP (pI (aU b[k].fName a) b[k].fIDs (by omega) (by omega)) ?_ | refine aO ?_ | fail)
     refine aF (k + 1) ?_ ?_ ?_
     ·simp only [go_sem, ht, List.map_append]; simp [dH]
     ·omega
     ·omega
    ·have hz : ¬ (0 : Int) < ((gQ b[k].fIDs (aU b[k].fName a)).length : Int) := by omega
     have hy : (0 : Int) < ((gQ (aU b[k].fName a) b[k].fIDs).length : Int) := by omega
     have qH := aI @h1 (aI @hl1 (aI @hl2 (aI @hz (aI @hy (aI @decide_true @decide_false))))); repeat' (with_reducible first | refine nY ?_ | (refine mX ?_; try simp only [go_sem, qH]) | refine kD ?_ | (apply rE [6,12] [] [0,1,2,3,4,5,7,8,9,10,11] [0,1,2,3,4,5,7,8,9,10,11] ((.c 6 [] [7,8,9,10,11] (.c 12 [13,14,15,16,17] [13,14,15,16,17] .n .n) .n)) (by simp only [go_sem]; rfl) (by simp only [go_sem]; rfl) (by simp only [go_sem]; rfl) (by decide +kernel); (focus simp only [go_sem]; done)) | exact dO | refine cB (uX ?_) ?_ | refine cK (aX ?_) ?_ | refine cO (aX ?_) ?_ | exact bZ | exact oH | exact uB | refine rD ?_ | refine cP (nJ a b[k].fName (by omega)) ?_ | refine cP (pI (aU b[k].fName a) b[k].fIDs (by omega) (by omega)) ?_ | refine aO ?_ | fail)
     refine aF (k + 1) ?_ ?_ ?_
     ·simp only [go_sem, ht, List.map_append]; simp [dH]
     ·omega
     ·omega
   ·have hz : ¬ (0 : Int) < ((gQ b[k].fIDs (aU b[k].fName a)).length : Int) := by omega
    have hy : ¬ (0 : Int) < ((gQ (aU b[k].fName a) b[k].fIDs).length : Int) := by omega
    have hd : pM a b[k] = [] := by unfold pM; rw [if_neg hv]
    rw [hd, List.append_nil] at ht
    have qH := aI @h1 (aI @hz (aI @hy @decide_false)); repeat' (with_reducible first | refine nY ?_ | (refine mX ?_; try simp only [go_sem, qH]) | refine kD ?_ | (apply rE [6,12] [] [0,1,2,3,4,5,7,8,9,10,11] [0,1,2,3,4,5,7,8,9,10,11] ((.c 6 [] [7,8,9,10,11] (.c 12 [13,14,15,16,17] [13,14,15,16,17] .n .n) .n)) (by simp only [go_sem]; rfl) (by simp only [go_sem]; rfl) (by simp only [go_sem]; rfl) (by decide +kernel); (focus simp only [go_sem]; done)) | exact dO | refine cB (uX ?_) ?_ | refine cK (aX ?_) ?_ | refine cO (aX ?_) ?_ | exact bZ | exact oH | exact uB | refine rD ?_ | refine cP (nJ a b[k].fName (by omega)) ?_ | refine cP (pI (aU b[k].fName a) b[k].fIDs (by omega) (by omega)) ?_ | refine aO ?_ | fail)
    refine aF (k + 1) ?_ ?_ ?_
    ·simp only [go_sem, ht]; simp
    ·omega
    ·omega
  ·simp only [decide_eq_false_iff_not] at h1
   have e : k = b.length := by omega
   subst e
   refine aD ?_
   exact aA ⟨⟨_, rfl, by simp only [go_sem, List.take_length]⟩, trivial⟩
end Go.Proofs.YteaaopodnbjpoaaGreat
end
section
namespace Go.Proofs.YteaaopodnbjpoaaGreat
open Go Go.Sx Go.RowKit Go.Proofs
theorem b2g {α : Type} (l : List α) : (l.all fun _ => true) = true := by simp
def fstIx {α : Type} (p : α → Bool) : List α → Nat
 | [] => 0
 | x :: l => if p x then 0 else fstIx p l + 1
theorem tC {α : Type} (p : α → Bool) : ∀ l : List α, fstIx p l ≤ l.length
 | [] => by simp [fstIx]
 | x :: l => by
  have := tC p l
  unfold fstIx
  split <;> simp <;> omega
theorem idxP_fst {α : Type} (p : α → Bool) : ∀ (l : List α) (k : Nat), (dX p l k < 0 ∧ dX p l k = -1 ∧ fstIx p l = l.length) ∨ (dX p l k = ((k + fstIx p l : Nat) : Int) ∧ fstIx p l < l.length)
 | [], k => .inl ⟨by simp [dX], rfl, rfl⟩
 | x :: l, k => by
  unfold dX fstIx
  cases hx : p x with
  | true => exact .inr ⟨by simp, by simp⟩
  | false =>
   rcases idxP_fst p l (k + 1) with ⟨h0, h1, h2⟩ | ⟨h1, h2⟩
   ·exact .inl ⟨by simpa using h0, by simpa using h1, by simp [h2]⟩
   ·exact .inr ⟨by simp only [Bool.false_eq_true, if_false]; rw [h1]; congr 1; omega, by simp; omega⟩
theorem b0S {α : Type} (p : α → Bool) (l : List α) (k : Nat) (h : k < l.length) : fstIx p (l.drop k) = if p l[k] then 0 else fstIx p (l.drop (k + 1)) + 1 := by
 rw [List.drop_eq_getElem_cons h, fstIx]
def insAt {α : Type} (i : Nat) (x : α) (l : List α) : List α := l.take i ++ x :: l.drop i
theorem a6p {α : Type} (i : Nat) (x : α) (l : List α) (h : i ≤ l.length) : (insAt i x l).length = l.length + 1 := by simp [insAt]; omega
end Go.Proofs.YteaaopodnbjpoaaGreat
end
