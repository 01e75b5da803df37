/- Joined texts. -/
import Derived.Test.YtgfngchfmohhbaaDoorZ05
set_option linter.all false
section
namespace Go.Sx
open Go Go.RowKit
def a0X : Option Nat → SV → SV
 | none, s => s
 | some id, s => vH id s
def jU (φ : Option Nat) (T : List SV) : List SV := T.map (a0X φ)
theorem a0Y (φ : Option Nat) : a0X φ (.o .u) = .o .u := by cases φ <;> rfl
theorem aU (T : List SV) : jU none T = T := by
 have e : a0X none = id := rfl
 rw [jU, e, List.map_id]
def gQ (all : List Oper) : Nat → Nat → Nat → Bool
 | 0, a, b => match all[b]? with
  | some o => onE o a
  | none => false
 | n + 1, a, b => match all[b]? with
  | some o => onE o a || o.after.any fun e => Region.binds .any e && gQ all n a e.on
  | none => false
def a4B (all : List Oper) (L : Array Bool) : Prop := ∀ (b : Nat) (o : Oper), all[b]? = some o → L.getD b true = true → ∀ e ∈ o.after, Region.binds .any e = true → L.getD e.on true = true
theorem tF {all : List Oper} {L : Array Bool} {a b : Nat} {o : Oper} (ho : all[b]? = some o) (hd : ∀ e ∈ o.after, Region.binds .any e = true → L.getD e.on true = true) (h : onE o a = true) : L.getD a true = true := by
 obtain ⟨e, he, hb⟩ := Array.any_eq_true'.1 h
 simp only [Bool.and_eq_true, beq_iff_eq] at hb
 have := hd e he hb.1
 rwa [hb.2] at this
theorem kL {all : List Oper} {L : Array Bool} (hc : a4B all L) : ∀ (n a b : Nat) (o : Oper), all[b]? = some o → (∀ e ∈ o.after, Region.binds .any e = true → L.getD e.on true = true) → gQ all n a b = true → L.getD a true = true
 | 0, a, b, o, ho, hd, h => by
  unfold gQ at h; rw [ho] at h; exact tF ho hd h
 | n + 1, a, b, o, ho, hd, h => by
  unfold gQ at h
  rw [ho] at h
  rcases Bool.or_eq_true_iff.1 h with h | h
  ·exact tF ho hd h
  ·obtain ⟨e, he, hb⟩ := Array.any_eq_true'.1 h
   rw [Bool.and_eq_true] at hb
   have h1 := hd e he hb.1
   cases hq : all[e.on]? with
   | none => have := hb.2; cases n <;> (unfold gQ at this; rw [hq] at this; cases this)
   | some p => exact kL hc n a e.on p hq (hc e.on p hq h1) hb.2
def okE (all : List Oper) (ps ls : List Nat) : Bool := (ls.all fun i => ps.contains i) &&
 (List.range all.length).all fun i => a1t all i fun o =>
  (match o.guard with | none => true | some _ => false) && (o.after.all fun e => !Region.binds .any e || decide (e.on < i)) &&
  (ps.contains i || o.dst.isSome) &&
  ((List.range all.length).all fun j => a1t all j fun p => match p.dst with
   | none => true
   | some d => ((iD (opL o.op)).all fun t => t != d || onE o j || ls.contains j) && (j == i || o.dst != some d))
def a5w (all : List Oper) (ps dn rest w : List Nat) : Bool :=
 (List.range all.length).all fun i => ps.contains i || dn.any (fun e => gQ all 4 i e) || rest.any (fun e => gQ all 4 e i) || w.contains i
inductive PT where
 | n : PT
 | c : Nat → List Nat → List Nat → PT → PT → PT
def PT.tops : PT → List Nat
 | .n => []
 | .c p _ _ _ r => p :: r.tops
def PT.isNil : PT → Bool
 | .n => true
 | .c .. => false
def okN (all : List Oper) (ps dn rem w : List Nat) (t : PT) : Bool := a5w all ps dn rem w && rem.all fun p => (rem.any fun q => q != p && gQ all 4 q p) || t.tops.contains p
def uN (all : List Oper) (ps : List Nat) : PT → List Nat → List Nat → Bool
 | .n, _, _ => true
 | .c p li w' sub r, dn, rem => rem.contains p && (li.all fun i => !ps.contains i && gQ all 4 p i) && okN all ps (p :: dn) (rem.filter (· != p)) w' sub && uN all ps sub (p :: dn) (rem.filter (· != p)) && uN all ps r dn rem
def dP (all : List Oper) : List Nat → List Oper
 | [] => []
 | i :: l => match wJ all i with
  | some o => o :: dP all l
  | none => dP all l
theorem iT {all : List Oper} {o : Oper} : ∀ {l : List Nat}, o ∈ dP all l ↔ ∃ i ∈ l, all[i]? = some o
 | [] => by simp [dP]
 | j :: l => by
  have ih := iT (all := all) (o := o) (l := l)
  unfold dP
  rw [qM]
  cases hq : all[j]? with
  | none => simp only [ih, List.mem_cons]; constructor
            ·rintro ⟨i, h1, h2⟩; exact ⟨i, .inr h1, h2⟩
            ·rintro ⟨i, h1 | h1, h2⟩
             ·subst h1; rw [hq] at h2; cases h2
             ·exact ⟨i, h1, h2⟩
  | some p =>
   simp only [List.mem_cons, ih]
   constructor
   ·rintro (rfl | ⟨i, h1, h2⟩)
    ·exact ⟨j, .inl rfl, hq⟩
    ·exact ⟨i, .inr h1, h2⟩
   ·rintro ⟨i, h1 | h1, h2⟩
    ·subst h1; rw [hq] at h2; exact .inl (Option.some.inj h2).symm
    ·exact .inr ⟨i, h1, h2⟩
def lat (all : List Oper) (ls : List Nat) : List Oper := all.mapIdx fun i o => if ls.contains i then { o with dst := none } else o
theorem nN {all : List Oper} {ls : List Nat} {j d : Nat} {o' : Oper} (h : (lat all ls)[j]? = some o') (hd : o'.dst = some d) : ∃ o, all[j]? = some o ∧ o.dst = some d ∧ j ∉ ls := by
 unfold lat at h
 rw [List.getElem?_mapIdx] at h
 cases ho : all[j]? with
 | none => rw [ho] at h; cases h
 | some o =>
  rw [ho] at h
  simp only [Option.map_some, Option.some.injEq] at h
  split at h
  ·subst h; cases hd
  ·rename_i hn
   subst h
   exact ⟨o, rfl, hd, fun hm => hn (List.contains_iff_mem.2 hm)⟩
theorem tH {all : List Oper} {ls : List Nat} {j : Nat} {o : Oper} (h : all[j]? = some o) (hj : j ∉ ls) : (lat all ls)[j]? = some o := by
 unfold lat
 rw [List.getElem?_mapIdx, h, Option.map_some, if_neg (fun hm => hj (List.contains_iff_mem.1 hm))]
section
variable {E : Env}
def a3B : Op → Bool
 | .alloc _ => true
 | .assign _ => true
 | .move _ => true
 | .buildSlice .. => true
 | .store .. => true
 | .call c => match c.callee with
  | .builtin .append => true
  | _ => false
 | _ => false
def tJ (E : Env) (o : Oper) (st : St) (k : St → SV → Prop) : Prop := if a3B o.op then bC E o.op st k else a2o E o st fun h' s => k ⟨st.t, h'⟩ s
theorem nO {T : List SV} {st : St} : ∀ (l : List (Nat × Operand)) (n : Nat), (∀ p ∈ l, ev ⟨T, st.h⟩ p.2 = ev st p.2) → dV ⟨T, st.h⟩ n l = dV st n l
 | [], _, _ => rfl
 | (i, x) :: r, n, h => by
  have h1 : ev ⟨T, st.h⟩ x = ev st x := h (i, x) (by simp)
  simp only [dV, h1, nO r (n + 1) fun p hp => h p (by simp [hp])]
theorem a2G {op : Op} (ha : a3B op = true) {st : St} {k : St → SV → Prop} (h : bC E op st k) : ∃ φ h' s, (∀ T : List SV, (∀ x ∈ op.operands, ev ⟨T, st.h⟩ x = ev st x) → bC E op ⟨T, st.h⟩ fun st2 s2 => st2 = ⟨jU φ T, h'⟩ ∧ s2 = s) ∧ k ⟨jU φ st.t, h'⟩ s := by
 cases op <;> simp only [a3B, Bool.false_eq_true] at ha
 case alloc t =>
  simp only [bC] at h
  exact ⟨none, st.h ++ [.box t (E.T t).zero], _, fun T _ => by simp only [bC]; exact ⟨h.1, by rw [aU]; rfl, rfl⟩, by rw [aU]; exact h.2⟩
 case assign x => exact ⟨none, st.h, ev st x, fun T he => by simp only [bC, he x (by simp [Op.operands])]; exact ⟨by rw [aU], trivial⟩, by rw [aU]; exact h⟩
 case move x => exact ⟨none, st.h, ev st x, fun T he => by simp only [bC, he x (by simp [Op.operands])]; exact ⟨by rw [aU], trivial⟩, by rw [aU]; exact h⟩
 case buildSlice t len parts =>
  simp only [bC] at h
  unfold eF at h
  obtain ⟨h1, h2, h3, h4, h⟩ := h
  split at h
  ·rename_i cs e
   obtain ⟨h5, h⟩ := h
   split at h
   ·rename_i rows lin e2
    refine ⟨none, _, .o (.s st.h.length), fun T he => ?_, by rw [aU]; exact h.2⟩
    simp only [bC]
    unfold eF
    have hp : dV ⟨T, st.h⟩ 0 parts.toList = dV st 0 parts.toList := nO _ _ fun p hp => he p.2 (by rw [← Array.mem_toList_iff, ← a1T]; exact List.mem_map.2 ⟨p, hp, rfl⟩)
    refine ⟨h1, h2, h3, h4, ?_⟩
    rw [hp, e]
    refine ⟨h5, ?_⟩
    simp only [e2]
    exact ⟨h.1, by rw [aU], trivial⟩
   ·exact h.elim
  ·exact h.elim
 case store t x v =>
  have key : ∀ T : List SV, (∀ y ∈ (Op.store t x v).operands, ev ⟨T, st.h⟩ y = ev st y) → ev ⟨T, st.h⟩ x = ev st x ∧ ev ⟨T, st.h⟩ v = ev st v := fun T he => ⟨he x (by simp [Op.operands]), he v (by simp [Op.operands])⟩
  simp only [bC] at h
  split at h
  ·rename_i id sz i fo e
   unfold gM at h
   obtain ⟨h1, h2, h3, h4, h5, h⟩ := h
   split at h
   ·rename_i e1 e2
    split at h
    ·rename_i e3
     refine ⟨none, _, .t [], fun T he => ?_, by rw [aU]; exact h.2.2⟩
     obtain ⟨hx, hv⟩ := key T he
     simp only [bC, hx, hv, e]
     unfold gM
     refine ⟨h1, h2, h3, h4, h5, ?_⟩
     simp only [e1, e2, e3]
     exact ⟨h.1, h.2.1, by rw [aU], trivial⟩
    ·exact h.elim
   ·exact h.elim
  ·rename_i id sz i fo e
   unfold eU at h
   split at h
   ·rename_i e0
    split at h
    ·rename_i e1
     split at h
     ·rename_i e2 e3
      refine ⟨none, _, .t [], fun T he => ?_, by rw [aU]; exact h.2.2.2.2⟩
      obtain ⟨hx, hv⟩ := key T he
      simp only [bC, hx, hv, e]
      unfold eU
      simp only [e0, e1, e2, e3]
      exact ⟨h.1, h.2.1, h.2.2.1, h.2.2.2.1, by rw [aU], trivial⟩
     ·exact h.elim
    ·exact h.elim
   ·exact h.elim
  ·rename_i e0 e1
   unfold jD at h
   split at h
   ·rename_i e
    split at h
    ·rename_i e2
     split at h
     ·rename_i e3
      refine ⟨none, _, .t [], fun T he => ?_, by rw [aU]; exact h.2.2.2.2⟩
      obtain ⟨hx, hv⟩ := key T he
      simp only [bC, hx, hv, e]
      unfold jD
      simp only [e2, e3]
      exact ⟨h.1, h.2.1, h.2.2.1, h.2.2.2.1, by rw [aU], trivial⟩
     ·exact h.elim
    ·rename_i e2
     split at h
     ·rename_i e4
      split at h
      ·rename_i e3
       refine ⟨none, _, .t [], fun T he => ?_, by rw [aU]; exact h.2.2⟩
       obtain ⟨hx, hv⟩ := key T he
       simp only [bC, hx, hv, e]
       unfold jD
       simp only [e2, e4, e3]
       exact ⟨h.1, h.2.1, by rw [aU], trivial⟩
      ·exact h.elim
     ·exact h.elim
    ·exact h.elim
   ·exact h.elim
 case call c =>
  have hc : c.callee = .builtin .append := by
   split at ha
   ·rename_i e; exact e
   ·cases ha
  simp only [bC, dR, hc] at h
  split at h
  ·rename_i s x t t' e1 e2
   have key : ∀ T : List SV, (∀ y ∈ (Op.call c).operands, ev ⟨T, st.h⟩ y = ev st y) → ev ⟨T, st.h⟩ s = ev st s ∧ ev ⟨T, st.h⟩ x = ev st x := fun T he =>
    ⟨he s (by simp only [Op.operands, Call.operands, Array.mem_append]; exact .inr (by rw [← Array.mem_toList_iff, e1]; simp)), he x (by simp only [Op.operands, Call.operands, Array.mem_append]; exact .inr (by rw [← Array.mem_toList_iff, e1]; simp))⟩
   have src : ∀ (T : List SV) (y : SV), a0j ⟨T, st.h⟩ y = a0j st y := fun T y => by unfold a0j; rfl
   obtain ⟨h0, h⟩ := h
   unfold iQ at h
   obtain ⟨h1, h2, h⟩ := h
   split at h
   ·rename_i rows2 lin2 ids e3
    obtain ⟨h3, h⟩ := h
    split at h
    ·rename_i id e4
     split at h
     ·rename_i ty sz rows lin e5
      refine ⟨some id, _, .o (.s id), fun T he => ?_, h.2.2.2.2.2⟩
      obtain ⟨hs, hx⟩ := key T he
      simp only [bC, dR, hc, e1, e2]
      refine ⟨h0, ?_⟩
      unfold iQ
      refine ⟨h1, h2, ?_⟩
      rw [hx, src, e3]
      refine ⟨h3, ?_⟩
      rw [hs, e4]
      simp only [e5]
      exact ⟨h.1, h.2.1, h.2.2.1, h.2.2.2.1, h.2.2.2.2.1, rfl, trivial⟩
     ·exact h.elim
    ·rename_i e4
     refine ⟨none, _, _, fun T he => ?_, by rw [aU]; exact h.2.2⟩
     obtain ⟨hs, hx⟩ := key T he
     simp only [bC, dR, hc, e1, e2]
     refine ⟨h0, ?_⟩
     unfold iQ
     refine ⟨h1, h2, ?_⟩
     rw [hx, src, e3]
     refine ⟨h3, ?_⟩
     rw [hs, e4]
     exact ⟨h.1, h.2.1, by rw [aU], rfl⟩
    ·exact h.elim
   ·exact h.elim
  ·exact h.elim
end
section
variable {E : Env}
def oN (E : Env) (all : List Oper) : PT → St → (St → Prop) → Prop
 | .n, _, _ => True
 | .c p li w' sub r, st, K => (∃ o, all[p]? = some o ∧ tJ E o st fun st' s => rP E all (dP all li) (st'.put o.dst s) fun st'' => kZ E st'' (dP all w') ∧ if sub.isNil = true then K st'' else oN E all sub st'' K) ∧ oN E all r st K
theorem a0Z {all : List Oper} {ps dn rem : List Nat} {st : St} {K : St → Prop} {p : Nat} : ∀ {t : PT}, p ∈ t.tops → uN all ps t dn rem = true → oN E all t st K → ∃ li w' sub, (li.all fun i => !ps.contains i && gQ all 4 p i) = true ∧ okN all ps (p :: dn) (rem.filter (· != p)) w' sub = true ∧ uN all ps sub (p :: dn) (rem.filter (· != p)) = true ∧
    ∃ o, all[p]? = some o ∧ tJ E o st fun st' s => rP E all (dP all li) (st'.put o.dst s) fun st'' => kZ E st'' (dP all w') ∧ if sub.isNil = true then K st'' else oN E all sub st'' K
 | .n, h, _, _ => by simp [PT.tops] at h
 | .c q li w' sub r, h, ho, hv => by
  unfold uN at ho
  simp only [Bool.and_eq_true] at ho
  obtain ⟨⟨⟨⟨h1, h2⟩, h3⟩, h4⟩, h5⟩ := ho
  obtain ⟨v1, v2⟩ := hv
  simp only [PT.tops, List.mem_cons] at h
  rcases h with rfl | h
  ·exact ⟨li, w', sub, h2, h3, h4, v1⟩
  ·exact a0Z h h5 v2
theorem tK {all : List Oper} : ∀ {l : List Oper} {st : St} {K : St → Prop}, rP E all l st K → ∃ st1, K st1 ∧ st1.h = st.h ∧ st1.t.length = st.t.length ∧ ∀ d, (∀ o ∈ l, o.dst ≠ some d) → nth st1.t d = nth st.t d
 | [], st, K, h => ⟨st, h, rfl, rfl, fun _ _ => rfl⟩
 | o :: l, st, K, h => by
  obtain ⟨s, h1, _⟩ := a0L h
  obtain ⟨st1, k1, k2, k3, k4⟩ := tK h1
  refine ⟨st1, k1, by rw [k2, yD], by rw [k3, wS], fun d hd => ?_⟩
  rw [k4 d fun p hp => hd p (List.mem_cons_of_mem _ hp)]
  cases ho : o.dst with
  | none => rfl
  | some e => exact a0U fun e2 => hd o (by simp) (by rw [ho, e2])
theorem zA (φ : Option Nat) (T : List SV) (d : Nat) : nth (jU φ T) d = a0X φ (nth T d) := by
 rw [jA, jA, List.getD_eq_getElem?_getD, List.getD_eq_getElem?_getD, jU, List.getElem?_map]
 cases T[d]? with
 | none => simp [a0Y]
 | some s => rfl
theorem a2H {o : Oper} {st : St} {k : St → SV → Prop} (h : tJ E o st k) : ∃ φ h' s, (∀ T : List SV, (∀ x ∈ o.op.operands, ev ⟨T, st.h⟩ x = ev st x) → bC E o.op ⟨T, st.h⟩ fun st2 s2 => st2 = ⟨jU φ T, h'⟩ ∧ s2 = s) ∧ k ⟨jU φ st.t, h'⟩ s := by
 unfold tJ at h
 split at h
 ·rename_i ha; exact a2G ha h
 ·unfold a2o at h
  split at h
  ·rename_i c hop
   split at h
   ·rename_i f hc
    split at h
    ·rename_i fn caps hfn
     obtain ⟨h', s', hcall, hk⟩ := h
     refine ⟨none, h', s', fun T he => ?_, by rw [aU]; exact hk⟩
     rw [hop] at he
     have hfe : ev ⟨T, st.h⟩ f = ev st f := he f (by simp [Op.operands, Call.operands, hc])
     have hargs : c.args.toList.map (ev ⟨T, st.h⟩) = c.args.toList.map (ev st) := List.map_congr_left fun x hx => he x (by simp only [Op.operands, Call.operands, Array.mem_append]; exact .inr (by simpa using hx))
     rw [hop]
     simp only [bC, dR, hc, hfe, hfn, hargs]
     rw [aU]
     exact ⟨hcall T⟩
    ·exact h.elim
   ·exact h.elim
  ·exact h.elim
theorem a3C {all : List Oper} {listed : Array Bool} {i d : Nat} {o : Oper} {T : List SV} {H : List HB} (s6 : ∀ (j : Nat) (p : Oper) (d : Nat), all[j]? = some p → p.dst = some d → j ≠ i → o.dst ≠ some d) (ho : all[i]? = some o) (hd : o.dst = some d) :
    St.put ⟨fK all listed T, H⟩ o.dst (nth T d) = ⟨fK all (listed.setIfInBounds i true) T, H⟩ := by
 have keep : ∀ j, j ≠ i → (listed.setIfInBounds i true).getD j true = listed.getD j true := fun j hj => getD_set_ne true (fun e => hj e.symm)
 rw [hd]
 simp only [St.put, jB]
 congr 1
 apply List.ext_getElem?
 intro m
 rw [List.getElem?_set]
 rcases Nat.lt_or_ge m T.length with hm | hm
 ·rw [iL (l := fK all (listed.setIfInBounds i true) T) (by rw [bT]; exact hm), gN]
  by_cases e : d = m
  ·subst e
   rw [if_pos rfl, if_pos (by rw [bT]; exact hm)]
   have : jT all (listed.setIfInBounds i true) d = false := by
    cases hh : jT all (listed.setIfInBounds i true) d with
    | false => rfl
    | true =>
     obtain ⟨j, p, hj, hd2, hu⟩ := (fF _ _ d).1 hh
     by_cases e : j = i
     ·subst e; rw [bA] at hu; cases hu
     ·exact (s6 j p d hj hd2 e hd).elim
   rw [this]; simp
  ·rw [if_neg e, iL (by rw [bT]; exact hm), gN]
   have : jT all (listed.setIfInBounds i true) m = jT all listed m := by
    rw [Bool.eq_iff_iff, fF, fF]
    constructor
    ·rintro ⟨j, p, hj, hd2, hu⟩
     refine ⟨j, p, hj, hd2, ?_⟩
     by_cases e2 : j = i
     ·subst e2; rw [bA] at hu; cases hu
     ·rwa [keep j e2] at hu
    ·rintro ⟨j, p, hj, hd2, hu⟩
     refine ⟨j, p, hj, hd2, ?_⟩
     by_cases e2 : j = i
     ·subst e2; rw [ho] at hj; cases hj; rw [hd] at hd2; cases hd2; exact (e rfl).elim
     ·rwa [keep j e2]
   rw [this]
 ·rw [List.getElem?_eq_none (l := fK all (listed.setIfInBounds i true) T) (by rw [bT]; exact hm)]
  split
  ·rename_i e; subst e
   rw [if_neg (by rw [bT]; omega)]
  ·rw [List.getElem?_eq_none (l := fK all listed T) (by rw [bT]; exact hm)]
theorem a4C (hT : TyOK E.P E.T) (hE : ∀ t, E.eqk t ≠ [] → EqT E.P t (E.eqk t)) {all : List Oper} {ps0 ls : List Nat} (hok : okE all ps0 ls = true) {Q : Exit → Act → World → Prop} {K : St → Prop} (hQ : ∀ g V st a w, Rel E.C g V st a w → K st → Q .normal a w) :
    ∀ (n : Nat) (listed : Array Bool) (dn rem : List Nat) (t : PT) (wi : List Nat) (st : St) (g : List Gh) (V : View) (a : Act) (w : World), listed.size = all.length → a0p all listed ≤ n → a4B all listed → okN all ps0 dn rem wi t = true → uN all ps0 t dn rem = true → (∀ e ∈ dn, listed.getD e true = true) → (∀ q ∈ rem, q < all.length ∧ q ∈ ps0 ∧ listed.getD q true = false) → (∀ i, i < all.length → i ∈ ps0 → listed.getD i true = false → i ∈ rem) →
     kZ E st (dP all wi) → (if t.isNil = true then K st else oN E all t st K) → Rel E.C g V ⟨fK (lat all ls) listed st.t, st.h⟩ a w → wpAny E.P .any all.toArray Q n listed a w := by
 unfold okE at hok
 rw [Bool.and_eq_true] at hok
 obtain ⟨hls0, hok⟩ := hok
 have hls : ∀ i ∈ ls, i ∈ ps0 := fun i hi => List.contains_iff_mem.1 (List.all_eq_true.1 hls0 i hi)
 have spec : ∀ (i : Nat) (o : Oper), all[i]? = some o → o.guard = none ∧ (∀ e ∈ o.after, Region.binds .any e = true → e.on < i) ∧ (i ∉ ps0 → ∃ d, o.dst = some d) ∧
     (∀ (j : Nat) (p : Oper) (d : Nat), all[j]? = some p → p.dst = some d → (∀ t ∈ iD (opL o.op), t = d → onE o j = true ∨ j ∈ ls) ∧ (j ≠ i → o.dst ≠ some d)) := fun i o ho => by
  have h := List.all_eq_true.1 hok i (List.mem_range.2 (List.getElem?_eq_some_iff.1 ho).1)
  unfold a1t at h
  rw [ho] at h
  simp only [Bool.and_eq_true] at h
  obtain ⟨⟨⟨h1, h2⟩, h4⟩, h5⟩ := h
  refine ⟨?_, fun e he hb => ?_, fun hs => ?_, fun j p d hj hd => ?_⟩
  ·cases hg : o.guard with
   | none => rfl
   | some x => rw [hg] at h1; cases h1
  ·have := (Array.all_eq_true_iff_forall_mem.1 h2) e he
   rw [hb] at this
   simpa using this
  ·rcases Bool.or_eq_true_iff.1 h4 with h | h
   ·exact (hs (List.contains_iff_mem.1 h)).elim
   ·exact Option.isSome_iff_exists.1 h
  ·have h := List.all_eq_true.1 h5 j (List.mem_range.2 (List.getElem?_eq_some_iff.1 hj).1)
   rw [hj] at h
   simp only [hd, Bool.and_eq_true] at h
   refine ⟨fun t ht e => ?_, fun hne => ?_⟩
   ·have := List.all_eq_true.1 h.1 t ht
    subst e
    simp only [bne_self_eq_false, Bool.false_or, Bool.or_eq_true] at this
    exact this.imp id List.contains_iff_mem.1
   ·rcases Bool.or_eq_true_iff.1 h.2 with h | h
    ·exact (hne (beq_iff_eq.1 h)).elim
    ·simpa using h
 have toT : ∀ {listed : Array Bool} {j : Nat}, listed.getD j false = true → listed.getD j true = true := fun {listed j} h => by
  rcases Nat.lt_or_ge j listed.size with h' | h'
  ·simp [h'] at h ⊢; exact h
  ·simp [Array.getElem?_eq_none h'] at h
 have fin : ∀ (listed : Array Bool) (dn rem : List Nat) (t : PT) (wi : List Nat) (st : St) (g : List Gh) (V : View) (a : Act) (w : World), (∀ j, j < all.length → listed.getD j true = true) → uN all ps0 t dn rem = true → (∀ q ∈ rem, q < all.length ∧ q ∈ ps0 ∧ listed.getD q true = false) → (if t.isNil = true then K st else oN E all t st K) → Rel E.C g V ⟨fK (lat all ls) listed st.t, st.h⟩ a w → Q .normal a w := fun listed dn rem t wi st g V a w hl hpt h2 hv hr => by
  have hm : fK (lat all ls) listed st.t = st.t := by
   apply List.ext_getElem?
   intro d
   rcases Nat.lt_or_ge d st.t.length with h | h
   ·rw [iL (by rw [bT]; exact h), iL h, gN]
    have : jT (lat all ls) listed d = false := by
     cases hh : jT (lat all ls) listed d with
     | false => rfl
     | true =>
      obtain ⟨j, o', ho', hd', hu⟩ := (fF (lat all ls) listed d).1 hh
      obtain ⟨o, ho, _, _⟩ := nN ho' hd'
      rw [hl j (List.getElem?_eq_some_iff.1 ho).1] at hu; cases hu
    rw [this]; simp
   ·rw [List.getElem?_eq_none (by rw [bT]; exact h), List.getElem?_eq_none h]
  rw [hm] at hr
  cases t with
  | n => exact hQ _ _ _ _ _ hr hv
  | c p li w' sub r =>
   unfold uN at hpt
   simp only [Bool.and_eq_true] at hpt
   obtain ⟨h3, _, h4⟩ := h2 p (List.contains_iff_mem.1 hpt.1.1.1.1)
   rw [hl _ h3] at h4; cases h4
 have none_left : ∀ (listed : Array Bool), listed.size = all.length → Region.ready .any all.toArray listed = [] → ∀ j, j < all.length → listed.getD j true = true := fun listed hsz hr => by
  intro j
  induction j using Nat.strongRecOn with
  | _ j ih =>
   intro hj
   cases hq : listed.getD j true with
   | true => rfl
   | false =>
    have ho : all[j]? = some (all[j]'hj) := List.getElem?_eq_getElem hj
    have : j ∈ Region.ready .any all.toArray listed := mem_ready.2 ⟨hq, _, toA ho, fun e he hb => by
     have hlt := (spec j _ ho).2.1 e he hb
     have h1 := ih e.on hlt (by omega)
     have hes : e.on < listed.size := by omega
     simp [hes] at h1 ⊢; exact h1⟩
    rw [hr] at this; cases this
 intro n
 induction n with
 | zero =>
  intro listed dn rem t wi st g V a w hsz hn hclo hokn hokt hdn hphs hall hchk hv hr
  have hl : ∀ j, j < all.length → listed.getD j true = true := fun j hj => by
   cases hq : listed.getD j true with
   | true => rfl
   | false =>
    have : j ∈ (List.range all.length).filter fun j => !listed.getD j true := List.mem_filter.2 ⟨List.mem_range.2 hj, by rw [hq]; rfl⟩
    have := List.length_pos_of_mem this
    unfold a0p at hn
    omega
  refine ⟨List.eq_nil_iff_forall_not_mem.2 fun i hi => ?_, fin listed dn rem t wi st g V a w hl hokt hphs hv hr⟩
  obtain ⟨h1, o, h2, _⟩ := mem_ready.1 hi
  rw [hl i (by simpa using (Array.getElem?_eq_some_iff.1 h2).1)] at h1; cases h1
 | succ n ih =>
  intro listed dn rem t wi st g V a w hsz hn hclo hokn hokt hdn hphs hall hchk hv hr
  refine ⟨fun he => fin listed dn rem t wi st g V a w (none_left listed hsz he) hokt hphs hv hr, fun i hi => ?_⟩
  obtain ⟨hun, o, ho', haft⟩ := mem_ready.1 hi
  have ho : all[i]? = some o := by simpa using ho'
  have hil := (List.getElem?_eq_some_iff.1 ho).1
  obtain ⟨s1, s2, s5, s6⟩ := spec i o ho
  have hun' : a0p all (listed.setIfInBounds i true) ≤ n := by have := a1u hil hun; omega
  have haft' : ∀ e ∈ o.after, Region.binds .any e = true → listed.getD e.on true = true := fun e he hb => toT (haft e he hb)
  have keep : ∀ j, j ≠ i → (listed.setIfInBounds i true).getD j true = listed.getD j true := fun j hj => getD_set_ne true (fun e => hj e.symm)
  have up : ∀ j, listed.getD j true = true → (listed.setIfInBounds i true).getD j true = true := fun j hj => by
   by_cases e : j = i
   ·subst e; rw [bA]
   ·rw [keep j e]; exact hj
  have hclo' : a4B all (listed.setIfInBounds i true) := fun b p hb hl e he hbd => by
   by_cases e2 : b = i
   ·subst e2; rw [ho] at hb; cases hb; exact up _ (haft' e he hbd)
   ·rw [keep b e2] at hl; exact up _ (hclo b p hb hl e he hbd)
  have evEq : ∀ x ∈ o.op.operands, ev ⟨fK (lat all ls) listed st.t, st.h⟩ x = ev st x := fun x hx => by
   cases x with
   | tmp t =>
    show nth (fK (lat all ls) listed st.t) t = nth st.t t
    rw [gN]
    have : jT (lat all ls) listed t = false := by
     cases hh : jT (lat all ls) listed t with
     | false => rfl
     | true =>
      obtain ⟨j, p', hj', hd', hu⟩ := (fF (lat all ls) listed t).1 hh
      obtain ⟨p, hj, hd, hnl⟩ := nN hj' hd'
      rcases (s6 j p t hj hd).1 t (lS.2 (by rw [a1T]; simpa using hx)) rfl with h1 | h1
      ·have h2 := tF ho haft' h1
       rw [hu] at h2; cases h2
      ·exact (hnl h1).elim
    rw [this]; simp
   | const v => rfl
   | func f => rfl
   | global m => rfl
  unfold wpOp
  rw [ho']
  simp only [Region.wanted, s1, if_true]
  refine .inl ?_
  have hwin : ∀ (rest : List Nat), a5w all ps0 dn rest wi = true → i ∉ ps0 → (∀ e ∈ rest, listed.getD e true = false) → i ∈ wi := fun rest hw hni hrest => by
   have h := List.all_eq_true.1 hw i (List.mem_range.2 hil)
   simp only [Bool.or_eq_true] at h
   rcases h with ((h | h) | h) | h
   ·exact (hni (List.contains_iff_mem.1 h)).elim
   ·obtain ⟨e, he, hr⟩ := List.any_eq_true.1 h
    have hle := hdn e he
    cases hq : all[e]? with
    | none => unfold gQ at hr; rw [hq] at hr; cases hr
    | some p =>
     have := kL hclo 4 i e p hq (hclo e p hq hle) hr
     rw [hun] at this; cases this
   ·obtain ⟨e, he, hr⟩ := List.any_eq_true.1 h
    have := kL hclo 4 e i o ho haft' hr
    rw [hrest e he] at this; cases this
   ·exact List.contains_iff_mem.1 h
  by_cases hp : i ∈ ps0
  ·have hip := hall i hil hp hun
   have htop : i ∈ t.tops := by
    unfold okN at hokn
    rw [Bool.and_eq_true] at hokn
    have h1 := List.all_eq_true.1 hokn.2 i hip
    rcases Bool.or_eq_true_iff.1 h1 with h | h
    ·obtain ⟨q, hq, hr⟩ := List.any_eq_true.1 h
     rw [Bool.and_eq_true] at hr
     have h2 := kL hclo 4 q i o ho haft' hr.2
     rw [(hphs q hq).2.2] at h2; cases h2
    ·exact List.contains_iff_mem.1 h
   have hv' : oN E all t st K := by
    cases t with
    | n => simp [PT.tops] at htop
    | c => exact hv
   obtain ⟨l, w', sub, hw3, hw4, hw5, o2, ho2, hvo⟩ := a0Z htop hokt hv'
   rw [ho] at ho2; cases ho2
   obtain ⟨p, rfl⟩ : ∃ p, p = i := ⟨i, rfl⟩
   have hphs0 := hphs
   ·skip
    obtain ⟨φ, h', s, hsw, hk⟩ := a2H hvo
    obtain ⟨st1, k1, k2, k3, k4⟩ := tK hk
    refine mY hT hE (hsw _ evEq) hr fun g' V' st' w2 s2 y hr' hsy hk2 => ?_
    obtain ⟨rfl, rfl⟩ := hk2
    have hr2 := hr'.put o.dst hsy
    have hh1 : st1.h = h' := by rw [k2, yD]
    have hlen1 : st1.t.length = st.t.length := by rw [k3, wS]; simp [jU]
    have e : (St.put ⟨jU φ (fK (lat all ls) listed st.t), h'⟩ o.dst s2) = ⟨fK (lat all ls) (listed.setIfInBounds p true) st1.t, st1.h⟩ := by
     rw [hh1]
     have key : ∀ m, m < st.t.length → nth (St.put ⟨jU φ (fK (lat all ls) listed st.t), h'⟩ o.dst s2).t m = nth (fK (lat all ls) (listed.setIfInBounds p true) st1.t) m := fun m hm => by
      rw [gN]
      by_cases ed : o.dst = some m
      ·have hid : jT (lat all ls) (listed.setIfInBounds p true) m = false := by
        cases hh : jT (lat all ls) (listed.setIfInBounds p true) m with
        | false => rfl
        | true =>
         obtain ⟨j, q', hj', hd', hu⟩ := (fF _ _ m).1 hh
         obtain ⟨q, hj, hd2, _⟩ := nN hj' hd'
         by_cases e : j = p
         ·subst e; rw [bA] at hu; cases hu
         ·exact ((s6 j q m hj hd2).2 e ed).elim
       have hnl : ∀ q ∈ dP all l, q.dst ≠ some m := fun q hq hd => by
        obtain ⟨j, hj, hjq⟩ := iT.1 hq
        have h1 := List.all_eq_true.1 hw3 j hj
        simp only [Bool.and_eq_true] at h1
        by_cases e : j = p
        ·subst e
         have := h1.1
         simp [hp] at this
        ·exact (s6 j q m hjq hd).2 e ed
       rw [hid, k4 m hnl, ed]
       simp only [St.put, jB, jA, List.getD_eq_getElem?_getD, List.getElem?_set, Bool.false_eq_true, if_false, if_true]
       rw [if_pos (by simp [jU, bT]; exact hm), if_pos (by simp [jU]; exact hm)]
      ·have ep : ∀ (T : List SV) (H : List HB), nth (St.put ⟨T, H⟩ o.dst s2).t m = nth T m := fun T H => by
        cases hq : o.dst with
        | none => rfl
        | some d => exact a0U (st := ⟨T, H⟩) fun e => ed (by rw [hq, e])
       rw [ep, zA, gN]
       have ehid : jT (lat all ls) (listed.setIfInBounds p true) m = jT (lat all ls) listed m := by
        rw [Bool.eq_iff_iff, fF, fF]
        constructor
        ·rintro ⟨j, q, hj, hd2, hu⟩
         refine ⟨j, q, hj, hd2, ?_⟩
         by_cases e2 : j = p
         ·subst e2; rw [bA] at hu; cases hu
         ·rwa [keep j e2] at hu
        ·rintro ⟨j, q, hj, hd2, hu⟩
         refine ⟨j, q, hj, hd2, ?_⟩
         by_cases e2 : j = p
         ·subst e2
          obtain ⟨q0, hq0, hd3, _⟩ := nN hj hd2
          rw [ho] at hq0; cases hq0; exact (ed hd3).elim
         ·rwa [keep j e2]
       rw [ehid]
       cases hh : jT (lat all ls) listed m with
       | true => simp [a0Y]
       | false =>
        simp only [Bool.false_eq_true, if_false]
        have hnl : ∀ q ∈ dP all l, q.dst ≠ some m := fun q hq hd => by
         obtain ⟨j, hj, hjq⟩ := iT.1 hq
         have h1 := List.all_eq_true.1 hw3 j hj
         simp only [Bool.and_eq_true] at h1
         have hju : listed.getD j true = false := by
          cases hx : listed.getD j true with
          | false => rfl
          | true =>
           have := kL hclo 4 p j q hjq (hclo j q hjq hx) h1.2
           rw [hun] at this; cases this
         have hjl : j ∉ ls := fun hm => by have := h1.1; simp [hls j hm] at this
         have := (fF (lat all ls) listed m).2 ⟨j, q, tH hjq hjl, hd, hju⟩
         rw [hh] at this; cases this
        rw [k4 m hnl, ep, zA]
     have eh : (St.put ⟨jU φ (fK (lat all ls) listed st.t), h'⟩ o.dst s2).h = h' := yD _ _ _
     have el : (St.put ⟨jU φ (fK (lat all ls) listed st.t), h'⟩ o.dst s2).t.length = st.t.length := by rw [wS]; simp [jU, bT]
     have et : (St.put ⟨jU φ (fK (lat all ls) listed st.t), h'⟩ o.dst s2).t = fK (lat all ls) (listed.setIfInBounds p true) st1.t := by
      apply List.ext_getElem?
      intro m
      rcases Nat.lt_or_ge m st.t.length with hm | hm
      ·rw [iL (by rw [el]; exact hm), iL (by rw [bT, hlen1]; exact hm), key m hm]
      ·rw [List.getElem?_eq_none (by rw [el]; exact hm), List.getElem?_eq_none (by rw [bT, hlen1]; exact hm)]
     generalize (St.put ⟨jU φ (fK (lat all ls) listed st.t), h'⟩ o.dst s2) = X at eh et
     cases X
     simp only at eh et
     rw [eh, et]
    rw [e] at hr2
    have memf : ∀ q, q ∈ rem.filter (· != p) → q ∈ rem ∧ q ≠ p := fun q hq => by
     obtain ⟨h1, h2⟩ := List.mem_filter.1 hq
     exact ⟨h1, by simpa using h2⟩
    refine ih _ (p :: dn) (rem.filter (· != p)) sub w' st1 g' V' _ _ (by simp [hsz]) hun' hclo' hw4 hw5 (fun e2 he => ?_) (fun q hq => ?_) (fun j hj hj0 hu => ?_) k1.1 k1.2 hr2
    ·rcases List.mem_cons.1 he with rfl | he
     ·rw [bA]
     ·exact up _ (hdn e2 he)
    ·obtain ⟨hq, hne⟩ := memf q hq
     obtain ⟨q1, q2, q3⟩ := hphs q hq
     exact ⟨q1, q2, by rw [keep _ hne]; exact q3⟩
    ·by_cases e2 : j = p
     ·subst e2; rw [bA] at hu; cases hu
     ·rw [keep j e2] at hu
      exact List.mem_filter.2 ⟨hall j hj hj0 hu, by simpa using e2⟩
  ·have hmem : i ∈ wi ∧ kZ E st (dP all wi) := by
    unfold okN at hokn
    rw [Bool.and_eq_true] at hokn
    exact ⟨hwin rem hokn.1 hp fun e he => (hphs e he).2.2, hchk⟩
   obtain ⟨d, hd, hvc⟩ := yR hmem.2 (iT.2 ⟨i, hmem.1, ho⟩)
   have h1 := yC (st := ⟨fK (lat all ls) listed st.t, st.h⟩) (nX (fun x hx => (evEq x hx).symm) hvc)
   refine mY hT hE h1 hr fun g' V' st' w' s y hr' hsy hk => ?_
   obtain ⟨rfl, rfl⟩ := hk
   have hr2 := hr'.put o.dst hsy
   have hil : i ∉ ls := fun hm => hp (hls i hm)
   rw [a3C (all := lat all ls) (fun j p d hj hd hne => by
    obtain ⟨p0, hj0, hd0, _⟩ := nN hj hd
    exact (s6 j p0 d hj0 hd0).2 hne) (tH ho hil) hd] at hr2
   refine ih _ dn rem t wi st g' V' _ _ (by simp [hsz]) hun' hclo' hokn hokt (fun e he => up e (hdn e he)) (fun q hq => ?_) (fun j hj hj0 hu => ?_) hchk hv hr2
   ·obtain ⟨q1, q2, q3⟩ := hphs q hq
    exact ⟨q1, q2, by rw [keep q (fun e => hp (e ▸ q2))]; exact q3⟩
   ·by_cases e2 : j = i
    ·subst e2; rw [bA] at hu; cases hu
    ·rw [keep j e2] at hu; exact hall j hj hj0 hu
end
section
variable {E : Env}
inductive PO where
 | nil : PO
 | cons : Nat → List Oper → List Oper → PO → PO → PO
def PO.isNil : PO → Bool
 | .nil => true
 | .cons .. => false
def lH (all : List Oper) : PT → PO
 | .n => .nil
 | .c p l w sub r => .cons p (dP all l) (dP all w) (lH all sub) (lH all r)
theorem oO {all : List Oper} (t : PT) : (lH all t).isNil = t.isNil := by cases t <;> rfl
def vcEJ (E : Env) (all : List Oper) : PO → St → (St → Prop) → Prop
 | .nil, _, _ => True
 | .cons p l w' sub r, st, K => (∃ o, all[p]? = some o ∧ tJ E o st fun st' s => rP E all l (st'.put o.dst s) fun st'' => kZ E st'' w' ∧ if sub.isNil = true then K st'' else vcEJ E all sub st'' K) ∧ vcEJ E all r st K
theorem xK {all : List Oper} {K : St → Prop} : ∀ (t : PT) (st : St), vcEJ E all (lH all t) st K = oN E all t st K
 | .n, _ => rfl
 | .c p l w' sub r, st => by
  have h1 : ∀ st, vcEJ E all (lH all sub) st K = oN E all sub st K := xK sub
  have h2 : vcEJ E all (lH all r) st K = oN E all r st K := xK r st
  simp only [lH, vcEJ, oN, h1, h2, oO]
def zB (G : St) (s : St) : Prop := ∃ (l : List (Nat × Nat)) (s' : St), swL s l = some s' ∧ s'.le G
theorem zC : ∀ l : List SV, leT l l
 | [] => trivial
 | _ :: l => ⟨.inr rfl, zC l⟩
theorem St.le_refl (s : St) : s.le s := ⟨zC _, sK _⟩
theorem qX {s : St} : zB s s := ⟨[], s, rfl, s.le_refl⟩
theorem a4D (hT : TyOK E.P E.T) (hE : ∀ t, E.eqk t ≠ [] → EqT E.P t (E.eqk t)) (hm : E.P.follows .mixedOrders = true) {id : Nat} {ops : List Oper} {F : Ex → St → Prop} {st G : St} (ps ls l0 w0 : List Nat) (t : PT)
    (hok : okE ops ps ls = true) (hl0 : (l0.all fun i => !ps.contains i) = true) (hn : okN ops ps [] ps w0 t = true) (ht : uN ops ps t [] ps = true) (hlt : (ps.all fun q => decide (q < ops.length)) = true) (hb : st.okB = true)
    (h : rP E ops (dP ops l0) st fun st1 => kZ E st1 (dP ops w0) ∧ if t.isNil = true then zB G st1 else oN E ops t st1 (zB G)) (hG : G.okB = true) (hF : F .normal G) : WP E.P E.C (.region id ops.toArray true) F st := fun g V a w hr => by
 refine wp_region_any hm ?_
 obtain ⟨st1, k1, k2, k3, k4⟩ := tK h
 have hf : ∀ j : Nat, j < ops.length → (Array.replicate ops.toArray.size false).getD j true = false := fun j hj => by simp [hj]
 have hle : st.le ⟨fK (lat ops ls) (Array.replicate ops.toArray.size false) st1.t, st1.h⟩ := by
  refine ⟨a2p (by rw [bT, k3]) fun d _ => ?_, by show leH st.h st1.h; rw [k2]; exact sK _⟩
  rw [gN]
  cases hh : jT (lat ops ls) (Array.replicate ops.toArray.size false) d with
  | true => exact .inl rfl
  | false =>
   right
   simp only [Bool.false_eq_true, if_false]
   refine (k4 d fun o ho hd => ?_).symm
   obtain ⟨j, hjl, hj⟩ := iT.1 ho
   have hnl : j ∉ ls := fun hm => by
    unfold okE at hok
    rw [Bool.and_eq_true] at hok
    have h1 := List.all_eq_true.1 hok.1 j hm
    have h2 := List.all_eq_true.1 hl0 j hjl
    rw [h1] at h2; cases h2
   have := (fF (lat ops ls) (Array.replicate ops.toArray.size false) d).2 ⟨j, o, tH hj hnl, hd, hf j (List.getElem?_eq_some_iff.1 hj).1⟩
   rw [hh] at this; cases this
 have hbt : ((fK (lat ops ls) (Array.replicate ops.toArray.size false) st1.t).all (·.below st1.h.length) && st1.h.all (·.below st1.h.length)) = true := by
  unfold St.okB at hb
  rw [Bool.and_eq_true] at hb ⊢
  rw [k2]
  refine ⟨List.all_eq_true.2 fun s hs => ?_, hb.2⟩
  obtain ⟨d, hd⟩ := List.mem_iff_getElem?.1 hs
  rcases (hle.1.get).2 d s hd with e | e
  ·subst e; rfl
  ·exact List.all_eq_true.1 hb.1 s (List.mem_of_getElem? e)
 have := a4C hT hE hok (Q := fun e a w => Post E.C F e a w) (K := zB G) (fun g V st _ _ hr h => by
     obtain ⟨l, s', hs, hle⟩ := h
     obtain ⟨g', h1⟩ := hr.swL l hs
     exact ⟨_, V, G, h1.forget hle hG, hF⟩) ops.toArray.size (Array.replicate ops.toArray.size false) [] ps t w0 st1 _ V a { w with drawn := w.drawn + 1 } (by simp)
  (by unfold a0p; exact Nat.le_trans (List.length_filter_le _ _) (by simp)) (fun b o ho hl => by rw [hf b (List.getElem?_eq_some_iff.1 ho).1] at hl; cases hl) hn ht (fun e he => by simp at he)
  (fun q hq => by
   have hlq := of_decide_eq_true (List.all_eq_true.1 hlt q hq)
   exact ⟨hlq, hq, hf _ hlq⟩) (fun i _ hi _ => hi) k1.1 k1.2 ((hr.drawn).forget hle hbt)
 exact this
structure vcTT (E : Env) (all : List Oper) (t : PO) (st : St) (K : St → Prop) (u : Tie (all, t, K)) : Prop where
 out : vcEJ E all t st K
structure vcTN (E : Env) (all w : List Oper) (t : PO) (st : St) (K : St → Prop) (u : Tie (all, w, t, K)) : Prop where
 out : kZ E st w ∧ if t.isNil = true then K st else vcEJ E all t st K
def a2I (E : Env) (all : List Oper) (p : Nat) (l : List Oper) (st : St) (k : St → Prop) (_ : Tie (l, k)) : Prop := match wJ all p with
 | some o => tJ E o st fun st' s => vcDRun E all l (st'.put o.dst s) k ⟨⟩
 | none => False
theorem xL {all : List Oper} {st : St} {K : St → Prop} : vcTT E all .nil st K ⟨⟩ := ⟨trivial⟩
theorem qY {all l w' : List Oper} {p : Nat} {sub r : PO} {st : St} {K : St → Prop} (h : a2I E all p l st (fun st'' => vcTN E all w' sub st'' K ⟨⟩) ⟨⟩) (hr : vcTT E all r st K ⟨⟩) : vcTT E all (.cons p l w' sub r) st K ⟨⟩ := ⟨by
 refine ⟨?_, hr.out⟩
 have e2 : (fun st'' => vcTN E all w' sub st'' K ⟨⟩) = (fun st'' => kZ E st'' w' ∧ if sub.isNil = true then K st'' else vcEJ E all sub st'' K) := funext fun s => propext ⟨fun h => h.out, fun h => ⟨h⟩⟩
 rw [e2] at h
 unfold a2I at h
 rw [qM] at h
 split at h
 ·rename_i o ho
  refine ⟨o, ho, ?_⟩
  have e4 : (fun (st' : St) (s : SV) => vcDRun E all l (st'.put o.dst s) (fun st'' => kZ E st'' w' ∧ if sub.isNil = true then K st'' else vcEJ E all sub st'' K) ⟨⟩) = (fun st' s => rP E all l (st'.put o.dst s) (fun st'' => kZ E st'' w' ∧ if sub.isNil = true then K st'' else vcEJ E all sub st'' K)) := funext fun st' => funext fun s => propext ⟨fun h => h.out, fun h => ⟨h⟩⟩
  rw [e4] at h
  exact h
 ·exact h.elim⟩
theorem qZ {all w : List Oper} {st : St} {K : St → Prop} (hc : kZ E st w) (h : K st) : vcTN E all w .nil st K ⟨⟩ := ⟨hc, h⟩
theorem rA {all w l w' : List Oper} {p : Nat} {sub r : PO} {st : St} {K : St → Prop} (hc : kZ E st w) (h : vcTT E all (.cons p l w' sub r) st K ⟨⟩) : vcTN E all w (.cons p l w' sub r) st K ⟨⟩ := ⟨hc, h.out⟩
end
attribute [go_sem] dP lH a2I tJ a3B
end Go.Sx
end
section
namespace Go.Proofs.YtgfngchfmohhbaaDoor
open Go Go.Sx Go.RowKit Go.Proofs
def Ok2 (s : St) : Prop := s.okB = true
theorem oH {s : St} (h : s.okB = true := by simp only [go_sem] <;> fail) : Ok2 s := h
theorem rE {C : Ctx} {id : Nat} {ops L W : List Oper} {T : PO} {F : Ex → St → Prop} {st G : St} (ps ls l0 w0 : List Nat) (t : PT) (hl : dP ops l0 = L) (hw : dP ops w0 = W) (hp : lH ops t = T)
    (hok : (okE ops ps ls && (l0.all fun i => !ps.contains i) && okN ops ps [] ps w0 t && uN ops ps t [] ps && ps.all fun q => decide (q < ops.length)) = true) (hb : st.okB = true) (h : vcDRun (EV C) ops L st (fun st1 => vcTN (EV C) ops W T st1 (zB G) ⟨⟩) ⟨⟩) (hG : Ok2 G) (hF : F .normal G) : WP Tryd.prog C (.region id ops.toArray true) F st := by
 subst hl hw hp
 simp only [Bool.and_eq_true] at hok
 refine a4D (E := EV C) uI a3R fol ps ls l0 w0 t hok.1.1.1.1 hok.1.1.1.2 hok.1.1.2 hok.1.2 hok.2 hb ?_ hG hF
 have e : (fun st1 => vcTN (EV C) ops (dP ops w0) (lH ops t) st1 (zB G) ⟨⟩) = (fun st1 => kZ (EV C) st1 (dP ops w0) ∧ if t.isNil = true then zB G st1 else oN (EV C) ops t st1 (zB G)) := funext fun s => propext (by
  constructor
  ·intro h; have := h.out; rwa [xK, oO] at this
  ·intro h; exact ⟨by rwa [xK, oO]⟩)
 rw [e] at h
 exact h.out
end Go.Proofs.YtgfngchfmohhbaaDoor
end
