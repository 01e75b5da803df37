/- Joined texts. -/
import Derived.Test.YtjkbipgmckeckaaZ04
import Derived.Test.YtjkbipgmckeckaaZ05
import Derived.Test.YtjkbipgmckeckaaZ07
import Derived.Test.YtjkbipgmckeckaaZ09
import Derived.Test.YtjkbipgmckeckaaZ08
set_option linter.all false
section
namespace Go.Sx
open Go Go.RowKit
def a3u : Option Nat → SV → SV
 | none, s => s
 | some id, s => nQ id s
def nE (φ : Option Nat) (T : List SV) : List SV := T.map (a3u φ)
theorem a3v (φ : Option Nat) : a3u φ (.o .u) = .o .u := by cases φ <;> rfl
theorem bH (T : List SV) : nE none T = T := by
 have e : a3u none = id := rfl
 rw [nE, e, List.map_id]
def jN (all : List Oper) : Nat → Nat → Nat → Bool
 | 0, a, b => match all[b]? with
  | some o => onE o a
  | none => false
 | n + 1, a, b => match all[b]? with
  | some o => onE o a || o.after.any fun e => Region.binds .any e && jN all n a e.on
  | none => false
def a8e (all : List Oper) (L : Array Bool) : Prop := ∀ (b : Nat) (o : Oper), all[b]? = some o → L.getD b true = true → ∀ e ∈ o.after, Region.binds .any e = true → L.getD e.on true = true
theorem xK {all : List Oper} {L : Array Bool} {a b : Nat} {o : Oper} (ho : all[b]? = some o) (hd : ∀ e ∈ o.after, Region.binds .any e = true → L.getD e.on true = true) (h : onE o a = true) : L.getD a true = true := by
 obtain ⟨e, he, hb⟩ := Array.any_eq_true'.1 h
 simp only [Bool.and_eq_true, beq_iff_eq] at hb
 have := hd e he hb.1
 rwa [hb.2] at this
theorem oF {all : List Oper} {L : Array Bool} (hc : a8e all L) : ∀ (n a b : Nat) (o : Oper), all[b]? = some o → (∀ e ∈ o.after, Region.binds .any e = true → L.getD e.on true = true) → jN all n a b = true → L.getD a true = true
 | 0, a, b, o, ho, hd, h => by
  unfold jN at h; rw [ho] at h; exact xK ho hd h
 | n + 1, a, b, o, ho, hd, h => by
  unfold jN at h
  rw [ho] at h
  rcases Bool.or_eq_true_iff.1 h with h | h
  ·exact xK ho hd h
  ·obtain ⟨e, he, hb⟩ := Array.any_eq_true'.1 h
   rw [Bool.and_eq_true] at hb
   have h1 := hd e he hb.1
   cases hq : all[e.on]? with
   | none => have := hb.2; cases n <;> (unfold jN at this; rw [hq] at this; cases this)
   | some p => exact oF hc n a e.on p hq (hc e.on p hq h1) hb.2
def okE (all : List Oper) (ps ls : List Nat) : Bool := (ls.all fun i => ps.contains i) &&
 (List.range all.length).all fun i => a1u all i fun o =>
  (match o.guard with | none => true | some _ => false) && (o.after.all fun e => !Region.binds .any e || decide (e.on < i)) &&
  (ps.contains i || o.dst.isSome) &&
  ((List.range all.length).all fun j => a1u all j fun p => match p.dst with
   | none => true
   | some d => ((jD (opL o.op)).all fun t => t != d || onE o j || ls.contains j) && (j == i || o.dst != some d))
def a9b (all : List Oper) (ps dn rest w : List Nat) : Bool :=
 (List.range all.length).all fun i => ps.contains i || dn.any (fun e => jN all 4 i e) || rest.any (fun e => jN all 4 e i) || w.contains i
inductive PT where
 | n : PT
 | c : Nat → List Nat → List Nat → PT → PT → PT
def PT.tops : PT → List Nat
 | .n => []
 | .c p _ _ _ r => p :: r.tops
def PT.isNil : PT → Bool
 | .n => true
 | .c .. => false
def okN (all : List Oper) (ps dn rem w : List Nat) (t : PT) : Bool := a9b all ps dn rem w && rem.all fun p => (rem.any fun q => q != p && jN all 4 q p) || t.tops.contains p
def yM (all : List Oper) (ps : List Nat) : PT → List Nat → List Nat → Bool
 | .n, _, _ => true
 | .c p li w' sub r, dn, rem => rem.contains p && (li.all fun i => !ps.contains i && jN all 4 p i) && okN all ps (p :: dn) (rem.filter (· != p)) w' sub && yM all ps sub (p :: dn) (rem.filter (· != p)) && yM all ps r dn rem
def fF (all : List Oper) : List Nat → List Oper
 | [] => []
 | i :: l => match zZ all i with
  | some o => o :: fF all l
  | none => fF all l
theorem lG {all : List Oper} {o : Oper} : ∀ {l : List Nat}, o ∈ fF all l ↔ ∃ i ∈ l, all[i]? = some o
 | [] => by simp [fF]
 | j :: l => by
  have ih := lG (all := all) (o := o) (l := l)
  unfold fF
  rw [oP]
  cases hq : all[j]? with
  | none => simp only [ih, List.mem_cons]; constructor
            ·rintro ⟨i, h1, h2⟩; exact ⟨i, .inr h1, h2⟩
            ·rintro ⟨i, h1 | h1, h2⟩
             ·subst h1; rw [hq] at h2; cases h2
             ·exact ⟨i, h1, h2⟩
  | some p =>
   simp only [List.mem_cons, ih]
   constructor
   ·rintro (rfl | ⟨i, h1, h2⟩)
    ·exact ⟨j, .inl rfl, hq⟩
    ·exact ⟨i, .inr h1, h2⟩
   ·rintro ⟨i, h1 | h1, h2⟩
    ·subst h1; rw [hq] at h2; exact .inl (Option.some.inj h2).symm
    ·exact .inr ⟨i, h1, h2⟩
def lat (all : List Oper) (ls : List Nat) : List Oper := all.mapIdx fun i o => if ls.contains i then { o with dst := none } else o
theorem sJ {all : List Oper} {ls : List Nat} {j d : Nat} {o' : Oper} (h : (lat all ls)[j]? = some o') (hd : o'.dst = some d) : ∃ o, all[j]? = some o ∧ o.dst = some d ∧ j ∉ ls := by
 unfold lat at h
 rw [List.getElem?_mapIdx] at h
 cases ho : all[j]? with
 | none => rw [ho] at h; cases h
 | some o =>
  rw [ho] at h
  simp only [Option.map_some, Option.some.injEq] at h
  split at h
  ·subst h; cases hd
  ·rename_i hn
   subst h
   exact ⟨o, rfl, hd, fun hm => hn (List.contains_iff_mem.2 hm)⟩
theorem xL {all : List Oper} {ls : List Nat} {j : Nat} {o : Oper} (h : all[j]? = some o) (hj : j ∉ ls) : (lat all ls)[j]? = some o := by
 unfold lat
 rw [List.getElem?_mapIdx, h, Option.map_some, if_neg (fun hm => hj (List.contains_iff_mem.1 hm))]
section
variable {E : Env}
def a6R : Op → Bool
 | .alloc _ => true
 | .assign _ => true
 | .move _ => true
 | .buildSlice .. => true
 | .store .. => true
 | .call c => match c.callee with
  | .builtin .append => true
  | _ => false
 | _ => false
def xM (E : Env) (o : Oper) (st : St) (k : St → SV → Prop) : Prop := if a6R o.op then bM E o.op st k else a2A E o st fun h' s => k ⟨st.t, h'⟩ s
theorem sK {T : List SV} {st : St} : ∀ (l : List (Nat × Operand)) (n : Nat), (∀ p ∈ l, ev ⟨T, st.h⟩ p.2 = ev st p.2) → fV ⟨T, st.h⟩ n l = fV st n l
 | [], _, _ => rfl
 | (i, x) :: r, n, h => by
  have h1 : ev ⟨T, st.h⟩ x = ev st x := h (i, x) (by simp)
  simp only [fV, h1, sK r (n + 1) fun p hp => h p (by simp [hp])]
theorem a5H {op : Op} (ha : a6R op = true) {st : St} {k : St → SV → Prop} (h : bM E op st k) : ∃ φ h' s, (∀ T : List SV, (∀ x ∈ op.operands, ev ⟨T, st.h⟩ x = ev st x) → bM E op ⟨T, st.h⟩ fun st2 s2 => st2 = ⟨nE φ T, h'⟩ ∧ s2 = s) ∧ k ⟨nE φ st.t, h'⟩ s := by
 cases op <;> simp only [a6R, Bool.false_eq_true] at ha
 case alloc t =>
  simp only [bM] at h
  exact ⟨none, st.h ++ [.box t (E.T t).zero], _, fun T _ => by simp only [bM]; exact ⟨h.1, by rw [bH]; rfl, rfl⟩, by rw [bH]; exact h.2⟩
 case assign x => exact ⟨none, st.h, ev st x, fun T he => by simp only [bM, he x (by simp [Op.operands])]; exact ⟨by rw [bH], trivial⟩, by rw [bH]; exact h⟩
 case move x => exact ⟨none, st.h, ev st x, fun T he => by simp only [bM, he x (by simp [Op.operands])]; exact ⟨by rw [bH], trivial⟩, by rw [bH]; exact h⟩
 case buildSlice t len parts =>
  simp only [bM] at h
  unfold gI at h
  obtain ⟨h1, h2, h3, h4, h⟩ := h
  split at h
  ·rename_i cs e
   obtain ⟨h5, h⟩ := h
   split at h
   ·rename_i rows lin e2
    refine ⟨none, _, .o (.s st.h.length), fun T he => ?_, by rw [bH]; exact h.2⟩
    simp only [bM]
    unfold gI
    have hp : fV ⟨T, st.h⟩ 0 parts.toList = fV st 0 parts.toList := sK _ _ fun p hp => he p.2 (by rw [← Array.mem_toList_iff, ← a2g]; exact List.mem_map.2 ⟨p, hp, rfl⟩)
    refine ⟨h1, h2, h3, h4, ?_⟩
    rw [hp, e]
    refine ⟨h5, ?_⟩
    simp only [e2]
    exact ⟨h.1, by rw [bH], trivial⟩
   ·exact h.elim
  ·exact h.elim
 case store t x v =>
  have key : ∀ T : List SV, (∀ y ∈ (Op.store t x v).operands, ev ⟨T, st.h⟩ y = ev st y) → ev ⟨T, st.h⟩ x = ev st x ∧ ev ⟨T, st.h⟩ v = ev st v := fun T he => ⟨he x (by simp [Op.operands]), he v (by simp [Op.operands])⟩
  simp only [bM] at h
  split at h
  ·rename_i id sz i fo e
   unfold gT at h
   obtain ⟨h1, h2, h3, h4, h5, h⟩ := h
   split at h
   ·rename_i e1 e2
    split at h
    ·rename_i e3
     refine ⟨none, _, .t [], fun T he => ?_, by rw [bH]; exact h.2.2⟩
     obtain ⟨hx, hv⟩ := key T he
     simp only [bM, hx, hv, e]
     unfold gT
     refine ⟨h1, h2, h3, h4, h5, ?_⟩
     simp only [e1, e2, e3]
     exact ⟨h.1, h.2.1, by rw [bH], trivial⟩
    ·exact h.elim
   ·exact h.elim
  ·rename_i id sz i fo e
   unfold fU at h
   split at h
   ·rename_i e0
    split at h
    ·rename_i e1
     split at h
     ·rename_i e2 e3
      refine ⟨none, _, .t [], fun T he => ?_, by rw [bH]; exact h.2.2.2.2⟩
      obtain ⟨hx, hv⟩ := key T he
      simp only [bM, hx, hv, e]
      unfold fU
      simp only [e0, e1, e2, e3]
      exact ⟨h.1, h.2.1, h.2.2.1, h.2.2.2.1, by rw [bH], trivial⟩
     ·exact h.elim
    ·exact h.elim
   ·exact h.elim
  ·rename_i e0 e1
   unfold jT at h
   split at h
   ·rename_i e
    split at h
    ·rename_i e2
     split at h
     ·rename_i e3
      refine ⟨none, _, .t [], fun T he => ?_, by rw [bH]; exact h.2.2.2.2⟩
      obtain ⟨hx, hv⟩ := key T he
      simp only [bM, hx, hv, e]
      unfold jT
      simp only [e2, e3]
      exact ⟨h.1, h.2.1, h.2.2.1, h.2.2.2.1, by rw [bH], trivial⟩
     ·exact h.elim
    ·rename_i e2
     split at h
     ·rename_i e4
      split at h
      ·rename_i e3
       refine ⟨none, _, .t [], fun T he => ?_, by rw [bH]; exact h.2.2⟩
       obtain ⟨hx, hv⟩ := key T he
       simp only [bM, hx, hv, e]
       unfold jT
       simp only [e2, e4, e3]
       exact ⟨h.1, h.2.1, by rw [bH], trivial⟩
      ·exact h.elim
     ·exact h.elim
    ·exact h.elim
   ·exact h.elim
 case call c =>
  have hc : c.callee = .builtin .append := by
   split at ha
   ·rename_i e; exact e
   ·cases ha
  simp only [bM, eU, hc] at h
  split at h
  ·rename_i s x t t' e1 e2
   have key : ∀ T : List SV, (∀ y ∈ (Op.call c).operands, ev ⟨T, st.h⟩ y = ev st y) → ev ⟨T, st.h⟩ s = ev st s ∧ ev ⟨T, st.h⟩ x = ev st x := fun T he =>
    ⟨he s (by simp only [Op.operands, Call.operands, Array.mem_append]; exact .inr (by rw [← Array.mem_toList_iff, e1]; simp)), he x (by simp only [Op.operands, Call.operands, Array.mem_append]; exact .inr (by rw [← Array.mem_toList_iff, e1]; simp))⟩
   have src : ∀ (T : List SV) (y : SV), a2u ⟨T, st.h⟩ y = a2u st y := fun T y => by unfold a2u; rfl
   obtain ⟨h0, h⟩ := h
   unfold kV at h
   obtain ⟨h1, h2, h⟩ := h
   split at h
   ·rename_i rows2 lin2 ids e3
    obtain ⟨h3, h⟩ := h
    split at h
    ·rename_i id e4
     split at h
     ·rename_i ty sz rows lin e5
      refine ⟨some id, _, .o (.s id), fun T he => ?_, h.2.2.2.2.2⟩
      obtain ⟨hs, hx⟩ := key T he
      simp only [bM, eU, hc, e1, e2]
      refine ⟨h0, ?_⟩
      unfold kV
      refine ⟨h1, h2, ?_⟩
      rw [hx, src, e3]
      refine ⟨h3, ?_⟩
      rw [hs, e4]
      simp only [e5]
      exact ⟨h.1, h.2.1, h.2.2.1, h.2.2.2.1, h.2.2.2.2.1, rfl, trivial⟩
     ·exact h.elim
    ·rename_i e4
     refine ⟨none, _, _, fun T he => ?_, by rw [bH]; exact h.2.2⟩
     obtain ⟨hs, hx⟩ := key T he
     simp only [bM, eU, hc, e1, e2]
     refine ⟨h0, ?_⟩
     unfold kV
     refine ⟨h1, h2, ?_⟩
     rw [hx, src, e3]
     refine ⟨h3, ?_⟩
     rw [hs, e4]
     exact ⟨h.1, h.2.1, by rw [bH], rfl⟩
    ·exact h.elim
   ·exact h.elim
  ·exact h.elim
end
section
variable {E : Env}
def tV (E : Env) (all : List Oper) : PT → St → (St → Prop) → Prop
 | .n, _, _ => True
 | .c p li w' sub r, st, K => (∃ o, all[p]? = some o ∧ xM E o st fun st' s => vZ E all (fF all li) (st'.put o.dst s) fun st'' => pK E st'' (fF all w') ∧ if sub.isNil = true then K st'' else tV E all sub st'' K) ∧ tV E all r st K
theorem a3w {all : List Oper} {ps dn rem : List Nat} {st : St} {K : St → Prop} {p : Nat} : ∀ {t : PT}, p ∈ t.tops → yM all ps t dn rem = true → tV E all t st K → ∃ li w' sub, (li.all fun i => !ps.contains i && jN all 4 p i) = true ∧ okN all ps (p :: dn) (rem.filter (· != p)) w' sub = true ∧ yM all ps sub (p :: dn) (rem.filter (· != p)) = true ∧
    ∃ o, all[p]? = some o ∧ xM E o st fun st' s => vZ E all (fF all li) (st'.put o.dst s) fun st'' => pK E st'' (fF all w') ∧ if sub.isNil = true then K st'' else tV E all sub st'' K
 | .n, h, _, _ => by simp [PT.tops] at h
 | .c q li w' sub r, h, ho, hv => by
  unfold yM at ho
  simp only [Bool.and_eq_true] at ho
  obtain ⟨⟨⟨⟨h1, h2⟩, h3⟩, h4⟩, h5⟩ := ho
  obtain ⟨v1, v2⟩ := hv
  simp only [PT.tops, List.mem_cons] at h
  rcases h with rfl | h
  ·exact ⟨li, w', sub, h2, h3, h4, v1⟩
  ·exact a3w h h5 v2
theorem xN {all : List Oper} : ∀ {l : List Oper} {st : St} {K : St → Prop}, vZ E all l st K → ∃ st1, K st1 ∧ st1.h = st.h ∧ st1.t.length = st.t.length ∧ ∀ d, (∀ o ∈ l, o.dst ≠ some d) → nth st1.t d = nth st.t d
 | [], st, K, h => ⟨st, h, rfl, rfl, fun _ _ => rfl⟩
 | o :: l, st, K, h => by
  obtain ⟨s, h1, _⟩ := a0g h
  obtain ⟨st1, k1, k2, k3, k4⟩ := xN h1
  refine ⟨st1, k1, by rw [k2, a1f], by rw [k3, vF], fun d hd => ?_⟩
  rw [k4 d fun p hp => hd p (List.mem_cons_of_mem _ hp)]
  cases ho : o.dst with
  | none => rfl
  | some e => exact a0z fun e2 => hd o (by simp) (by rw [ho, e2])
theorem a1N (φ : Option Nat) (T : List SV) (d : Nat) : nth (nE φ T) d = a3u φ (nth T d) := by
 rw [kC, kC, List.getD_eq_getElem?_getD, List.getD_eq_getElem?_getD, nE, List.getElem?_map]
 cases T[d]? with
 | none => simp [a3v]
 | some s => rfl
theorem a5I {o : Oper} {st : St} {k : St → SV → Prop} (h : xM E o st k) : ∃ φ h' s, (∀ T : List SV, (∀ x ∈ o.op.operands, ev ⟨T, st.h⟩ x = ev st x) → bM E o.op ⟨T, st.h⟩ fun st2 s2 => st2 = ⟨nE φ T, h'⟩ ∧ s2 = s) ∧ k ⟨nE φ st.t, h'⟩ s := by
 unfold xM at h
 split at h
 ·rename_i ha; exact a5H ha h
 ·unfold a2A at h
  split at h
  ·rename_i c hop
   split at h
   ·rename_i f hc
    split at h
    ·rename_i fn caps hfn
     obtain ⟨h', s', hcall, hk⟩ := h
     refine ⟨none, h', s', fun T he => ?_, by rw [bH]; exact hk⟩
     rw [hop] at he
     have hfe : ev ⟨T, st.h⟩ f = ev st f := he f (by simp [Op.operands, Call.operands, hc])
     have hargs : c.args.toList.map (ev ⟨T, st.h⟩) = c.args.toList.map (ev st) := List.map_congr_left fun x hx => he x (by simp only [Op.operands, Call.operands, Array.mem_append]; exact .inr (by simpa using hx))
     rw [hop]
     simp only [bM, eU, hc, hfe, hfn, hargs]
     rw [bH]
     exact ⟨hcall T⟩
    ·exact h.elim
   ·exact h.elim
  ·exact h.elim
theorem a6S {all : List Oper} {listed : Array Bool} {i d : Nat} {o : Oper} {T : List SV} {H : List HB} (s6 : ∀ (j : Nat) (p : Oper) (d : Nat), all[j]? = some p → p.dst = some d → j ≠ i → o.dst ≠ some d) (ho : all[i]? = some o) (hd : o.dst = some d) :
    St.put ⟨cZ all listed T, H⟩ o.dst (nth T d) = ⟨cZ all (listed.setIfInBounds i true) T, H⟩ := by
 have keep : ∀ j, j ≠ i → (listed.setIfInBounds i true).getD j true = listed.getD j true := fun j hj => getD_set_ne true (fun e => hj e.symm)
 rw [hd]
 simp only [St.put, iA]
 congr 1
 apply List.ext_getElem?
 intro m
 rw [List.getElem?_set]
 rcases Nat.lt_or_ge m T.length with hm | hm
 ·rw [fM (l := cZ all (listed.setIfInBounds i true) T) (by rw [bJ]; exact hm), dU]
  by_cases e : d = m
  ·subst e
   rw [if_pos rfl, if_pos (by rw [bJ]; exact hm)]
   have : fZ all (listed.setIfInBounds i true) d = false := by
    cases hh : fZ all (listed.setIfInBounds i true) d with
    | false => rfl
    | true =>
     obtain ⟨j, p, hj, hd2, hu⟩ := (dA _ _ d).1 hh
     by_cases e : j = i
     ·subst e; rw [aY] at hu; cases hu
     ·exact (s6 j p d hj hd2 e hd).elim
   rw [this]; simp
  ·rw [if_neg e, fM (by rw [bJ]; exact hm), dU]
   have : fZ all (listed.setIfInBounds i true) m = fZ all listed m := by
    rw [Bool.eq_iff_iff, dA, dA]
    constructor
    ·rintro ⟨j, p, hj, hd2, hu⟩
     refine ⟨j, p, hj, hd2, ?_⟩
     by_cases e2 : j = i
     ·subst e2; rw [aY] at hu; cases hu
     ·rwa [keep j e2] at hu
    ·rintro ⟨j, p, hj, hd2, hu⟩
     refine ⟨j, p, hj, hd2, ?_⟩
     by_cases e2 : j = i
     ·subst e2; rw [ho] at hj; cases hj; rw [hd] at hd2; cases hd2; exact (e rfl).elim
     ·rwa [keep j e2]
   rw [this]
 ·rw [List.getElem?_eq_none (l := cZ all (listed.setIfInBounds i true) T) (by rw [bJ]; exact hm)]
  split
  ·rename_i e; subst e
   rw [if_neg (by rw [bJ]; omega)]
  ·rw [List.getElem?_eq_none (l := cZ all listed T) (by rw [bJ]; exact hm)]
theorem a8f (hT : TyOK E.P E.T) (hE : ∀ t, E.eqk t ≠ [] → EqT E.P t (E.eqk t)) {all : List Oper} {ps0 ls : List Nat} (hok : okE all ps0 ls = true) {Q : Exit → Act → World → Prop} {K : St → Prop} (hQ : ∀ g V st a w, Rel E.C g V st a w → K st → Q .normal a w) :
    ∀ (n : Nat) (listed : Array Bool) (dn rem : List Nat) (t : PT) (wi : List Nat) (st : St) (g : List Gh) (V : View) (a : Act) (w : World), listed.size = all.length → wQ all listed ≤ n → a8e all listed → okN all ps0 dn rem wi t = true → yM all ps0 t dn rem = true → (∀ e ∈ dn, listed.getD e true = true) → (∀ q ∈ rem, q < all.length ∧ q ∈ ps0 ∧ listed.getD q true = false) → (∀ i, i < all.length → i ∈ ps0 → listed.getD i true = false → i ∈ rem) →
     pK E st (fF all wi) → (if t.isNil = true then K st else tV E all t st K) → Rel E.C g V ⟨cZ (lat all ls) listed st.t, st.h⟩ a w → wpAny E.P .any all.toArray Q n listed a w := by
 unfold okE at hok
 rw [Bool.and_eq_true] at hok
 obtain ⟨hls0, hok⟩ := hok
 have hls : ∀ i ∈ ls, i ∈ ps0 := fun i hi => List.contains_iff_mem.1 (List.all_eq_true.1 hls0 i hi)
 have spec : ∀ (i : Nat) (o : Oper), all[i]? = some o → o.guard = none ∧ (∀ e ∈ o.after, Region.binds .any e = true → e.on < i) ∧ (i ∉ ps0 → ∃ d, o.dst = some d) ∧
     (∀ (j : Nat) (p : Oper) (d : Nat), all[j]? = some p → p.dst = some d → (∀ t ∈ jD (opL o.op), t = d → onE o j = true ∨ j ∈ ls) ∧ (j ≠ i → o.dst ≠ some d)) := fun i o ho => by
  have h := List.all_eq_true.1 hok i (List.mem_range.2 (List.getElem?_eq_some_iff.1 ho).1)
  unfold a1u at h
  rw [ho] at h
  simp only [Bool.and_eq_true] at h
  obtain ⟨⟨⟨h1, h2⟩, h4⟩, h5⟩ := h
  refine ⟨?_, fun e he hb => ?_, fun hs => ?_, fun j p d hj hd => ?_⟩
  ·cases hg : o.guard with
   | none => rfl
   | some x => rw [hg] at h1; cases h1
  ·have := (Array.all_eq_true_iff_forall_mem.1 h2) e he
   rw [hb] at this
   simpa using this
  ·rcases Bool.or_eq_true_iff.1 h4 with h | h
   ·exact (hs (List.contains_iff_mem.1 h)).elim
   ·exact Option.isSome_iff_exists.1 h
  ·have h := List.all_eq_true.1 h5 j (List.mem_range.2 (List.getElem?_eq_some_iff.1 hj).1)
   rw [hj] at h
   simp only [hd, Bool.and_eq_true] at h
   refine ⟨fun t ht e => ?_, fun hne => ?_⟩
   ·have := List.all_eq_true.1 h.1 t ht
    subst e
    simp only [bne_self_eq_false, Bool.false_or, Bool.or_eq_true] at this
    exact this.imp id List.contains_iff_mem.1
   ·rcases Bool.or_eq_true_iff.1 h.2 with h | h
    ·exact (hne (beq_iff_eq.1 h)).elim
    ·simpa using h
 have toT : ∀ {listed : Array Bool} {j : Nat}, listed.getD j false = true → listed.getD j true = true := fun {listed j} h => by
  rcases Nat.lt_or_ge j listed.size with h' | h'
  ·simp [h'] at h ⊢; exact h
  ·simp [Array.getElem?_eq_none h'] at h
 have fin : ∀ (listed : Array Bool) (dn rem : List Nat) (t : PT) (wi : List Nat) (st : St) (g : List Gh) (V : View) (a : Act) (w : World), (∀ j, j < all.length → listed.getD j true = true) → yM all ps0 t dn rem = true → (∀ q ∈ rem, q < all.length ∧ q ∈ ps0 ∧ listed.getD q true = false) → (if t.isNil = true then K st else tV E all t st K) → Rel E.C g V ⟨cZ (lat all ls) listed st.t, st.h⟩ a w → Q .normal a w := fun listed dn rem t wi st g V a w hl hpt h2 hv hr => by
  have hm : cZ (lat all ls) listed st.t = st.t := by
   apply List.ext_getElem?
   intro d
   rcases Nat.lt_or_ge d st.t.length with h | h
   ·rw [fM (by rw [bJ]; exact h), fM h, dU]
    have : fZ (lat all ls) listed d = false := by
     cases hh : fZ (lat all ls) listed d with
     | false => rfl
     | true =>
      obtain ⟨j, o', ho', hd', hu⟩ := (dA (lat all ls) listed d).1 hh
      obtain ⟨o, ho, _, _⟩ := sJ ho' hd'
      rw [hl j (List.getElem?_eq_some_iff.1 ho).1] at hu; cases hu
    rw [this]; simp
   ·rw [List.getElem?_eq_none (by rw [bJ]; exact h), List.getElem?_eq_none h]
  rw [hm] at hr
  cases t with
  | n => exact hQ _ _ _ _ _ hr hv
  | c p li w' sub r =>
   unfold yM at hpt
   simp only [Bool.and_eq_true] at hpt
   obtain ⟨h3, _, h4⟩ := h2 p (List.contains_iff_mem.1 hpt.1.1.1.1)
   rw [hl _ h3] at h4; cases h4
 have none_left : ∀ (listed : Array Bool), listed.size = all.length → Region.ready .any all.toArray listed = [] → ∀ j, j < all.length → listed.getD j true = true := fun listed hsz hr => by
  intro j
  induction j using Nat.strongRecOn with
  | _ j ih =>
   intro hj
   cases hq : listed.getD j true with
   | true => rfl
   | false =>
    have ho : all[j]? = some (all[j]'hj) := List.getElem?_eq_getElem hj
    have : j ∈ Region.ready .any all.toArray listed := mem_ready.2 ⟨hq, _, toA ho, fun e he hb => by
     have hlt := (spec j _ ho).2.1 e he hb
     have h1 := ih e.on hlt (by omega)
     have hes : e.on < listed.size := by omega
     simp [hes] at h1 ⊢; exact h1⟩
    rw [hr] at this; cases this
 intro n
 induction n with
 | zero =>
  intro listed dn rem t wi st g V a w hsz hn hclo hokn hokt hdn hphs hall hchk hv hr
  have hl : ∀ j, j < all.length → listed.getD j true = true := fun j hj => by
   cases hq : listed.getD j true with
   | true => rfl
   | false =>
    have : j ∈ (List.range all.length).filter fun j => !listed.getD j true := List.mem_filter.2 ⟨List.mem_range.2 hj, by rw [hq]; rfl⟩
    have := List.length_pos_of_mem this
    unfold wQ at hn
    omega
  refine ⟨List.eq_nil_iff_forall_not_mem.2 fun i hi => ?_, fin listed dn rem t wi st g V a w hl hokt hphs hv hr⟩
  obtain ⟨h1, o, h2, _⟩ := mem_ready.1 hi
  rw [hl i (by simpa using (Array.getElem?_eq_some_iff.1 h2).1)] at h1; cases h1
 | succ n ih =>
  intro listed dn rem t wi st g V a w hsz hn hclo hokn hokt hdn hphs hall hchk hv hr
  refine ⟨fun he => fin listed dn rem t wi st g V a w (none_left listed hsz he) hokt hphs hv hr, fun i hi => ?_⟩
  obtain ⟨hun, o, ho', haft⟩ := mem_ready.1 hi
  have ho : all[i]? = some o := by simpa using ho'
  have hil := (List.getElem?_eq_some_iff.1 ho).1
  obtain ⟨s1, s2, s5, s6⟩ := spec i o ho
  have hun' : wQ all (listed.setIfInBounds i true) ≤ n := by have := zJ hil hun; omega
  have haft' : ∀ e ∈ o.after, Region.binds .any e = true → listed.getD e.on true = true := fun e he hb => toT (haft e he hb)
  have keep : ∀ j, j ≠ i → (listed.setIfInBounds i true).getD j true = listed.getD j true := fun j hj => getD_set_ne true (fun e => hj e.symm)
  have up : ∀ j, listed.getD j true = true → (listed.setIfInBounds i true).getD j true = true := fun j hj => by
   by_cases e : j = i
   ·subst e; rw [aY]
   ·rw [keep j e]; exact hj
  have hclo' : a8e all (listed.setIfInBounds i true) := fun b p hb hl e he hbd => by
   by_cases e2 : b = i
   ·subst e2; rw [ho] at hb; cases hb; exact up _ (haft' e he hbd)
   ·rw [keep b e2] at hl; exact up _ (hclo b p hb hl e he hbd)
  have evEq : ∀ x ∈ o.op.operands, ev ⟨cZ (lat all ls) listed st.t, st.h⟩ x = ev st x := fun x hx => by
   cases x with
   | tmp t =>
    show nth (cZ (lat all ls) listed st.t) t = nth st.t t
    rw [dU]
    have : fZ (lat all ls) listed t = false := by
     cases hh : fZ (lat all ls) listed t with
     | false => rfl
     | true =>
      obtain ⟨j, p', hj', hd', hu⟩ := (dA (lat all ls) listed t).1 hh
      obtain ⟨p, hj, hd, hnl⟩ := sJ hj' hd'
      rcases (s6 j p t hj hd).1 t (lW.2 (by rw [a2g]; simpa using hx)) rfl with h1 | h1
      ·have h2 := xK ho haft' h1
       rw [hu] at h2; cases h2
      ·exact (hnl h1).elim
    rw [this]; simp
   | const v => rfl
   | func f => rfl
   | global m => rfl
  unfold wpOp
  rw [ho']
  simp only [Region.wanted, s1, if_true]
  refine .inl ?_
  have hwin : ∀ (rest : List Nat), a9b all ps0 dn rest wi = true → i ∉ ps0 → (∀ e ∈ rest, listed.getD e true = false) → i ∈ wi := fun rest hw hni hrest => by
   have h := List.all_eq_true.1 hw i (List.mem_range.2 hil)
   simp only [Bool.or_eq_true] at h
   rcases h with ((h | h) | h) | h
   ·exact (hni (List.contains_iff_mem.1 h)).elim
   ·obtain ⟨e, he, hr⟩ := List.any_eq_true.1 h
    have hle := hdn e he
    cases hq : all[e]? with
    | none => unfold jN at hr; rw [hq] at hr; cases hr
    | some p =>
     have := oF hclo 4 i e p hq (hclo e p hq hle) hr
     rw [hun] at this; cases this
   ·obtain ⟨e, he, hr⟩ := List.any_eq_true.1 h
    have := oF hclo 4 e i o ho haft' hr
    rw [hrest e he] at this; cases this
   ·exact List.contains_iff_mem.1 h
  by_cases hp : i ∈ ps0
  ·have hip := hall i hil hp hun
   have htop : i ∈ t.tops := by
    unfold okN at hokn
    rw [Bool.and_eq_true] at hokn
    have h1 := List.all_eq_true.1 hokn.2 i hip
    rcases Bool.or_eq_true_iff.1 h1 with h | h
    ·obtain ⟨q, hq, hr⟩ := List.any_eq_true.1 h
     rw [Bool.and_eq_true] at hr
     have h2 := oF hclo 4 q i o ho haft' hr.2
     rw [(hphs q hq).2.2] at h2; cases h2
    ·exact List.contains_iff_mem.1 h
   have hv' : tV E all t st K := by
    cases t with
    | n => simp [PT.tops] at htop
    | c => exact hv
   obtain ⟨l, w', sub, hw3, hw4, hw5, o2, ho2, hvo⟩ := a3w htop hokt hv'
   rw [ho] at ho2; cases ho2
   obtain ⟨p, rfl⟩ : ∃ p, p = i := ⟨i, rfl⟩
   have hphs0 := hphs
   ·skip
    obtain ⟨φ, h', s, hsw, hk⟩ := a5I hvo
    obtain ⟨st1, k1, k2, k3, k4⟩ := xN hk
    refine gZ hT hE (hsw _ evEq) hr fun g' V' st' w2 s2 y hr' hsy hk2 => ?_
    obtain ⟨rfl, rfl⟩ := hk2
    have hr2 := hr'.put o.dst hsy
    have hh1 : st1.h = h' := by rw [k2, a1f]
    have hlen1 : st1.t.length = st.t.length := by rw [k3, vF]; simp [nE]
    have e : (St.put ⟨nE φ (cZ (lat all ls) listed st.t), h'⟩ o.dst s2) = ⟨cZ (lat all ls) (listed.setIfInBounds p true) st1.t, st1.h⟩ := by
     rw [hh1]
     have key : ∀ m, m < st.t.length → nth (St.put ⟨nE φ (cZ (lat all ls) listed st.t), h'⟩ o.dst s2).t m = nth (cZ (lat all ls) (listed.setIfInBounds p true) st1.t) m := fun m hm => by
      rw [dU]
      by_cases ed : o.dst = some m
      ·have hid : fZ (lat all ls) (listed.setIfInBounds p true) m = false := by
        cases hh : fZ (lat all ls) (listed.setIfInBounds p true) m with
        | false => rfl
        | true =>
         obtain ⟨j, q', hj', hd', hu⟩ := (dA _ _ m).1 hh
         obtain ⟨q, hj, hd2, _⟩ := sJ hj' hd'
         by_cases e : j = p
         ·subst e; rw [aY] at hu; cases hu
         ·exact ((s6 j q m hj hd2).2 e ed).elim
       have hnl : ∀ q ∈ fF all l, q.dst ≠ some m := fun q hq hd => by
        obtain ⟨j, hj, hjq⟩ := lG.1 hq
        have h1 := List.all_eq_true.1 hw3 j hj
        simp only [Bool.and_eq_true] at h1
        by_cases e : j = p
        ·subst e
         have := h1.1
         simp [hp] at this
        ·exact (s6 j q m hjq hd).2 e ed
       rw [hid, k4 m hnl, ed]
       simp only [St.put, iA, kC, List.getD_eq_getElem?_getD, List.getElem?_set, Bool.false_eq_true, if_false, if_true]
       rw [if_pos (by simp [nE, bJ]; exact hm), if_pos (by simp [nE]; exact hm)]
      ·have ep : ∀ (T : List SV) (H : List HB), nth (St.put ⟨T, H⟩ o.dst s2).t m = nth T m := fun T H => by
        cases hq : o.dst with
        | none => rfl
        | some d => exact a0z (st := ⟨T, H⟩) fun e => ed (by rw [hq, e])
       rw [ep, a1N, dU]
       have ehid : fZ (lat all ls) (listed.setIfInBounds p true) m = fZ (lat all ls) listed m := by
        rw [Bool.eq_iff_iff, dA, dA]
        constructor
        ·rintro ⟨j, q, hj, hd2, hu⟩
         refine ⟨j, q, hj, hd2, ?_⟩
         by_cases e2 : j = p
         ·subst e2; rw [aY] at hu; cases hu
         ·rwa [keep j e2] at hu
        ·rintro ⟨j, q, hj, hd2, hu⟩
         refine ⟨j, q, hj, hd2, ?_⟩
         by_cases e2 : j = p
         ·subst e2
          obtain ⟨q0, hq0, hd3, _⟩ := sJ hj hd2
          rw [ho] at hq0; cases hq0; exact (ed hd3).elim
         ·rwa [keep j e2]
       rw [ehid]
       cases hh : fZ (lat all ls) listed m with
       | true => simp [a3v]
       | false =>
        simp only [Bool.false_eq_true, if_false]
        have hnl : ∀ q ∈ fF all l, q.dst ≠ some m := fun q hq hd => by
         obtain ⟨j, hj, hjq⟩ := lG.1 hq
         have h1 := List.all_eq_true.1 hw3 j hj
         simp only [Bool.and_eq_true] at h1
         have hju : listed.getD j true = false := by
          cases hx : listed.getD j true with
          | false => rfl
          | true =>
           have := oF hclo 4 p j q hjq (hclo j q hjq hx) h1.2
           rw [hun] at this; cases this
         have hjl : j ∉ ls := fun hm => by have := h1.1; simp [hls j hm] at this
         have := (dA (lat all ls) listed m).2 ⟨j, q, xL hjq hjl, hd, hju⟩
         rw [hh] at this; cases this
        rw [k4 m hnl, ep, a1N]
     have eh : (St.put ⟨nE φ (cZ (lat all ls) listed st.t), h'⟩ o.dst s2).h = h' := a1f _ _ _
     have el : (St.put ⟨nE φ (cZ (lat all ls) listed st.t), h'⟩ o.dst s2).t.length = st.t.length := by rw [vF]; simp [nE, bJ]
     have et : (St.put ⟨nE φ (cZ (lat all ls) listed st.t), h'⟩ o.dst s2).t = cZ (lat all ls) (listed.setIfInBounds p true) st1.t := by
      apply List.ext_getElem?
      intro m
      rcases Nat.lt_or_ge m st.t.length with hm | hm
      ·rw [fM (by rw [el]; exact hm), fM (by rw [bJ, hlen1]; exact hm), key m hm]
      ·rw [List.getElem?_eq_none (by rw [el]; exact hm), List.getElem?_eq_none (by rw [bJ, hlen1]; exact hm)]
     generalize (St.put ⟨nE φ (cZ (lat all ls) listed st.t), h'⟩ o.dst s2) = X at eh et
     cases X
     simp only at eh et
     rw [eh, et]
    rw [e] at hr2
    have memf : ∀ q, q ∈ rem.filter (· != p) → q ∈ rem ∧ q ≠ p := fun q hq => by
     obtain ⟨h1, h2⟩ := List.mem_filter.1 hq
     exact ⟨h1, by simpa using h2⟩
    refine ih _ (p :: dn) (rem.filter (· != p)) sub w' st1 g' V' _ _ (by simp [hsz]) hun' hclo' hw4 hw5 (fun e2 he => ?_) (fun q hq => ?_) (fun j hj hj0 hu => ?_) k1.1 k1.2 hr2
    ·rcases List.mem_cons.1 he with rfl | he
     ·rw [aY]
     ·exact up _ (hdn e2 he)
    ·obtain ⟨hq, hne⟩ := memf q hq
     obtain ⟨q1, q2, q3⟩ := hphs q hq
     exact ⟨q1, q2, by rw [keep _ hne]; exact q3⟩
    ·by_cases e2 : j = p
     ·subst e2; rw [aY] at hu; cases hu
     ·rw [keep j e2] at hu
      exact List.mem_filter.2 ⟨hall j hj hj0 hu, by simpa using e2⟩
  ·have hmem : i ∈ wi ∧ pK E st (fF all wi) := by
    unfold okN at hokn
    rw [Bool.and_eq_true] at hokn
    exact ⟨hwin rem hokn.1 hp fun e he => (hphs e he).2.2, hchk⟩
   obtain ⟨d, hd, hvc⟩ := a1w hmem.2 (lG.2 ⟨i, hmem.1, ho⟩)
   have h1 := a1e (st := ⟨cZ (lat all ls) listed st.t, st.h⟩) (oU (fun x hx => (evEq x hx).symm) hvc)
   refine gZ hT hE h1 hr fun g' V' st' w' s y hr' hsy hk => ?_
   obtain ⟨rfl, rfl⟩ := hk
   have hr2 := hr'.put o.dst hsy
   have hil : i ∉ ls := fun hm => hp (hls i hm)
   rw [a6S (all := lat all ls) (fun j p d hj hd hne => by
    obtain ⟨p0, hj0, hd0, _⟩ := sJ hj hd
    exact (s6 j p0 d hj0 hd0).2 hne) (xL ho hil) hd] at hr2
   refine ih _ dn rem t wi st g' V' _ _ (by simp [hsz]) hun' hclo' hokn hokt (fun e he => up e (hdn e he)) (fun q hq => ?_) (fun j hj hj0 hu => ?_) hchk hv hr2
   ·obtain ⟨q1, q2, q3⟩ := hphs q hq
    exact ⟨q1, q2, by rw [keep q (fun e => hp (e ▸ q2))]; exact q3⟩
   ·by_cases e2 : j = i
    ·subst e2; rw [aY] at hu; cases hu
    ·rw [keep j e2] at hu; exact hall j hj hj0 hu
end
section
variable {E : Env}
inductive PO where
 | nil : PO
 | cons : Nat → List Oper → List Oper → PO → PO → PO
def PO.isNil : PO → Bool
 | .nil => true
 | .cons .. => false
def qC (all : List Oper) : PT → PO
 | .n => .nil
 | .c p l w sub r => .cons p (fF all l) (fF all w) (qC all sub) (qC all r)
theorem tX {all : List Oper} (t : PT) : (qC all t).isNil = t.isNil := by cases t <;> rfl
def vcEJ (E : Env) (all : List Oper) : PO → St → (St → Prop) → Prop
 | .nil, _, _ => True
 | .cons p l w' sub r, st, K => (∃ o, all[p]? = some o ∧ xM E o st fun st' s => vZ E all l (st'.put o.dst s) fun st'' => pK E st'' w' ∧ if sub.isNil = true then K st'' else vcEJ E all sub st'' K) ∧ vcEJ E all r st K
theorem a0N {all : List Oper} {K : St → Prop} : ∀ (t : PT) (st : St), vcEJ E all (qC all t) st K = tV E all t st K
 | .n, _ => rfl
 | .c p l w' sub r, st => by
  have h1 : ∀ st, vcEJ E all (qC all sub) st K = tV E all sub st K := a0N sub
  have h2 : vcEJ E all (qC all r) st K = tV E all r st K := a0N r st
  simp only [qC, vcEJ, tV, h1, h2, tX]
def a0O (G : St) (s : St) : Prop := ∃ (l : List (Nat × Nat)) (s' : St), swL s l = some s' ∧ s'.le G
theorem a1O : ∀ l : List SV, leT l l
 | [] => trivial
 | _ :: l => ⟨.inr rfl, a1O l⟩
theorem St.le_refl (s : St) : s.le s := ⟨a1O _, rW _⟩
theorem dL {s : St} : a0O s s := ⟨[], s, rfl, s.le_refl⟩
theorem bI {G s s' : St} (l : List (Nat × Nat)) (h : swL s l = some s') (e : s' = G) : a0O G s := ⟨l, s', h, e ▸ s'.le_refl⟩
theorem a8g (hT : TyOK E.P E.T) (hE : ∀ t, E.eqk t ≠ [] → EqT E.P t (E.eqk t)) (hm : E.P.follows .mixedOrders = true) {id : Nat} {ops : List Oper} {F : Ex → St → Prop} {st G : St} (ps ls l0 w0 : List Nat) (t : PT)
    (hok : okE ops ps ls = true) (hl0 : (l0.all fun i => !ps.contains i) = true) (hn : okN ops ps [] ps w0 t = true) (ht : yM ops ps t [] ps = true) (hlt : (ps.all fun q => decide (q < ops.length)) = true) (hb : st.okB = true)
    (h : vZ E ops (fF ops l0) st fun st1 => pK E st1 (fF ops w0) ∧ if t.isNil = true then a0O G st1 else tV E ops t st1 (a0O G)) (hG : G.okB = true) (hF : F .normal G) : WP E.P E.C (.region id ops.toArray true) F st := fun g V a w hr => by
 refine wp_region_any hm ?_
 obtain ⟨st1, k1, k2, k3, k4⟩ := xN h
 have hf : ∀ j : Nat, j < ops.length → (Array.replicate ops.toArray.size false).getD j true = false := fun j hj => by simp [hj]
 have hle : st.le ⟨cZ (lat ops ls) (Array.replicate ops.toArray.size false) st1.t, st1.h⟩ := by
  refine ⟨a2C (by rw [bJ, k3]) fun d _ => ?_, by show leH st.h st1.h; rw [k2]; exact rW _⟩
  rw [dU]
  cases hh : fZ (lat ops ls) (Array.replicate ops.toArray.size false) d with
  | true => exact .inl rfl
  | false =>
   right
   simp only [Bool.false_eq_true, if_false]
   refine (k4 d fun o ho hd => ?_).symm
   obtain ⟨j, hjl, hj⟩ := lG.1 ho
   have hnl : j ∉ ls := fun hm => by
    unfold okE at hok
    rw [Bool.and_eq_true] at hok
    have h1 := List.all_eq_true.1 hok.1 j hm
    have h2 := List.all_eq_true.1 hl0 j hjl
    rw [h1] at h2; cases h2
   have := (dA (lat ops ls) (Array.replicate ops.toArray.size false) d).2 ⟨j, o, xL hj hnl, hd, hf j (List.getElem?_eq_some_iff.1 hj).1⟩
   rw [hh] at this; cases this
 have hbt : ((cZ (lat ops ls) (Array.replicate ops.toArray.size false) st1.t).all (·.below st1.h.length) && st1.h.all (·.below st1.h.length)) = true := by
  unfold St.okB at hb
  rw [Bool.and_eq_true] at hb ⊢
  rw [k2]
  refine ⟨List.all_eq_true.2 fun s hs => ?_, hb.2⟩
  obtain ⟨d, hd⟩ := List.mem_iff_getElem?.1 hs
  rcases (hle.1.get).2 d s hd with e | e
  ·subst e; rfl
  ·exact List.all_eq_true.1 hb.1 s (List.mem_of_getElem? e)
 have := a8f hT hE hok (Q := fun e a w => Post E.C F e a w) (K := a0O G) (fun g V st _ _ hr h => by
     obtain ⟨l, s', hs, hle⟩ := h
     obtain ⟨g', h1⟩ := hr.swL l hs
     exact ⟨_, V, G, h1.forget hle hG, hF⟩) ops.toArray.size (Array.replicate ops.toArray.size false) [] ps t w0 st1 _ V a { w with drawn := w.drawn + 1 } (by simp)
  (by unfold wQ; exact Nat.le_trans (List.length_filter_le _ _) (by simp)) (fun b o ho hl => by rw [hf b (List.getElem?_eq_some_iff.1 ho).1] at hl; cases hl) hn ht (fun e he => by simp at he)
  (fun q hq => by
   have hlq := of_decide_eq_true (List.all_eq_true.1 hlt q hq)
   exact ⟨hlq, hq, hf _ hlq⟩) (fun i _ hi _ => hi) k1.1 k1.2 ((hr.drawn).forget hle hbt)
 exact this
structure vcTT (E : Env) (all : List Oper) (t : PO) (st : St) (K : St → Prop) (u : Tie (all, t, K)) : Prop where
 out : vcEJ E all t st K
structure vcTN (E : Env) (all w : List Oper) (t : PO) (st : St) (K : St → Prop) (u : Tie (all, w, t, K)) : Prop where
 out : pK E st w ∧ if t.isNil = true then K st else vcEJ E all t st K
def a5J (E : Env) (all : List Oper) (p : Nat) (l : List Oper) (st : St) (k : St → Prop) (_ : Tie (l, k)) : Prop := match zZ all p with
 | some o => xM E o st fun st' s => vcDRun E all l (st'.put o.dst s) k ⟨⟩
 | none => False
theorem fB {all : List Oper} {st : St} {K : St → Prop} : vcTT E all .nil st K ⟨⟩ := ⟨trivial⟩
theorem dM {all l w' : List Oper} {p : Nat} {sub r : PO} {st : St} {K : St → Prop} (h : a5J E all p l st (fun st'' => vcTN E all w' sub st'' K ⟨⟩) ⟨⟩) (hr : vcTT E all r st K ⟨⟩) : vcTT E all (.cons p l w' sub r) st K ⟨⟩ := ⟨by
 refine ⟨?_, hr.out⟩
 have e2 : (fun st'' => vcTN E all w' sub st'' K ⟨⟩) = (fun st'' => pK E st'' w' ∧ if sub.isNil = true then K st'' else vcEJ E all sub st'' K) := funext fun s => propext ⟨fun h => h.out, fun h => ⟨h⟩⟩
 rw [e2] at h
 unfold a5J at h
 rw [oP] at h
 split at h
 ·rename_i o ho
  refine ⟨o, ho, ?_⟩
  have e4 : (fun (st' : St) (s : SV) => vcDRun E all l (st'.put o.dst s) (fun st'' => pK E st'' w' ∧ if sub.isNil = true then K st'' else vcEJ E all sub st'' K) ⟨⟩) = (fun st' s => vZ E all l (st'.put o.dst s) (fun st'' => pK E st'' w' ∧ if sub.isNil = true then K st'' else vcEJ E all sub st'' K)) := funext fun st' => funext fun s => propext ⟨fun h => h.out, fun h => ⟨h⟩⟩
  rw [e4] at h
  exact h
 ·exact h.elim⟩
theorem dN {all w : List Oper} {st : St} {K : St → Prop} (hc : pK E st w) (h : K st) : vcTN E all w .nil st K ⟨⟩ := ⟨hc, h⟩
theorem dO {all w l w' : List Oper} {p : Nat} {sub r : PO} {st : St} {K : St → Prop} (hc : pK E st w) (h : vcTT E all (.cons p l w' sub r) st K ⟨⟩) : vcTN E all w (.cons p l w' sub r) st K ⟨⟩ := ⟨hc, h.out⟩
end
attribute [go_sem] fF qC a5J xM a6R
end Go.Sx
end
section
namespace Go.Proofs.Ytjkbipgmckeckaa
open Go Go.Sx Go.RowKit Go.Proofs
def Ok2 (s : St) : Prop := s.okB = true
theorem oH {s : St} (h : s.okB = true := by simp only [go_sem] <;> fail) : Ok2 s := h
theorem rE {C : Ctx} {id : Nat} {ops L W : List Oper} {T : PO} {F : Ex → St → Prop} {st G : St} (ps ls l0 w0 : List Nat) (t : PT) (hl : fF ops l0 = L) (hw : fF ops w0 = W) (hp : qC ops t = T)
    (hok : (okE ops ps ls && (l0.all fun i => !ps.contains i) && okN ops ps [] ps w0 t && yM ops ps t [] ps && ps.all fun q => decide (q < ops.length)) = true) (hb : st.okB = true) (h : vcDRun (EV C) ops L st (fun st1 => vcTN (EV C) ops W T st1 (a0O G) ⟨⟩) ⟨⟩) (hG : Ok2 G) (hF : F .normal G) : WP Try.prog C (.region id ops.toArray true) F st := by
 subst hl hw hp
 simp only [Bool.and_eq_true] at hok
 refine a8g (E := EV C) vC a4Y fol ps ls l0 w0 t hok.1.1.1.1 hok.1.1.1.2 hok.1.1.2 hok.1.2 hok.2 hb ?_ hG hF
 have e : (fun st1 => vcTN (EV C) ops (fF ops w0) (qC ops t) st1 (a0O G) ⟨⟩) = (fun st1 => pK (EV C) st1 (fF ops w0) ∧ if t.isNil = true then a0O G st1 else tV (EV C) ops t st1 (a0O G)) := funext fun s => propext (by
  constructor
  ·intro h; have := h.out; rwa [a0N, tX] at this
  ·intro h; exact ⟨by rwa [a0N, tX]⟩)
 rw [e] at h
 exact h.out
end Go.Proofs.Ytjkbipgmckeckaa
end
section
set_option maxRecDepth 100000
set_option maxHeartbeats 4000000
namespace Go.Proofs.Ytjkbipgmckeckaa
open Go Go.Sx Go.RowKit Go.Proofs
def gV (s : ByteArray) (y : TAttr) : Bool := !jI y.fName s
def jL (a : List TAttr) (x : TAttr) : Bool := a.any fun y => decide (y.fName = x.fName) && !uO y.fValue x.fValue
def kI (a : List TAttr) (x : TAttr) : Bool := a.any fun y => decide (y.fName = x.fName)
def gD (a : List TAttr) : List TAttr → List TAttr → Option (List TAttr)
 | l, [] => some l
 | l, x :: b => if jL a x then none else if kI a x then gD a l b else gD a (fA (bS (gV x.fName) l) x l) b
def jM (a b : TEdit) : TEdit := if a.fOK && b.fOK then (match gD a.fSet a.fSet b.fSet with | none => ⟨false, []⟩ | some l => ⟨true, l⟩) else ⟨false, []⟩
theorem a1J (a l b : List TAttr) (k : Nat) (h : k < b.length) : gD a l (b.drop k) = if jL a b[k] then none else if kI a b[k] then gD a l (b.drop (k + 1)) else gD a (fA (bS (gV b[k].fName) l) b[k] l) (b.drop (k + 1)) := by
 rw [List.drop_eq_getElem_cons h, gD]
theorem a1K (a : List TAttr) (x : TAttr) (k : Nat) (h : k < a.length) : jL (a.drop k) x = ((decide (a[k].fName = x.fName) && !uO a[k].fValue x.fValue) || jL (a.drop (k + 1)) x) := by
 rw [List.drop_eq_getElem_cons h]; rfl
theorem a1L (a : List TAttr) (x : TAttr) (k : Nat) (h : k < a.length) : kI (a.take (k + 1)) x = (kI (a.take k) x || decide (a[k].fName = x.fName)) := by
 unfold kI; rw [List.take_succ_eq_append_getElem h, List.any_append]; simp
theorem a4i (s : ByteArray) (x y : TAttr) (h : x.fName = s) : FnC Try.prog 36 [a1D y, .o (.q [sv x.fName, iv x.fValue.fKind, iv x.fValue.fInt, sv x.fValue.fStr])] (ob (gV s y)) := by
 subst h
 refine ent Try.func36 rfl Try.call36 rfl (fun C => ?_); simp only [go_sem, st0, Try.ntmps36]
 refine aP ?_
 exact aA ⟨⟨_, rfl, by simp only [go_sem, gV]⟩, trivial⟩
theorem iT (a b : TEdit) (ha : a.fSet.length ≤ 1048576) (hb : b.fSet.length ≤ 1048576) : FnC Try.prog 10 [xA a, xA b] (a1F (jM a b)) := by
 refine ent Try.func10 rfl Try.call10 rfl (fun C => ?_); simp only [go_sem, st0, Try.ntmps10]
 cases ha0 : a.fOK
 case false =>
  have q0 := @ha0; refine jQ ?_
  exact aA ⟨⟨_, rfl, by simp only [go_sem, jM, ha0, Bool.false_and]⟩, trivial⟩
 cases hb0 : b.fOK
 case false =>
  have q0 := @ha0; have q1 := @hb0; refine jR ?_
  exact aA ⟨⟨_, rfl, by simp only [go_sem, jM, ha0, hb0, Bool.and_false]⟩, trivial⟩
 have hm : jM a b = (match gD a.fSet a.fSet b.fSet with | none => ⟨false, []⟩ | some l => ⟨true, l⟩) := by simp [jM, ha0, hb0]
 rw [hm]
 clear hm
 have q0 := @ha0; have q1 := @hb0; refine a6C (sI a.fSet (by omega)) ?_
 generalize a.fSet = a at *
 generalize b.fSet = b at *
 refine dD (α := Nat × List TAttr) (fun x => [(23, .o .u), (24, .o .u), (28, oi x.1)]) (fun x => [(3, .row 65 4 (x.2.map aT) true)]) (fun x => x.1 ≤ b.length ∧ gD a a b = gD a x.2 (b.drop x.1) ∧ x.2.length ≤ a.length + x.1) (fun x => b.length - x.1) (0, a) (fun _ => ?_) ?_ ?_ (fun x hx => ?_)
 ·simp only [go_sem]
 ·simp only [go_sem]; simp
 ·simp
 ·obtain ⟨i, l⟩ := x
  obtain ⟨hi, hq, hl⟩ := hx
  simp only at hi hq hl
  simp only [go_sem]
  refine aP ?_
  refine cnd rfl (fun h => ?_) (fun h => ?_)
  ·simp only [decide_eq_true_eq, Int.ofNat_lt] at h
   rw [a1J a l b i h] at hq
   have q0 := @h; refine jQ ?_
   refine dD (α := Nat) (fun k => [(8, ob (kI (a.take k) b[i])), (35, oi k)]) (fun _ => []) (fun k => k ≤ a.length ∧ jL a b[i] = jL (a.drop k) b[i]) (fun k => a.length - k) 0 (fun _ => ?_) ?_ ?_ (fun k hk => ?_)
   ·simp only [go_sem]
   ·simp only [go_sem]; simp [kI]
   ·simp
   ·obtain ⟨hk, hc⟩ := hk
    simp only [go_sem]
    refine aP ?_
    refine cnd rfl (fun h2 => ?_) (fun h2 => ?_)
    ·simp only [decide_eq_true_eq, Int.ofNat_lt] at h2
     rw [a1K a b[i] k h2] at hc
     have hkn := a1L a b[i] k h2
     by_cases h3 : a[k].fName = b[i].fName
     case neg =>
      have hc' : jL a b[i] = jL (a.drop (k + 1)) b[i] := by simpa [h3] using hc
      cases hkk : kI (a.take k) b[i]
      ·have q0 := @h2; have q1 := @h3; have q2 := @hkk; have q3 := @decide_false; refine rX ?_
       refine aR (k + 1) ?_ ?_ ?_
       ·simp only [go_sem]; simp [hkn, hkk, h3]
       ·exact ⟨by omega, hc'⟩
       ·omega
      ·have q0 := @h2; have q1 := @h3; have q2 := @hkk; have q3 := @decide_false; refine rX ?_
       refine aR (k + 1) ?_ ?_ ?_
       ·simp only [go_sem]; simp [hkn, hkk, h3]
       ·exact ⟨by omega, hc'⟩
       ·omega
     have q0 := @h2; have q1 := @h3; have q2 := @decide_true; refine a0B ?_
     refine cnd (b := !(uO a[k].fValue b[i].fValue)) rfl (fun h4 => ?_) (fun h4 => ?_)
     ·have hn : gD a a b = none := by rw [hq, if_pos (by rw [hc, h4]; simp [h3])]
      refine aP ?_
      exact aA ⟨⟨_, rfl, by simp only [go_sem, hn]⟩, trivial⟩
     ·have hc' : jL a b[i] = jL (a.drop (k + 1)) b[i] := by rw [hc, h4]; simp
      cases hkk : kI (a.take k) b[i]
      ·have q0 := @h2; have q1 := @h3; have q2 := @hkk; have q3 := @decide_true; refine rX ?_
       refine aR (k + 1) ?_ ?_ ?_
       ·simp only [go_sem]; simp [hkn, hkk, h3]
       ·exact ⟨by omega, hc'⟩
       ·omega
      ·have q0 := @h2; have q1 := @h3; have q2 := @hkk; have q3 := @decide_true; refine rX ?_
       refine aR (k + 1) ?_ ?_ ?_
       ·simp only [go_sem]; simp [hkn, hkk, h3]
       ·exact ⟨by omega, hc'⟩
       ·omega
    ·simp only [decide_eq_false_iff_not] at h2
     have e : k = a.length := by omega
     subst e
     have hcl : jL a b[i] = false := by rw [hc, List.drop_length]; rfl
     rw [hcl, if_neg (by simp)] at hq
     have htl : a.take a.length = a := List.take_length
     have q0 := @htl; refine jQ ?_
     refine cnd (b := kI a b[i]) rfl (fun h4 => ?_) (fun h4 => ?_)
     ·rw [if_pos h4] at hq
      refine aP ?_
      refine aR (i + 1, l) ?_ ?_ ?_
      ·simp only [go_sem]; simp
      ·exact ⟨by omega, hq, by simp only; omega⟩
      ·simp only; omega
     ·rw [if_neg (by simp [h4])] at hq
      have hx := idxP_fst (gV b[i].fName) l 0
      have hle := xJ (gV b[i].fName) l
      have qH := trivial; repeat' (with_reducible first | refine nY ?_ | (refine mX ?_; try simp only [go_sem]) | refine kD ?_ | refine rD ?_ | refine vL (gW _ _ (gV b[i].fName) l (fun y _ => a4i _ b[i] y rfl) (by omega)) ?_ | refine aO ?_ | fail)
      refine cnd (b := decide (dC (gV b[i].fName) l 0 < 0)) rfl (fun h5 => ?_) (fun h5 => ?_)
      ·have h5' := of_decide_eq_true h5
       have e5 : bS (gV b[i].fName) l = l.length := by
        rcases hx with hx | hx
        ·exact hx.2.2
        ·omega
       rw [e5] at hq
       have qH := trivial; repeat' (with_reducible first | refine nY ?_ | (refine mX ?_; try simp only [go_sem]) | refine kD ?_ | refine rD ?_ | refine vK (iC (l.map aT) (aT b[i]) l.length (by simp) (by simp; omega)) ?_ | refine aO ?_ | fail)
       refine aR (i + 1, fA l.length b[i] l) ?_ ?_ ?_
       ·simp only [go_sem]; simp [fA, aT, ← List.map_take, ← List.map_drop]
       ·exact ⟨by omega, hq, by simp only; rw [zR _ _ _ (Nat.le_refl _)]; omega⟩
       ·simp only; omega
      ·have h5' := of_decide_eq_false h5
       have e5 : dC (gV b[i].fName) l 0 = ((bS (gV b[i].fName) l : Nat) : Int) := by
        rcases hx with hx | hx
        ·omega
        ·simpa using hx.1
       have qH := @e5; repeat' (with_reducible first | refine nY ?_ | (refine mX ?_; try simp only [go_sem, qH]) | refine kD ?_ | refine rD ?_ | refine vK (iC (l.map aT) (aT b[i]) (bS (gV b[i].fName) l) (by simpa using hle) (by simp; omega)) ?_ | refine aO ?_ | fail)
       refine aR (i + 1, fA (bS (gV b[i].fName) l) b[i] l) ?_ ?_ ?_
       ·simp only [go_sem]; simp [fA, aT, ← List.map_take, ← List.map_drop]
       ·exact ⟨by omega, hq, by simp only; rw [zR _ _ _ hle]; omega⟩
       ·simp only; omega
  ·simp only [decide_eq_false_iff_not] at h
   have e : i = b.length := by omega
   subst e
   rw [List.drop_length, gD] at hq
   refine aP ?_
   exact aA ⟨⟨_, rfl, by simp only [go_sem, hq]⟩, trivial⟩
theorem pF {α β : Type} (f : α → β) (l : List α) (n : Nat) : (l.map f).take n = (l.take n).map f := List.map_take.symm
theorem pG {α β : Type} (f : α → β) (l : List α) (n : Nat) : (l.map f).drop n = (l.drop n).map f := List.map_drop.symm
theorem a5F (p : TAttr → Bool) (l : List TAttr) (k : Nat) (h : k < l.length) (hk : bS p l = k + bS p (l.drop k)) : bS p l = if p l[k] then k else k + 1 + bS p (l.drop (k + 1)) := by
 rw [hk, a2O p l k h]
 split <;> omega
theorem xD {α : Type} (w : α → Nat) : ∀ l m : List α, bV w (l ++ m) = bV w l + bV w m
 | [], m => by simp [bV]
 | x :: l, m => by simp only [List.cons_append, bV, xD w l m]; omega
theorem xE (i : Nat) (x : TAttr) (l : List TAttr) : aW (fA i x l) = aW l + (1 + iG x) := by
 have h1 : bV iG l = bV iG (l.take i) + bV iG (l.drop i) := by rw [← xD, List.take_append_drop]
 have h2 : l.length = (l.take i).length + (l.drop i).length := by rw [← List.length_append, List.take_append_drop]
 simp only [aW, fA, xD, bV, List.length_append, List.length_cons]
 omega
theorem xF (a : List TAttr) : ∀ (b l r : List TAttr), gD a l b = some r → aW r ≤ aW l + aW b
 | [], l, r, h => by simp only [gD, Option.some.injEq] at h; subst h; omega
 | x :: b, l, r, h => by
  have e : aW (x :: b) = 1 + iG x + aW b := by simp only [aW, bV, List.length_cons]; omega
  unfold gD at h
  split at h
  ·cases h
  ·split at h
   ·have := xF a b l r h; omega
   ·have := xF a b _ r h
    rw [xE] at this
    omega
theorem a1I (a b : TEdit) : eZ (jM a b) ≤ eZ a + eZ b := by
 unfold jM eZ
 split
 ·split
  ·simp [aW, bV]
  ·rename_i l h; exact xF _ _ _ _ h
 ·simp [aW, bV]
def sH (a b : TEdit) : TEdit := if a.fOK then (if b.fOK then ⟨false, []⟩ else a) else (if b.fOK then b else ⟨false, []⟩)
def wt (q : List TNode) (f : TFile) (r : List TResult) : Nat → Nat → Bool → TEdit
 | 0, _, _ => ⟨false, []⟩
 | k + 1, i, b => match q[i]? with
  | none => ⟨false, []⟩
  | some n =>
   if mt q f r (k + 1) i = b then ⟨true, []⟩
   else if n.fOp = 3 then (if b then ⟨true, [⟨n.fName, n.fValue⟩]⟩ else ⟨false, []⟩)
   else if n.fOp = 2 then (if b then ⟨false, []⟩ else ⟨true, [⟨n.fName, ⟨0, 0, ⟨#[]⟩⟩⟩]⟩)
   else if n.fOp = 5 then wt q f r k n.fLeft.toNat (!b)
   else if n.fOp = 6 then (if b then jM (wt q f r k n.fLeft.toNat b) (wt q f r k n.fRight.toNat b) else sH (wt q f r k n.fLeft.toNat b) (wt q f r k n.fRight.toNat b))
   else if n.fOp = 7 then (if b then sH (wt q f r k n.fLeft.toNat b) (wt q f r k n.fRight.toNat b) else jM (wt q f r k n.fLeft.toNat b) (wt q f r k n.fRight.toNat b))
   else ⟨false, []⟩
theorem a5E (a b : TEdit) : eZ (sH a b) ≤ eZ a + eZ b := by
 unfold sH
 have e0 : eZ ⟨false, []⟩ = 0 := rfl
 split <;> split <;> omega
theorem a8d {q : List TNode} {f : TFile} {r : List TResult} (h : okQ q = true) : ∀ (k i : Nat) (b : Bool), eZ (wt q f r k i b) ≤ 16 * 2 ^ k
 | 0, i, b => by simp [wt, eZ, aW, bV]
 | k + 1, i, b => by
  have e0 : eZ ⟨false, []⟩ = 0 := rfl
  have e1 : eZ ⟨true, []⟩ = 0 := rfl
  have hp : 1 ≤ 2 ^ k := Nat.one_le_two_pow
  have hs : 2 ^ (k + 1) = 2 * 2 ^ k := by rw [Nat.pow_succ]; omega
  have ih := a8d (f := f) (r := r) h k
  rw [hs]
  unfold wt
  split
  ·omega
  rename_i n hn
  have hok := a0H h hn
  split
  ·omega
  split
  ·rename_i h3
   have hw := a1E hok (.inr h3)
   have := hw.2 h3
   split
   ·simp [eZ, aW, bV, iG, fI]; omega
   ·omega
  split
  ·rename_i h2
   have hw := a1E hok (.inl h2)
   have e3 : (⟨#[]⟩ : ByteArray).size = 0 := rfl
   split
   ·omega
   ·simp [eZ, aW, bV, iG, fI]; omega
  split
  ·have := ih n.fLeft.toNat (!b); omega
  split
  ·have h1 := ih n.fLeft.toNat b
   have h2 := ih n.fRight.toNat b
   have h3 := a1I (wt q f r k n.fLeft.toNat b) (wt q f r k n.fRight.toNat b)
   have h4 := a5E (wt q f r k n.fLeft.toNat b) (wt q f r k n.fRight.toNat b)
   split <;> omega
  split
  ·have h1 := ih n.fLeft.toNat b
   have h2 := ih n.fRight.toNat b
   have h3 := a1I (wt q f r k n.fLeft.toNat b) (wt q f r k n.fRight.toNat b)
   have h4 := a5E (wt q f r k n.fLeft.toNat b) (wt q f r k n.fRight.toNat b)
   split <;> omega
  ·omega
theorem a4h (e : TEdit) : e.fSet.length ≤ eZ e := by unfold eZ; exact (by unfold aW; omega)
end Go.Proofs.Ytjkbipgmckeckaa
end
