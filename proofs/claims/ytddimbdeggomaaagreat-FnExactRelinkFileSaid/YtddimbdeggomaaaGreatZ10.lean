/- Joined texts. -/
import Derived.Test.YtddimbdeggomaaaGreatZ04
import Derived.Test.YtddimbdeggomaaaGreatZ05
import Derived.Test.YtddimbdeggomaaaGreatZ09
set_option linter.all false
section
namespace Go.Sx
open Go Go.RowKit
def yp : Option Nat → SV → SV
 | none, s => s
 | some id, s => fe id s
def jy (φ : Option Nat) (T : List SV) : List SV := T.map (yp φ)
theorem yq (φ : Option Nat) : yp φ (.o .u) = .o .u := by cases φ <;> rfl
theorem bN (T : List SV) : jy none T = T := by
 have e : yp none = id := rfl
 rw [jy, e, List.map_id]
def gL (all : List Oper) : Nat → Nat → Nat → Bool
 | 0, a, b => match all[b]? with
  | some o => onE o a
  | none => false
 | n + 1, a, b => match all[b]? with
  | some o => onE o a || o.after.any fun e => Region.binds .any e && gL all n a e.on
  | none => false
def Ej (all : List Oper) (L : Array Bool) : Prop := ∀ (b : Nat) (o : Oper), all[b]? = some o → L.getD b true = true → ∀ e ∈ o.after, Region.binds .any e = true → L.getD e.on true = true
theorem qh {all : List Oper} {L : Array Bool} {a b : Nat} {o : Oper} (ho : all[b]? = some o) (hd : ∀ e ∈ o.after, Region.binds .any e = true → L.getD e.on true = true) (h : onE o a = true) : L.getD a true = true := by
 obtain ⟨e, he, hb⟩ := Array.any_eq_true'.1 h
 simp only [Bool.and_eq_true, beq_iff_eq] at hb
 have := hd e he hb.1
 rwa [hb.2] at this
theorem j4 {all : List Oper} {L : Array Bool} (hc : Ej all L) : ∀ (n a b : Nat) (o : Oper), all[b]? = some o → (∀ e ∈ o.after, Region.binds .any e = true → L.getD e.on true = true) → gL all n a b = true → L.getD a true = true
 | 0, a, b, o, ho, hd, h => by
  unfold gL at h; rw [ho] at h; exact qh ho hd h
 | n + 1, a, b, o, ho, hd, h => by
  unfold gL at h
  rw [ho] at h
  rcases Bool.or_eq_true_iff.1 h with h | h
  ·exact qh ho hd h
  ·obtain ⟨e, he, hb⟩ := Array.any_eq_true'.1 h
   rw [Bool.and_eq_true] at hb
   have h1 := hd e he hb.1
   cases hq : all[e.on]? with
   | none => have := hb.2; cases n <;> (unfold gL at this; rw [hq] at this; cases this)
   | some p => exact j4 hc n a e.on p hq (hc e.on p hq h1) hb.2
def okE (all : List Oper) (ps ls : List Nat) : Bool := (ls.all fun i => ps.contains i) &&
 (List.range all.length).all fun i => uS all i fun o =>
  (match o.guard with | none => true | some _ => false) && (o.after.all fun e => !Region.binds .any e || decide (e.on < i)) &&
  (ps.contains i || o.dst.isSome) &&
  ((List.range all.length).all fun j => uS all j fun p => match p.dst with
   | none => true
   | some d => ((cq (opL o.op)).all fun t => t != d || onE o j || ls.contains j) && (j == i || o.dst != some d))
def Fj (all : List Oper) (ps dn rest w : List Nat) : Bool :=
 (List.range all.length).all fun i => ps.contains i || dn.any (fun e => gL all 4 i e) || rest.any (fun e => gL all 4 e i) || w.contains i
inductive PT where
 | n : PT
 | c : Nat → List Nat → List Nat → PT → PT → PT
def PT.tops : PT → List Nat
 | .n => []
 | .c p _ _ _ r => p :: r.tops
def PT.isNil : PT → Bool
 | .n => true
 | .c .. => false
def okN (all : List Oper) (ps dn rem w : List Nat) (t : PT) : Bool := Fj all ps dn rem w && rem.all fun p => (rem.any fun q => q != p && gL all 4 q p) || t.tops.contains p
def rq (all : List Oper) (ps : List Nat) : PT → List Nat → List Nat → Bool
 | .n, _, _ => true
 | .c p li w' sub r, dn, rem => rem.contains p && (li.all fun i => !ps.contains i && gL all 4 p i) && okN all ps (p :: dn) (rem.filter (· != p)) w' sub && rq all ps sub (p :: dn) (rem.filter (· != p)) && rq all ps r dn rem
def eA (all : List Oper) : List Nat → List Oper
 | [] => []
 | i :: l => match sK all i with
  | some o => o :: eA all l
  | none => eA all l
theorem iz {all : List Oper} {o : Oper} : ∀ {l : List Nat}, o ∈ eA all l ↔ ∃ i ∈ l, all[i]? = some o
 | [] => by simp [eA]
 | j :: l => by
  have ih := iz (all := all) (o := o) (l := l)
  unfold eA
  rw [kn]
  cases hq : all[j]? with
  | none => simp only [ih, List.mem_cons]; constructor
            ·rintro ⟨i, h1, h2⟩; exact ⟨i, .inr h1, h2⟩
            ·rintro ⟨i, h1 | h1, h2⟩
             ·subst h1; rw [hq] at h2; cases h2
             ·exact ⟨i, h1, h2⟩
  | some p =>
   simp only [List.mem_cons, ih]
   constructor
   ·rintro (rfl | ⟨i, h1, h2⟩)
    ·exact ⟨j, .inl rfl, hq⟩
    ·exact ⟨i, .inr h1, h2⟩
   ·rintro ⟨i, h1 | h1, h2⟩
    ·subst h1; rw [hq] at h2; exact .inl (Option.some.inj h2).symm
    ·exact .inr ⟨i, h1, h2⟩
def lat (all : List Oper) (ls : List Nat) : List Oper := all.mapIdx fun i o => if ls.contains i then { o with dst := none } else o
theorem mn {all : List Oper} {ls : List Nat} {j d : Nat} {o' : Oper} (h : (lat all ls)[j]? = some o') (hd : o'.dst = some d) : ∃ o, all[j]? = some o ∧ o.dst = some d ∧ j ∉ ls := by
 unfold lat at h
 rw [List.getElem?_mapIdx] at h
 cases ho : all[j]? with
 | none => rw [ho] at h; cases h
 | some o =>
  rw [ho] at h
  simp only [Option.map_some, Option.some.injEq] at h
  split at h
  ·subst h; cases hd
  ·rename_i hn
   subst h
   exact ⟨o, rfl, hd, fun hm => hn (List.contains_iff_mem.2 hm)⟩
theorem qi {all : List Oper} {ls : List Nat} {j : Nat} {o : Oper} (h : all[j]? = some o) (hj : j ∉ ls) : (lat all ls)[j]? = some o := by
 unfold lat
 rw [List.getElem?_mapIdx, h, Option.map_some, if_neg (fun hm => hj (List.contains_iff_mem.1 hm))]
section
variable {E : Env}
def Db : Op → Bool
 | .alloc _ => true
 | .assign _ => true
 | .move _ => true
 | .buildSlice .. => true
 | .store .. => true
 | .call c => match c.callee with
  | .builtin .append => true
  | _ => false
 | _ => false
def qj (E : Env) (o : Oper) (st : St) (k : St → SV → Prop) : Prop := if Db o.op then bH E o.op st k else wU E o st fun h' s => k ⟨st.t, h'⟩ s
theorem mo {T : List SV} {st : St} : ∀ (l : List (Nat × Operand)) (n : Nat), (∀ p ∈ l, ev ⟨T, st.h⟩ p.2 = ev st p.2) → partsC ⟨T, st.h⟩ n l = partsC st n l
 | [], _, _ => rfl
 | (i, x) :: r, n, h => by
  have h1 : ev ⟨T, st.h⟩ x = ev st x := h (i, x) (by simp)
  simp only [partsC, h1, mo r (n + 1) fun p hp => h p (by simp [hp])]
theorem Bx {op : Op} (ha : Db op = true) {st : St} {k : St → SV → Prop} (h : bH E op st k) : ∃ φ h' s, (∀ T : List SV, (∀ x ∈ op.operands, ev ⟨T, st.h⟩ x = ev st x) → bH E op ⟨T, st.h⟩ fun st2 s2 => st2 = ⟨jy φ T, h'⟩ ∧ s2 = s) ∧ k ⟨jy φ st.t, h'⟩ s := by
 cases op <;> simp only [Db, Bool.false_eq_true] at ha
 case alloc t =>
  simp only [bH] at h
  exact ⟨none, st.h ++ [.box t (E.T t).zero], _, fun T _ => by simp only [bH]; exact ⟨h.1, by rw [bN]; rfl, rfl⟩, by rw [bN]; exact h.2⟩
 case assign x => exact ⟨none, st.h, ev st x, fun T he => by simp only [bH, he x (by simp [Op.operands])]; exact ⟨by rw [bN], trivial⟩, by rw [bN]; exact h⟩
 case move x => exact ⟨none, st.h, ev st x, fun T he => by simp only [bH, he x (by simp [Op.operands])]; exact ⟨by rw [bN], trivial⟩, by rw [bN]; exact h⟩
 case buildSlice t len parts =>
  simp only [bH] at h
  unfold fc at h
  obtain ⟨h1, h2, h3, h4, h⟩ := h
  split at h
  ·rename_i cs e
   obtain ⟨h5, h⟩ := h
   split at h
   ·rename_i rows lin e2
    refine ⟨none, _, .o (.s st.h.length), fun T he => ?_, by rw [bN]; exact h.2⟩
    simp only [bH]
    unfold fc
    have hp : partsC ⟨T, st.h⟩ 0 parts.toList = partsC st 0 parts.toList := mo _ _ fun p hp => he p.2 (by rw [← Array.mem_toList_iff, ← o8]; exact List.mem_map.2 ⟨p, hp, rfl⟩)
    refine ⟨h1, h2, h3, h4, ?_⟩
    rw [hp, e]
    refine ⟨h5, ?_⟩
    simp only [e2]
    exact ⟨h.1, by rw [bN], trivial⟩
   ·exact h.elim
  ·exact h.elim
 case store t x v =>
  have key : ∀ T : List SV, (∀ y ∈ (Op.store t x v).operands, ev ⟨T, st.h⟩ y = ev st y) → ev ⟨T, st.h⟩ x = ev st x ∧ ev ⟨T, st.h⟩ v = ev st v := fun T he => ⟨he x (by simp [Op.operands]), he v (by simp [Op.operands])⟩
  simp only [bH] at h
  split at h
  ·rename_i id sz i fo e
   unfold fE at h
   obtain ⟨h1, h2, h3, h4, h5, h⟩ := h
   split at h
   ·rename_i e1 e2
    split at h
    ·rename_i e3
     refine ⟨none, _, .t [], fun T he => ?_, by rw [bN]; exact h.2.2⟩
     obtain ⟨hx, hv⟩ := key T he
     simp only [bH, hx, hv, e]
     unfold fE
     refine ⟨h1, h2, h3, h4, h5, ?_⟩
     simp only [e1, e2, e3]
     exact ⟨h.1, h.2.1, by rw [bN], trivial⟩
    ·exact h.elim
   ·exact h.elim
  ·rename_i id sz i fo e
   unfold eN at h
   split at h
   ·rename_i e0
    split at h
    ·rename_i e1
     split at h
     ·rename_i e2 e3
      refine ⟨none, _, .t [], fun T he => ?_, by rw [bN]; exact h.2.2.2.2⟩
      obtain ⟨hx, hv⟩ := key T he
      simp only [bH, hx, hv, e]
      unfold eN
      simp only [e0, e1, e2, e3]
      exact ⟨h.1, h.2.1, h.2.2.1, h.2.2.2.1, by rw [bN], trivial⟩
     ·exact h.elim
    ·exact h.elim
   ·exact h.elim
  ·rename_i e0 e1
   unfold iR at h
   split at h
   ·rename_i e
    split at h
    ·rename_i e2
     split at h
     ·rename_i e3
      refine ⟨none, _, .t [], fun T he => ?_, by rw [bN]; exact h.2.2.2.2⟩
      obtain ⟨hx, hv⟩ := key T he
      simp only [bH, hx, hv, e]
      unfold iR
      simp only [e2, e3]
      exact ⟨h.1, h.2.1, h.2.2.1, h.2.2.2.1, by rw [bN], trivial⟩
     ·exact h.elim
    ·exact h.elim
   ·exact h.elim
 case call c =>
  have hc : c.callee = .builtin .append := by
   split at ha
   ·rename_i e; exact e
   ·cases ha
  simp only [bH, di, hc] at h
  split at h
  ·rename_i s x t t' e1 e2
   have key : ∀ T : List SV, (∀ y ∈ (Op.call c).operands, ev ⟨T, st.h⟩ y = ev st y) → ev ⟨T, st.h⟩ s = ev st s ∧ ev ⟨T, st.h⟩ x = ev st x := fun T he =>
    ⟨he s (by simp only [Op.operands, Call.operands, Array.mem_append]; exact .inr (by rw [← Array.mem_toList_iff, e1]; simp)), he x (by simp only [Op.operands, Call.operands, Array.mem_append]; exact .inr (by rw [← Array.mem_toList_iff, e1]; simp))⟩
   have src : ∀ (T : List SV) (y : SV), srcR ⟨T, st.h⟩ y = srcR st y := fun T y => by unfold srcR; rfl
   obtain ⟨h0, h⟩ := h
   unfold dV at h
   obtain ⟨h1, h2, h⟩ := h
   split at h
   ·rename_i rows2 lin2 ids e3
    obtain ⟨h3, h⟩ := h
    split at h
    ·rename_i id e4
     split at h
     ·rename_i ty sz rows lin e5
      refine ⟨some id, _, .o (.s id), fun T he => ?_, h.2.2.2.2.2⟩
      obtain ⟨hs, hx⟩ := key T he
      simp only [bH, di, hc, e1, e2]
      refine ⟨h0, ?_⟩
      unfold dV
      refine ⟨h1, h2, ?_⟩
      rw [hx, src, e3]
      refine ⟨h3, ?_⟩
      rw [hs, e4]
      simp only [e5]
      exact ⟨h.1, h.2.1, h.2.2.1, h.2.2.2.1, h.2.2.2.2.1, rfl, trivial⟩
     ·exact h.elim
    ·rename_i e4
     refine ⟨none, _, _, fun T he => ?_, by rw [bN]; exact h.2.2⟩
     obtain ⟨hs, hx⟩ := key T he
     simp only [bH, di, hc, e1, e2]
     refine ⟨h0, ?_⟩
     unfold dV
     refine ⟨h1, h2, ?_⟩
     rw [hx, src, e3]
     refine ⟨h3, ?_⟩
     rw [hs, e4]
     exact ⟨h.1, h.2.1, by rw [bN], rfl⟩
    ·exact h.elim
   ·exact h.elim
  ·exact h.elim
end
section
variable {E : Env}
def m8 (E : Env) (all : List Oper) : PT → St → (St → Prop) → Prop
 | .n, _, _ => True
 | .c p li w' sub r, st, K => (∃ o, all[p]? = some o ∧ qj E o st fun st' s => oU E all (eA all li) (st'.put o.dst s) fun st'' => kL E st'' (eA all w') ∧ if sub.isNil = true then K st'' else m8 E all sub st'' K) ∧ m8 E all r st K
theorem yr {all : List Oper} {ps dn rem : List Nat} {st : St} {K : St → Prop} {p : Nat} : ∀ {t : PT}, p ∈ t.tops → rq all ps t dn rem = true → m8 E all t st K → ∃ li w' sub, (li.all fun i => !ps.contains i && gL all 4 p i) = true ∧ okN all ps (p :: dn) (rem.filter (· != p)) w' sub = true ∧ rq all ps sub (p :: dn) (rem.filter (· != p)) = true ∧
    ∃ o, all[p]? = some o ∧ qj E o st fun st' s => oU E all (eA all li) (st'.put o.dst s) fun st'' => kL E st'' (eA all w') ∧ if sub.isNil = true then K st'' else m8 E all sub st'' K
 | .n, h, _, _ => by simp [PT.tops] at h
 | .c q li w' sub r, h, ho, hv => by
  unfold rq at ho
  simp only [Bool.and_eq_true] at ho
  obtain ⟨⟨⟨⟨h1, h2⟩, h3⟩, h4⟩, h5⟩ := ho
  obtain ⟨v1, v2⟩ := hv
  simp only [PT.tops, List.mem_cons] at h
  rcases h with rfl | h
  ·exact ⟨li, w', sub, h2, h3, h4, v1⟩
  ·exact yr h h5 v2
theorem qk {all : List Oper} : ∀ {l : List Oper} {st : St} {K : St → Prop}, oU E all l st K → ∃ st1, K st1 ∧ st1.h = st.h ∧ st1.t.length = st.t.length ∧ ∀ d, (∀ o ∈ l, o.dst ≠ some d) → nth st1.t d = nth st.t d
 | [], st, K, h => ⟨st, h, rfl, rfl, fun _ _ => rfl⟩
 | o :: l, st, K, h => by
  obtain ⟨s, h1, _⟩ := sP h
  obtain ⟨st1, k1, k2, k3, k4⟩ := qk h1
  refine ⟨st1, k1, by rw [k2, jC], by rw [k3, gV], fun d hd => ?_⟩
  rw [k4 d fun p hp => hd p (List.mem_cons_of_mem _ hp)]
  cases ho : o.dst with
  | none => rfl
  | some e => exact tn fun e2 => hd o (by simp) (by rw [ho, e2])
theorem vr (φ : Option Nat) (T : List SV) (d : Nat) : nth (jy φ T) d = yp φ (nth T d) := by
 rw [g7, g7, List.getD_eq_getElem?_getD, List.getD_eq_getElem?_getD, jy, List.getElem?_map]
 cases T[d]? with
 | none => simp [yq]
 | some s => rfl
theorem Bz {o : Oper} {st : St} {k : St → SV → Prop} (h : qj E o st k) : ∃ φ h' s, (∀ T : List SV, (∀ x ∈ o.op.operands, ev ⟨T, st.h⟩ x = ev st x) → bH E o.op ⟨T, st.h⟩ fun st2 s2 => st2 = ⟨jy φ T, h'⟩ ∧ s2 = s) ∧ k ⟨jy φ st.t, h'⟩ s := by
 unfold qj at h
 split at h
 ·rename_i ha; exact Bx ha h
 ·unfold wU at h
  split at h
  ·rename_i c hop
   split at h
   ·rename_i f hc
    split at h
    ·rename_i fn caps hfn
     obtain ⟨h', s', hcall, hk⟩ := h
     refine ⟨none, h', s', fun T he => ?_, by rw [bN]; exact hk⟩
     rw [hop] at he
     have hfe : ev ⟨T, st.h⟩ f = ev st f := he f (by simp [Op.operands, Call.operands, hc])
     have hargs : c.args.toList.map (ev ⟨T, st.h⟩) = c.args.toList.map (ev st) := List.map_congr_left fun x hx => he x (by simp only [Op.operands, Call.operands, Array.mem_append]; exact .inr (by simpa using hx))
     rw [hop]
     simp only [bH, di, hc, hfe, hfn, hargs]
     rw [bN]
     exact ⟨hcall T⟩
    ·exact h.elim
   ·exact h.elim
  ·exact h.elim
theorem Dc {all : List Oper} {listed : Array Bool} {i d : Nat} {o : Oper} {T : List SV} {H : List HB} (s6 : ∀ (j : Nat) (p : Oper) (d : Nat), all[j]? = some p → p.dst = some d → j ≠ i → o.dst ≠ some d) (ho : all[i]? = some o) (hd : o.dst = some d) :
    St.put ⟨ct all listed T, H⟩ o.dst (nth T d) = ⟨ct all (listed.setIfInBounds i true) T, H⟩ := by
 have keep : ∀ j, j ≠ i → (listed.setIfInBounds i true).getD j true = listed.getD j true := fun j hj => getD_set_ne true (fun e => hj e.symm)
 rw [hd]
 simp only [St.put, ek]
 congr 1
 apply List.ext_getElem?
 intro m
 rw [List.getElem?_set]
 rcases Nat.lt_or_ge m T.length with hm | hm
 ·rw [cu (l := ct all (listed.setIfInBounds i true) T) (by rw [bB]; exact hm), dk]
  by_cases e : d = m
  ·subst e
   rw [if_pos rfl, if_pos (by rw [bB]; exact hm)]
   have : eO all (listed.setIfInBounds i true) d = false := by
    cases hh : eO all (listed.setIfInBounds i true) d with
    | false => rfl
    | true =>
     obtain ⟨j, p, hj, hd2, hu⟩ := (cv _ _ d).1 hh
     by_cases e : j = i
     ·subst e; rw [aP] at hu; cases hu
     ·exact (s6 j p d hj hd2 e hd).elim
   rw [this]; simp
  ·rw [if_neg e, cu (by rw [bB]; exact hm), dk]
   have : eO all (listed.setIfInBounds i true) m = eO all listed m := by
    rw [Bool.eq_iff_iff, cv, cv]
    constructor
    ·rintro ⟨j, p, hj, hd2, hu⟩
     refine ⟨j, p, hj, hd2, ?_⟩
     by_cases e2 : j = i
     ·subst e2; rw [aP] at hu; cases hu
     ·rwa [keep j e2] at hu
    ·rintro ⟨j, p, hj, hd2, hu⟩
     refine ⟨j, p, hj, hd2, ?_⟩
     by_cases e2 : j = i
     ·subst e2; rw [ho] at hj; cases hj; rw [hd] at hd2; cases hd2; exact (e rfl).elim
     ·rwa [keep j e2]
   rw [this]
 ·rw [List.getElem?_eq_none (l := ct all (listed.setIfInBounds i true) T) (by rw [bB]; exact hm)]
  split
  ·rename_i e; subst e
   rw [if_neg (by rw [bB]; omega)]
  ·rw [List.getElem?_eq_none (l := ct all listed T) (by rw [bB]; exact hm)]
theorem Ek (hT : TyOK E.P E.T) (hE : ∀ t, E.eqk t ≠ [] → EqT E.P t (E.eqk t)) {all : List Oper} {ps0 ls : List Nat} (hok : okE all ps0 ls = true) {Q : Exit → Act → World → Prop} {K : St → Prop} (hQ : ∀ g V st a w, Rel E.C g V st a w → K st → Q .normal a w) :
    ∀ (n : Nat) (listed : Array Bool) (dn rem : List Nat) (t : PT) (wi : List Nat) (st : St) (g : List Gh) (V : View) (a : Act) (w : World), listed.size = all.length → pB all listed ≤ n → Ej all listed → okN all ps0 dn rem wi t = true → rq all ps0 t dn rem = true → (∀ e ∈ dn, listed.getD e true = true) → (∀ q ∈ rem, q < all.length ∧ q ∈ ps0 ∧ listed.getD q true = false) → (∀ i, i < all.length → i ∈ ps0 → listed.getD i true = false → i ∈ rem) →
     kL E st (eA all wi) → (if t.isNil = true then K st else m8 E all t st K) → Rel E.C g V ⟨ct (lat all ls) listed st.t, st.h⟩ a w → wpAny E.P .any all.toArray Q n listed a w := by
 unfold okE at hok
 rw [Bool.and_eq_true] at hok
 obtain ⟨hls0, hok⟩ := hok
 have hls : ∀ i ∈ ls, i ∈ ps0 := fun i hi => List.contains_iff_mem.1 (List.all_eq_true.1 hls0 i hi)
 have spec : ∀ (i : Nat) (o : Oper), all[i]? = some o → o.guard = none ∧ (∀ e ∈ o.after, Region.binds .any e = true → e.on < i) ∧ (i ∉ ps0 → ∃ d, o.dst = some d) ∧
     (∀ (j : Nat) (p : Oper) (d : Nat), all[j]? = some p → p.dst = some d → (∀ t ∈ cq (opL o.op), t = d → onE o j = true ∨ j ∈ ls) ∧ (j ≠ i → o.dst ≠ some d)) := fun i o ho => by
  have h := List.all_eq_true.1 hok i (List.mem_range.2 (List.getElem?_eq_some_iff.1 ho).1)
  unfold uS at h
  rw [ho] at h
  simp only [Bool.and_eq_true] at h
  obtain ⟨⟨⟨h1, h2⟩, h4⟩, h5⟩ := h
  refine ⟨?_, fun e he hb => ?_, fun hs => ?_, fun j p d hj hd => ?_⟩
  ·cases hg : o.guard with
   | none => rfl
   | some x => rw [hg] at h1; cases h1
  ·have := (Array.all_eq_true_iff_forall_mem.1 h2) e he
   rw [hb] at this
   simpa using this
  ·rcases Bool.or_eq_true_iff.1 h4 with h | h
   ·exact (hs (List.contains_iff_mem.1 h)).elim
   ·exact Option.isSome_iff_exists.1 h
  ·have h := List.all_eq_true.1 h5 j (List.mem_range.2 (List.getElem?_eq_some_iff.1 hj).1)
   rw [hj] at h
   simp only [hd, Bool.and_eq_true] at h
   refine ⟨fun t ht e => ?_, fun hne => ?_⟩
   ·have := List.all_eq_true.1 h.1 t ht
    subst e
    simp only [bne_self_eq_false, Bool.false_or, Bool.or_eq_true] at this
    exact this.imp id List.contains_iff_mem.1
   ·rcases Bool.or_eq_true_iff.1 h.2 with h | h
    ·exact (hne (beq_iff_eq.1 h)).elim
    ·simpa using h
 have toT : ∀ {listed : Array Bool} {j : Nat}, listed.getD j false = true → listed.getD j true = true := fun {listed j} h => by
  rcases Nat.lt_or_ge j listed.size with h' | h'
  ·simp [h'] at h ⊢; exact h
  ·simp [Array.getElem?_eq_none h'] at h
 have fin : ∀ (listed : Array Bool) (dn rem : List Nat) (t : PT) (wi : List Nat) (st : St) (g : List Gh) (V : View) (a : Act) (w : World), (∀ j, j < all.length → listed.getD j true = true) → rq all ps0 t dn rem = true → (∀ q ∈ rem, q < all.length ∧ q ∈ ps0 ∧ listed.getD q true = false) → (if t.isNil = true then K st else m8 E all t st K) → Rel E.C g V ⟨ct (lat all ls) listed st.t, st.h⟩ a w → Q .normal a w := fun listed dn rem t wi st g V a w hl hpt h2 hv hr => by
  have hm : ct (lat all ls) listed st.t = st.t := by
   apply List.ext_getElem?
   intro d
   rcases Nat.lt_or_ge d st.t.length with h | h
   ·rw [cu (by rw [bB]; exact h), cu h, dk]
    have : eO (lat all ls) listed d = false := by
     cases hh : eO (lat all ls) listed d with
     | false => rfl
     | true =>
      obtain ⟨j, o', ho', hd', hu⟩ := (cv (lat all ls) listed d).1 hh
      obtain ⟨o, ho, _, _⟩ := mn ho' hd'
      rw [hl j (List.getElem?_eq_some_iff.1 ho).1] at hu; cases hu
    rw [this]; simp
   ·rw [List.getElem?_eq_none (by rw [bB]; exact h), List.getElem?_eq_none h]
  rw [hm] at hr
  cases t with
  | n => exact hQ _ _ _ _ _ hr hv
  | c p li w' sub r =>
   unfold rq at hpt
   simp only [Bool.and_eq_true] at hpt
   obtain ⟨h3, _, h4⟩ := h2 p (List.contains_iff_mem.1 hpt.1.1.1.1)
   rw [hl _ h3] at h4; cases h4
 have none_left : ∀ (listed : Array Bool), listed.size = all.length → Region.ready .any all.toArray listed = [] → ∀ j, j < all.length → listed.getD j true = true := fun listed hsz hr => by
  intro j
  induction j using Nat.strongRecOn with
  | _ j ih =>
   intro hj
   cases hq : listed.getD j true with
   | true => rfl
   | false =>
    have ho : all[j]? = some (all[j]'hj) := List.getElem?_eq_getElem hj
    have : j ∈ Region.ready .any all.toArray listed := mem_ready.2 ⟨hq, _, toA ho, fun e he hb => by
     have hlt := (spec j _ ho).2.1 e he hb
     have h1 := ih e.on hlt (by omega)
     have hes : e.on < listed.size := by omega
     simp [hes] at h1 ⊢; exact h1⟩
    rw [hr] at this; cases this
 intro n
 induction n with
 | zero =>
  intro listed dn rem t wi st g V a w hsz hn hclo hokn hokt hdn hphs hall hchk hv hr
  have hl : ∀ j, j < all.length → listed.getD j true = true := fun j hj => by
   cases hq : listed.getD j true with
   | true => rfl
   | false =>
    have : j ∈ (List.range all.length).filter fun j => !listed.getD j true := List.mem_filter.2 ⟨List.mem_range.2 hj, by rw [hq]; rfl⟩
    have := List.length_pos_of_mem this
    unfold pB at hn
    omega
  refine ⟨List.eq_nil_iff_forall_not_mem.2 fun i hi => ?_, fin listed dn rem t wi st g V a w hl hokt hphs hv hr⟩
  obtain ⟨h1, o, h2, _⟩ := mem_ready.1 hi
  rw [hl i (by simpa using (Array.getElem?_eq_some_iff.1 h2).1)] at h1; cases h1
 | succ n ih =>
  intro listed dn rem t wi st g V a w hsz hn hclo hokn hokt hdn hphs hall hchk hv hr
  refine ⟨fun he => fin listed dn rem t wi st g V a w (none_left listed hsz he) hokt hphs hv hr, fun i hi => ?_⟩
  obtain ⟨hun, o, ho', haft⟩ := mem_ready.1 hi
  have ho : all[i]? = some o := by simpa using ho'
  have hil := (List.getElem?_eq_some_iff.1 ho).1
  obtain ⟨s1, s2, s5, s6⟩ := spec i o ho
  have hun' : pB all (listed.setIfInBounds i true) ≤ n := by have := sa hil hun; omega
  have haft' : ∀ e ∈ o.after, Region.binds .any e = true → listed.getD e.on true = true := fun e he hb => toT (haft e he hb)
  have keep : ∀ j, j ≠ i → (listed.setIfInBounds i true).getD j true = listed.getD j true := fun j hj => getD_set_ne true (fun e => hj e.symm)
  have up : ∀ j, listed.getD j true = true → (listed.setIfInBounds i true).getD j true = true := fun j hj => by
   by_cases e : j = i
   ·subst e; rw [aP]
   ·rw [keep j e]; exact hj
  have hclo' : Ej all (listed.setIfInBounds i true) := fun b p hb hl e he hbd => by
   by_cases e2 : b = i
   ·subst e2; rw [ho] at hb; cases hb; exact up _ (haft' e he hbd)
   ·rw [keep b e2] at hl; exact up _ (hclo b p hb hl e he hbd)
  have evEq : ∀ x ∈ o.op.operands, ev ⟨ct (lat all ls) listed st.t, st.h⟩ x = ev st x := fun x hx => by
   cases x with
   | tmp t =>
    show nth (ct (lat all ls) listed st.t) t = nth st.t t
    rw [dk]
    have : eO (lat all ls) listed t = false := by
     cases hh : eO (lat all ls) listed t with
     | false => rfl
     | true =>
      obtain ⟨j, p', hj', hd', hu⟩ := (cv (lat all ls) listed t).1 hh
      obtain ⟨p, hj, hd, hnl⟩ := mn hj' hd'
      rcases (s6 j p t hj hd).1 t (cZ.2 (by rw [o8]; simpa using hx)) rfl with h1 | h1
      ·have h2 := qh ho haft' h1
       rw [hu] at h2; cases h2
      ·exact (hnl h1).elim
    rw [this]; simp
   | const v => rfl
   | func f => rfl
   | global m => rfl
  unfold wpOp
  rw [ho']
  simp only [Region.wanted, s1, if_true]
  refine .inl ?_
  have hwin : ∀ (rest : List Nat), Fj all ps0 dn rest wi = true → i ∉ ps0 → (∀ e ∈ rest, listed.getD e true = false) → i ∈ wi := fun rest hw hni hrest => by
   have h := List.all_eq_true.1 hw i (List.mem_range.2 hil)
   simp only [Bool.or_eq_true] at h
   rcases h with ((h | h) | h) | h
   ·exact (hni (List.contains_iff_mem.1 h)).elim
   ·obtain ⟨e, he, hr⟩ := List.any_eq_true.1 h
    have hle := hdn e he
    cases hq : all[e]? with
    | none => unfold gL at hr; rw [hq] at hr; cases hr
    | some p =>
     have := j4 hclo 4 i e p hq (hclo e p hq hle) hr
     rw [hun] at this; cases this
   ·obtain ⟨e, he, hr⟩ := List.any_eq_true.1 h
    have := j4 hclo 4 e i o ho haft' hr
    rw [hrest e he] at this; cases this
   ·exact List.contains_iff_mem.1 h
  by_cases hp : i ∈ ps0
  ·have hip := hall i hil hp hun
   have htop : i ∈ t.tops := by
    unfold okN at hokn
    rw [Bool.and_eq_true] at hokn
    have h1 := List.all_eq_true.1 hokn.2 i hip
    rcases Bool.or_eq_true_iff.1 h1 with h | h
    ·obtain ⟨q, hq, hr⟩ := List.any_eq_true.1 h
     rw [Bool.and_eq_true] at hr
     have h2 := j4 hclo 4 q i o ho haft' hr.2
     rw [(hphs q hq).2.2] at h2; cases h2
    ·exact List.contains_iff_mem.1 h
   have hv' : m8 E all t st K := by
    cases t with
    | n => simp [PT.tops] at htop
    | c => exact hv
   obtain ⟨l, w', sub, hw3, hw4, hw5, o2, ho2, hvo⟩ := yr htop hokt hv'
   rw [ho] at ho2; cases ho2
   obtain ⟨p, rfl⟩ : ∃ p, p = i := ⟨i, rfl⟩
   have hphs0 := hphs
   ·skip
    obtain ⟨φ, h', s, hsw, hk⟩ := Bz hvo
    obtain ⟨st1, k1, k2, k3, k4⟩ := qk hk
    refine e9 hT hE (hsw _ evEq) hr fun g' V' st' w2 s2 y hr' hsy hk2 => ?_
    obtain ⟨rfl, rfl⟩ := hk2
    have hr2 := hr'.put o.dst hsy
    have hh1 : st1.h = h' := by rw [k2, jC]
    have hlen1 : st1.t.length = st.t.length := by rw [k3, gV]; simp [jy]
    have e : (St.put ⟨jy φ (ct (lat all ls) listed st.t), h'⟩ o.dst s2) = ⟨ct (lat all ls) (listed.setIfInBounds p true) st1.t, st1.h⟩ := by
     rw [hh1]
     have key : ∀ m, m < st.t.length → nth (St.put ⟨jy φ (ct (lat all ls) listed st.t), h'⟩ o.dst s2).t m = nth (ct (lat all ls) (listed.setIfInBounds p true) st1.t) m := fun m hm => by
      rw [dk]
      by_cases ed : o.dst = some m
      ·have hid : eO (lat all ls) (listed.setIfInBounds p true) m = false := by
        cases hh : eO (lat all ls) (listed.setIfInBounds p true) m with
        | false => rfl
        | true =>
         obtain ⟨j, q', hj', hd', hu⟩ := (cv _ _ m).1 hh
         obtain ⟨q, hj, hd2, _⟩ := mn hj' hd'
         by_cases e : j = p
         ·subst e; rw [aP] at hu; cases hu
         ·exact ((s6 j q m hj hd2).2 e ed).elim
       have hnl : ∀ q ∈ eA all l, q.dst ≠ some m := fun q hq hd => by
        obtain ⟨j, hj, hjq⟩ := iz.1 hq
        have h1 := List.all_eq_true.1 hw3 j hj
        simp only [Bool.and_eq_true] at h1
        by_cases e : j = p
        ·subst e
         have := h1.1
         simp [hp] at this
        ·exact (s6 j q m hjq hd).2 e ed
       rw [hid, k4 m hnl, ed]
       simp only [St.put, ek, g7, List.getD_eq_getElem?_getD, List.getElem?_set, Bool.false_eq_true, if_false, if_true]
       rw [if_pos (by simp [jy, bB]; exact hm), if_pos (by simp [jy]; exact hm)]
      ·have ep : ∀ (T : List SV) (H : List HB), nth (St.put ⟨T, H⟩ o.dst s2).t m = nth T m := fun T H => by
        cases hq : o.dst with
        | none => rfl
        | some d => exact tn (st := ⟨T, H⟩) fun e => ed (by rw [hq, e])
       rw [ep, vr, dk]
       have ehid : eO (lat all ls) (listed.setIfInBounds p true) m = eO (lat all ls) listed m := by
        rw [Bool.eq_iff_iff, cv, cv]
        constructor
        ·rintro ⟨j, q, hj, hd2, hu⟩
         refine ⟨j, q, hj, hd2, ?_⟩
         by_cases e2 : j = p
         ·subst e2; rw [aP] at hu; cases hu
         ·rwa [keep j e2] at hu
        ·rintro ⟨j, q, hj, hd2, hu⟩
         refine ⟨j, q, hj, hd2, ?_⟩
         by_cases e2 : j = p
         ·subst e2
          obtain ⟨q0, hq0, hd3, _⟩ := mn hj hd2
          rw [ho] at hq0; cases hq0; exact (ed hd3).elim
         ·rwa [keep j e2]
       rw [ehid]
       cases hh : eO (lat all ls) listed m with
       | true => simp [yq]
       | false =>
        simp only [Bool.false_eq_true, if_false]
        have hnl : ∀ q ∈ eA all l, q.dst ≠ some m := fun q hq hd => by
         obtain ⟨j, hj, hjq⟩ := iz.1 hq
         have h1 := List.all_eq_true.1 hw3 j hj
         simp only [Bool.and_eq_true] at h1
         have hju : listed.getD j true = false := by
          cases hx : listed.getD j true with
          | false => rfl
          | true =>
           have := j4 hclo 4 p j q hjq (hclo j q hjq hx) h1.2
           rw [hun] at this; cases this
         have hjl : j ∉ ls := fun hm => by have := h1.1; simp [hls j hm] at this
         have := (cv (lat all ls) listed m).2 ⟨j, q, qi hjq hjl, hd, hju⟩
         rw [hh] at this; cases this
        rw [k4 m hnl, ep, vr]
     have eh : (St.put ⟨jy φ (ct (lat all ls) listed st.t), h'⟩ o.dst s2).h = h' := jC _ _ _
     have el : (St.put ⟨jy φ (ct (lat all ls) listed st.t), h'⟩ o.dst s2).t.length = st.t.length := by rw [gV]; simp [jy, bB]
     have et : (St.put ⟨jy φ (ct (lat all ls) listed st.t), h'⟩ o.dst s2).t = ct (lat all ls) (listed.setIfInBounds p true) st1.t := by
      apply List.ext_getElem?
      intro m
      rcases Nat.lt_or_ge m st.t.length with hm | hm
      ·rw [cu (by rw [el]; exact hm), cu (by rw [bB, hlen1]; exact hm), key m hm]
      ·rw [List.getElem?_eq_none (by rw [el]; exact hm), List.getElem?_eq_none (by rw [bB, hlen1]; exact hm)]
     generalize (St.put ⟨jy φ (ct (lat all ls) listed st.t), h'⟩ o.dst s2) = X at eh et
     cases X
     simp only at eh et
     rw [eh, et]
    rw [e] at hr2
    have memf : ∀ q, q ∈ rem.filter (· != p) → q ∈ rem ∧ q ≠ p := fun q hq => by
     obtain ⟨h1, h2⟩ := List.mem_filter.1 hq
     exact ⟨h1, by simpa using h2⟩
    refine ih _ (p :: dn) (rem.filter (· != p)) sub w' st1 g' V' _ _ (by simp [hsz]) hun' hclo' hw4 hw5 (fun e2 he => ?_) (fun q hq => ?_) (fun j hj hj0 hu => ?_) k1.1 k1.2 hr2
    ·rcases List.mem_cons.1 he with rfl | he
     ·rw [aP]
     ·exact up _ (hdn e2 he)
    ·obtain ⟨hq, hne⟩ := memf q hq
     obtain ⟨q1, q2, q3⟩ := hphs q hq
     exact ⟨q1, q2, by rw [keep _ hne]; exact q3⟩
    ·by_cases e2 : j = p
     ·subst e2; rw [aP] at hu; cases hu
     ·rw [keep j e2] at hu
      exact List.mem_filter.2 ⟨hall j hj hj0 hu, by simpa using e2⟩
  ·have hmem : i ∈ wi ∧ kL E st (eA all wi) := by
    unfold okN at hokn
    rw [Bool.and_eq_true] at hokn
    exact ⟨hwin rem hokn.1 hp fun e he => (hphs e he).2.2, hchk⟩
   obtain ⟨d, hd, hvc⟩ := uU hmem.2 (iz.2 ⟨i, hmem.1, ho⟩)
   have h1 := oT (st := ⟨ct (lat all ls) listed st.t, st.h⟩) (dM (fun x hx => (evEq x hx).symm) hvc)
   refine e9 hT hE h1 hr fun g' V' st' w' s y hr' hsy hk => ?_
   obtain ⟨rfl, rfl⟩ := hk
   have hr2 := hr'.put o.dst hsy
   have hil : i ∉ ls := fun hm => hp (hls i hm)
   rw [Dc (all := lat all ls) (fun j p d hj hd hne => by
    obtain ⟨p0, hj0, hd0, _⟩ := mn hj hd
    exact (s6 j p0 d hj0 hd0).2 hne) (qi ho hil) hd] at hr2
   refine ih _ dn rem t wi st g' V' _ _ (by simp [hsz]) hun' hclo' hokn hokt (fun e he => up e (hdn e he)) (fun q hq => ?_) (fun j hj hj0 hu => ?_) hchk hv hr2
   ·obtain ⟨q1, q2, q3⟩ := hphs q hq
    exact ⟨q1, q2, by rw [keep q (fun e => hp (e ▸ q2))]; exact q3⟩
   ·by_cases e2 : j = i
    ·subst e2; rw [aP] at hu; cases hu
    ·rw [keep j e2] at hu; exact hall j hj hj0 hu
end
section
variable {E : Env}
inductive PO where
 | nil : PO
 | cons : Nat → List Oper → List Oper → PO → PO → PO
def PO.isNil : PO → Bool
 | .nil => true
 | .cons .. => false
def kV (all : List Oper) : PT → PO
 | .n => .nil
 | .c p l w sub r => .cons p (eA all l) (eA all w) (kV all sub) (kV all r)
theorem m9 {all : List Oper} (t : PT) : (kV all t).isNil = t.isNil := by cases t <;> rfl
def vcEJ (E : Env) (all : List Oper) : PO → St → (St → Prop) → Prop
 | .nil, _, _ => True
 | .cons p l w' sub r, st, K => (∃ o, all[p]? = some o ∧ qj E o st fun st' s => oU E all l (st'.put o.dst s) fun st'' => kL E st'' w' ∧ if sub.isNil = true then K st'' else vcEJ E all sub st'' K) ∧ vcEJ E all r st K
theorem tI {all : List Oper} {K : St → Prop} : ∀ (t : PT) (st : St), vcEJ E all (kV all t) st K = m8 E all t st K
 | .n, _ => rfl
 | .c p l w' sub r, st => by
  have h1 : ∀ st, vcEJ E all (kV all sub) st K = m8 E all sub st K := tI sub
  have h2 : vcEJ E all (kV all r) st K = m8 E all r st K := tI r st
  simp only [kV, vcEJ, m8, h1, h2, m9]
def tJ (G : St) (s : St) : Prop := ∃ (l : List (Nat × Nat)) (s' : St), swL s l = some s' ∧ s'.le G
theorem vt : ∀ l : List SV, leT l l
 | [] => trivial
 | _ :: l => ⟨.inr rfl, vt l⟩
theorem St.le_refl (s : St) : s.le s := ⟨vt _, l6 _⟩
theorem b9 {s : St} : tJ s s := ⟨[], s, rfl, s.le_refl⟩
theorem yt {G s s' : St} (l : List (Nat × Nat)) (h : swL s l = some s') (e : s' = G) : tJ G s := ⟨l, s', h, e ▸ s'.le_refl⟩
theorem El (hT : TyOK E.P E.T) (hE : ∀ t, E.eqk t ≠ [] → EqT E.P t (E.eqk t)) (hm : E.P.follows .mixedOrders = true) {id : Nat} {ops : List Oper} {F : Ex → St → Prop} {st G : St} (ps ls l0 w0 : List Nat) (t : PT)
    (hok : okE ops ps ls = true) (hl0 : (l0.all fun i => !ps.contains i) = true) (hn : okN ops ps [] ps w0 t = true) (ht : rq ops ps t [] ps = true) (hlt : (ps.all fun q => decide (q < ops.length)) = true) (hb : st.okB = true)
    (h : oU E ops (eA ops l0) st fun st1 => kL E st1 (eA ops w0) ∧ if t.isNil = true then tJ G st1 else m8 E ops t st1 (tJ G)) (hG : G.okB = true) (hF : F .normal G) : WP E.P E.C (.region id ops.toArray true) F st := fun g V a w hr => by
 refine wp_region_any hm ?_
 obtain ⟨st1, k1, k2, k3, k4⟩ := qk h
 have hf : ∀ j : Nat, j < ops.length → (Array.replicate ops.toArray.size false).getD j true = false := fun j hj => by simp [hj]
 have hle : st.le ⟨ct (lat ops ls) (Array.replicate ops.toArray.size false) st1.t, st1.h⟩ := by
  refine ⟨wW (by rw [bB, k3]) fun d _ => ?_, by show leH st.h st1.h; rw [k2]; exact l6 _⟩
  rw [dk]
  cases hh : eO (lat ops ls) (Array.replicate ops.toArray.size false) d with
  | true => exact .inl rfl
  | false =>
   right
   simp only [Bool.false_eq_true, if_false]
   refine (k4 d fun o ho hd => ?_).symm
   obtain ⟨j, hjl, hj⟩ := iz.1 ho
   have hnl : j ∉ ls := fun hm => by
    unfold okE at hok
    rw [Bool.and_eq_true] at hok
    have h1 := List.all_eq_true.1 hok.1 j hm
    have h2 := List.all_eq_true.1 hl0 j hjl
    rw [h1] at h2; cases h2
   have := (cv (lat ops ls) (Array.replicate ops.toArray.size false) d).2 ⟨j, o, qi hj hnl, hd, hf j (List.getElem?_eq_some_iff.1 hj).1⟩
   rw [hh] at this; cases this
 have hbt : ((ct (lat ops ls) (Array.replicate ops.toArray.size false) st1.t).all (·.below st1.h.length) && st1.h.all (·.below st1.h.length)) = true := by
  unfold St.okB at hb
  rw [Bool.and_eq_true] at hb ⊢
  rw [k2]
  refine ⟨List.all_eq_true.2 fun s hs => ?_, hb.2⟩
  obtain ⟨d, hd⟩ := List.mem_iff_getElem?.1 hs
  rcases (hle.1.get).2 d s hd with e | e
  ·subst e; rfl
  ·exact List.all_eq_true.1 hb.1 s (List.mem_of_getElem? e)
 have := Ek hT hE hok (Q := fun e a w => Post E.C F e a w) (K := tJ G) (fun g V st _ _ hr h => by
     obtain ⟨l, s', hs, hle⟩ := h
     obtain ⟨g', h1⟩ := hr.swL l hs
     exact ⟨_, V, G, h1.forget hle hG, hF⟩) ops.toArray.size (Array.replicate ops.toArray.size false) [] ps t w0 st1 _ V a { w with drawn := w.drawn + 1 } (by simp)
  (by unfold pB; exact Nat.le_trans (List.length_filter_le _ _) (by simp)) (fun b o ho hl => by rw [hf b (List.getElem?_eq_some_iff.1 ho).1] at hl; cases hl) hn ht (fun e he => by simp at he)
  (fun q hq => by
   have hlq := of_decide_eq_true (List.all_eq_true.1 hlt q hq)
   exact ⟨hlq, hq, hf _ hlq⟩) (fun i _ hi _ => hi) k1.1 k1.2 ((hr.drawn).forget hle hbt)
 exact this
structure vcTT (E : Env) (all : List Oper) (t : PO) (st : St) (K : St → Prop) (u : Tie (all, t, K)) : Prop where
 out : vcEJ E all t st K
structure vcTN (E : Env) (all w : List Oper) (t : PO) (st : St) (K : St → Prop) (u : Tie (all, w, t, K)) : Prop where
 out : kL E st w ∧ if t.isNil = true then K st else vcEJ E all t st K
def BA (E : Env) (all : List Oper) (p : Nat) (l : List Oper) (st : St) (k : St → Prop) (_ : Tie (l, k)) : Prop := match sK all p with
 | some o => qj E o st fun st' s => vcDRun E all l (st'.put o.dst s) k ⟨⟩
 | none => False
theorem cJ {all : List Oper} {st : St} {K : St → Prop} : vcTT E all .nil st K ⟨⟩ := ⟨trivial⟩
theorem ca {all l w' : List Oper} {p : Nat} {sub r : PO} {st : St} {K : St → Prop} (h : BA E all p l st (fun st'' => vcTN E all w' sub st'' K ⟨⟩) ⟨⟩) (hr : vcTT E all r st K ⟨⟩) : vcTT E all (.cons p l w' sub r) st K ⟨⟩ := ⟨by
 refine ⟨?_, hr.out⟩
 have e2 : (fun st'' => vcTN E all w' sub st'' K ⟨⟩) = (fun st'' => kL E st'' w' ∧ if sub.isNil = true then K st'' else vcEJ E all sub st'' K) := funext fun s => propext ⟨fun h => h.out, fun h => ⟨h⟩⟩
 rw [e2] at h
 unfold BA at h
 rw [kn] at h
 split at h
 ·rename_i o ho
  refine ⟨o, ho, ?_⟩
  have e4 : (fun (st' : St) (s : SV) => vcDRun E all l (st'.put o.dst s) (fun st'' => kL E st'' w' ∧ if sub.isNil = true then K st'' else vcEJ E all sub st'' K) ⟨⟩) = (fun st' s => oU E all l (st'.put o.dst s) (fun st'' => kL E st'' w' ∧ if sub.isNil = true then K st'' else vcEJ E all sub st'' K)) := funext fun st' => funext fun s => propext ⟨fun h => h.out, fun h => ⟨h⟩⟩
  rw [e4] at h
  exact h
 ·exact h.elim⟩
theorem cd {all w : List Oper} {st : St} {K : St → Prop} (hc : kL E st w) (h : K st) : vcTN E all w .nil st K ⟨⟩ := ⟨hc, h⟩
theorem ce {all w l w' : List Oper} {p : Nat} {sub r : PO} {st : St} {K : St → Prop} (hc : kL E st w) (h : vcTT E all (.cons p l w' sub r) st K ⟨⟩) : vcTN E all w (.cons p l w' sub r) st K ⟨⟩ := ⟨hc, h.out⟩
end
attribute [go_sem] eA kV BA qj Db
end Go.Sx
end
section
namespace Go.Proofs.YtddimbdeggomaaaGreat
open Go Go.Sx Go.RowKit Go.Proofs
def Ok2 (s : St) : Prop := s.okB = true
theorem oH {s : St} (h : s.okB = true := by simp only [go_sem] <;> fail) : Ok2 s := h
theorem rE {C : Ctx} {id : Nat} {ops L W : List Oper} {T : PO} {F : Ex → St → Prop} {st G : St} (ps ls l0 w0 : List Nat) (t : PT) (hl : eA ops l0 = L) (hw : eA ops w0 = W) (hp : kV ops t = T)
    (hok : (okE ops ps ls && (l0.all fun i => !ps.contains i) && okN ops ps [] ps w0 t && rq ops ps t [] ps && ps.all fun q => decide (q < ops.length)) = true) (hb : st.okB = true) (h : vcDRun (EV C) ops L st (fun st1 => vcTN (EV C) ops W T st1 (tJ G) ⟨⟩) ⟨⟩) (hG : Ok2 G) (hF : F .normal G) : WP Tryz.prog C (.region id ops.toArray true) F st := by
 subst hl hw hp
 simp only [Bool.and_eq_true] at hok
 refine El (E := EV C) th A6 fol ps ls l0 w0 t hok.1.1.1.1 hok.1.1.1.2 hok.1.1.2 hok.1.2 hok.2 hb ?_ hG hF
 have e : (fun st1 => vcTN (EV C) ops (eA ops w0) (kV ops t) st1 (tJ G) ⟨⟩) = (fun st1 => kL (EV C) st1 (eA ops w0) ∧ if t.isNil = true then tJ G st1 else m8 (EV C) ops t st1 (tJ G)) := funext fun s => propext (by
  constructor
  ·intro h; have := h.out; rwa [tI, m9] at this
  ·intro h; exact ⟨by rwa [tI, m9]⟩)
 rw [e] at h
 exact h.out
end Go.Proofs.YtddimbdeggomaaaGreat
end
section
set_option maxRecDepth 100000
set_option maxHeartbeats 4000000
namespace Go.Proofs.YtddimbdeggomaaaGreat
open Go Go.Sx Go.RowKit Go.Proofs
theorem jf (s : ByteArray) : ∀ l : List TResult, (aq s l).length ≤ ah l
 | [] => by simp [aq]
 | x :: l => by
  have := jf s l
  unfold aq
  simp only [ah, wsum, List.length_cons] at this ⊢
  split
  ·unfold wResult; omega
  ·omega
theorem gM (l : List TResult) (s : ByteArray) (hl : ah l ≤ 67108864) : FnC Tryz.prog 165 [.o (.d (.sl (l.map ai))), os s] (.o (.d (.sl ((aq s l).map bY)))) := (fP l s hl).pu (by simp only [go_sem, and_self])
theorem dZ (l : List TResult) (s : ByteArray) (hl : ah l ≤ 67108864) : FnC Tryz.prog 81 [.o (.d (.sl (l.map ai))), os s] (.o (.d (.sl ((aq s l).map bY)))) := (fQ l s hl).pu (by simp only [go_sem, and_self])
def BB (v : TValue) : Int := if v.fKind = 1 then v.fInt else 0
theorem j5 (f : TFile) (s : ByteArray) (hf : wFile f ≤ 4300000) : FnC Tryz.prog 314 [a8 f, os s] (.t [(false, [.d (iv (BB (bw s f.fAttrs)))]), (false, [.d (bv (decide ((bw s f.fAttrs).fKind = 1)))])]) := by
 refine ent Tryz.func314 rfl Tryz.call314 rfl (fun C => ?_); simp only [go_sem, st0, Tryz.ntmps314]
 by_cases h : (bw s f.fAttrs).fKind = 1
 ·have qH := aI @h (aI @decide_true @decide_false); repeat' (with_reducible first | refine nY ?_ | (refine mX ?_; try simp only [go_sem, qH]) | refine kD ?_ | refine rX ?_ | refine xD ?_ | refine rD ?_ | refine cP (dp f s hf) ?_ | refine aO ?_ | fail)
  exact aa ⟨⟨_, rfl, by simp only [go_sem, BB, h, if_true, decide_true]⟩, by simp [aE]⟩
 ·have qH := aI @h (aI @decide_true @decide_false); repeat' (with_reducible first | refine nY ?_ | (refine mX ?_; try simp only [go_sem, qH]) | refine kD ?_ | refine rX ?_ | refine xD ?_ | refine rD ?_ | refine cP (dp f s hf) ?_ | refine aO ?_ | fail)
  exact aa ⟨⟨_, rfl, by simp only [go_sem, BB, h, if_false, decide_false]⟩, by simp [aE]⟩
theorem tK (q : List TNode) (f : TFile) (r : List TResult) (hv : okQ q = true) (hf : wFile f ≤ 4300000) (hr : ah r ≤ 67108864) : ∀ k i, i < k → k ≤ q.length → FnC Tryz.prog 292 [.o (.d (.sl (q.map aw))), oi (i : Nat), a8 f, .o (.d (.sl (r.map ai)))] (ob (mt q f r k i)) := by
 intro k
 induction k with
 | zero => intro i hi _; omega
 | succ k ih => ?_
 intro i hi hk
 have hlt : i < q.length := by omega
 have hn := List.getElem?_eq_getElem hlt
 have hok := lp hv hn
 have hop := iy hok
 refine ent Tryz.func292 rfl Tryz.call292 rfl (fun C => ?_); simp only [go_sem, st0, Tryz.ntmps292]
 by_cases h2 : q[i].fOp = 2
 ·have hm : mt q f r (k + 1) i = !decide ((bw q[i].fName f.fAttrs).fKind = 0) := by simp [mt, hn, h2]
  have qH := aI @hlt (aI @h2 @decide_true); repeat' (with_reducible first | refine nY ?_ | (refine mX ?_; try simp only [go_sem, qH]) | refine kD ?_ | refine rX ?_ | refine xD ?_ | refine rD ?_ | refine cP (dp f q[i].fName hf) ?_ | refine aO ?_ | fail)
  exact aa ⟨⟨_, rfl, by simp only [go_sem, hm, decide_not]⟩, trivial⟩
 by_cases h3 : q[i].fOp = 3
 ·have hm : mt q f r (k + 1) i = so (bw q[i].fName f.fAttrs) q[i].fValue := by simp [mt, hn, h3]
  have qH := aI @hlt (aI @h2 (aI @h3 (aI @decide_true @decide_false))); repeat' (with_reducible first | refine nY ?_ | (refine mX ?_; try simp only [go_sem, qH]) | refine kD ?_ | refine rX ?_ | refine xD ?_ | refine rD ?_ | refine cP (dp f q[i].fName hf) ?_ | refine aO ?_ | fail)
  exact aa ⟨⟨_, rfl, by simp only [go_sem, hm, so]⟩, trivial⟩
 by_cases h4 : q[i].fOp = 4
 ·have hm : mt q f r (k + 1) i = qd (bw q[i].fName f.fAttrs) q[i].fValue.fInt := by simp [mt, hn, h4]
  by_cases hj : (bw q[i].fName f.fAttrs).fKind = 1
  ·repeat' (with_reducible first | refine nY ?_ | (refine mX ?_; try simp only [go_sem, hlt, h2, h3, h4, decide_true, decide_false, hj, BB, if_true]) | refine kO ?_ (by decide) | (refine CJ (by simp only [bJ, eQ, Bool.false_eq_true, if_false, if_true]; rfl) (by kernel_rfl) (by kernel_rfl) (by decide) ?_ ?_ ?_; (focus simp only [go_sem]; done); (focus simp only [go_sem]; done)) | refine xE ?_ (by simp only [jr, eQ, Bool.false_eq_true, if_false, if_true]; rfl) (by simp only [go_sem]; rfl) | refine rc (by kernel_rfl) ?_ | (refine cC (j5 f q[i].fName hf) ?_ ?_; focus simp only [go_sem, and_self]; done) | (refine And.intro ?_ ?_; focus omega))
   exact aa ⟨⟨_, rfl, by simp only [go_sem, hm, qd, hj, decide_true, Bool.true_and]⟩, trivial⟩
  ·repeat' (with_reducible first | refine nY ?_ | (refine mX ?_; try simp only [go_sem, hlt, h2, h3, h4, decide_true, decide_false, hj, BB, if_false]) | refine kO ?_ (by decide) | (refine CJ (by simp only [bJ, eQ, Bool.false_eq_true, if_false, if_true]; rfl) (by kernel_rfl) (by kernel_rfl) (by decide) ?_ ?_ ?_; (focus simp only [go_sem]; done); (focus simp only [go_sem]; done)) | refine xE ?_ (by simp only [jr, eQ, Bool.false_eq_true, if_false, if_true]; rfl) (by simp only [go_sem]; rfl) | refine rc (by kernel_rfl) ?_ | (refine cC (j5 f q[i].fName hf) ?_ ?_; focus simp only [go_sem, and_self]; done) | (refine And.intro ?_ ?_; focus omega))
   exact aa ⟨⟨_, rfl, by simp only [go_sem, hm, qd, hj, decide_false, Bool.false_and]⟩, trivial⟩
 by_cases h5 : q[i].fOp = 5
 ·obtain ⟨l, hl, hli⟩ := bC hok (.inl h5)
  have hm : mt q f r (k + 1) i = !mt q f r k l := by simp [mt, hn, h5, hl]
  have qH := aI @hlt (aI @h2 (aI @h3 (aI @h4 (aI @h5 (aI @decide_true (aI @decide_false @hl)))))); repeat' (with_reducible first | refine nY ?_ | (refine mX ?_; try simp only [go_sem, qH]) | refine kD ?_ | refine rX ?_ | refine xD ?_ | refine rD ?_ | refine cP (ih l (by omega) (by omega)) ?_ | refine aO ?_ | fail)
  exact aa ⟨⟨_, rfl, by simp only [go_sem, hm]⟩, trivial⟩
 by_cases h6 : q[i].fOp = 6
 ·obtain ⟨l, hl, hli⟩ := bC hok (.inr (.inl h6))
  obtain ⟨m, hr2, hmi⟩ := cx hok (.inl h6)
  have hm : mt q f r (k + 1) i = (mt q f r k l && mt q f r k m) := by simp [mt, hn, h6, hl, hr2]
  cases hx : mt q f r k l
  all_goals
   have qH := aI @hlt (aI @h2 (aI @h3 (aI @h4 (aI @h5 (aI @h6 (aI @decide_true (aI @decide_false (aI @hl (aI @hr2 @hx))))))))); repeat' (with_reducible first | refine nY ?_ | (refine mX ?_; try simp only [go_sem, qH]) | refine kD ?_ | refine rX ?_ | refine xD ?_ | refine rD ?_ | refine cP (ih l (by omega) (by omega)) ?_ | refine cP (ih m (by omega) (by omega)) ?_ | refine aO ?_ | fail)
   exact aa ⟨⟨_, rfl, by simp only [go_sem, hm, hx, Bool.true_and, Bool.false_and]⟩, trivial⟩
 by_cases h7 : q[i].fOp = 7
 ·obtain ⟨l, hl, hli⟩ := bC hok (.inr (.inr h7))
  obtain ⟨m, hr2, hmi⟩ := cx hok (.inr h7)
  have hm : mt q f r (k + 1) i = (mt q f r k l || mt q f r k m) := by simp [mt, hn, h7, hl, hr2]
  cases hx : mt q f r k l
  all_goals
   have qH := aI @hlt (aI @h2 (aI @h3 (aI @h4 (aI @h5 (aI @h6 (aI @h7 (aI @decide_true (aI @decide_false (aI @hl (aI @hr2 @hx)))))))))); repeat' (with_reducible first | refine nY ?_ | (refine mX ?_; try simp only [go_sem, qH]) | refine kD ?_ | refine rX ?_ | refine xD ?_ | refine rD ?_ | refine cP (ih l (by omega) (by omega)) ?_ | refine cP (ih m (by omega) (by omega)) ?_ | refine aO ?_ | fail)
   exact aa ⟨⟨_, rfl, by simp only [go_sem, hm, hx, Bool.true_or, Bool.false_or]⟩, trivial⟩
 have hrl := jf q[i].fName r
 by_cases h8 : q[i].fOp = 8
 ·have hm : mt q f r (k + 1) i = hasI (aq q[i].fName r) f.fID := by simp [mt, hn, h8]
  have qH := aI @hlt (aI @h2 (aI @h3 (aI @h4 (aI @h5 (aI @h6 (aI @h7 (aI @h8 (aI @decide_true @decide_false)))))))); repeat' (with_reducible first | refine nY ?_ | (refine mX ?_; try simp only [go_sem, qH]) | refine kD ?_ | refine rX ?_ | refine xD ?_ | refine rD ?_ | refine cP (gM r q[i].fName hr) ?_ | refine cP (fj (aq q[i].fName r) f.fID (by omega)) ?_ | refine aO ?_ | fail)
  exact aa ⟨⟨_, rfl, by simp only [go_sem, hm]⟩, trivial⟩
 by_cases h9 : q[i].fOp = 9
 ·have hm : mt q f r (k + 1) i = (!decide (f.fLink = 0) && hasI (aq q[i].fName r) f.fLink) := by simp [mt, hn, h9]
  by_cases hz : f.fLink = 0
  ·have qH := aI @hlt (aI @h2 (aI @h3 (aI @h4 (aI @h5 (aI @h6 (aI @h7 (aI @h8 (aI @h9 (aI @decide_true (aI @decide_false @hz)))))))))); repeat' (with_reducible first | refine nY ?_ | (refine mX ?_; try simp only [go_sem, qH]) | refine kD ?_ | refine rX ?_ | refine xD ?_ | refine rD ?_ | refine cP (gM r q[i].fName hr) ?_ | refine cP (fj (aq q[i].fName r) f.fLink (by omega)) ?_ | refine aO ?_ | fail)
   exact aa ⟨⟨_, rfl, by simp only [go_sem, hm, hz, decide_true, Bool.not_true, Bool.false_and]⟩, trivial⟩
  ·have qH := aI @hlt (aI @h2 (aI @h3 (aI @h4 (aI @h5 (aI @h6 (aI @h7 (aI @h8 (aI @h9 (aI @decide_true (aI @decide_false @hz)))))))))); repeat' (with_reducible first | refine nY ?_ | (refine mX ?_; try simp only [go_sem, qH]) | refine kD ?_ | refine rX ?_ | refine xD ?_ | refine rD ?_ | refine cP (gM r q[i].fName hr) ?_ | refine cP (fj (aq q[i].fName r) f.fLink (by omega)) ?_ | refine aO ?_ | fail)
   exact aa ⟨⟨_, rfl, by simp only [go_sem, hm, hz, decide_false, Bool.not_false, Bool.true_and]⟩, trivial⟩
 have h1 : q[i].fOp = 1 := by omega
 have hm : mt q f r (k + 1) i = true := by simp [mt, hn, h1]
 have qH := aI @hlt (aI @h1 (aI @h2 (aI @h3 (aI @h4 (aI @h5 (aI @h6 (aI @h7 (aI @h8 (aI @h9 (aI @decide_true @decide_false)))))))))); repeat' (with_reducible first | refine nY ?_ | (refine mX ?_; try simp only [go_sem, qH]) | refine kD ?_ | refine rX ?_ | refine xD ?_ | refine rD ?_ | refine aO ?_ | fail)
 exact aa ⟨⟨_, rfl, by simp only [go_sem, hm]⟩, trivial⟩
theorem tL (q : List TNode) (f : TFile) (r : List TResult) (hv : okQ q = true) (hf : wFile f ≤ 4300000) (hr : ah r ≤ 67108864) : ∀ k i, i < k → k ≤ q.length → FnC Tryz.prog 239 [.o (.d (.sl (q.map aw))), oi (i : Nat), a8 f, .o (.d (.sl (r.map ai)))] (ob (mt q f r k i)) := by
 intro k
 induction k with
 | zero => intro i hi _; omega
 | succ k ih => ?_
 intro i hi hk
 have hlt : i < q.length := by omega
 have hn := List.getElem?_eq_getElem hlt
 have hok := lp hv hn
 have hop := iy hok
 refine ent Tryz.func239 rfl Tryz.call239 rfl (fun C => ?_); simp only [go_sem, st0, Tryz.ntmps239]
 by_cases h1 : q[i].fOp = 1
 ·have hm : mt q f r (k + 1) i = true := by simp [mt, hn, h1]
  have qH := aI @hlt (aI @h1 @decide_true); repeat' (with_reducible first | refine nY ?_ | (refine mX ?_; try simp only [go_sem, qH]) | refine kD ?_ | refine rX ?_ | refine xD ?_ | refine rD ?_ | refine cP (bo f q[i].fName hf) ?_ | refine aO ?_ | fail)
  exact aa ⟨⟨_, rfl, by simp only [go_sem, hm]⟩, trivial⟩
 by_cases h2 : q[i].fOp = 2
 ·have hm : mt q f r (k + 1) i = !decide ((bw q[i].fName f.fAttrs).fKind = 0) := by simp [mt, hn, h2]
  have qH := aI @hlt (aI @h1 (aI @h2 (aI @decide_true @decide_false))); repeat' (with_reducible first | refine nY ?_ | (refine mX ?_; try simp only [go_sem, qH]) | refine kD ?_ | refine rX ?_ | refine xD ?_ | refine rD ?_ | refine cP (bo f q[i].fName hf) ?_ | refine aO ?_ | fail)
  exact aa ⟨⟨_, rfl, by simp only [go_sem, hm, decide_not]⟩, trivial⟩
 by_cases h3 : q[i].fOp = 3
 ·have hm : mt q f r (k + 1) i = so (bw q[i].fName f.fAttrs) q[i].fValue := by simp [mt, hn, h3]
  have qH := aI @hlt (aI @h1 (aI @h2 (aI @h3 (aI @decide_true @decide_false)))); repeat' (with_reducible first | refine nY ?_ | (refine mX ?_; try simp only [go_sem, qH]) | refine kD ?_ | refine rX ?_ | refine xD ?_ | refine rD ?_ | refine cP (bo f q[i].fName hf) ?_ | refine aO ?_ | fail)
  exact aa ⟨⟨_, rfl, by simp only [go_sem, hm, so]⟩, trivial⟩
 by_cases h4 : q[i].fOp = 4
 ·have hm : mt q f r (k + 1) i = qd (bw q[i].fName f.fAttrs) q[i].fValue.fInt := by simp [mt, hn, h4]
  by_cases hj : (bw q[i].fName f.fAttrs).fKind = 1
  ·have hj' : decide ((bw q[i].fName f.fAttrs).fKind = 1) = true := decide_eq_true hj
   have qH := aI @hlt (aI @h1 (aI @h2 (aI @h3 (aI @h4 (aI @decide_true (aI @decide_false @hj')))))); repeat' (with_reducible first | refine nY ?_ | (refine mX ?_; try simp only [go_sem, qH]) | refine kD ?_ | refine rX ?_ | refine xD ?_ | refine rD ?_ | refine cP (bo f q[i].fName hf) ?_ | refine aO ?_ | fail)
   exact aa ⟨⟨_, rfl, by simp only [go_sem, hm, qd, hj, decide_true, Bool.true_and]⟩, trivial⟩
  ·have hj' : decide ((bw q[i].fName f.fAttrs).fKind = 1) = false := decide_eq_false hj
   have qH := aI @hlt (aI @h1 (aI @h2 (aI @h3 (aI @h4 (aI @decide_true (aI @decide_false @hj')))))); repeat' (with_reducible first | refine nY ?_ | (refine mX ?_; try simp only [go_sem, qH]) | refine kD ?_ | refine rX ?_ | refine xD ?_ | refine rD ?_ | refine cP (bo f q[i].fName hf) ?_ | refine aO ?_ | fail)
   exact aa ⟨⟨_, rfl, by simp only [go_sem, hm, qd, hj, decide_false, Bool.false_and]⟩, trivial⟩
 by_cases h5 : q[i].fOp = 5
 ·obtain ⟨l, hl, hli⟩ := bC hok (.inl h5)
  have hm : mt q f r (k + 1) i = !mt q f r k l := by simp [mt, hn, h5, hl]
  have qH := aI @hlt (aI @h1 (aI @h2 (aI @h3 (aI @h4 (aI @h5 (aI @decide_true (aI @decide_false @hl))))))); repeat' (with_reducible first | refine nY ?_ | (refine mX ?_; try simp only [go_sem, qH]) | refine kD ?_ | refine rX ?_ | refine xD ?_ | refine rD ?_ | refine cP (bo f q[i].fName hf) ?_ | refine cP (ih l (by omega) (by omega)) ?_ | refine aO ?_ | fail)
  exact aa ⟨⟨_, rfl, by simp only [go_sem, hm]⟩, trivial⟩
 by_cases h6 : q[i].fOp = 6
 ·obtain ⟨l, hl, hli⟩ := bC hok (.inr (.inl h6))
  obtain ⟨m, hr2, hmi⟩ := cx hok (.inl h6)
  have hm : mt q f r (k + 1) i = (mt q f r k l && mt q f r k m) := by simp [mt, hn, h6, hl, hr2]
  cases hx : mt q f r k l
  all_goals
   have qH := aI @hlt (aI @h1 (aI @h2 (aI @h3 (aI @h4 (aI @h5 (aI @h6 (aI @decide_true (aI @decide_false (aI @hl (aI @hr2 @hx)))))))))); repeat' (with_reducible first | refine nY ?_ | (refine mX ?_; try simp only [go_sem, qH]) | refine kD ?_ | refine rX ?_ | refine xD ?_ | refine rD ?_ | refine cP (bo f q[i].fName hf) ?_ | refine cP (ih l (by omega) (by omega)) ?_ | refine cP (ih m (by omega) (by omega)) ?_ | refine aO ?_ | fail)
   exact aa ⟨⟨_, rfl, by simp only [go_sem, hm, hx, Bool.true_and, Bool.false_and]⟩, trivial⟩
 by_cases h7 : q[i].fOp = 7
 ·obtain ⟨l, hl, hli⟩ := bC hok (.inr (.inr h7))
  obtain ⟨m, hr2, hmi⟩ := cx hok (.inr h7)
  have hm : mt q f r (k + 1) i = (mt q f r k l || mt q f r k m) := by simp [mt, hn, h7, hl, hr2]
  cases hx : mt q f r k l
  all_goals
   have qH := aI @hlt (aI @h1 (aI @h2 (aI @h3 (aI @h4 (aI @h5 (aI @h6 (aI @h7 (aI @decide_true (aI @decide_false (aI @hl (aI @hr2 @hx))))))))))); repeat' (with_reducible first | refine nY ?_ | (refine mX ?_; try simp only [go_sem, qH]) | refine kD ?_ | refine rX ?_ | refine xD ?_ | refine rD ?_ | refine cP (bo f q[i].fName hf) ?_ | refine cP (ih l (by omega) (by omega)) ?_ | refine cP (ih m (by omega) (by omega)) ?_ | refine aO ?_ | fail)
   exact aa ⟨⟨_, rfl, by simp only [go_sem, hm, hx, Bool.true_or, Bool.false_or]⟩, trivial⟩
 have hrl := jf q[i].fName r
 by_cases h8 : q[i].fOp = 8
 ·have hm : mt q f r (k + 1) i = hasI (aq q[i].fName r) f.fID := by simp [mt, hn, h8]
  have qH := aI @hlt (aI @h1 (aI @h2 (aI @h3 (aI @h4 (aI @h5 (aI @h6 (aI @h7 (aI @h8 (aI @decide_true @decide_false))))))))); repeat' (with_reducible first | refine nY ?_ | (refine mX ?_; try simp only [go_sem, qH]) | refine kD ?_ | refine rX ?_ | refine xD ?_ | refine rD ?_ | refine cP (bo f q[i].fName hf) ?_ | refine cP (dZ r q[i].fName hr) ?_ | refine cP (cU (aq q[i].fName r) f.fID (by omega)) ?_ | refine aO ?_ | fail)
  exact aa ⟨⟨_, rfl, by simp only [go_sem, hm]⟩, trivial⟩
 have h9 : q[i].fOp = 9 := by omega
 have hm : mt q f r (k + 1) i = (!decide (f.fLink = 0) && hasI (aq q[i].fName r) f.fLink) := by simp [mt, hn, h9]
 by_cases hz : f.fLink = 0
 ·have hz1 : decide (f.fLink = 0) = true := decide_eq_true hz
  have hz2 : decide (¬ f.fLink = 0) = false := decide_eq_false (fun h => h hz)
  have qH := aI @hlt (aI @h1 (aI @h2 (aI @h3 (aI @h4 (aI @h5 (aI @h6 (aI @h7 (aI @h8 (aI @decide_true (aI @decide_false (aI @hz1 @hz2))))))))))); repeat' (with_reducible first | refine nY ?_ | (refine mX ?_; try simp only [go_sem, qH]) | refine kD ?_ | refine rX ?_ | refine xD ?_ | refine rD ?_ | refine cP (bo f q[i].fName hf) ?_ | refine cP (dZ r q[i].fName hr) ?_ | refine cP (cU (aq q[i].fName r) f.fLink (by omega)) ?_ | refine aO ?_ | fail)
  exact aa ⟨⟨_, rfl, by simp only [go_sem, hm, hz, decide_true, Bool.not_true, Bool.false_and]⟩, trivial⟩
 ·have hz1 : decide (f.fLink = 0) = false := decide_eq_false hz
  have hz2 : decide (¬ f.fLink = 0) = true := decide_eq_true hz
  have qH := aI @hlt (aI @h1 (aI @h2 (aI @h3 (aI @h4 (aI @h5 (aI @h6 (aI @h7 (aI @h8 (aI @decide_true (aI @decide_false (aI @hz1 @hz2))))))))))); repeat' (with_reducible first | refine nY ?_ | (refine mX ?_; try simp only [go_sem, qH]) | refine kD ?_ | refine rX ?_ | refine xD ?_ | refine rD ?_ | refine cP (bo f q[i].fName hf) ?_ | refine cP (dZ r q[i].fName hr) ?_ | refine cP (cU (aq q[i].fName r) f.fLink (by omega)) ?_ | refine aO ?_ | fail)
  exact aa ⟨⟨_, rfl, by simp only [go_sem, hm, hz, decide_false, Bool.not_false, Bool.true_and]⟩, trivial⟩
end Go.Proofs.YtddimbdeggomaaaGreat
end
