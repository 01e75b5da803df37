/- Joined texts. -/
import Derived.Test.YtgpoopjfkplilaaGreatDoorZ05
import Derived.Test.YtgpoopjfkplilaaGreatDoorZ06
import Derived.Test.YtgpoopjfkplilaaGreatDoorZ07
set_option linter.all false
section
namespace Go.Sx
open Go Go.RowKit
def a8T : Option Nat → SV → SV
 | none, s => s
 | some id, s => yL id s
def kT (φ : Option Nat) (T : List SV) : List SV := T.map (a8T φ)
theorem a8U (φ : Option Nat) : a8T φ (.o .u) = .o .u := by cases φ <;> rfl
theorem bP (T : List SV) : kT none T = T := by
 have e : a8T none = id := rfl
 rw [kT, e, List.map_id]
def nP (all : List Oper) : Nat → Nat → Nat → Bool
 | 0, a, b => match all[b]? with
  | some o => onE o a
  | none => false
 | n + 1, a, b => match all[b]? with
  | some o => onE o a || o.after.any fun e => Region.binds .any e && nP all n a e.on
  | none => false
def b5x (all : List Oper) (L : Array Bool) : Prop := ∀ (b : Nat) (o : Oper), all[b]? = some o → L.getD b true = true → ∀ e ∈ o.after, Region.binds .any e = true → L.getD e.on true = true
theorem a2c {all : List Oper} {L : Array Bool} {a b : Nat} {o : Oper} (ho : all[b]? = some o) (hd : ∀ e ∈ o.after, Region.binds .any e = true → L.getD e.on true = true) (h : onE o a = true) : L.getD a true = true := by
 obtain ⟨e, he, hb⟩ := Array.any_eq_true'.1 h
 simp only [Bool.and_eq_true, beq_iff_eq] at hb
 have := hd e he hb.1
 rwa [hb.2] at this
theorem uG {all : List Oper} {L : Array Bool} (hc : b5x all L) : ∀ (n a b : Nat) (o : Oper), all[b]? = some o → (∀ e ∈ o.after, Region.binds .any e = true → L.getD e.on true = true) → nP all n a b = true → L.getD a true = true
 | 0, a, b, o, ho, hd, h => by
  unfold nP at h; rw [ho] at h; exact a2c ho hd h
 | n + 1, a, b, o, ho, hd, h => by
  unfold nP at h
  rw [ho] at h
  rcases Bool.or_eq_true_iff.1 h with h | h
  ·exact a2c ho hd h
  ·obtain ⟨e, he, hb⟩ := Array.any_eq_true'.1 h
   rw [Bool.and_eq_true] at hb
   have h1 := hd e he hb.1
   cases hq : all[e.on]? with
   | none => have := hb.2; cases n <;> (unfold nP at this; rw [hq] at this; cases this)
   | some p => exact uG hc n a e.on p hq (hc e.on p hq h1) hb.2
def okE (all : List Oper) (ps ls : List Nat) : Bool := (ls.all fun i => ps.contains i) &&
 (List.range all.length).all fun i => a5X all i fun o =>
  (match o.guard with | none => true | some _ => false) && (o.after.all fun e => !Region.binds .any e || decide (e.on < i)) &&
  (ps.contains i || o.dst.isSome) &&
  ((List.range all.length).all fun j => a5X all j fun p => match p.dst with
   | none => true
   | some d => ((nG (opL o.op)).all fun t => t != d || onE o j || ls.contains j) && (j == i || o.dst != some d))
def b7a (all : List Oper) (ps dn rest w : List Nat) : Bool :=
 (List.range all.length).all fun i => ps.contains i || dn.any (fun e => nP all 4 i e) || rest.any (fun e => nP all 4 e i) || w.contains i
inductive PT where
 | n : PT
 | c : Nat → List Nat → List Nat → PT → PT → PT
def PT.tops : PT → List Nat
 | .n => []
 | .c p _ _ _ r => p :: r.tops
def PT.isNil : PT → Bool
 | .n => true
 | .c .. => false
def okN (all : List Oper) (ps dn rem w : List Nat) (t : PT) : Bool := b7a all ps dn rem w && rem.all fun p => (rem.any fun q => q != p && nP all 4 q p) || t.tops.contains p
def a0Z (all : List Oper) (ps : List Nat) : PT → List Nat → List Nat → Bool
 | .n, _, _ => true
 | .c p li w' sub r, dn, rem => rem.contains p && (li.all fun i => !ps.contains i && nP all 4 p i) && okN all ps (p :: dn) (rem.filter (· != p)) w' sub && a0Z all ps sub (p :: dn) (rem.filter (· != p)) && a0Z all ps r dn rem
def gW (all : List Oper) : List Nat → List Oper
 | [] => []
 | i :: l => match a4p all i with
  | some o => o :: gW all l
  | none => gW all l
theorem mP {all : List Oper} {o : Oper} : ∀ {l : List Nat}, o ∈ gW all l ↔ ∃ i ∈ l, all[i]? = some o
 | [] => by simp [gW]
 | j :: l => by
  have ih := mP (all := all) (o := o) (l := l)
  unfold gW
  rw [uU]
  cases hq : all[j]? with
  | none => simp only [ih, List.mem_cons]; constructor
            ·rintro ⟨i, h1, h2⟩; exact ⟨i, .inr h1, h2⟩
            ·rintro ⟨i, h1 | h1, h2⟩
             ·subst h1; rw [hq] at h2; cases h2
             ·exact ⟨i, h1, h2⟩
  | some p =>
   simp only [List.mem_cons, ih]
   constructor
   ·rintro (rfl | ⟨i, h1, h2⟩)
    ·exact ⟨j, .inl rfl, hq⟩
    ·exact ⟨i, .inr h1, h2⟩
   ·rintro ⟨i, h1 | h1, h2⟩
    ·subst h1; rw [hq] at h2; exact .inl (Option.some.inj h2).symm
    ·exact .inr ⟨i, h1, h2⟩
def lat (all : List Oper) (ls : List Nat) : List Oper := all.mapIdx fun i o => if ls.contains i then { o with dst := none } else o
theorem yS {all : List Oper} {ls : List Nat} {j d : Nat} {o' : Oper} (h : (lat all ls)[j]? = some o') (hd : o'.dst = some d) : ∃ o, all[j]? = some o ∧ o.dst = some d ∧ j ∉ ls := by
 unfold lat at h
 rw [List.getElem?_mapIdx] at h
 cases ho : all[j]? with
 | none => rw [ho] at h; cases h
 | some o =>
  rw [ho] at h
  simp only [Option.map_some, Option.some.injEq] at h
  split at h
  ·subst h; cases hd
  ·rename_i hn
   subst h
   exact ⟨o, rfl, hd, fun hm => hn (List.contains_iff_mem.2 hm)⟩
theorem yT {all : List Oper} {ls : List Nat} {j : Nat} {o : Oper} (h : all[j]? = some o) (hj : j ∉ ls) : (lat all ls)[j]? = some o := by
 unfold lat
 rw [List.getElem?_mapIdx, h, Option.map_some, if_neg (fun hm => hj (List.contains_iff_mem.1 hm))]
section
variable {E : Env}
def a4W : Op → Bool
 | .alloc _ => true
 | .assign _ => true
 | .move _ => true
 | .buildSlice .. => true
 | .store .. => true
 | .call c => match c.callee with
  | .builtin .append => true
  | _ => false
 | _ => false
def a2d (E : Env) (o : Oper) (st : St) (k : St → SV → Prop) : Prop := if a4W o.op then cO E o.op st k else a7I E o st fun h' s => k ⟨st.t, h'⟩ s
structure CallH (E : Env) (f : Nat) (args : List SV) (h : List HB) (k : List HB → SV → Prop) (t : Tie k) : Prop where
 out : ∃ (β : Type) (Pb : β → Prop) (h' : β → List HB) (s : β → SV), (∀ T, CallS E f args ⟨T, h⟩ fun st2 s2 => ∃ b, Pb b ∧ st2 = ⟨T, h' b⟩ ∧ s2 = s b) ∧ ∀ b, Pb b → k (h' b) (s b)
theorem CallS.mono {E : Env} {f : Nat} {args : List SV} {st : St} {K K' : St → SV → Prop} (h : CallS E f args st K) (m : ∀ st2 s, K st2 s → K' st2 s) : CallS E f args st K' :=
 ⟨h.1, fun g V a w vs hr hl ha => (h.2 g V a w vs hr hl ha).mono fun _ _ ⟨y, g', V', st', s, e1, e2, e3, e4⟩ => ⟨y, g', V', st', s, e1, e2, e3, m _ _ e4⟩⟩
theorem CallH.det {E : Env} {f : Nat} {args : List SV} {h : List HB} {k : List HB → SV → Prop} (c : CallG E f args h k ⟨⟩) : CallH E f args h k ⟨⟩ := by
 obtain ⟨h', s, h1, h2⟩ := c.out
 exact ⟨Unit, fun _ => True, fun _ => h', fun _ => s, fun T => (h1 T).mono fun _ _ ⟨e1, e2⟩ => ⟨(), trivial, e1, e2⟩, fun _ _ => h2⟩
def b5y (E : Env) (o : Oper) (st : St) (k : List HB → SV → Prop) : Prop := match o.op with
 | .call c => (match c.callee with
  | .value f => (match ev st f with
   | .o (.f fn caps) => CallH E fn (c.args.toList.map (ev st) ++ caps.map (fun cs => .o (.q cs))) st.h k ⟨⟩
   | _ => False)
  | _ => False)
 | _ => False
def a8V (E : Env) (o : Oper) (st : St) (k : St → SV → Prop) : Prop := if a4W o.op then cO E o.op st k else b5y E o st fun h' s => k ⟨st.t, h'⟩ s
def efX (E : Env) : Bool → Oper → St → (St → SV → Prop) → Prop
 | false => a2d E
 | true => a8V E
theorem rA {T : List SV} {st : St} : ∀ (l : List (Nat × Operand)) (n : Nat), (∀ p ∈ l, ev ⟨T, st.h⟩ p.2 = ev st p.2) → iQ ⟨T, st.h⟩ n l = iQ st n l
 | [], _, _ => rfl
 | (i, x) :: r, n, h => by
  have h1 : ev ⟨T, st.h⟩ x = ev st x := h (i, x) (by simp)
  simp only [iQ, h1, rA r (n + 1) fun p hp => h p (by simp [hp])]
def b7b (E : Env) (op : Op) (st : St) : Prop := match op with
 | .buildSlice t _ _ => (E.T t).flds ≠ []
 | .call c => ∃ s r z, c.args.toList = s :: r ∧ ev st s = .o (.d (.v z))
 | _ => False
theorem b2a {op : Op} (ha : a4W op = true) {st : St} {k : St → SV → Prop} (hq : ¬ b7b E op st) (h : cO E op st k) : ∃ φ h' s, (∀ T : List SV, (∀ x ∈ op.operands, ev ⟨T, st.h⟩ x = ev st x) → cO E op ⟨T, st.h⟩ fun st2 s2 => st2 = ⟨kT φ T, h'⟩ ∧ s2 = s) ∧ k ⟨kT φ st.t, h'⟩ s := by
 cases op <;> simp only [a4W, Bool.false_eq_true] at ha
 case alloc t =>
  simp only [cO] at h
  exact ⟨none, st.h ++ [.box t (E.T t).zero], _, fun T _ => by simp only [cO]; exact ⟨h.1, by rw [bP]; rfl, rfl⟩, by rw [bP]; exact h.2⟩
 case assign x => exact ⟨none, st.h, ev st x, fun T he => by simp only [cO, he x (by simp [Op.operands])]; exact ⟨by rw [bP], trivial⟩, by rw [bP]; exact h⟩
 case move x => exact ⟨none, st.h, ev st x, fun T he => by simp only [cO, he x (by simp [Op.operands])]; exact ⟨by rw [bP], trivial⟩, by rw [bP]; exact h⟩
 case buildSlice t len parts =>
  have hf : (E.T t).flds = [] := Classical.byContradiction fun e => hq e
  simp only [cO, nO, hf] at h
  unfold kM at h
  obtain ⟨h1, h2, h3, h4, h⟩ := h
  split at h
  ·rename_i cs e
   obtain ⟨h5, h⟩ := h
   split at h
   ·rename_i rows lin e2
    refine ⟨none, _, .o (.s st.h.length), fun T he => ?_, by rw [bP]; exact h.2⟩
    simp only [cO, nO, hf]
    unfold kM
    have hp : iQ ⟨T, st.h⟩ 0 parts.toList = iQ st 0 parts.toList := rA _ _ fun p hp => he p.2 (by rw [← Array.mem_toList_iff, ← a4y]; exact List.mem_map.2 ⟨p, hp, rfl⟩)
    refine ⟨h1, h2, h3, h4, ?_⟩
    rw [hp, e]
    refine ⟨h5, ?_⟩
    simp only [e2]
    exact ⟨h.1, by rw [bP], trivial⟩
   ·exact h.elim
  ·exact h.elim
 case store t x v =>
  have key : ∀ T : List SV, (∀ y ∈ (Op.store t x v).operands, ev ⟨T, st.h⟩ y = ev st y) → ev ⟨T, st.h⟩ x = ev st x ∧ ev ⟨T, st.h⟩ v = ev st v := fun T he => ⟨he x (by simp [Op.operands]), he v (by simp [Op.operands])⟩
  simp only [cO] at h
  split at h
  ·rename_i id sz i fo e
   unfold kX at h
   obtain ⟨h1, h2, h3, h4, h5, h⟩ := h
   split at h
   ·rename_i e1 e2
    split at h
    ·rename_i e3
     refine ⟨none, _, .t [], fun T he => ?_, by rw [bP]; exact h.2.2⟩
     obtain ⟨hx, hv⟩ := key T he
     simp only [cO, hx, hv, e]
     unfold kX
     refine ⟨h1, h2, h3, h4, h5, ?_⟩
     simp only [e1, e2, e3]
     exact ⟨h.1, h.2.1, by rw [bP], trivial⟩
    ·exact h.elim
   ·exact h.elim
  ·rename_i id sz i fo e
   unfold jW at h
   split at h
   ·rename_i e0
    split at h
    ·rename_i e1
     split at h
     ·rename_i e2 e3
      refine ⟨none, _, .t [], fun T he => ?_, by rw [bP]; exact h.2.2.2.2⟩
      obtain ⟨hx, hv⟩ := key T he
      simp only [cO, hx, hv, e]
      unfold jW
      simp only [e0, e1, e2, e3]
      exact ⟨h.1, h.2.1, h.2.2.1, h.2.2.2.1, by rw [bP], trivial⟩
     ·exact h.elim
    ·exact h.elim
   ·exact h.elim
  ·rename_i e0 e1
   unfold oJ at h
   split at h
   ·rename_i e
    split at h
    ·rename_i e2
     split at h
     ·rename_i e3
      refine ⟨none, _, .t [], fun T he => ?_, by rw [bP]; exact h.2.2.2.2⟩
      obtain ⟨hx, hv⟩ := key T he
      simp only [cO, hx, hv, e]
      unfold oJ
      simp only [e2, e3]
      exact ⟨h.1, h.2.1, h.2.2.1, h.2.2.2.1, by rw [bP], trivial⟩
     ·exact h.elim
    ·rename_i e2
     split at h
     ·rename_i e4
      split at h
      ·rename_i e3
       refine ⟨none, _, .t [], fun T he => ?_, by rw [bP]; exact h.2.2⟩
       obtain ⟨hx, hv⟩ := key T he
       simp only [cO, hx, hv, e]
       unfold oJ
       simp only [e2, e4, e3]
       exact ⟨h.1, h.2.1, by rw [bP], trivial⟩
      ·exact h.elim
     ·exact h.elim
    ·exact h.elim
   ·exact h.elim
 case call c =>
  have hc : c.callee = .builtin .append := by
   split at ha
   ·rename_i e; exact e
   ·cases ha
  simp only [cO, gY, hc] at h
  split at h
  ·rename_i s x t t' e1 e2
   have key : ∀ T : List SV, (∀ y ∈ (Op.call c).operands, ev ⟨T, st.h⟩ y = ev st y) → ev ⟨T, st.h⟩ s = ev st s ∧ ev ⟨T, st.h⟩ x = ev st x := fun T he =>
    ⟨he s (by simp only [Op.operands, Call.operands, Array.mem_append]; exact .inr (by rw [← Array.mem_toList_iff, e1]; simp)), he x (by simp only [Op.operands, Call.operands, Array.mem_append]; exact .inr (by rw [← Array.mem_toList_iff, e1]; simp))⟩
   have src : ∀ (T : List SV) (y : SV), a7C ⟨T, st.h⟩ y = a7C st y := fun T y => by unfold a7C; rfl
   obtain ⟨h0, h⟩ := h
   have nz : ∀ z, ev st s ≠ .o (.d (.v z)) := fun z e => hq ⟨s, [x], z, e1, e⟩
   have toX : ∀ (y : SV) (T : List SV) (K : St → SV → Prop), (∀ z, y ≠ .o (.d (.v z))) → nM E t y (ev ⟨T, st.h⟩ x) ⟨T, st.h⟩ K → a0e E t y (ev ⟨T, st.h⟩ x) ⟨T, st.h⟩ K := fun y T K hy hh => by
    unfold a0e
    split
    ·exact (hy _ rfl).elim
    ·exact hh
   unfold a0e at h
   split at h
   ·rename_i z ez; exact (nz z ez).elim
   unfold nM at h
   obtain ⟨h1, h2, h⟩ := h
   split at h
   ·rename_i rows2 lin2 ids e3
    obtain ⟨h3, h⟩ := h
    split at h
    ·rename_i id e4
     split at h
     ·rename_i ty sz rows lin e5
      refine ⟨some id, _, .o (.s id), fun T he => ?_, h.2.2.2.2.2⟩
      obtain ⟨hs, hx⟩ := key T he
      simp only [cO, gY, hc, e1, e2]
      refine ⟨h0, toX _ _ _ (fun z => by rw [hs]; exact nz z) ?_⟩
      unfold nM
      refine ⟨h1, h2, ?_⟩
      rw [hx, src, e3]
      refine ⟨h3, ?_⟩
      rw [hs, e4]
      simp only [e5]
      exact ⟨h.1, h.2.1, h.2.2.1, h.2.2.2.1, h.2.2.2.2.1, rfl, trivial⟩
     ·exact h.elim
    ·rename_i e4
     refine ⟨none, _, _, fun T he => ?_, by rw [bP]; exact h.2.2⟩
     obtain ⟨hs, hx⟩ := key T he
     simp only [cO, gY, hc, e1, e2]
     refine ⟨h0, toX _ _ _ (fun z => by rw [hs]; exact nz z) ?_⟩
     unfold nM
     refine ⟨h1, h2, ?_⟩
     rw [hx, src, e3]
     refine ⟨h3, ?_⟩
     rw [hs, e4]
     exact ⟨h.1, h.2.1, by rw [bP], rfl⟩
    ·exact h.elim
   ·exact h.elim
  ·exact h.elim
end
section
variable {E : Env}
def wX (E : Env) (eb : Bool) (all : List Oper) : PT → St → (St → Prop) → Prop
 | .n, _, _ => True
 | .c p li w' sub r, st, K => (∃ o, all[p]? = some o ∧ efX E eb o st fun st' s => a0T E all (gW all li) (st'.put o.dst s) fun st'' => sP E st'' (gW all w') ∧ if sub.isNil = true then K st'' else wX E eb all sub st'' K) ∧ wX E eb all r st K
theorem a8W {eb : Bool} {all : List Oper} {ps dn rem : List Nat} {st : St} {K : St → Prop} {p : Nat} : ∀ {t : PT}, p ∈ t.tops → a0Z all ps t dn rem = true → wX E eb all t st K → ∃ li w' sub, (li.all fun i => !ps.contains i && nP all 4 p i) = true ∧ okN all ps (p :: dn) (rem.filter (· != p)) w' sub = true ∧ a0Z all ps sub (p :: dn) (rem.filter (· != p)) = true ∧
    ∃ o, all[p]? = some o ∧ efX E eb o st fun st' s => a0T E all (gW all li) (st'.put o.dst s) fun st'' => sP E st'' (gW all w') ∧ if sub.isNil = true then K st'' else wX E eb all sub st'' K
 | .n, h, _, _ => by simp [PT.tops] at h
 | .c q li w' sub r, h, ho, hv => by
  unfold a0Z at ho
  simp only [Bool.and_eq_true] at ho
  obtain ⟨⟨⟨⟨h1, h2⟩, h3⟩, h4⟩, h5⟩ := ho
  obtain ⟨v1, v2⟩ := hv
  simp only [PT.tops, List.mem_cons] at h
  rcases h with rfl | h
  ·exact ⟨li, w', sub, h2, h3, h4, v1⟩
  ·exact a8W h h5 v2
theorem yU {all : List Oper} : ∀ {l : List Oper} {st : St} {K : St → Prop}, a0T E all l st K → ∃ st1, K st1 ∧ st1.h = st.h ∧ st1.t.length = st.t.length ∧ ∀ d, (∀ o ∈ l, o.dst ≠ some d) → nth st1.t d = nth st.t d
 | [], st, K, h => ⟨st, h, rfl, rfl, fun _ _ => rfl⟩
 | o :: l, st, K, h => by
  obtain ⟨s, h1, _⟩ := a4v h
  obtain ⟨st1, k1, k2, k3, k4⟩ := yU h1
  refine ⟨st1, k1, by rw [k2, a5H], by rw [k3, a1i], fun d hd => ?_⟩
  rw [k4 d fun p hp => hd p (List.mem_cons_of_mem _ hp)]
  cases ho : o.dst with
  | none => rfl
  | some e => exact a4Q fun e2 => hd o (by simp) (by rw [ho, e2])
theorem a6i (φ : Option Nat) (T : List SV) (d : Nat) : nth (kT φ T) d = a8T φ (nth T d) := by
 rw [oW, oW, List.getD_eq_getElem?_getD, List.getD_eq_getElem?_getD, kT, List.getElem?_map]
 cases T[d]? with
 | none => simp [a8U]
 | some s => rfl
theorem b2b {o : Oper} {st : St} {k : St → SV → Prop} (ha : ¬ a4W o.op = true) (h : a2d E o st k) : ∃ φ h' s, (∀ T : List SV, (∀ x ∈ o.op.operands, ev ⟨T, st.h⟩ x = ev st x) → cO E o.op ⟨T, st.h⟩ fun st2 s2 => st2 = ⟨kT φ T, h'⟩ ∧ s2 = s) ∧ k ⟨kT φ st.t, h'⟩ s := by
 unfold a2d at h
 rw [if_neg ha] at h
 unfold a7I at h
 split at h
 ·rename_i c hop
  split at h
  ·rename_i f hc
   split at h
   ·rename_i fn caps hfn
    obtain ⟨h', s', hcall, hk⟩ := h
    refine ⟨none, h', s', fun T he => ?_, by rw [bP]; exact hk⟩
    rw [hop] at he
    have hfe : ev ⟨T, st.h⟩ f = ev st f := he f (by simp [Op.operands, Call.operands, hc])
    have hargs : c.args.toList.map (ev ⟨T, st.h⟩) = c.args.toList.map (ev st) := List.map_congr_left fun x hx => he x (by simp only [Op.operands, Call.operands, Array.mem_append]; exact .inr (by simpa using hx))
    rw [hop]
    simp only [cO, gY, hc, hfe, hfn, hargs]
    rw [bP]
    exact ⟨hcall T⟩
   ·exact h.elim
  ·exact h.elim
 ·exact h.elim
theorem a8X {op : Op} {st : St} {k : St → SV → Prop} (φ : Option Nat) (h' : List HB) (s : SV) (h1 : ∀ T : List SV, (∀ x ∈ op.operands, ev ⟨T, st.h⟩ x = ev st x) → cO E op ⟨T, st.h⟩ fun st2 s2 => st2 = ⟨kT φ T, h'⟩ ∧ s2 = s) (h2 : k ⟨kT φ st.t, h'⟩ s) :
    ∃ (β : Type) (Pb : β → Prop) (φ : Option Nat) (h' : β → List HB) (s : β → SV), (∀ T : List SV, (∀ x ∈ op.operands, ev ⟨T, st.h⟩ x = ev st x) → cO E op ⟨T, st.h⟩ fun st2 s2 => ∃ b, Pb b ∧ st2 = ⟨kT φ T, h' b⟩ ∧ s2 = s b) ∧ ∀ b, Pb b → k ⟨kT φ st.t, h' b⟩ (s b) :=
 ⟨Unit, fun _ => True, φ, fun _ => h', fun _ => s, fun T hT => by
  have e : (fun (st2 : St) (s2 : SV) => ∃ _ : Unit, True ∧ st2 = ⟨kT φ T, h'⟩ ∧ s2 = s) = fun st2 s2 => st2 = ⟨kT φ T, h'⟩ ∧ s2 = s := funext fun a => funext fun b => propext ⟨fun ⟨_, _, q⟩ => q, fun q => ⟨(), trivial, q⟩⟩
  rw [e]; exact h1 T hT, fun _ _ => h2⟩
theorem a8Y {op : Op} (ha : a4W op = true) {st : St} {k : St → SV → Prop} (h : cO E op st k) : ∃ (β : Type) (Pb : β → Prop) (φ : Option Nat) (h' : β → List HB) (s : β → SV), (∀ T : List SV, (∀ x ∈ op.operands, ev ⟨T, st.h⟩ x = ev st x) → cO E op ⟨T, st.h⟩ fun st2 s2 => ∃ b, Pb b ∧ st2 = ⟨kT φ T, h' b⟩ ∧ s2 = s b) ∧ ∀ b, Pb b → k ⟨kT φ st.t, h' b⟩ (s b) := by
 by_cases hq : b7b E op st
 ·cases op <;> simp only [a4W, Bool.false_eq_true] at ha
  case buildSlice t len parts =>
   have hf : (E.T t).flds ≠ [] := hq
   have hX : ∀ (st : St) (k : St → SV → Prop), nO E t len parts.toList st k = a8J E t len parts.toList st k := fun st k => by
    unfold nO
    split
    ·rename_i e; exact (hf e).elim
    ·rfl
   simp only [cO, hX] at h
   obtain ⟨h1, h2, h3, h4, h⟩ := h
   split at h
   ·rename_i css e
    split at h
    ·rename_i rows e2
     refine ⟨Value, fun _ => True, none, fun z => st.h ++ [.pool (E.T t).elem (E.T (E.T t).elem).size [(z, rows)]], fun z => .o (.d (.v z)), fun T he => ?_, fun z _ => by rw [bP]; exact h.2.2.out z⟩
     simp only [cO, hX]
     have hp : iQ ⟨T, st.h⟩ 0 parts.toList = iQ st 0 parts.toList := rA _ _ fun p hp => he p.2 (by rw [← Array.mem_toList_iff, ← a4y]; exact List.mem_map.2 ⟨p, hp, rfl⟩)
     refine ⟨h1, h2, h3, h4, ?_⟩
     rw [hp, e]
     simp only [e2]
     exact ⟨h.1, h.2.1, ⟨fun z => ⟨z, trivial, by rw [bP], rfl⟩⟩⟩
    ·exact h.elim
   ·exact h.elim
  case call c =>
   have hc : c.callee = .builtin .append := by
    split at ha
    ·rename_i e; exact e
    ·cases ha
   obtain ⟨s0, r, z, ea, ez⟩ := hq
   simp only [cO, gY, hc] at h
   split at h
   ·rename_i s x t t' e1 e2
    have hs0 : s = s0 := by rw [e1] at ea; exact (List.cons.inj ea).1
    subst hs0
    have key : ∀ T : List SV, (∀ y ∈ (Op.call c).operands, ev ⟨T, st.h⟩ y = ev st y) → ev ⟨T, st.h⟩ s = ev st s ∧ ev ⟨T, st.h⟩ x = ev st x := fun T he =>
     ⟨he s (by simp only [Op.operands, Call.operands, Array.mem_append]; exact .inr (by rw [← Array.mem_toList_iff, e1]; simp)), he x (by simp only [Op.operands, Call.operands, Array.mem_append]; exact .inr (by rw [← Array.mem_toList_iff, e1]; simp))⟩
    obtain ⟨h0, h⟩ := h
    rw [ez] at h
    have h : a4H E t z (ev st x) st k := h
    obtain ⟨h1, h2, h⟩ := h
    split at h
    ·rename_i z2 ex
     obtain ⟨id, items, i, xs, id2, items2, xs2, q1, q2, q3, q4, q5, q6, q7, hk⟩ := h.out
     refine ⟨Value, fun _ => True, none, fun z' => setH st.h id (.pool (E.T t).elem (E.T (E.T t).elem).size (items.set i (z', xs ++ xs2))), fun z' => .o (.d (.v z')), fun T he => ?_, fun z' _ => by rw [bP]; exact hk z'⟩
     obtain ⟨hs, hx⟩ := key T he
     simp only [cO, gY, hc, e1, e2]
     refine ⟨h0, ?_⟩
     rw [hs, ez, hx, ex]
     exact ⟨h1, h2, ⟨⟨id, items, i, xs, id2, items2, xs2, q1, q2, q3, q4, q5, q6, q7, fun z' => ⟨z', trivial, by rw [bP], rfl⟩⟩⟩⟩
    ·exact h.elim
   ·exact h.elim
  all_goals exact hq.elim
 ·obtain ⟨φ, h', s, h1, h2⟩ := b2a ha hq h
  exact a8X φ h' s h1 h2
theorem b2c {eb : Bool} {o : Oper} {st : St} {k : St → SV → Prop} (h : efX E eb o st k) : ∃ (β : Type) (Pb : β → Prop) (φ : Option Nat) (h' : β → List HB) (s : β → SV), (∀ T : List SV, (∀ x ∈ o.op.operands, ev ⟨T, st.h⟩ x = ev st x) → cO E o.op ⟨T, st.h⟩ fun st2 s2 => ∃ b, Pb b ∧ st2 = ⟨kT φ T, h' b⟩ ∧ s2 = s b) ∧ ∀ b, Pb b → k ⟨kT φ st.t, h' b⟩ (s b) := by
 cases eb with
 | false =>
  by_cases ha : a4W o.op = true
  ·have h : a2d E o st k := h
   unfold a2d at h
   rw [if_pos ha] at h
   exact a8Y ha h
  ·obtain ⟨φ, h', s, h1, h2⟩ := b2b ha (show a2d E o st k from h)
   exact a8X φ h' s h1 h2
 | true =>
  have h : a8V E o st k := h
  unfold a8V at h
  split at h
  ·rename_i ha
   exact a8Y ha h
  ·unfold b5y at h
   split at h
   ·rename_i c hop
    split at h
    ·rename_i f hc
     split at h
     ·rename_i fn caps hfn
      obtain ⟨β, Pb, h', s', hcall, hk⟩ := h.out
      refine ⟨β, Pb, none, h', s', fun T he => ?_, by rw [bP]; exact hk⟩
      rw [hop] at he
      have hfe : ev ⟨T, st.h⟩ f = ev st f := he f (by simp [Op.operands, Call.operands, hc])
      have hargs : c.args.toList.map (ev ⟨T, st.h⟩) = c.args.toList.map (ev st) := List.map_congr_left fun x hx => he x (by simp only [Op.operands, Call.operands, Array.mem_append]; exact .inr (by simpa using hx))
      rw [hop]
      simp only [cO, gY, hc, hfe, hfn, hargs]
      rw [bP]
      exact ⟨hcall T⟩
     ·exact h.elim
    ·exact h.elim
   ·exact h.elim
theorem b3V {all : List Oper} {listed : Array Bool} {i d : Nat} {o : Oper} {T : List SV} {H : List HB} (s6 : ∀ (j : Nat) (p : Oper) (d : Nat), all[j]? = some p → p.dst = some d → j ≠ i → o.dst ≠ some d) (ho : all[i]? = some o) (hd : o.dst = some d) :
    St.put ⟨eZ all listed T, H⟩ o.dst (nth T d) = ⟨eZ all (listed.setIfInBounds i true) T, H⟩ := by
 have keep : ∀ j, j ≠ i → (listed.setIfInBounds i true).getD j true = listed.getD j true := fun j hj => getD_set_ne true (fun e => hj e.symm)
 rw [hd]
 simp only [St.put, lL]
 congr 1
 apply List.ext_getElem?
 intro m
 rw [List.getElem?_set]
 rcases Nat.lt_or_ge m T.length with hm | hm
 ·rw [jN (l := eZ all (listed.setIfInBounds i true) T) (by rw [dC]; exact hm), gH]
  by_cases e : d = m
  ·subst e
   rw [if_pos rfl, if_pos (by rw [dC]; exact hm)]
   have : jP all (listed.setIfInBounds i true) d = false := by
    cases hh : jP all (listed.setIfInBounds i true) d with
    | false => rfl
    | true =>
     obtain ⟨j, p, hj, hd2, hu⟩ := (fE _ _ d).1 hh
     by_cases e : j = i
     ·subst e; rw [bV] at hu; cases hu
     ·exact (s6 j p d hj hd2 e hd).elim
   rw [this]; simp
  ·rw [if_neg e, jN (by rw [dC]; exact hm), gH]
   have : jP all (listed.setIfInBounds i true) m = jP all listed m := by
    rw [Bool.eq_iff_iff, fE, fE]
    constructor
    ·rintro ⟨j, p, hj, hd2, hu⟩
     refine ⟨j, p, hj, hd2, ?_⟩
     by_cases e2 : j = i
     ·subst e2; rw [bV] at hu; cases hu
     ·rwa [keep j e2] at hu
    ·rintro ⟨j, p, hj, hd2, hu⟩
     refine ⟨j, p, hj, hd2, ?_⟩
     by_cases e2 : j = i
     ·subst e2; rw [ho] at hj; cases hj; rw [hd] at hd2; cases hd2; exact (e rfl).elim
     ·rwa [keep j e2]
   rw [this]
 ·rw [List.getElem?_eq_none (l := eZ all (listed.setIfInBounds i true) T) (by rw [dC]; exact hm)]
  split
  ·rename_i e; subst e
   rw [if_neg (by rw [dC]; omega)]
  ·rw [List.getElem?_eq_none (l := eZ all listed T) (by rw [dC]; exact hm)]
theorem b2d {eb : Bool} (hT : TyOK E.P E.T) (hE : ∀ t, E.eqk t ≠ [] → EqT E.P t (E.eqk t)) {all : List Oper} {ps0 ls : List Nat} (hok : okE all ps0 ls = true) {Q : Exit → Act → World → Prop} {K : St → Prop} (hQ : ∀ g V st a w, Rel E.C g V st a w → K st → Q .normal a w) :
    ∀ (n : Nat) (listed : Array Bool) (dn rem : List Nat) (t : PT) (wi : List Nat) (st : St) (g : List Gh) (V : View) (a : Act) (w : World), listed.size = all.length → a0W all listed ≤ n → b5x all listed → okN all ps0 dn rem wi t = true → a0Z all ps0 t dn rem = true → (∀ e ∈ dn, listed.getD e true = true) → (∀ q ∈ rem, q < all.length ∧ q ∈ ps0 ∧ listed.getD q true = false) → (∀ i, i < all.length → i ∈ ps0 → listed.getD i true = false → i ∈ rem) →
     sP E st (gW all wi) → (if t.isNil = true then K st else wX E eb all t st K) → Rel E.C g V ⟨eZ (lat all ls) listed st.t, st.h⟩ a w → wpAny E.P .any all.toArray Q n listed a w := by
 unfold okE at hok
 rw [Bool.and_eq_true] at hok
 obtain ⟨hls0, hok⟩ := hok
 have hls : ∀ i ∈ ls, i ∈ ps0 := fun i hi => List.contains_iff_mem.1 (List.all_eq_true.1 hls0 i hi)
 have spec : ∀ (i : Nat) (o : Oper), all[i]? = some o → o.guard = none ∧ (∀ e ∈ o.after, Region.binds .any e = true → e.on < i) ∧ (i ∉ ps0 → ∃ d, o.dst = some d) ∧
     (∀ (j : Nat) (p : Oper) (d : Nat), all[j]? = some p → p.dst = some d → (∀ t ∈ nG (opL o.op), t = d → onE o j = true ∨ j ∈ ls) ∧ (j ≠ i → o.dst ≠ some d)) := fun i o ho => by
  have h := List.all_eq_true.1 hok i (List.mem_range.2 (List.getElem?_eq_some_iff.1 ho).1)
  unfold a5X at h
  rw [ho] at h
  simp only [Bool.and_eq_true] at h
  obtain ⟨⟨⟨h1, h2⟩, h4⟩, h5⟩ := h
  refine ⟨?_, fun e he hb => ?_, fun hs => ?_, fun j p d hj hd => ?_⟩
  ·cases hg : o.guard with
   | none => rfl
   | some x => rw [hg] at h1; cases h1
  ·have := (Array.all_eq_true_iff_forall_mem.1 h2) e he
   rw [hb] at this
   simpa using this
  ·rcases Bool.or_eq_true_iff.1 h4 with h | h
   ·exact (hs (List.contains_iff_mem.1 h)).elim
   ·exact Option.isSome_iff_exists.1 h
  ·have h := List.all_eq_true.1 h5 j (List.mem_range.2 (List.getElem?_eq_some_iff.1 hj).1)
   rw [hj] at h
   simp only [hd, Bool.and_eq_true] at h
   refine ⟨fun t ht e => ?_, fun hne => ?_⟩
   ·have := List.all_eq_true.1 h.1 t ht
    subst e
    simp only [bne_self_eq_false, Bool.false_or, Bool.or_eq_true] at this
    exact this.imp id List.contains_iff_mem.1
   ·rcases Bool.or_eq_true_iff.1 h.2 with h | h
    ·exact (hne (beq_iff_eq.1 h)).elim
    ·simpa using h
 have toT : ∀ {listed : Array Bool} {j : Nat}, listed.getD j false = true → listed.getD j true = true := fun {listed j} h => by
  rcases Nat.lt_or_ge j listed.size with h' | h'
  ·simp [h'] at h ⊢; exact h
  ·simp [Array.getElem?_eq_none h'] at h
 have fin : ∀ (listed : Array Bool) (dn rem : List Nat) (t : PT) (wi : List Nat) (st : St) (g : List Gh) (V : View) (a : Act) (w : World), (∀ j, j < all.length → listed.getD j true = true) → a0Z all ps0 t dn rem = true → (∀ q ∈ rem, q < all.length ∧ q ∈ ps0 ∧ listed.getD q true = false) → (if t.isNil = true then K st else wX E eb all t st K) → Rel E.C g V ⟨eZ (lat all ls) listed st.t, st.h⟩ a w → Q .normal a w := fun listed dn rem t wi st g V a w hl hpt h2 hv hr => by
  have hm : eZ (lat all ls) listed st.t = st.t := by
   apply List.ext_getElem?
   intro d
   rcases Nat.lt_or_ge d st.t.length with h | h
   ·rw [jN (by rw [dC]; exact h), jN h, gH]
    have : jP (lat all ls) listed d = false := by
     cases hh : jP (lat all ls) listed d with
     | false => rfl
     | true =>
      obtain ⟨j, o', ho', hd', hu⟩ := (fE (lat all ls) listed d).1 hh
      obtain ⟨o, ho, _, _⟩ := yS ho' hd'
      rw [hl j (List.getElem?_eq_some_iff.1 ho).1] at hu; cases hu
    rw [this]; simp
   ·rw [List.getElem?_eq_none (by rw [dC]; exact h), List.getElem?_eq_none h]
  rw [hm] at hr
  cases t with
  | n => exact hQ _ _ _ _ _ hr hv
  | c p li w' sub r =>
   unfold a0Z at hpt
   simp only [Bool.and_eq_true] at hpt
   obtain ⟨h3, _, h4⟩ := h2 p (List.contains_iff_mem.1 hpt.1.1.1.1)
   rw [hl _ h3] at h4; cases h4
 have none_left : ∀ (listed : Array Bool), listed.size = all.length → Region.ready .any all.toArray listed = [] → ∀ j, j < all.length → listed.getD j true = true := fun listed hsz hr => by
  intro j
  induction j using Nat.strongRecOn with
  | _ j ih =>
   intro hj
   cases hq : listed.getD j true with
   | true => rfl
   | false =>
    have ho : all[j]? = some (all[j]'hj) := List.getElem?_eq_getElem hj
    have : j ∈ Region.ready .any all.toArray listed := mem_ready.2 ⟨hq, _, toA ho, fun e he hb => by
     have hlt := (spec j _ ho).2.1 e he hb
     have h1 := ih e.on hlt (by omega)
     have hes : e.on < listed.size := by omega
     simp [hes] at h1 ⊢; exact h1⟩
    rw [hr] at this; cases this
 intro n
 induction n with
 | zero =>
  intro listed dn rem t wi st g V a w hsz hn hclo hokn hokt hdn hphs hall hchk hv hr
  have hl : ∀ j, j < all.length → listed.getD j true = true := fun j hj => by
   cases hq : listed.getD j true with
   | true => rfl
   | false =>
    have : j ∈ (List.range all.length).filter fun j => !listed.getD j true := List.mem_filter.2 ⟨List.mem_range.2 hj, by rw [hq]; rfl⟩
    have := List.length_pos_of_mem this
    unfold a0W at hn
    omega
  refine ⟨List.eq_nil_iff_forall_not_mem.2 fun i hi => ?_, fin listed dn rem t wi st g V a w hl hokt hphs hv hr⟩
  obtain ⟨h1, o, h2, _⟩ := mem_ready.1 hi
  rw [hl i (by simpa using (Array.getElem?_eq_some_iff.1 h2).1)] at h1; cases h1
 | succ n ih =>
  intro listed dn rem t wi st g V a w hsz hn hclo hokn hokt hdn hphs hall hchk hv hr
  refine ⟨fun he => fin listed dn rem t wi st g V a w (none_left listed hsz he) hokt hphs hv hr, fun i hi => ?_⟩
  obtain ⟨hun, o, ho', haft⟩ := mem_ready.1 hi
  have ho : all[i]? = some o := by simpa using ho'
  have hil := (List.getElem?_eq_some_iff.1 ho).1
  obtain ⟨s1, s2, s5, s6⟩ := spec i o ho
  have hun' : a0W all (listed.setIfInBounds i true) ≤ n := by have := a3p hil hun; omega
  have haft' : ∀ e ∈ o.after, Region.binds .any e = true → listed.getD e.on true = true := fun e he hb => toT (haft e he hb)
  have keep : ∀ j, j ≠ i → (listed.setIfInBounds i true).getD j true = listed.getD j true := fun j hj => getD_set_ne true (fun e => hj e.symm)
  have up : ∀ j, listed.getD j true = true → (listed.setIfInBounds i true).getD j true = true := fun j hj => by
   by_cases e : j = i
   ·subst e; rw [bV]
   ·rw [keep j e]; exact hj
  have hclo' : b5x all (listed.setIfInBounds i true) := fun b p hb hl e he hbd => by
   by_cases e2 : b = i
   ·subst e2; rw [ho] at hb; cases hb; exact up _ (haft' e he hbd)
   ·rw [keep b e2] at hl; exact up _ (hclo b p hb hl e he hbd)
  have evEq : ∀ x ∈ o.op.operands, ev ⟨eZ (lat all ls) listed st.t, st.h⟩ x = ev st x := fun x hx => by
   cases x with
   | tmp t =>
    show nth (eZ (lat all ls) listed st.t) t = nth st.t t
    rw [gH]
    have : jP (lat all ls) listed t = false := by
     cases hh : jP (lat all ls) listed t with
     | false => rfl
     | true =>
      obtain ⟨j, p', hj', hd', hu⟩ := (fE (lat all ls) listed t).1 hh
      obtain ⟨p, hj, hd, hnl⟩ := yS hj' hd'
      rcases (s6 j p t hj hd).1 t (qM.2 (by rw [a4y]; simpa using hx)) rfl with h1 | h1
      ·have h2 := a2c ho haft' h1
       rw [hu] at h2; cases h2
      ·exact (hnl h1).elim
    rw [this]; simp
   | const v => rfl
   | func f => rfl
   | global m => rfl
  unfold wpOp
  rw [ho']
  simp only [Region.wanted, s1, if_true]
  refine .inl ?_
  have hwin : ∀ (rest : List Nat), b7a all ps0 dn rest wi = true → i ∉ ps0 → (∀ e ∈ rest, listed.getD e true = false) → i ∈ wi := fun rest hw hni hrest => by
   have h := List.all_eq_true.1 hw i (List.mem_range.2 hil)
   simp only [Bool.or_eq_true] at h
   rcases h with ((h | h) | h) | h
   ·exact (hni (List.contains_iff_mem.1 h)).elim
   ·obtain ⟨e, he, hr⟩ := List.any_eq_true.1 h
    have hle := hdn e he
    cases hq : all[e]? with
    | none => unfold nP at hr; rw [hq] at hr; cases hr
    | some p =>
     have := uG hclo 4 i e p hq (hclo e p hq hle) hr
     rw [hun] at this; cases this
   ·obtain ⟨e, he, hr⟩ := List.any_eq_true.1 h
    have := uG hclo 4 e i o ho haft' hr
    rw [hrest e he] at this; cases this
   ·exact List.contains_iff_mem.1 h
  by_cases hp : i ∈ ps0
  ·have hip := hall i hil hp hun
   have htop : i ∈ t.tops := by
    unfold okN at hokn
    rw [Bool.and_eq_true] at hokn
    have h1 := List.all_eq_true.1 hokn.2 i hip
    rcases Bool.or_eq_true_iff.1 h1 with h | h
    ·obtain ⟨q, hq, hr⟩ := List.any_eq_true.1 h
     rw [Bool.and_eq_true] at hr
     have h2 := uG hclo 4 q i o ho haft' hr.2
     rw [(hphs q hq).2.2] at h2; cases h2
    ·exact List.contains_iff_mem.1 h
   have hv' : wX E eb all t st K := by
    cases t with
    | n => simp [PT.tops] at htop
    | c => exact hv
   obtain ⟨l, w', sub, hw3, hw4, hw5, o2, ho2, hvo⟩ := a8W htop hokt hv'
   rw [ho] at ho2; cases ho2
   obtain ⟨p, rfl⟩ : ∃ p, p = i := ⟨i, rfl⟩
   have hphs0 := hphs
   ·skip
    obtain ⟨β, Pb, φ, h'', s, hsw, hk⟩ := b2c hvo
    refine lK hT hE (hsw _ evEq) hr fun g' V' st' w2 s2 y hr' hsy hk2 => ?_
    obtain ⟨b0, hb0, rfl, rfl⟩ := hk2
    obtain ⟨st1, k1, k2, k3, k4⟩ := yU (hk b0 hb0)
    generalize h'' b0 = h' at *
    generalize s b0 = s2 at *
    have hr2 := hr'.put o.dst hsy
    have hh1 : st1.h = h' := by rw [k2, a5H]
    have hlen1 : st1.t.length = st.t.length := by rw [k3, a1i]; simp [kT]
    have e : (St.put ⟨kT φ (eZ (lat all ls) listed st.t), h'⟩ o.dst s2) = ⟨eZ (lat all ls) (listed.setIfInBounds p true) st1.t, st1.h⟩ := by
     rw [hh1]
     have key : ∀ m, m < st.t.length → nth (St.put ⟨kT φ (eZ (lat all ls) listed st.t), h'⟩ o.dst s2).t m = nth (eZ (lat all ls) (listed.setIfInBounds p true) st1.t) m := fun m hm => by
      rw [gH]
      by_cases ed : o.dst = some m
      ·have hid : jP (lat all ls) (listed.setIfInBounds p true) m = false := by
        cases hh : jP (lat all ls) (listed.setIfInBounds p true) m with
        | false => rfl
        | true =>
         obtain ⟨j, q', hj', hd', hu⟩ := (fE _ _ m).1 hh
         obtain ⟨q, hj, hd2, _⟩ := yS hj' hd'
         by_cases e : j = p
         ·subst e; rw [bV] at hu; cases hu
         ·exact ((s6 j q m hj hd2).2 e ed).elim
       have hnl : ∀ q ∈ gW all l, q.dst ≠ some m := fun q hq hd => by
        obtain ⟨j, hj, hjq⟩ := mP.1 hq
        have h1 := List.all_eq_true.1 hw3 j hj
        simp only [Bool.and_eq_true] at h1
        by_cases e : j = p
        ·subst e
         have := h1.1
         simp [hp] at this
        ·exact (s6 j q m hjq hd).2 e ed
       rw [hid, k4 m hnl, ed]
       simp only [St.put, lL, oW, List.getD_eq_getElem?_getD, List.getElem?_set, Bool.false_eq_true, if_false, if_true]
       rw [if_pos (by simp [kT, dC]; exact hm), if_pos (by simp [kT]; exact hm)]
      ·have ep : ∀ (T : List SV) (H : List HB), nth (St.put ⟨T, H⟩ o.dst s2).t m = nth T m := fun T H => by
        cases hq : o.dst with
        | none => rfl
        | some d => exact a4Q (st := ⟨T, H⟩) fun e => ed (by rw [hq, e])
       rw [ep, a6i, gH]
       have ehid : jP (lat all ls) (listed.setIfInBounds p true) m = jP (lat all ls) listed m := by
        rw [Bool.eq_iff_iff, fE, fE]
        constructor
        ·rintro ⟨j, q, hj, hd2, hu⟩
         refine ⟨j, q, hj, hd2, ?_⟩
         by_cases e2 : j = p
         ·subst e2; rw [bV] at hu; cases hu
         ·rwa [keep j e2] at hu
        ·rintro ⟨j, q, hj, hd2, hu⟩
         refine ⟨j, q, hj, hd2, ?_⟩
         by_cases e2 : j = p
         ·subst e2
          obtain ⟨q0, hq0, hd3, _⟩ := yS hj hd2
          rw [ho] at hq0; cases hq0; exact (ed hd3).elim
         ·rwa [keep j e2]
       rw [ehid]
       cases hh : jP (lat all ls) listed m with
       | true => simp [a8U]
       | false =>
        simp only [Bool.false_eq_true, if_false]
        have hnl : ∀ q ∈ gW all l, q.dst ≠ some m := fun q hq hd => by
         obtain ⟨j, hj, hjq⟩ := mP.1 hq
         have h1 := List.all_eq_true.1 hw3 j hj
         simp only [Bool.and_eq_true] at h1
         have hju : listed.getD j true = false := by
          cases hx : listed.getD j true with
          | false => rfl
          | true =>
           have := uG hclo 4 p j q hjq (hclo j q hjq hx) h1.2
           rw [hun] at this; cases this
         have hjl : j ∉ ls := fun hm => by have := h1.1; simp [hls j hm] at this
         have := (fE (lat all ls) listed m).2 ⟨j, q, yT hjq hjl, hd, hju⟩
         rw [hh] at this; cases this
        rw [k4 m hnl, ep, a6i]
     have eh : (St.put ⟨kT φ (eZ (lat all ls) listed st.t), h'⟩ o.dst s2).h = h' := a5H _ _ _
     have el : (St.put ⟨kT φ (eZ (lat all ls) listed st.t), h'⟩ o.dst s2).t.length = st.t.length := by rw [a1i]; simp [kT, dC]
     have et : (St.put ⟨kT φ (eZ (lat all ls) listed st.t), h'⟩ o.dst s2).t = eZ (lat all ls) (listed.setIfInBounds p true) st1.t := by
      apply List.ext_getElem?
      intro m
      rcases Nat.lt_or_ge m st.t.length with hm | hm
      ·rw [jN (by rw [el]; exact hm), jN (by rw [dC, hlen1]; exact hm), key m hm]
      ·rw [List.getElem?_eq_none (by rw [el]; exact hm), List.getElem?_eq_none (by rw [dC, hlen1]; exact hm)]
     generalize (St.put ⟨kT φ (eZ (lat all ls) listed st.t), h'⟩ o.dst s2) = X at eh et
     cases X
     simp only at eh et
     rw [eh, et]
    rw [e] at hr2
    have memf : ∀ q, q ∈ rem.filter (· != p) → q ∈ rem ∧ q ≠ p := fun q hq => by
     obtain ⟨h1, h2⟩ := List.mem_filter.1 hq
     exact ⟨h1, by simpa using h2⟩
    refine ih _ (p :: dn) (rem.filter (· != p)) sub w' st1 g' V' _ _ (by simp [hsz]) hun' hclo' hw4 hw5 (fun e2 he => ?_) (fun q hq => ?_) (fun j hj hj0 hu => ?_) k1.1 k1.2 hr2
    ·rcases List.mem_cons.1 he with rfl | he
     ·rw [bV]
     ·exact up _ (hdn e2 he)
    ·obtain ⟨hq, hne⟩ := memf q hq
     obtain ⟨q1, q2, q3⟩ := hphs q hq
     exact ⟨q1, q2, by rw [keep _ hne]; exact q3⟩
    ·by_cases e2 : j = p
     ·subst e2; rw [bV] at hu; cases hu
     ·rw [keep j e2] at hu
      exact List.mem_filter.2 ⟨hall j hj hj0 hu, by simpa using e2⟩
  ·have hmem : i ∈ wi ∧ sP E st (gW all wi) := by
    unfold okN at hokn
    rw [Bool.and_eq_true] at hokn
    exact ⟨hwin rem hokn.1 hp fun e he => (hphs e he).2.2, hchk⟩
   obtain ⟨d, hd, hvc⟩ := a5Z hmem.2 (mP.2 ⟨i, hmem.1, ho⟩)
   have h1 := a5G (st := ⟨eZ (lat all ls) listed st.t, st.h⟩) (uZ (fun x hx => (evEq x hx).symm) hvc)
   refine lK hT hE h1 hr fun g' V' st' w' s y hr' hsy hk => ?_
   obtain ⟨rfl, rfl⟩ := hk
   have hr2 := hr'.put o.dst hsy
   have hil : i ∉ ls := fun hm => hp (hls i hm)
   rw [b3V (all := lat all ls) (fun j p d hj hd hne => by
    obtain ⟨p0, hj0, hd0, _⟩ := yS hj hd
    exact (s6 j p0 d hj0 hd0).2 hne) (yT ho hil) hd] at hr2
   refine ih _ dn rem t wi st g' V' _ _ (by simp [hsz]) hun' hclo' hokn hokt (fun e he => up e (hdn e he)) (fun q hq => ?_) (fun j hj hj0 hu => ?_) hchk hv hr2
   ·obtain ⟨q1, q2, q3⟩ := hphs q hq
    exact ⟨q1, q2, by rw [keep q (fun e => hp (e ▸ q2))]; exact q3⟩
   ·by_cases e2 : j = i
    ·subst e2; rw [bV] at hu; cases hu
    ·rw [keep j e2] at hu; exact hall j hj hj0 hu
end
section
variable {E : Env}
inductive PO where
 | nil : PO
 | cons : Nat → List Oper → List Oper → PO → PO → PO
def PO.isNil : PO → Bool
 | .nil => true
 | .cons .. => false
def sG (all : List Oper) : PT → PO
 | .n => .nil
 | .c p l w sub r => .cons p (gW all l) (gW all w) (sG all sub) (sG all r)
theorem qA {all : List Oper} (t : PT) : (sG all t).isNil = t.isNil := by cases t <;> rfl
def vcEJ (E : Env) (eb : Bool) (all : List Oper) : PO → St → (St → Prop) → Prop
 | .nil, _, _ => True
 | .cons p l w' sub r, st, K => (∃ o, all[p]? = some o ∧ efX E eb o st fun st' s => a0T E all l (st'.put o.dst s) fun st'' => sP E st'' w' ∧ if sub.isNil = true then K st'' else vcEJ E eb all sub st'' K) ∧ vcEJ E eb all r st K
theorem a0l {eb : Bool} {all : List Oper} {K : St → Prop} : ∀ (t : PT) (st : St), vcEJ E eb all (sG all t) st K = wX E eb all t st K
 | .n, _ => rfl
 | .c p l w' sub r, st => by
  have h1 : ∀ st, vcEJ E eb all (sG all sub) st K = wX E eb all sub st K := a0l sub
  have h2 : vcEJ E eb all (sG all r) st K = wX E eb all r st K := a0l r st
  simp only [sG, vcEJ, wX, h1, h2, qA]
def a4X (G : St) (s : St) : Prop := ∃ (l : List (Nat × Nat)) (s' : St), swL s l = some s' ∧ s'.le G
theorem a6j : ∀ l : List SV, leT l l
 | [] => trivial
 | _ :: l => ⟨.inr rfl, a6j l⟩
theorem St.le_refl (s : St) : s.le s := ⟨a6j _, uF _⟩
theorem bD {s : St} : a4X s s := ⟨[], s, rfl, s.le_refl⟩
theorem a4Y {G s s' : St} (l : List (Nat × Nat)) (h : swL s l = some s') (e : s' = G) : a4X G s := ⟨l, s', h, e ▸ s'.le_refl⟩
theorem b5z (hT : TyOK E.P E.T) (hE : ∀ t, E.eqk t ≠ [] → EqT E.P t (E.eqk t)) (hm : E.P.follows .mixedOrders = true) {id : Nat} {ops : List Oper} {F : Ex → St → Prop} {st G : St} (ps ls l0 w0 : List Nat) (t : PT)
    (hok : okE ops ps ls = true) (hl0 : (l0.all fun i => !ps.contains i) = true) (hn : okN ops ps [] ps w0 t = true) (ht : a0Z ops ps t [] ps = true) (hlt : (ps.all fun q => decide (q < ops.length)) = true) (hb : st.okB = true)
    (h : a0T E ops (gW ops l0) st fun st1 => sP E st1 (gW ops w0) ∧ if t.isNil = true then a4X G st1 else wX E false ops t st1 (a4X G)) (hG : G.okB = true) (hF : F .normal G) : WP E.P E.C (.region id ops.toArray true) F st := fun g V a w hr => by
 refine wp_region_any hm ?_
 obtain ⟨st1, k1, k2, k3, k4⟩ := yU h
 have hf : ∀ j : Nat, j < ops.length → (Array.replicate ops.toArray.size false).getD j true = false := fun j hj => by simp [hj]
 have hle : st.le ⟨eZ (lat ops ls) (Array.replicate ops.toArray.size false) st1.t, st1.h⟩ := by
  refine ⟨a4P (by rw [dC, k3]) fun d _ => ?_, by show leH st.h st1.h; rw [k2]; exact uF _⟩
  rw [gH]
  cases hh : jP (lat ops ls) (Array.replicate ops.toArray.size false) d with
  | true => exact .inl rfl
  | false =>
   right
   simp only [Bool.false_eq_true, if_false]
   refine (k4 d fun o ho hd => ?_).symm
   obtain ⟨j, hjl, hj⟩ := mP.1 ho
   have hnl : j ∉ ls := fun hm => by
    unfold okE at hok
    rw [Bool.and_eq_true] at hok
    have h1 := List.all_eq_true.1 hok.1 j hm
    have h2 := List.all_eq_true.1 hl0 j hjl
    rw [h1] at h2; cases h2
   have := (fE (lat ops ls) (Array.replicate ops.toArray.size false) d).2 ⟨j, o, yT hj hnl, hd, hf j (List.getElem?_eq_some_iff.1 hj).1⟩
   rw [hh] at this; cases this
 have hbt : ((eZ (lat ops ls) (Array.replicate ops.toArray.size false) st1.t).all (·.below st1.h.length) && st1.h.all (·.below st1.h.length)) = true := by
  unfold St.okB at hb
  rw [Bool.and_eq_true] at hb ⊢
  rw [k2]
  refine ⟨List.all_eq_true.2 fun s hs => ?_, hb.2⟩
  obtain ⟨d, hd⟩ := List.mem_iff_getElem?.1 hs
  rcases (hle.1.get).2 d s hd with e | e
  ·subst e; rfl
  ·exact List.all_eq_true.1 hb.1 s (List.mem_of_getElem? e)
 have := b2d (eb := false) hT hE hok (Q := fun e a w => Post E.C F e a w) (K := a4X G) (fun g V st _ _ hr h => by
     obtain ⟨l, s', hs, hle⟩ := h
     obtain ⟨g', h1⟩ := hr.swL l hs
     exact ⟨_, V, G, h1.forget hle hG, hF⟩) ops.toArray.size (Array.replicate ops.toArray.size false) [] ps t w0 st1 _ V a { w with drawn := w.drawn + 1 } (by simp)
  (by unfold a0W; exact Nat.le_trans (List.length_filter_le _ _) (by simp)) (fun b o ho hl => by rw [hf b (List.getElem?_eq_some_iff.1 ho).1] at hl; cases hl) hn ht (fun e he => by simp at he)
  (fun q hq => by
   have hlq := of_decide_eq_true (List.all_eq_true.1 hlt q hq)
   exact ⟨hlq, hq, hf _ hlq⟩) (fun i _ hi _ => hi) k1.1 k1.2 ((hr.drawn).forget hle hbt)
 exact this
theorem b3W (hT : TyOK E.P E.T) (hE : ∀ t, E.eqk t ≠ [] → EqT E.P t (E.eqk t)) (hm : E.P.follows .mixedOrders = true) {id : Nat} {ops : List Oper} {F : Ex → St → Prop} {st : St} (ps ls l0 w0 : List Nat) (t : PT)
    (hok : okE ops ps ls = true) (hl0 : (l0.all fun i => !ps.contains i) = true) (hn : okN ops ps [] ps w0 t = true) (ht : a0Z ops ps t [] ps = true) (hlt : (ps.all fun q => decide (q < ops.length)) = true) (hb : st.okB = true)
    (h : a0T E ops (gW ops l0) st fun st1 => sP E st1 (gW ops w0) ∧ if t.isNil = true then F .normal st1 else wX E true ops t st1 (F .normal)) : WP E.P E.C (.region id ops.toArray true) F st := fun g V a w hr => by
 refine wp_region_any hm ?_
 obtain ⟨st1, k1, k2, k3, k4⟩ := yU h
 have hf : ∀ j : Nat, j < ops.length → (Array.replicate ops.toArray.size false).getD j true = false := fun j hj => by simp [hj]
 have hle : st.le ⟨eZ (lat ops ls) (Array.replicate ops.toArray.size false) st1.t, st1.h⟩ := by
  refine ⟨a4P (by rw [dC, k3]) fun d _ => ?_, by show leH st.h st1.h; rw [k2]; exact uF _⟩
  rw [gH]
  cases hh : jP (lat ops ls) (Array.replicate ops.toArray.size false) d with
  | true => exact .inl rfl
  | false =>
   right
   simp only [Bool.false_eq_true, if_false]
   refine (k4 d fun o ho hd => ?_).symm
   obtain ⟨j, hjl, hj⟩ := mP.1 ho
   have hnl : j ∉ ls := fun hm => by
    unfold okE at hok
    rw [Bool.and_eq_true] at hok
    have h1 := List.all_eq_true.1 hok.1 j hm
    have h2 := List.all_eq_true.1 hl0 j hjl
    rw [h1] at h2; cases h2
   have := (fE (lat ops ls) (Array.replicate ops.toArray.size false) d).2 ⟨j, o, yT hj hnl, hd, hf j (List.getElem?_eq_some_iff.1 hj).1⟩
   rw [hh] at this; cases this
 have hbt : ((eZ (lat ops ls) (Array.replicate ops.toArray.size false) st1.t).all (·.below st1.h.length) && st1.h.all (·.below st1.h.length)) = true := by
  unfold St.okB at hb
  rw [Bool.and_eq_true] at hb ⊢
  rw [k2]
  refine ⟨List.all_eq_true.2 fun s hs => ?_, hb.2⟩
  obtain ⟨d, hd⟩ := List.mem_iff_getElem?.1 hs
  rcases (hle.1.get).2 d s hd with e | e
  ·subst e; rfl
  ·exact List.all_eq_true.1 hb.1 s (List.mem_of_getElem? e)
 have := b2d (eb := true) hT hE hok (Q := fun e a w => Post E.C F e a w) (K := F .normal) (fun g V st _ _ hr h => ⟨g, V, st, hr, h⟩) ops.toArray.size (Array.replicate ops.toArray.size false) [] ps t w0 st1 _ V a { w with drawn := w.drawn + 1 } (by simp)
  (by unfold a0W; exact Nat.le_trans (List.length_filter_le _ _) (by simp)) (fun b o ho hl => by rw [hf b (List.getElem?_eq_some_iff.1 ho).1] at hl; cases hl) hn ht (fun e he => by simp at he)
  (fun q hq => by
   have hlq := of_decide_eq_true (List.all_eq_true.1 hlt q hq)
   exact ⟨hlq, hq, hf _ hlq⟩) (fun i _ hi _ => hi) k1.1 k1.2 ((hr.drawn).forget hle hbt)
 exact this
structure vcTT (E : Env) (eb : Bool) (all : List Oper) (t : PO) (st : St) (K : St → Prop) (u : Tie (all, t, K)) : Prop where
 out : vcEJ E eb all t st K
structure vcTN (E : Env) (eb : Bool) (all w : List Oper) (t : PO) (st : St) (K : St → Prop) (u : Tie (all, w, t, K)) : Prop where
 out : sP E st w ∧ if t.isNil = true then K st else vcEJ E eb all t st K
def b2e (E : Env) (eb : Bool) (all : List Oper) (p : Nat) (l : List Oper) (st : St) (k : St → Prop) (_ : Tie (l, k)) : Prop := match a4p all p with
 | some o => efX E eb o st fun st' s => vcDRun E all l (st'.put o.dst s) k ⟨⟩
 | none => False
theorem bA {eb : Bool} {all : List Oper} {st : St} {K : St → Prop} : vcTT E eb all .nil st K ⟨⟩ := ⟨trivial⟩
theorem aM {eb : Bool} {all l w' : List Oper} {p : Nat} {sub r : PO} {st : St} {K : St → Prop} (h : b2e E eb all p l st (fun st'' => vcTN E eb all w' sub st'' K ⟨⟩) ⟨⟩) (hr : vcTT E eb all r st K ⟨⟩) : vcTT E eb all (.cons p l w' sub r) st K ⟨⟩ := ⟨by
 refine ⟨?_, hr.out⟩
 have e2 : (fun st'' => vcTN E eb all w' sub st'' K ⟨⟩) = (fun st'' => sP E st'' w' ∧ if sub.isNil = true then K st'' else vcEJ E eb all sub st'' K) := funext fun s => propext ⟨fun h => h.out, fun h => ⟨h⟩⟩
 rw [e2] at h
 unfold b2e at h
 rw [uU] at h
 split at h
 ·rename_i o ho
  refine ⟨o, ho, ?_⟩
  have e4 : (fun (st' : St) (s : SV) => vcDRun E all l (st'.put o.dst s) (fun st'' => sP E st'' w' ∧ if sub.isNil = true then K st'' else vcEJ E eb all sub st'' K) ⟨⟩) = (fun st' s => a0T E all l (st'.put o.dst s) (fun st'' => sP E st'' w' ∧ if sub.isNil = true then K st'' else vcEJ E eb all sub st'' K)) := funext fun st' => funext fun s => propext ⟨fun h => h.out, fun h => ⟨h⟩⟩
  rw [e4] at h
  exact h
 ·exact h.elim⟩
theorem aN {eb : Bool} {all w : List Oper} {st : St} {K : St → Prop} (hc : sP E st w) (h : K st) : vcTN E eb all w .nil st K ⟨⟩ := ⟨hc, h⟩
theorem aP {eb : Bool} {all w l w' : List Oper} {p : Nat} {sub r : PO} {st : St} {K : St → Prop} (hc : sP E st w) (h : vcTT E eb all (.cons p l w' sub r) st K ⟨⟩) : vcTN E eb all w (.cons p l w' sub r) st K ⟨⟩ := ⟨hc, h.out⟩
end
attribute [go_sem] gW sG b2e efX a2d a8V b5y a4W
end Go.Sx
end
section
namespace Go.Proofs.YtgpoopjfkplilaaGreatDoor
open Go Go.Sx Go.RowKit Go.Proofs
def Ok2 (s : St) : Prop := s.okB = true
theorem oH {s : St} (h : s.okB = true := by simp only [go_sem] <;> fail) : Ok2 s := h
theorem rE {C : Ctx} {id : Nat} {ops L W : List Oper} {T : PO} {F : Ex → St → Prop} {st G : St} (ps ls l0 w0 : List Nat) (t : PT) (hl : gW ops l0 = L) (hw : gW ops w0 = W) (hp : sG ops t = T)
    (hok : (okE ops ps ls && (l0.all fun i => !ps.contains i) && okN ops ps [] ps w0 t && a0Z ops ps t [] ps && ps.all fun q => decide (q < ops.length)) = true) (hb : st.okB = true) (h : vcDRun (EV C) ops L st (fun st1 => vcTN (EV C) false ops W T st1 (a4X G) ⟨⟩) ⟨⟩) (hG : Ok2 G) (hF : F .normal G) : WP Tryz.prog C (.region id ops.toArray true) F st := by
 subst hl hw hp
 simp only [Bool.and_eq_true] at hok
 refine b5z (E := EV C) zY a9S fol ps ls l0 w0 t hok.1.1.1.1 hok.1.1.1.2 hok.1.1.2 hok.1.2 hok.2 hb ?_ hG hF
 have e : (fun st1 => vcTN (EV C) false ops (gW ops w0) (sG ops t) st1 (a4X G) ⟨⟩) = (fun st1 => sP (EV C) st1 (gW ops w0) ∧ if t.isNil = true then a4X G st1 else wX (EV C) false ops t st1 (a4X G)) := funext fun s => propext (by
  constructor
  ·intro h; have := h.out; rwa [a0l, qA] at this
  ·intro h; exact ⟨by rwa [a0l, qA]⟩)
 rw [e] at h
 exact h.out
theorem rF {C : Ctx} {id : Nat} {ops L W : List Oper} {T : PO} {F : Ex → St → Prop} {st : St} (ps ls l0 w0 : List Nat) (t : PT) (hl : gW ops l0 = L) (hw : gW ops w0 = W) (hp : sG ops t = T)
    (hok : (okE ops ps ls && (l0.all fun i => !ps.contains i) && okN ops ps [] ps w0 t && a0Z ops ps t [] ps && ps.all fun q => decide (q < ops.length)) = true) (hb : st.okB = true) (h : vcDRun (EV C) ops L st (fun st1 => vcTN (EV C) true ops W T st1 (F .normal) ⟨⟩) ⟨⟩) : WP Tryz.prog C (.region id ops.toArray true) F st := by
 subst hl hw hp
 simp only [Bool.and_eq_true] at hok
 refine b3W (E := EV C) zY a9S fol ps ls l0 w0 t hok.1.1.1.1 hok.1.1.1.2 hok.1.1.2 hok.1.2 hok.2 hb ?_
 have e : (fun st1 => vcTN (EV C) true ops (gW ops w0) (sG ops t) st1 (F .normal) ⟨⟩) = (fun st1 => sP (EV C) st1 (gW ops w0) ∧ if t.isNil = true then F .normal st1 else wX (EV C) true ops t st1 (F .normal)) := funext fun s => propext (by
  constructor
  ·intro h; have := h.out; rwa [a0l, qA] at this
  ·intro h; exact ⟨by rwa [a0l, qA]⟩)
 rw [e] at h
 exact h.out
instance clH {C : Ctx} {f : Nat} {args args' : List SV} {res : SV} {h : List HB} {k : List HB → SV → Prop} : Cy Tryz.prog f args' res (CallH (EV C) f args h k ⟨⟩) (args.map (eY (bI h (dZ args))) = args' ∧ args'.all bX = true) (Nm (k (bI h (dZ args) ++ adH res.all) (adS (bI h (dZ args)).length res))) := ⟨fun hf o hk => CallH.det (CallG.frz (E := EV C) hf o.1 o.2 hk)⟩
theorem hO {C : Ctx} {f : Nat} {args args' : List SV} {res : SV} {h : List HB} {k : List HB → SV → Prop} (hf : FnC Tryz.prog f args' res) (hk : Nm (k (h ++ adG (fun _ => none) 0 res.all) (adS h.length res))) (he : args.map (dY h) = args' := by simp only [go_sem, qH] <;> fail) (hfree : args'.all bX = true := by simp only [go_sem, qH] <;> fail) (hres : res.all.all lS = true := by simp only [go_sem, qH] <;> fail) : CallH (EV C) f args h k ⟨⟩ := CallH.det (cGo hf he hfree hres hk)
theorem hR {C : Ctx} {f : Nat} {args args' : List SV} {res : SV} {h : List HB} {k : List HB → SV → Prop} (hf : FnC Tryz.prog f args' res) (hk : Nm (k (h ++ adH res.all) (adS h.length res))) (he : args.map (dY h) = args' := by simp only [go_sem, qH] <;> fail) (hfree : args'.all bX = true := by simp only [go_sem, qH] <;> fail) (hres : res.all.all lS = true := by simp only [go_sem, qH] <;> fail) : CallH (EV C) f args h k ⟨⟩ := CallH.det (cGr hf he hfree hres hk)
end Go.Proofs.YtgpoopjfkplilaaGreatDoor
end
section
set_option maxRecDepth 100000
set_option maxHeartbeats 4000000
namespace Go.Proofs.YtgpoopjfkplilaaGreatDoor
open Go Go.Sx Go.RowKit Go.Proofs
theorem lV {a b : ByteArray} (h : a.data.toList = b.data.toList) : a = b := ByteArray.ext (Array.ext' h)
def sp : ByteArray := ⟨#[32]⟩
theorem a9P {l : List (List UInt8)} (h : l ≠ []) (x sep : List UInt8) : Lib.join (l ++ [x]) sep = Lib.join l sep ++ (sep ++ x) := by
 cases l with
 | nil => exact absurd rfl h
 | cons y l =>
  rw [List.cons_append, Lib.join_cons, Lib.join_cons]
  simp [Lib.joinTail]
theorem jT {l : List ByteArray} (h : l ≠ []) (x sep : ByteArray) : iT (l ++ [x]) sep = iT l sep ++ sep ++ x := by
 apply lV
 unfold iT
 rw [List.map_append, List.map_cons, List.map_nil, a9P (by simpa using h)]
 simp
theorem a2Z {l : List ByteArray} (h : l ≠ []) (x y sep : ByteArray) : iT (l ++ [x, y]) sep = iT l sep ++ sep ++ x ++ sep ++ y := by
 have e : l ++ [x, y] = (l ++ [x]) ++ [y] := by simp
 rw [e, jT (by simp), jT h]
theorem mW (n : Int) (hn : inR .i64 n) : (bU n).size ≤ 20 := by
 unfold inR at hn
 simp only at hn
 by_cases h0 : n = 0
 ·subst h0
  have e : bU 0 = ⟨#[48]⟩ := by simp [bU, Lib.itoa, Lib.decDigits]
  rw [e]; decide
 ·have hL : (zW n.natAbs).length ≤ 19 := a1D 19 _ (by omega)
  have e : (bU n).size = (Lib.itoa n).length := rfl
  rw [e, a9R h0]
  split
  ·rw [List.length_cons]; omega
  ·omega
theorem zV (v : TValue) (hi : inR .i64 v.fInt) : (jL v).size ≤ 20 + v.fStr.size := by
 have h1 := mW v.fInt hi
 unfold jL
 split
 ·split
  ·omega
  ·split
   ·omega
   ·have : (⟨#[45]⟩ : ByteArray).size = 1 := rfl
    omega
 ·have : (⟨#[63]⟩ : ByteArray).size = 1 := rfl
  omega
def mY (f : TFile) : List ByteArray := [⟨#[102, 105, 108, 101]⟩, bU f.fID, bU f.fOwner, if f.fShared then ⟨#[115]⟩ else ⟨#[111]⟩, bU f.fLink]
def eX (l : List TAttr) : List ByteArray := l.flatMap fun a => [a.fName, jL a.fValue]
def xL (f : TFile) : ByteArray := iT (mY f ++ eX f.fAttrs) sp
theorem a0z (l : List TAttr) (k : Nat) (h : k < l.length) : eX (l.take (k + 1)) = eX (l.take k) ++ [l[k].fName, jL l[k].fValue] := by
 unfold eX
 rw [List.take_succ_eq_append_getElem h, List.flatMap_append]
 simp
theorem wN (l : List TAttr) : (eX l).length = 2 * l.length := by
 induction l with
 | nil => rfl
 | cons a l ih => unfold eX at *; rw [List.flatMap_cons, List.length_append, ih]; simp; omega
theorem a5z (f : TFile) (l : List ByteArray) : mY f ++ l ≠ [] := by simp [mY]
theorem a7k (f : TFile) : iT (mY f) sp = (⟨#[102, 105, 108, 101, 32]⟩ : ByteArray) ++ bU f.fID ++ ⟨#[32]⟩ ++ bU f.fOwner ++ (if f.fShared then ⟨#[32, 115, 32]⟩ else ⟨#[32, 111, 32]⟩) ++ bU f.fLink := by
 have e : mY f = ((([⟨#[102, 105, 108, 101]⟩] ++ [bU f.fID]) ++ [bU f.fOwner]) ++ [if f.fShared then ⟨#[115]⟩ else ⟨#[111]⟩]) ++ [bU f.fLink] := rfl
 have e1 : iT [⟨#[102, 105, 108, 101]⟩] sp = ⟨#[102, 105, 108, 101]⟩ := by
  apply lV; unfold iT; rw [List.map_cons, List.map_nil, Lib.join_one]
 rw [e, jT (by simp), jT (by simp), jT (by simp), jT (by simp), e1]
 apply lV
 cases f.fShared <;> simp [sp]
theorem a5A {l : List TAttr} {k : Nat} (h : k < l.length) : l[k].fName.size + l[k].fValue.fStr.size ≤ eB l := by
 have := eT iX l h
 unfold eB
 have e : iX l[k] = l[k].fName.size + l[k].fValue.fStr.size := rfl
 omega
theorem a5B (f : TFile) (hf : a0j f) (hw : fG f ≤ 1048576) : ∀ k, k ≤ f.fAttrs.length → (iT (mY f ++ eX (f.fAttrs.take k)) sp).size ≤ 100 + k * 2200000
 | 0, _ => by
  have e : mY f ++ eX (f.fAttrs.take 0) = mY f := by simp [eX]
  rw [e, a7k]
  have h1 := mW f.fID hf.1
  have h2 := mW f.fOwner hf.2.1
  have h3 := mW f.fLink hf.2.2.2.1
  have e1 : (⟨#[102, 105, 108, 101, 32]⟩ : ByteArray).size = 5 := rfl
  have e2 : (⟨#[32]⟩ : ByteArray).size = 1 := rfl
  have e3 : (if f.fShared then ⟨#[32, 115, 32]⟩ else ⟨#[32, 111, 32]⟩ : ByteArray).size = 3 := by cases f.fShared <;> rfl
  simp only [ByteArray.size_append]
  omega
 | k + 1, hk => by
  have ih := a5B f hf hw k (by omega)
  have hx : f.fAttrs[k] ∈ f.fAttrs := List.getElem_mem (by omega)
  have hv := zV f.fAttrs[k].fValue (hf.2.2.2.2.2 _ hx).2.2.1
  have hat := a5A (l := f.fAttrs) (k := k) (by omega)
  have e2 : sp.size = 1 := rfl
  unfold fG at hw
  rw [a0z _ k (by omega), ← List.append_assoc, a2Z (a5z _ _)]
  simp only [ByteArray.size_append]
  omega
theorem a9Q (f : TFile) (hw : fG f ≤ 1048576) : f.fAttrs.length ≤ 1048576 := by unfold fG eB at hw; omega
theorem xM (f : TFile) (hf : a0j f) (hw : fG f ≤ 1048576) : FnC Tryz.prog 50 [a0I f] (os (xL f)) := by
 have hlen := a9Q f hw
 have hsz := a5B f hf hw f.fAttrs.length (Nat.le_refl _)
 rw [List.take_length] at hsz
 have hpl := wN f.fAttrs
 have cj := xN (mY f ++ eX f.fAttrs) ⟨#[32]⟩ (a5z _ _) (by rw [List.length_append, hpl]; simp [mY]; omega) (by show (iT (mY f ++ eX f.fAttrs) sp).size ≤ _; omega)
 refine ent Tryz.func50 rfl Tryz.call50 rfl (fun C => ?_); simp only [go_sem, st0, Tryz.ntmps50]
 have hb : mY f = [⟨#[102, 105, 108, 101]⟩, bU f.fID, bU f.fOwner, if f.fShared then ⟨#[115]⟩ else ⟨#[111]⟩, bU f.fLink] := rfl
 have fin : iT (mY f ++ eX f.fAttrs) ⟨#[32]⟩ = xL f := rfl
 have cv : ∀ (k : Nat) (h : k < f.fAttrs.length), FnC Tryz.prog 91 [lC f.fAttrs[k].fValue] (os (jL f.fAttrs[k].fValue)) := fun k h => jU _ (by have := a5A (l := f.fAttrs) h; unfold fG at hw; omega) (hf.2.2.2.2.2 _ (List.getElem_mem h)).2.2.1
 have c1 := fO f.fID hf.1
 have c2 := fO f.fOwner hf.2.1
 have c3 := fO f.fLink hf.2.2.2.1
 cases hs : f.fShared
 all_goals
  rw [hs] at hb
  have qH := @hs; repeat' (with_reducible first | refine nY ?_ | (refine mX ?_; try simp only [go_sem, qH]) | refine kD ?_ | (apply rE [2,5,9,10] [] [0,1,3,4,6,7,8] [0,1,3,4,6,7,8] ((.c 2 [] [3,4,6,7,8] (.c 5 [] [6,7,8] (.c 9 [] [6] (.c 10 [11] [11] .n .n) .n) .n) .n)) (by simp only [go_sem]; rfl) (by simp only [go_sem]; rfl) (by simp only [go_sem]; rfl) (by decide +kernel); (focus simp only [go_sem]; done)) | exact bA | refine aM (uX ?_) ?_ | refine aN (aX ?_) ?_ | refine aP (aX ?_) ?_ | exact bD | exact oH | exact uB | refine rD ?_ | refine cP c1 ?_ | refine cP c2 ?_ | refine cP c3 ?_ | refine aO ?_ | fail)
  refine dB (α := Nat × List ByteArray) (fun x => [(4, .o (.s 1)), (19, .o .u), (23, oi x.1)]) (fun x => [(1, .row 9 1 (x.2.map dL) true)]) (fun x => x.1 ≤ f.fAttrs.length ∧ x.2 = mY f ++ eX (f.fAttrs.take x.1)) (fun x => f.fAttrs.length - x.1) (0, mY f) (fun _ => ?_) ?_ ?_ (fun x hx => ?_)
  ·simp only [go_sem]
  ·simp only [go_sem]; simp [hb, dL]
  ·exact ⟨Nat.zero_le _, by simp [eX]⟩
  ·obtain ⟨k, l⟩ := x
   obtain ⟨hk, hl⟩ := hx
   simp only at hk hl
   simp only [go_sem]
   refine aD ?_
   refine cnd rfl (fun h => ?_) (fun h => ?_)
   ·simp only [decide_eq_true_eq, Int.ofNat_lt] at h
    have hll : l.length = 5 + 2 * k := by
     rw [hl, List.length_append, wN, List.length_take, Nat.min_eq_left hk]; rfl
    have hl1 : l.length + 2 ≤ 140737488355328 := by omega
    have hl2 : (l.length + 2) * 16 ≤ 140737488355328 := by omega
    have c := cv k h
    have qH := aI @h (aI @hl1 (aI @hl2 @gI)); repeat' (with_reducible first | refine nY ?_ | (refine mX ?_; try simp only [go_sem, qH]) | refine kD ?_ | (apply rE [5,6,7,8] [8] [0,1,2,3,4] [0,1,2,3,4] ((.c 5 [] [0,1,2] (.c 6 [] [0] (.c 7 [] [] (.c 8 [] [] .n .n) .n) .n) .n)) (by simp only [go_sem]; rfl) (by simp only [go_sem]; rfl) (by simp only [go_sem]; rfl) (by decide +kernel); (focus simp only [go_sem]; done)) | exact bA | refine aM (uX ?_) ?_ | refine aN (aX ?_) ?_ | refine aP (aX ?_) ?_ | exact bD | exact oH | exact uB | refine rD ?_ | refine cP c ?_ | refine aO ?_ | fail)
    refine aQ (k + 1, l ++ [f.fAttrs[k].fName, jL f.fAttrs[k].fValue]) ?_ ?_ ?_
    ·simp only [go_sem, List.map_append]; simp [dL]
    ·exact ⟨by simp only; omega, by simp only; rw [a0z _ k h, ← List.append_assoc, ← hl]⟩
    ·simp only; omega
   ·simp only [decide_eq_false_iff_not] at h
    have e : k = f.fAttrs.length := by omega
    subst e
    rw [List.take_length] at hl
    subst hl
    refine kS cj ?_
    exact aA ⟨⟨_, rfl, by simp only [go_sem, fin]⟩, trivial⟩
theorem bT : (∀ b : Bool, (b && true) = b) ∧ (∀ b : Bool, (b && false) = false) ∧ (∀ b : Bool, (true && b) = b) ∧ (∀ b : Bool, (false && b) = false) ∧ (!true) = false ∧ (!false) = true := ⟨Bool.and_true, Bool.and_false, Bool.true_and, Bool.false_and, rfl, rfl⟩
def two (n : TNode) : Bool := decide (n.fOp = 6) || decide (n.fOp = 7)
def b2f (n : TNode) (i : Int) : Nat := (if (two n || decide (n.fOp = 5)) && decide (n.fLeft = i) then 1 else 0) + (if two n && decide (n.fRight = i) then 1 else 0)
def refs (q : List TNode) (i : Int) : Nat := match q with
 | [] => 0
 | n :: q => b2f n i + refs q i
theorem b2g (q r : List TNode) (i : Int) : refs (q ++ r) i = refs q i + refs r i := by
 induction q with
 | nil => simp [refs]
 | cons n q ih => simp only [List.cons_append, refs, ih]; omega
theorem a3w (q : List TNode) (i : Int) (k : Nat) (h : k < q.length) : refs (q.take (k + 1)) i = refs (q.take k) i + b2f q[k] i := by
 rw [List.take_succ_eq_append_getElem h, b2g]; simp [refs]
theorem a9a (q : List TNode) (i : Int) : refs q i ≤ 2 * q.length := by
 induction q with
 | nil => simp [refs]
 | cons n q ih => simp only [refs, List.length_cons]; unfold b2f; split <;> split <;> omega
theorem rC (q : List TNode) (i : Int) (hl : q.length ≤ 4300000) : FnC Tryz.prog 146 [.o (.d (.sl (q.map bH))), oi i] (oi (refs q i)) := by
 refine ent Tryz.func146 rfl Tryz.call146 rfl (fun C => ?_); simp only [go_sem, st0, Tryz.ntmps146]
 refine aD ?_
 refine dB (α := Nat) (fun k => [(5, oi (refs (q.take k) i)), (11, oi k)]) (fun _ => []) (fun k => k ≤ q.length) (fun k => q.length - k) 0 (fun _ => ?_) ?_ ?_ (fun k hk => ?_)
 ·simp only [go_sem]
 ·simp only [go_sem]; simp [refs]
 ·simp
 ·simp only [go_sem]
  refine aD ?_
  refine cnd rfl (fun h1 => ?_) (fun h1 => ?_)
  ·simp only [decide_eq_true_eq, Int.ofNat_lt] at h1
   have ht := a3w q i k h1
   have hle := a9a (q.take k) i
   simp only [List.length_take] at hle
   by_cases c6 : q[k].fOp = 6 <;> by_cases c7 : q[k].fOp = 7 <;> by_cases c5 : q[k].fOp = 5 <;> by_cases cl : q[k].fLeft = i <;> by_cases cr : q[k].fRight = i
   all_goals (try omega)
   all_goals
    simp only [b2f, two, c5, c6, c7, cl, cr, decide_true, decide_false, Bool.true_or, Bool.or_true, Bool.false_or, Bool.or_false, Bool.and_true, Bool.and_false, Bool.true_and, Bool.false_and, if_true, if_false, Bool.false_eq_true] at ht
    have d5 : decide (q[k].fOp = 5) = decide (q[k].fOp = 5) := rfl
    have q0 := @h1; have q1 := @c5; have q2 := @c6; have q3 := @c7; have q4 := @cl; have q5 := @cr; have q6 := @decide_true; have q7 := @decide_false; refine a1Y ?_
    refine aQ (k + 1) ?_ ?_ ?_
    ·simp only [go_sem, ht]; simp <;> omega
    ·omega
    ·omega
  ·simp only [decide_eq_false_iff_not] at h1
   have e : k = q.length := by omega
   subst e
   rw [List.take_length]
   refine aD ?_
   exact aA ⟨⟨_, rfl, by simp only [go_sem, List.take_length]⟩, trivial⟩
theorem rG (q : List TNode) (i : Int) (hl : q.length ≤ 4300000) : FnC Tryz.prog 207 [.o (.d (.sl (q.map bH))), oi i] (oi (refs q i)) := by
 refine ent Tryz.func207 rfl Tryz.call207 rfl (fun C => ?_); simp only [go_sem, st0, Tryz.ntmps207]
 refine aD ?_
 refine dB (α := Nat) (fun k => [(5, oi (refs (q.take k) i)), (6, oi k)]) (fun _ => []) (fun k => k ≤ q.length) (fun k => q.length - k) 0 (fun _ => ?_) ?_ ?_ (fun k hk => ?_)
 ·simp only [go_sem]
 ·simp only [go_sem]; simp [refs]
 ·simp
 ·simp only [go_sem]
  refine aD ?_
  refine cnd rfl (fun h1 => ?_) (fun h1 => ?_)
  ·simp only [decide_eq_true_eq, Int.ofNat_lt] at h1
   have ht := a3w q i k h1
   have hle := a9a (q.take k) i
   simp only [List.length_take] at hle
   by_cases c6 : q[k].fOp = 6 <;> by_cases c7 : q[k].fOp = 7 <;> by_cases c5 : q[k].fOp = 5 <;> by_cases cl : q[k].fLeft = i <;> by_cases cr : q[k].fRight = i
   all_goals (try omega)
   all_goals
    simp only [b2f, two, c5, c6, c7, cl, cr, decide_true, decide_false, Bool.true_or, Bool.or_true, Bool.false_or, Bool.or_false, Bool.and_true, Bool.and_false, Bool.true_and, Bool.false_and, if_true, if_false, Bool.false_eq_true] at ht
    have d5 : decide (q[k].fOp = 5) = decide (q[k].fOp = 5) := rfl
    have q0 := @h1; have q1 := @c5; have q2 := @c6; have q3 := @c7; have q4 := @cl; have q5 := @cr; have q6 := @decide_true; have q7 := @decide_false; refine a1Y ?_
    refine aQ (k + 1) ?_ ?_ ?_
    ·simp only [go_sem, ht]; simp <;> omega
    ·omega
    ·omega
  ·simp only [decide_eq_false_iff_not] at h1
   have e : k = q.length := by omega
   subst e
   rw [List.take_length]
   refine aD ?_
   exact aA ⟨⟨_, rfl, by simp only [go_sem, List.take_length]⟩, trivial⟩
end Go.Proofs.YtgpoopjfkplilaaGreatDoor
end
