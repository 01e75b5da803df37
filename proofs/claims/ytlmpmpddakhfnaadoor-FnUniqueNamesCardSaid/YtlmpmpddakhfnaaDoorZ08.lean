/- Joined texts. -/
import Derived.Test.YtlmpmpddakhfnaaDoorZ05
import Derived.Test.YtlmpmpddakhfnaaDoorZ06
import Derived.Test.YtlmpmpddakhfnaaDoorZ07
set_option linter.all false
section
namespace Go.Sx
open Go Go.RowKit
def a2j : Option Nat → SV → SV
 | none, s => s
 | some id, s => wP id s
def gX (φ : Option Nat) (T : List SV) : List SV := T.map (a2j φ)
theorem a2k (φ : Option Nat) : a2j φ (.o .u) = .o .u := by cases φ <;> rfl
theorem aW (T : List SV) : gX none T = T := by
 have e : a2j none = id := rfl
 rw [gX, e, List.map_id]
def iU (all : List Oper) : Nat → Nat → Nat → Bool
 | 0, a, b => match all[b]? with
  | some o => onE o a
  | none => false
 | n + 1, a, b => match all[b]? with
  | some o => onE o a || o.after.any fun e => Region.binds .any e && iU all n a e.on
  | none => false
def a6L (all : List Oper) (L : Array Bool) : Prop := ∀ (b : Nat) (o : Oper), all[b]? = some o → L.getD b true = true → ∀ e ∈ o.after, Region.binds .any e = true → L.getD e.on true = true
theorem vB {all : List Oper} {L : Array Bool} {a b : Nat} {o : Oper} (ho : all[b]? = some o) (hd : ∀ e ∈ o.after, Region.binds .any e = true → L.getD e.on true = true) (h : onE o a = true) : L.getD a true = true := by
 obtain ⟨e, he, hb⟩ := Array.any_eq_true'.1 h
 simp only [Bool.and_eq_true, beq_iff_eq] at hb
 have := hd e he hb.1
 rwa [hb.2] at this
theorem mK {all : List Oper} {L : Array Bool} (hc : a6L all L) : ∀ (n a b : Nat) (o : Oper), all[b]? = some o → (∀ e ∈ o.after, Region.binds .any e = true → L.getD e.on true = true) → iU all n a b = true → L.getD a true = true
 | 0, a, b, o, ho, hd, h => by
  unfold iU at h; rw [ho] at h; exact vB ho hd h
 | n + 1, a, b, o, ho, hd, h => by
  unfold iU at h
  rw [ho] at h
  rcases Bool.or_eq_true_iff.1 h with h | h
  ·exact vB ho hd h
  ·obtain ⟨e, he, hb⟩ := Array.any_eq_true'.1 h
   rw [Bool.and_eq_true] at hb
   have h1 := hd e he hb.1
   cases hq : all[e.on]? with
   | none => have := hb.2; cases n <;> (unfold iU at this; rw [hq] at this; cases this)
   | some p => exact mK hc n a e.on p hq (hc e.on p hq h1) hb.2
def okE (all : List Oper) (ps ls : List Nat) : Bool := (ls.all fun i => ps.contains i) &&
 (List.range all.length).all fun i => zZ all i fun o =>
  (match o.guard with | none => true | some _ => false) && (o.after.all fun e => !Region.binds .any e || decide (e.on < i)) &&
  (ps.contains i || o.dst.isSome) &&
  ((List.range all.length).all fun j => zZ all j fun p => match p.dst with
   | none => true
   | some d => ((iM (opL o.op)).all fun t => t != d || onE o j || ls.contains j) && (j == i || o.dst != some d))
def a7U (all : List Oper) (ps dn rest w : List Nat) : Bool :=
 (List.range all.length).all fun i => ps.contains i || dn.any (fun e => iU all 4 i e) || rest.any (fun e => iU all 4 e i) || w.contains i
inductive PT where
 | n : PT
 | c : Nat → List Nat → List Nat → PT → PT → PT
def PT.tops : PT → List Nat
 | .n => []
 | .c p _ _ _ r => p :: r.tops
def PT.isNil : PT → Bool
 | .n => true
 | .c .. => false
def okN (all : List Oper) (ps dn rem w : List Nat) (t : PT) : Bool := a7U all ps dn rem w && rem.all fun p => (rem.any fun q => q != p && iU all 4 q p) || t.tops.contains p
def sS (all : List Oper) (ps : List Nat) : PT → List Nat → List Nat → Bool
 | .n, _, _ => true
 | .c p li w' sub r, dn, rem => rem.contains p && (li.all fun i => !ps.contains i && iU all 4 p i) && okN all ps (p :: dn) (rem.filter (· != p)) w' sub && sS all ps sub (p :: dn) (rem.filter (· != p)) && sS all ps r dn rem
def dO (all : List Oper) : List Nat → List Oper
 | [] => []
 | i :: l => match xM all i with
  | some o => o :: dO all l
  | none => dO all l
theorem iF {all : List Oper} {o : Oper} : ∀ {l : List Nat}, o ∈ dO all l ↔ ∃ i ∈ l, all[i]? = some o
 | [] => by simp [dO]
 | j :: l => by
  have ih := iF (all := all) (o := o) (l := l)
  unfold dO
  rw [mV]
  cases hq : all[j]? with
  | none => simp only [ih, List.mem_cons]; constructor
            ·rintro ⟨i, h1, h2⟩; exact ⟨i, .inr h1, h2⟩
            ·rintro ⟨i, h1 | h1, h2⟩
             ·subst h1; rw [hq] at h2; cases h2
             ·exact ⟨i, h1, h2⟩
  | some p =>
   simp only [List.mem_cons, ih]
   constructor
   ·rintro (rfl | ⟨i, h1, h2⟩)
    ·exact ⟨j, .inl rfl, hq⟩
    ·exact ⟨i, .inr h1, h2⟩
   ·rintro ⟨i, h1 | h1, h2⟩
    ·subst h1; rw [hq] at h2; exact .inl (Option.some.inj h2).symm
    ·exact .inr ⟨i, h1, h2⟩
def lat (all : List Oper) (ls : List Nat) : List Oper := all.mapIdx fun i o => if ls.contains i then { o with dst := none } else o
theorem qG {all : List Oper} {ls : List Nat} {j d : Nat} {o' : Oper} (h : (lat all ls)[j]? = some o') (hd : o'.dst = some d) : ∃ o, all[j]? = some o ∧ o.dst = some d ∧ j ∉ ls := by
 unfold lat at h
 rw [List.getElem?_mapIdx] at h
 cases ho : all[j]? with
 | none => rw [ho] at h; cases h
 | some o =>
  rw [ho] at h
  simp only [Option.map_some, Option.some.injEq] at h
  split at h
  ·subst h; cases hd
  ·rename_i hn
   subst h
   exact ⟨o, rfl, hd, fun hm => hn (List.contains_iff_mem.2 hm)⟩
theorem qI {all : List Oper} {ls : List Nat} {j : Nat} {o : Oper} (h : all[j]? = some o) (hj : j ∉ ls) : (lat all ls)[j]? = some o := by
 unfold lat
 rw [List.getElem?_mapIdx, h, Option.map_some, if_neg (fun hm => hj (List.contains_iff_mem.1 hm))]
section
variable {E : Env}
def a4m : Op → Bool
 | .alloc _ => true
 | .assign _ => true
 | .move _ => true
 | .buildSlice .. => true
 | .store .. => true
 | .call c => match c.callee with
  | .builtin .append => true
  | _ => false
 | _ => false
def a0w (E : Env) (o : Oper) (st : St) (k : St → SV → Prop) : Prop := if a4m o.op then bC E o.op st k else a1n E o st fun h' s => k ⟨st.t, h'⟩ s
structure CallH (E : Env) (f : Nat) (args : List SV) (h : List HB) (k : List HB → SV → Prop) (t : Tie k) : Prop where
 out : ∃ (β : Type) (Pb : β → Prop) (h' : β → List HB) (s : β → SV), (∀ T, CallS E f args ⟨T, h⟩ fun st2 s2 => ∃ b, Pb b ∧ st2 = ⟨T, h' b⟩ ∧ s2 = s b) ∧ ∀ b, Pb b → k (h' b) (s b)
theorem CallS.mono {E : Env} {f : Nat} {args : List SV} {st : St} {K K' : St → SV → Prop} (h : CallS E f args st K) (m : ∀ st2 s, K st2 s → K' st2 s) : CallS E f args st K' :=
 ⟨h.1, fun g V a w vs hr hl ha => (h.2 g V a w vs hr hl ha).mono fun _ _ ⟨y, g', V', st', s, e1, e2, e3, e4⟩ => ⟨y, g', V', st', s, e1, e2, e3, m _ _ e4⟩⟩
theorem CallH.det {E : Env} {f : Nat} {args : List SV} {h : List HB} {k : List HB → SV → Prop} (c : CallG E f args h k ⟨⟩) : CallH E f args h k ⟨⟩ := by
 obtain ⟨h', s, h1, h2⟩ := c.out
 exact ⟨Unit, fun _ => True, fun _ => h', fun _ => s, fun T => (h1 T).mono fun _ _ ⟨e1, e2⟩ => ⟨(), trivial, e1, e2⟩, fun _ _ => h2⟩
def a6M (E : Env) (o : Oper) (st : St) (k : List HB → SV → Prop) : Prop := match o.op with
 | .call c => (match c.callee with
  | .value f => (match ev st f with
   | .o (.f fn caps) => CallH E fn (c.args.toList.map (ev st) ++ caps.map (fun cs => .o (.q cs))) st.h k ⟨⟩
   | _ => False)
  | _ => False)
 | _ => False
def a2l (E : Env) (o : Oper) (st : St) (k : St → SV → Prop) : Prop := if a4m o.op then bC E o.op st k else a6M E o st fun h' s => k ⟨st.t, h'⟩ s
def efX (E : Env) : Bool → Oper → St → (St → SV → Prop) → Prop
 | false => a0w E
 | true => a2l E
theorem qJ {T : List SV} {st : St} : ∀ (l : List (Nat × Operand)) (n : Nat), (∀ p ∈ l, ev ⟨T, st.h⟩ p.2 = ev st p.2) → fK ⟨T, st.h⟩ n l = fK st n l
 | [], _, _ => rfl
 | (i, x) :: r, n, h => by
  have h1 : ev ⟨T, st.h⟩ x = ev st x := h (i, x) (by simp)
  simp only [fK, h1, qJ r (n + 1) fun p hp => h p (by simp [hp])]
theorem a0x {op : Op} (ha : a4m op = true) {st : St} {k : St → SV → Prop} (h : bC E op st k) : ∃ φ h' s, (∀ T : List SV, (∀ x ∈ op.operands, ev ⟨T, st.h⟩ x = ev st x) → bC E op ⟨T, st.h⟩ fun st2 s2 => st2 = ⟨gX φ T, h'⟩ ∧ s2 = s) ∧ k ⟨gX φ st.t, h'⟩ s := by
 cases op <;> simp only [a4m, Bool.false_eq_true] at ha
 case alloc t =>
  simp only [bC] at h
  exact ⟨none, st.h ++ [.box t (E.T t).zero], _, fun T _ => by simp only [bC]; exact ⟨h.1, by rw [aW]; rfl, rfl⟩, by rw [aW]; exact h.2⟩
 case assign x => exact ⟨none, st.h, ev st x, fun T he => by simp only [bC, he x (by simp [Op.operands])]; exact ⟨by rw [aW], trivial⟩, by rw [aW]; exact h⟩
 case move x => exact ⟨none, st.h, ev st x, fun T he => by simp only [bC, he x (by simp [Op.operands])]; exact ⟨by rw [aW], trivial⟩, by rw [aW]; exact h⟩
 case buildSlice t len parts =>
  simp only [bC] at h
  unfold gB at h
  obtain ⟨h1, h2, h3, h4, h⟩ := h
  split at h
  ·rename_i cs e
   obtain ⟨h5, h⟩ := h
   split at h
   ·rename_i rows lin e2
    refine ⟨none, _, .o (.s st.h.length), fun T he => ?_, by rw [aW]; exact h.2⟩
    simp only [bC]
    unfold gB
    have hp : fK ⟨T, st.h⟩ 0 parts.toList = fK st 0 parts.toList := qJ _ _ fun p hp => he p.2 (by rw [← Array.mem_toList_iff, ← a0S]; exact List.mem_map.2 ⟨p, hp, rfl⟩)
    refine ⟨h1, h2, h3, h4, ?_⟩
    rw [hp, e]
    refine ⟨h5, ?_⟩
    simp only [e2]
    exact ⟨h.1, by rw [aW], trivial⟩
   ·exact h.elim
  ·exact h.elim
 case store t x v =>
  have key : ∀ T : List SV, (∀ y ∈ (Op.store t x v).operands, ev ⟨T, st.h⟩ y = ev st y) → ev ⟨T, st.h⟩ x = ev st x ∧ ev ⟨T, st.h⟩ v = ev st v := fun T he => ⟨he x (by simp [Op.operands]), he v (by simp [Op.operands])⟩
  simp only [bC] at h
  split at h
  ·rename_i id sz i fo e
   unfold gJ at h
   obtain ⟨h1, h2, h3, h4, h5, h⟩ := h
   split at h
   ·rename_i e1 e2
    split at h
    ·rename_i e3
     refine ⟨none, _, .t [], fun T he => ?_, by rw [aW]; exact h.2.2⟩
     obtain ⟨hx, hv⟩ := key T he
     simp only [bC, hx, hv, e]
     unfold gJ
     refine ⟨h1, h2, h3, h4, h5, ?_⟩
     simp only [e1, e2, e3]
     exact ⟨h.1, h.2.1, by rw [aW], trivial⟩
    ·exact h.elim
   ·exact h.elim
  ·rename_i id sz i fo e
   unfold fJ at h
   split at h
   ·rename_i e0
    split at h
    ·rename_i e1
     split at h
     ·rename_i e2 e3
      refine ⟨none, _, .t [], fun T he => ?_, by rw [aW]; exact h.2.2.2.2⟩
      obtain ⟨hx, hv⟩ := key T he
      simp only [bC, hx, hv, e]
      unfold fJ
      simp only [e0, e1, e2, e3]
      exact ⟨h.1, h.2.1, h.2.2.1, h.2.2.2.1, by rw [aW], trivial⟩
     ·exact h.elim
    ·exact h.elim
   ·exact h.elim
  ·rename_i e0 e1
   unfold jC at h
   split at h
   ·rename_i e
    split at h
    ·rename_i e2
     split at h
     ·rename_i e3
      refine ⟨none, _, .t [], fun T he => ?_, by rw [aW]; exact h.2.2.2.2⟩
      obtain ⟨hx, hv⟩ := key T he
      simp only [bC, hx, hv, e]
      unfold jC
      simp only [e2, e3]
      exact ⟨h.1, h.2.1, h.2.2.1, h.2.2.2.1, by rw [aW], trivial⟩
     ·exact h.elim
    ·rename_i e2
     split at h
     ·rename_i e4
      split at h
      ·rename_i e3
       refine ⟨none, _, .t [], fun T he => ?_, by rw [aW]; exact h.2.2⟩
       obtain ⟨hx, hv⟩ := key T he
       simp only [bC, hx, hv, e]
       unfold jC
       simp only [e2, e4, e3]
       exact ⟨h.1, h.2.1, by rw [aW], trivial⟩
      ·exact h.elim
     ·exact h.elim
    ·exact h.elim
   ·exact h.elim
 case call c =>
  have hc : c.callee = .builtin .append := by
   split at ha
   ·rename_i e; exact e
   ·cases ha
  simp only [bC, eP, hc] at h
  split at h
  ·rename_i s x t t' e1 e2
   have key : ∀ T : List SV, (∀ y ∈ (Op.call c).operands, ev ⟨T, st.h⟩ y = ev st y) → ev ⟨T, st.h⟩ s = ev st s ∧ ev ⟨T, st.h⟩ x = ev st x := fun T he =>
    ⟨he s (by simp only [Op.operands, Call.operands, Array.mem_append]; exact .inr (by rw [← Array.mem_toList_iff, e1]; simp)), he x (by simp only [Op.operands, Call.operands, Array.mem_append]; exact .inr (by rw [← Array.mem_toList_iff, e1]; simp))⟩
   have src : ∀ (T : List SV) (y : SV), a1h ⟨T, st.h⟩ y = a1h st y := fun T y => by unfold a1h; rfl
   obtain ⟨h0, h⟩ := h
   unfold jU at h
   obtain ⟨h1, h2, h⟩ := h
   split at h
   ·rename_i rows2 lin2 ids e3
    obtain ⟨h3, h⟩ := h
    split at h
    ·rename_i id e4
     split at h
     ·rename_i ty sz rows lin e5
      refine ⟨some id, _, .o (.s id), fun T he => ?_, h.2.2.2.2.2⟩
      obtain ⟨hs, hx⟩ := key T he
      simp only [bC, eP, hc, e1, e2]
      refine ⟨h0, ?_⟩
      unfold jU
      refine ⟨h1, h2, ?_⟩
      rw [hx, src, e3]
      refine ⟨h3, ?_⟩
      rw [hs, e4]
      simp only [e5]
      exact ⟨h.1, h.2.1, h.2.2.1, h.2.2.2.1, h.2.2.2.2.1, rfl, trivial⟩
     ·exact h.elim
    ·rename_i e4
     refine ⟨none, _, _, fun T he => ?_, by rw [aW]; exact h.2.2⟩
     obtain ⟨hs, hx⟩ := key T he
     simp only [bC, eP, hc, e1, e2]
     refine ⟨h0, ?_⟩
     unfold jU
     refine ⟨h1, h2, ?_⟩
     rw [hx, src, e3]
     refine ⟨h3, ?_⟩
     rw [hs, e4]
     exact ⟨h.1, h.2.1, by rw [aW], rfl⟩
    ·exact h.elim
   ·exact h.elim
  ·exact h.elim
end
section
variable {E : Env}
def oO (E : Env) (eb : Bool) (all : List Oper) : PT → St → (St → Prop) → Prop
 | .n, _, _ => True
 | .c p li w' sub r, st, K => (∃ o, all[p]? = some o ∧ efX E eb o st fun st' s => sK E all (dO all li) (st'.put o.dst s) fun st'' => lM E st'' (dO all w') ∧ if sub.isNil = true then K st'' else oO E eb all sub st'' K) ∧ oO E eb all r st K
theorem a2m {eb : Bool} {all : List Oper} {ps dn rem : List Nat} {st : St} {K : St → Prop} {p : Nat} : ∀ {t : PT}, p ∈ t.tops → sS all ps t dn rem = true → oO E eb all t st K → ∃ li w' sub, (li.all fun i => !ps.contains i && iU all 4 p i) = true ∧ okN all ps (p :: dn) (rem.filter (· != p)) w' sub = true ∧ sS all ps sub (p :: dn) (rem.filter (· != p)) = true ∧
    ∃ o, all[p]? = some o ∧ efX E eb o st fun st' s => sK E all (dO all li) (st'.put o.dst s) fun st'' => lM E st'' (dO all w') ∧ if sub.isNil = true then K st'' else oO E eb all sub st'' K
 | .n, h, _, _ => by simp [PT.tops] at h
 | .c q li w' sub r, h, ho, hv => by
  unfold sS at ho
  simp only [Bool.and_eq_true] at ho
  obtain ⟨⟨⟨⟨h1, h2⟩, h3⟩, h4⟩, h5⟩ := ho
  obtain ⟨v1, v2⟩ := hv
  simp only [PT.tops, List.mem_cons] at h
  rcases h with rfl | h
  ·exact ⟨li, w', sub, h2, h3, h4, v1⟩
  ·exact a2m h h5 v2
theorem qK {all : List Oper} : ∀ {l : List Oper} {st : St} {K : St → Prop}, sK E all l st K → ∃ st1, K st1 ∧ st1.h = st.h ∧ st1.t.length = st.t.length ∧ ∀ d, (∀ o ∈ l, o.dst ≠ some d) → nth st1.t d = nth st.t d
 | [], st, K, h => ⟨st, h, rfl, rfl, fun _ _ => rfl⟩
 | o :: l, st, K, h => by
  obtain ⟨s, h1, _⟩ := xR h
  obtain ⟨st1, k1, k2, k3, k4⟩ := qK h1
  refine ⟨st1, k1, by rw [k2, zN], by rw [k3, tC], fun d hd => ?_⟩
  rw [k4 d fun p hp => hd p (List.mem_cons_of_mem _ hp)]
  cases ho : o.dst with
  | none => rfl
  | some e => exact yM fun e2 => hd o (by simp) (by rw [ho, e2])
theorem a0y (φ : Option Nat) (T : List SV) (d : Nat) : nth (gX φ T) d = a2j φ (nth T d) := by
 rw [kK, kK, List.getD_eq_getElem?_getD, List.getD_eq_getElem?_getD, gX, List.getElem?_map]
 cases T[d]? with
 | none => simp [a2k]
 | some s => rfl
theorem a4n {o : Oper} {st : St} {k : St → SV → Prop} (h : a0w E o st k) : ∃ φ h' s, (∀ T : List SV, (∀ x ∈ o.op.operands, ev ⟨T, st.h⟩ x = ev st x) → bC E o.op ⟨T, st.h⟩ fun st2 s2 => st2 = ⟨gX φ T, h'⟩ ∧ s2 = s) ∧ k ⟨gX φ st.t, h'⟩ s := by
 unfold a0w at h
 split at h
 ·rename_i ha; exact a0x ha h
 ·unfold a1n at h
  split at h
  ·rename_i c hop
   split at h
   ·rename_i f hc
    split at h
    ·rename_i fn caps hfn
     obtain ⟨h', s', hcall, hk⟩ := h
     refine ⟨none, h', s', fun T he => ?_, by rw [aW]; exact hk⟩
     rw [hop] at he
     have hfe : ev ⟨T, st.h⟩ f = ev st f := he f (by simp [Op.operands, Call.operands, hc])
     have hargs : c.args.toList.map (ev ⟨T, st.h⟩) = c.args.toList.map (ev st) := List.map_congr_left fun x hx => he x (by simp only [Op.operands, Call.operands, Array.mem_append]; exact .inr (by simpa using hx))
     rw [hop]
     simp only [bC, eP, hc, hfe, hfn, hargs]
     rw [aW]
     exact ⟨hcall T⟩
    ·exact h.elim
   ·exact h.elim
  ·exact h.elim
theorem a4o {eb : Bool} {o : Oper} {st : St} {k : St → SV → Prop} (h : efX E eb o st k) : ∃ (β : Type) (Pb : β → Prop) (φ : Option Nat) (h' : β → List HB) (s : β → SV), (∀ T : List SV, (∀ x ∈ o.op.operands, ev ⟨T, st.h⟩ x = ev st x) → bC E o.op ⟨T, st.h⟩ fun st2 s2 => ∃ b, Pb b ∧ st2 = ⟨gX φ T, h' b⟩ ∧ s2 = s b) ∧ ∀ b, Pb b → k ⟨gX φ st.t, h' b⟩ (s b) := by
 have one : ∀ (φ : Option Nat) (h' : List HB) (s : SV), (∀ T : List SV, (∀ x ∈ o.op.operands, ev ⟨T, st.h⟩ x = ev st x) → bC E o.op ⟨T, st.h⟩ fun st2 s2 => st2 = ⟨gX φ T, h'⟩ ∧ s2 = s) → k ⟨gX φ st.t, h'⟩ s →
     ∃ (β : Type) (Pb : β → Prop) (φ : Option Nat) (h' : β → List HB) (s : β → SV), (∀ T : List SV, (∀ x ∈ o.op.operands, ev ⟨T, st.h⟩ x = ev st x) → bC E o.op ⟨T, st.h⟩ fun st2 s2 => ∃ b, Pb b ∧ st2 = ⟨gX φ T, h' b⟩ ∧ s2 = s b) ∧ ∀ b, Pb b → k ⟨gX φ st.t, h' b⟩ (s b) := fun φ h' s h1 h2 =>
  ⟨Unit, fun _ => True, φ, fun _ => h', fun _ => s, fun T hT => by
   have e : (fun (st2 : St) (s2 : SV) => ∃ _ : Unit, True ∧ st2 = ⟨gX φ T, h'⟩ ∧ s2 = s) = fun st2 s2 => st2 = ⟨gX φ T, h'⟩ ∧ s2 = s := funext fun a => funext fun b => propext ⟨fun ⟨_, _, q⟩ => q, fun q => ⟨(), trivial, q⟩⟩
   rw [e]; exact h1 T hT, fun _ _ => h2⟩
 cases eb with
 | false =>
  obtain ⟨φ, h', s, h1, h2⟩ := a4n (show a0w E o st k from h)
  exact one φ h' s h1 h2
 | true =>
  have h : a2l E o st k := h
  unfold a2l at h
  split at h
  ·rename_i ha
   obtain ⟨φ, h', s, h1, h2⟩ := a0x ha h
   exact one φ h' s h1 h2
  ·unfold a6M at h
   split at h
   ·rename_i c hop
    split at h
    ·rename_i f hc
     split at h
     ·rename_i fn caps hfn
      obtain ⟨β, Pb, h', s', hcall, hk⟩ := h.out
      refine ⟨β, Pb, none, h', s', fun T he => ?_, by rw [aW]; exact hk⟩
      rw [hop] at he
      have hfe : ev ⟨T, st.h⟩ f = ev st f := he f (by simp [Op.operands, Call.operands, hc])
      have hargs : c.args.toList.map (ev ⟨T, st.h⟩) = c.args.toList.map (ev st) := List.map_congr_left fun x hx => he x (by simp only [Op.operands, Call.operands, Array.mem_append]; exact .inr (by simpa using hx))
      rw [hop]
      simp only [bC, eP, hc, hfe, hfn, hargs]
      rw [aW]
      exact ⟨hcall T⟩
     ·exact h.elim
    ·exact h.elim
   ·exact h.elim
theorem a5E {all : List Oper} {listed : Array Bool} {i d : Nat} {o : Oper} {T : List SV} {H : List HB} (s6 : ∀ (j : Nat) (p : Oper) (d : Nat), all[j]? = some p → p.dst = some d → j ≠ i → o.dst ≠ some d) (ho : all[i]? = some o) (hd : o.dst = some d) :
    St.put ⟨bU all listed T, H⟩ o.dst (nth T d) = ⟨bU all (listed.setIfInBounds i true) T, H⟩ := by
 have keep : ∀ j, j ≠ i → (listed.setIfInBounds i true).getD j true = listed.getD j true := fun j hj => getD_set_ne true (fun e => hj e.symm)
 rw [hd]
 simp only [St.put, jB]
 congr 1
 apply List.ext_getElem?
 intro m
 rw [List.getElem?_set]
 rcases Nat.lt_or_ge m T.length with hm | hm
 ·rw [fD (l := bU all (listed.setIfInBounds i true) T) (by rw [aZ]; exact hm), dJ]
  by_cases e : d = m
  ·subst e
   rw [if_pos rfl, if_pos (by rw [aZ]; exact hm)]
   have : fF all (listed.setIfInBounds i true) d = false := by
    cases hh : fF all (listed.setIfInBounds i true) d with
    | false => rfl
    | true =>
     obtain ⟨j, p, hj, hd2, hu⟩ := (bY _ _ d).1 hh
     by_cases e : j = i
     ·subst e; rw [aP] at hu; cases hu
     ·exact (s6 j p d hj hd2 e hd).elim
   rw [this]; simp
  ·rw [if_neg e, fD (by rw [aZ]; exact hm), dJ]
   have : fF all (listed.setIfInBounds i true) m = fF all listed m := by
    rw [Bool.eq_iff_iff, bY, bY]
    constructor
    ·rintro ⟨j, p, hj, hd2, hu⟩
     refine ⟨j, p, hj, hd2, ?_⟩
     by_cases e2 : j = i
     ·subst e2; rw [aP] at hu; cases hu
     ·rwa [keep j e2] at hu
    ·rintro ⟨j, p, hj, hd2, hu⟩
     refine ⟨j, p, hj, hd2, ?_⟩
     by_cases e2 : j = i
     ·subst e2; rw [ho] at hj; cases hj; rw [hd] at hd2; cases hd2; exact (e rfl).elim
     ·rwa [keep j e2]
   rw [this]
 ·rw [List.getElem?_eq_none (l := bU all (listed.setIfInBounds i true) T) (by rw [aZ]; exact hm)]
  split
  ·rename_i e; subst e
   rw [if_neg (by rw [aZ]; omega)]
  ·rw [List.getElem?_eq_none (l := bU all listed T) (by rw [aZ]; exact hm)]
theorem a4p {eb : Bool} (hT : TyOK E.P E.T) (hE : ∀ t, E.eqk t ≠ [] → EqT E.P t (E.eqk t)) {all : List Oper} {ps0 ls : List Nat} (hok : okE all ps0 ls = true) {Q : Exit → Act → World → Prop} {K : St → Prop} (hQ : ∀ g V st a w, Rel E.C g V st a w → K st → Q .normal a w) :
    ∀ (n : Nat) (listed : Array Bool) (dn rem : List Nat) (t : PT) (wi : List Nat) (st : St) (g : List Gh) (V : View) (a : Act) (w : World), listed.size = all.length → sP all listed ≤ n → a6L all listed → okN all ps0 dn rem wi t = true → sS all ps0 t dn rem = true → (∀ e ∈ dn, listed.getD e true = true) → (∀ q ∈ rem, q < all.length ∧ q ∈ ps0 ∧ listed.getD q true = false) → (∀ i, i < all.length → i ∈ ps0 → listed.getD i true = false → i ∈ rem) →
     lM E st (dO all wi) → (if t.isNil = true then K st else oO E eb all t st K) → Rel E.C g V ⟨bU (lat all ls) listed st.t, st.h⟩ a w → wpAny E.P .any all.toArray Q n listed a w := by
 unfold okE at hok
 rw [Bool.and_eq_true] at hok
 obtain ⟨hls0, hok⟩ := hok
 have hls : ∀ i ∈ ls, i ∈ ps0 := fun i hi => List.contains_iff_mem.1 (List.all_eq_true.1 hls0 i hi)
 have spec : ∀ (i : Nat) (o : Oper), all[i]? = some o → o.guard = none ∧ (∀ e ∈ o.after, Region.binds .any e = true → e.on < i) ∧ (i ∉ ps0 → ∃ d, o.dst = some d) ∧
     (∀ (j : Nat) (p : Oper) (d : Nat), all[j]? = some p → p.dst = some d → (∀ t ∈ iM (opL o.op), t = d → onE o j = true ∨ j ∈ ls) ∧ (j ≠ i → o.dst ≠ some d)) := fun i o ho => by
  have h := List.all_eq_true.1 hok i (List.mem_range.2 (List.getElem?_eq_some_iff.1 ho).1)
  unfold zZ at h
  rw [ho] at h
  simp only [Bool.and_eq_true] at h
  obtain ⟨⟨⟨h1, h2⟩, h4⟩, h5⟩ := h
  refine ⟨?_, fun e he hb => ?_, fun hs => ?_, fun j p d hj hd => ?_⟩
  ·cases hg : o.guard with
   | none => rfl
   | some x => rw [hg] at h1; cases h1
  ·have := (Array.all_eq_true_iff_forall_mem.1 h2) e he
   rw [hb] at this
   simpa using this
  ·rcases Bool.or_eq_true_iff.1 h4 with h | h
   ·exact (hs (List.contains_iff_mem.1 h)).elim
   ·exact Option.isSome_iff_exists.1 h
  ·have h := List.all_eq_true.1 h5 j (List.mem_range.2 (List.getElem?_eq_some_iff.1 hj).1)
   rw [hj] at h
   simp only [hd, Bool.and_eq_true] at h
   refine ⟨fun t ht e => ?_, fun hne => ?_⟩
   ·have := List.all_eq_true.1 h.1 t ht
    subst e
    simp only [bne_self_eq_false, Bool.false_or, Bool.or_eq_true] at this
    exact this.imp id List.contains_iff_mem.1
   ·rcases Bool.or_eq_true_iff.1 h.2 with h | h
    ·exact (hne (beq_iff_eq.1 h)).elim
    ·simpa using h
 have toT : ∀ {listed : Array Bool} {j : Nat}, listed.getD j false = true → listed.getD j true = true := fun {listed j} h => by
  rcases Nat.lt_or_ge j listed.size with h' | h'
  ·simp [h'] at h ⊢; exact h
  ·simp [Array.getElem?_eq_none h'] at h
 have fin : ∀ (listed : Array Bool) (dn rem : List Nat) (t : PT) (wi : List Nat) (st : St) (g : List Gh) (V : View) (a : Act) (w : World), (∀ j, j < all.length → listed.getD j true = true) → sS all ps0 t dn rem = true → (∀ q ∈ rem, q < all.length ∧ q ∈ ps0 ∧ listed.getD q true = false) → (if t.isNil = true then K st else oO E eb all t st K) → Rel E.C g V ⟨bU (lat all ls) listed st.t, st.h⟩ a w → Q .normal a w := fun listed dn rem t wi st g V a w hl hpt h2 hv hr => by
  have hm : bU (lat all ls) listed st.t = st.t := by
   apply List.ext_getElem?
   intro d
   rcases Nat.lt_or_ge d st.t.length with h | h
   ·rw [fD (by rw [aZ]; exact h), fD h, dJ]
    have : fF (lat all ls) listed d = false := by
     cases hh : fF (lat all ls) listed d with
     | false => rfl
     | true =>
      obtain ⟨j, o', ho', hd', hu⟩ := (bY (lat all ls) listed d).1 hh
      obtain ⟨o, ho, _, _⟩ := qG ho' hd'
      rw [hl j (List.getElem?_eq_some_iff.1 ho).1] at hu; cases hu
    rw [this]; simp
   ·rw [List.getElem?_eq_none (by rw [aZ]; exact h), List.getElem?_eq_none h]
  rw [hm] at hr
  cases t with
  | n => exact hQ _ _ _ _ _ hr hv
  | c p li w' sub r =>
   unfold sS at hpt
   simp only [Bool.and_eq_true] at hpt
   obtain ⟨h3, _, h4⟩ := h2 p (List.contains_iff_mem.1 hpt.1.1.1.1)
   rw [hl _ h3] at h4; cases h4
 have none_left : ∀ (listed : Array Bool), listed.size = all.length → Region.ready .any all.toArray listed = [] → ∀ j, j < all.length → listed.getD j true = true := fun listed hsz hr => by
  intro j
  induction j using Nat.strongRecOn with
  | _ j ih =>
   intro hj
   cases hq : listed.getD j true with
   | true => rfl
   | false =>
    have ho : all[j]? = some (all[j]'hj) := List.getElem?_eq_getElem hj
    have : j ∈ Region.ready .any all.toArray listed := mem_ready.2 ⟨hq, _, toA ho, fun e he hb => by
     have hlt := (spec j _ ho).2.1 e he hb
     have h1 := ih e.on hlt (by omega)
     have hes : e.on < listed.size := by omega
     simp [hes] at h1 ⊢; exact h1⟩
    rw [hr] at this; cases this
 intro n
 induction n with
 | zero =>
  intro listed dn rem t wi st g V a w hsz hn hclo hokn hokt hdn hphs hall hchk hv hr
  have hl : ∀ j, j < all.length → listed.getD j true = true := fun j hj => by
   cases hq : listed.getD j true with
   | true => rfl
   | false =>
    have : j ∈ (List.range all.length).filter fun j => !listed.getD j true := List.mem_filter.2 ⟨List.mem_range.2 hj, by rw [hq]; rfl⟩
    have := List.length_pos_of_mem this
    unfold sP at hn
    omega
  refine ⟨List.eq_nil_iff_forall_not_mem.2 fun i hi => ?_, fin listed dn rem t wi st g V a w hl hokt hphs hv hr⟩
  obtain ⟨h1, o, h2, _⟩ := mem_ready.1 hi
  rw [hl i (by simpa using (Array.getElem?_eq_some_iff.1 h2).1)] at h1; cases h1
 | succ n ih =>
  intro listed dn rem t wi st g V a w hsz hn hclo hokn hokt hdn hphs hall hchk hv hr
  refine ⟨fun he => fin listed dn rem t wi st g V a w (none_left listed hsz he) hokt hphs hv hr, fun i hi => ?_⟩
  obtain ⟨hun, o, ho', haft⟩ := mem_ready.1 hi
  have ho : all[i]? = some o := by simpa using ho'
  have hil := (List.getElem?_eq_some_iff.1 ho).1
  obtain ⟨s1, s2, s5, s6⟩ := spec i o ho
  have hun' : sP all (listed.setIfInBounds i true) ≤ n := by have := wS hil hun; omega
  have haft' : ∀ e ∈ o.after, Region.binds .any e = true → listed.getD e.on true = true := fun e he hb => toT (haft e he hb)
  have keep : ∀ j, j ≠ i → (listed.setIfInBounds i true).getD j true = listed.getD j true := fun j hj => getD_set_ne true (fun e => hj e.symm)
  have up : ∀ j, listed.getD j true = true → (listed.setIfInBounds i true).getD j true = true := fun j hj => by
   by_cases e : j = i
   ·subst e; rw [aP]
   ·rw [keep j e]; exact hj
  have hclo' : a6L all (listed.setIfInBounds i true) := fun b p hb hl e he hbd => by
   by_cases e2 : b = i
   ·subst e2; rw [ho] at hb; cases hb; exact up _ (haft' e he hbd)
   ·rw [keep b e2] at hl; exact up _ (hclo b p hb hl e he hbd)
  have evEq : ∀ x ∈ o.op.operands, ev ⟨bU (lat all ls) listed st.t, st.h⟩ x = ev st x := fun x hx => by
   cases x with
   | tmp t =>
    show nth (bU (lat all ls) listed st.t) t = nth st.t t
    rw [dJ]
    have : fF (lat all ls) listed t = false := by
     cases hh : fF (lat all ls) listed t with
     | false => rfl
     | true =>
      obtain ⟨j, p', hj', hd', hu⟩ := (bY (lat all ls) listed t).1 hh
      obtain ⟨p, hj, hd, hnl⟩ := qG hj' hd'
      rcases (s6 j p t hj hd).1 t (kI.2 (by rw [a0S]; simpa using hx)) rfl with h1 | h1
      ·have h2 := vB ho haft' h1
       rw [hu] at h2; cases h2
      ·exact (hnl h1).elim
    rw [this]; simp
   | const v => rfl
   | func f => rfl
   | global m => rfl
  unfold wpOp
  rw [ho']
  simp only [Region.wanted, s1, if_true]
  refine .inl ?_
  have hwin : ∀ (rest : List Nat), a7U all ps0 dn rest wi = true → i ∉ ps0 → (∀ e ∈ rest, listed.getD e true = false) → i ∈ wi := fun rest hw hni hrest => by
   have h := List.all_eq_true.1 hw i (List.mem_range.2 hil)
   simp only [Bool.or_eq_true] at h
   rcases h with ((h | h) | h) | h
   ·exact (hni (List.contains_iff_mem.1 h)).elim
   ·obtain ⟨e, he, hr⟩ := List.any_eq_true.1 h
    have hle := hdn e he
    cases hq : all[e]? with
    | none => unfold iU at hr; rw [hq] at hr; cases hr
    | some p =>
     have := mK hclo 4 i e p hq (hclo e p hq hle) hr
     rw [hun] at this; cases this
   ·obtain ⟨e, he, hr⟩ := List.any_eq_true.1 h
    have := mK hclo 4 e i o ho haft' hr
    rw [hrest e he] at this; cases this
   ·exact List.contains_iff_mem.1 h
  by_cases hp : i ∈ ps0
  ·have hip := hall i hil hp hun
   have htop : i ∈ t.tops := by
    unfold okN at hokn
    rw [Bool.and_eq_true] at hokn
    have h1 := List.all_eq_true.1 hokn.2 i hip
    rcases Bool.or_eq_true_iff.1 h1 with h | h
    ·obtain ⟨q, hq, hr⟩ := List.any_eq_true.1 h
     rw [Bool.and_eq_true] at hr
     have h2 := mK hclo 4 q i o ho haft' hr.2
     rw [(hphs q hq).2.2] at h2; cases h2
    ·exact List.contains_iff_mem.1 h
   have hv' : oO E eb all t st K := by
    cases t with
    | n => simp [PT.tops] at htop
    | c => exact hv
   obtain ⟨l, w', sub, hw3, hw4, hw5, o2, ho2, hvo⟩ := a2m htop hokt hv'
   rw [ho] at ho2; cases ho2
   obtain ⟨p, rfl⟩ : ∃ p, p = i := ⟨i, rfl⟩
   have hphs0 := hphs
   ·skip
    obtain ⟨β, Pb, φ, h'', s, hsw, hk⟩ := a4o hvo
    refine gM hT hE (hsw _ evEq) hr fun g' V' st' w2 s2 y hr' hsy hk2 => ?_
    obtain ⟨b0, hb0, rfl, rfl⟩ := hk2
    obtain ⟨st1, k1, k2, k3, k4⟩ := qK (hk b0 hb0)
    generalize h'' b0 = h' at *
    generalize s b0 = s2 at *
    have hr2 := hr'.put o.dst hsy
    have hh1 : st1.h = h' := by rw [k2, zN]
    have hlen1 : st1.t.length = st.t.length := by rw [k3, tC]; simp [gX]
    have e : (St.put ⟨gX φ (bU (lat all ls) listed st.t), h'⟩ o.dst s2) = ⟨bU (lat all ls) (listed.setIfInBounds p true) st1.t, st1.h⟩ := by
     rw [hh1]
     have key : ∀ m, m < st.t.length → nth (St.put ⟨gX φ (bU (lat all ls) listed st.t), h'⟩ o.dst s2).t m = nth (bU (lat all ls) (listed.setIfInBounds p true) st1.t) m := fun m hm => by
      rw [dJ]
      by_cases ed : o.dst = some m
      ·have hid : fF (lat all ls) (listed.setIfInBounds p true) m = false := by
        cases hh : fF (lat all ls) (listed.setIfInBounds p true) m with
        | false => rfl
        | true =>
         obtain ⟨j, q', hj', hd', hu⟩ := (bY _ _ m).1 hh
         obtain ⟨q, hj, hd2, _⟩ := qG hj' hd'
         by_cases e : j = p
         ·subst e; rw [aP] at hu; cases hu
         ·exact ((s6 j q m hj hd2).2 e ed).elim
       have hnl : ∀ q ∈ dO all l, q.dst ≠ some m := fun q hq hd => by
        obtain ⟨j, hj, hjq⟩ := iF.1 hq
        have h1 := List.all_eq_true.1 hw3 j hj
        simp only [Bool.and_eq_true] at h1
        by_cases e : j = p
        ·subst e
         have := h1.1
         simp [hp] at this
        ·exact (s6 j q m hjq hd).2 e ed
       rw [hid, k4 m hnl, ed]
       simp only [St.put, jB, kK, List.getD_eq_getElem?_getD, List.getElem?_set, Bool.false_eq_true, if_false, if_true]
       rw [if_pos (by simp [gX, aZ]; exact hm), if_pos (by simp [gX]; exact hm)]
      ·have ep : ∀ (T : List SV) (H : List HB), nth (St.put ⟨T, H⟩ o.dst s2).t m = nth T m := fun T H => by
        cases hq : o.dst with
        | none => rfl
        | some d => exact yM (st := ⟨T, H⟩) fun e => ed (by rw [hq, e])
       rw [ep, a0y, dJ]
       have ehid : fF (lat all ls) (listed.setIfInBounds p true) m = fF (lat all ls) listed m := by
        rw [Bool.eq_iff_iff, bY, bY]
        constructor
        ·rintro ⟨j, q, hj, hd2, hu⟩
         refine ⟨j, q, hj, hd2, ?_⟩
         by_cases e2 : j = p
         ·subst e2; rw [aP] at hu; cases hu
         ·rwa [keep j e2] at hu
        ·rintro ⟨j, q, hj, hd2, hu⟩
         refine ⟨j, q, hj, hd2, ?_⟩
         by_cases e2 : j = p
         ·subst e2
          obtain ⟨q0, hq0, hd3, _⟩ := qG hj hd2
          rw [ho] at hq0; cases hq0; exact (ed hd3).elim
         ·rwa [keep j e2]
       rw [ehid]
       cases hh : fF (lat all ls) listed m with
       | true => simp [a2k]
       | false =>
        simp only [Bool.false_eq_true, if_false]
        have hnl : ∀ q ∈ dO all l, q.dst ≠ some m := fun q hq hd => by
         obtain ⟨j, hj, hjq⟩ := iF.1 hq
         have h1 := List.all_eq_true.1 hw3 j hj
         simp only [Bool.and_eq_true] at h1
         have hju : listed.getD j true = false := by
          cases hx : listed.getD j true with
          | false => rfl
          | true =>
           have := mK hclo 4 p j q hjq (hclo j q hjq hx) h1.2
           rw [hun] at this; cases this
         have hjl : j ∉ ls := fun hm => by have := h1.1; simp [hls j hm] at this
         have := (bY (lat all ls) listed m).2 ⟨j, q, qI hjq hjl, hd, hju⟩
         rw [hh] at this; cases this
        rw [k4 m hnl, ep, a0y]
     have eh : (St.put ⟨gX φ (bU (lat all ls) listed st.t), h'⟩ o.dst s2).h = h' := zN _ _ _
     have el : (St.put ⟨gX φ (bU (lat all ls) listed st.t), h'⟩ o.dst s2).t.length = st.t.length := by rw [tC]; simp [gX, aZ]
     have et : (St.put ⟨gX φ (bU (lat all ls) listed st.t), h'⟩ o.dst s2).t = bU (lat all ls) (listed.setIfInBounds p true) st1.t := by
      apply List.ext_getElem?
      intro m
      rcases Nat.lt_or_ge m st.t.length with hm | hm
      ·rw [fD (by rw [el]; exact hm), fD (by rw [aZ, hlen1]; exact hm), key m hm]
      ·rw [List.getElem?_eq_none (by rw [el]; exact hm), List.getElem?_eq_none (by rw [aZ, hlen1]; exact hm)]
     generalize (St.put ⟨gX φ (bU (lat all ls) listed st.t), h'⟩ o.dst s2) = X at eh et
     cases X
     simp only at eh et
     rw [eh, et]
    rw [e] at hr2
    have memf : ∀ q, q ∈ rem.filter (· != p) → q ∈ rem ∧ q ≠ p := fun q hq => by
     obtain ⟨h1, h2⟩ := List.mem_filter.1 hq
     exact ⟨h1, by simpa using h2⟩
    refine ih _ (p :: dn) (rem.filter (· != p)) sub w' st1 g' V' _ _ (by simp [hsz]) hun' hclo' hw4 hw5 (fun e2 he => ?_) (fun q hq => ?_) (fun j hj hj0 hu => ?_) k1.1 k1.2 hr2
    ·rcases List.mem_cons.1 he with rfl | he
     ·rw [aP]
     ·exact up _ (hdn e2 he)
    ·obtain ⟨hq, hne⟩ := memf q hq
     obtain ⟨q1, q2, q3⟩ := hphs q hq
     exact ⟨q1, q2, by rw [keep _ hne]; exact q3⟩
    ·by_cases e2 : j = p
     ·subst e2; rw [aP] at hu; cases hu
     ·rw [keep j e2] at hu
      exact List.mem_filter.2 ⟨hall j hj hj0 hu, by simpa using e2⟩
  ·have hmem : i ∈ wi ∧ lM E st (dO all wi) := by
    unfold okN at hokn
    rw [Bool.and_eq_true] at hokn
    exact ⟨hwin rem hokn.1 hp fun e he => (hphs e he).2.2, hchk⟩
   obtain ⟨d, hd, hvc⟩ := a0b hmem.2 (iF.2 ⟨i, hmem.1, ho⟩)
   have h1 := zM (st := ⟨bU (lat all ls) listed st.t, st.h⟩) (mY (fun x hx => (evEq x hx).symm) hvc)
   refine gM hT hE h1 hr fun g' V' st' w' s y hr' hsy hk => ?_
   obtain ⟨rfl, rfl⟩ := hk
   have hr2 := hr'.put o.dst hsy
   have hil : i ∉ ls := fun hm => hp (hls i hm)
   rw [a5E (all := lat all ls) (fun j p d hj hd hne => by
    obtain ⟨p0, hj0, hd0, _⟩ := qG hj hd
    exact (s6 j p0 d hj0 hd0).2 hne) (qI ho hil) hd] at hr2
   refine ih _ dn rem t wi st g' V' _ _ (by simp [hsz]) hun' hclo' hokn hokt (fun e he => up e (hdn e he)) (fun q hq => ?_) (fun j hj hj0 hu => ?_) hchk hv hr2
   ·obtain ⟨q1, q2, q3⟩ := hphs q hq
    exact ⟨q1, q2, by rw [keep q (fun e => hp (e ▸ q2))]; exact q3⟩
   ·by_cases e2 : j = i
    ·subst e2; rw [aP] at hu; cases hu
    ·rw [keep j e2] at hu; exact hall j hj hj0 hu
end
section
variable {E : Env}
inductive PO where
 | nil : PO
 | cons : Nat → List Oper → List Oper → PO → PO → PO
def PO.isNil : PO → Bool
 | .nil => true
 | .cons .. => false
def lF (all : List Oper) : PT → PO
 | .n => .nil
 | .c p l w sub r => .cons p (dO all l) (dO all w) (lF all sub) (lF all r)
theorem jX {all : List Oper} (t : PT) : (lF all t).isNil = t.isNil := by cases t <;> rfl
def vcEJ (E : Env) (eb : Bool) (all : List Oper) : PO → St → (St → Prop) → Prop
 | .nil, _, _ => True
 | .cons p l w' sub r, st, K => (∃ o, all[p]? = some o ∧ efX E eb o st fun st' s => sK E all l (st'.put o.dst s) fun st'' => lM E st'' w' ∧ if sub.isNil = true then K st'' else vcEJ E eb all sub st'' K) ∧ vcEJ E eb all r st K
theorem rO {eb : Bool} {all : List Oper} {K : St → Prop} : ∀ (t : PT) (st : St), vcEJ E eb all (lF all t) st K = oO E eb all t st K
 | .n, _ => rfl
 | .c p l w' sub r, st => by
  have h1 : ∀ st, vcEJ E eb all (lF all sub) st K = oO E eb all sub st K := rO sub
  have h2 : vcEJ E eb all (lF all r) st K = oO E eb all r st K := rO r st
  simp only [lF, vcEJ, oO, h1, h2, jX]
def yY (G : St) (s : St) : Prop := ∃ (l : List (Nat × Nat)) (s' : St), swL s l = some s' ∧ s'.le G
theorem a0z : ∀ l : List SV, leT l l
 | [] => trivial
 | _ :: l => ⟨.inr rfl, a0z l⟩
theorem St.le_refl (s : St) : s.le s := ⟨a0z _, mH _⟩
theorem dE {s : St} : yY s s := ⟨[], s, rfl, s.le_refl⟩
theorem yZ {G s s' : St} (l : List (Nat × Nat)) (h : swL s l = some s') (e : s' = G) : yY G s := ⟨l, s', h, e ▸ s'.le_refl⟩
theorem a6N (hT : TyOK E.P E.T) (hE : ∀ t, E.eqk t ≠ [] → EqT E.P t (E.eqk t)) (hm : E.P.follows .mixedOrders = true) {id : Nat} {ops : List Oper} {F : Ex → St → Prop} {st G : St} (ps ls l0 w0 : List Nat) (t : PT)
    (hok : okE ops ps ls = true) (hl0 : (l0.all fun i => !ps.contains i) = true) (hn : okN ops ps [] ps w0 t = true) (ht : sS ops ps t [] ps = true) (hlt : (ps.all fun q => decide (q < ops.length)) = true) (hb : st.okB = true)
    (h : sK E ops (dO ops l0) st fun st1 => lM E st1 (dO ops w0) ∧ if t.isNil = true then yY G st1 else oO E false ops t st1 (yY G)) (hG : G.okB = true) (hF : F .normal G) : WP E.P E.C (.region id ops.toArray true) F st := fun g V a w hr => by
 refine wp_region_any hm ?_
 obtain ⟨st1, k1, k2, k3, k4⟩ := qK h
 have hf : ∀ j : Nat, j < ops.length → (Array.replicate ops.toArray.size false).getD j true = false := fun j hj => by simp [hj]
 have hle : st.le ⟨bU (lat ops ls) (Array.replicate ops.toArray.size false) st1.t, st1.h⟩ := by
  refine ⟨yL (by rw [aZ, k3]) fun d _ => ?_, by show leH st.h st1.h; rw [k2]; exact mH _⟩
  rw [dJ]
  cases hh : fF (lat ops ls) (Array.replicate ops.toArray.size false) d with
  | true => exact .inl rfl
  | false =>
   right
   simp only [Bool.false_eq_true, if_false]
   refine (k4 d fun o ho hd => ?_).symm
   obtain ⟨j, hjl, hj⟩ := iF.1 ho
   have hnl : j ∉ ls := fun hm => by
    unfold okE at hok
    rw [Bool.and_eq_true] at hok
    have h1 := List.all_eq_true.1 hok.1 j hm
    have h2 := List.all_eq_true.1 hl0 j hjl
    rw [h1] at h2; cases h2
   have := (bY (lat ops ls) (Array.replicate ops.toArray.size false) d).2 ⟨j, o, qI hj hnl, hd, hf j (List.getElem?_eq_some_iff.1 hj).1⟩
   rw [hh] at this; cases this
 have hbt : ((bU (lat ops ls) (Array.replicate ops.toArray.size false) st1.t).all (·.below st1.h.length) && st1.h.all (·.below st1.h.length)) = true := by
  unfold St.okB at hb
  rw [Bool.and_eq_true] at hb ⊢
  rw [k2]
  refine ⟨List.all_eq_true.2 fun s hs => ?_, hb.2⟩
  obtain ⟨d, hd⟩ := List.mem_iff_getElem?.1 hs
  rcases (hle.1.get).2 d s hd with e | e
  ·subst e; rfl
  ·exact List.all_eq_true.1 hb.1 s (List.mem_of_getElem? e)
 have := a4p (eb := false) hT hE hok (Q := fun e a w => Post E.C F e a w) (K := yY G) (fun g V st _ _ hr h => by
     obtain ⟨l, s', hs, hle⟩ := h
     obtain ⟨g', h1⟩ := hr.swL l hs
     exact ⟨_, V, G, h1.forget hle hG, hF⟩) ops.toArray.size (Array.replicate ops.toArray.size false) [] ps t w0 st1 _ V a { w with drawn := w.drawn + 1 } (by simp)
  (by unfold sP; exact Nat.le_trans (List.length_filter_le _ _) (by simp)) (fun b o ho hl => by rw [hf b (List.getElem?_eq_some_iff.1 ho).1] at hl; cases hl) hn ht (fun e he => by simp at he)
  (fun q hq => by
   have hlq := of_decide_eq_true (List.all_eq_true.1 hlt q hq)
   exact ⟨hlq, hq, hf _ hlq⟩) (fun i _ hi _ => hi) k1.1 k1.2 ((hr.drawn).forget hle hbt)
 exact this
theorem a5F (hT : TyOK E.P E.T) (hE : ∀ t, E.eqk t ≠ [] → EqT E.P t (E.eqk t)) (hm : E.P.follows .mixedOrders = true) {id : Nat} {ops : List Oper} {F : Ex → St → Prop} {st : St} (ps ls l0 w0 : List Nat) (t : PT)
    (hok : okE ops ps ls = true) (hl0 : (l0.all fun i => !ps.contains i) = true) (hn : okN ops ps [] ps w0 t = true) (ht : sS ops ps t [] ps = true) (hlt : (ps.all fun q => decide (q < ops.length)) = true) (hb : st.okB = true)
    (h : sK E ops (dO ops l0) st fun st1 => lM E st1 (dO ops w0) ∧ if t.isNil = true then F .normal st1 else oO E true ops t st1 (F .normal)) : WP E.P E.C (.region id ops.toArray true) F st := fun g V a w hr => by
 refine wp_region_any hm ?_
 obtain ⟨st1, k1, k2, k3, k4⟩ := qK h
 have hf : ∀ j : Nat, j < ops.length → (Array.replicate ops.toArray.size false).getD j true = false := fun j hj => by simp [hj]
 have hle : st.le ⟨bU (lat ops ls) (Array.replicate ops.toArray.size false) st1.t, st1.h⟩ := by
  refine ⟨yL (by rw [aZ, k3]) fun d _ => ?_, by show leH st.h st1.h; rw [k2]; exact mH _⟩
  rw [dJ]
  cases hh : fF (lat ops ls) (Array.replicate ops.toArray.size false) d with
  | true => exact .inl rfl
  | false =>
   right
   simp only [Bool.false_eq_true, if_false]
   refine (k4 d fun o ho hd => ?_).symm
   obtain ⟨j, hjl, hj⟩ := iF.1 ho
   have hnl : j ∉ ls := fun hm => by
    unfold okE at hok
    rw [Bool.and_eq_true] at hok
    have h1 := List.all_eq_true.1 hok.1 j hm
    have h2 := List.all_eq_true.1 hl0 j hjl
    rw [h1] at h2; cases h2
   have := (bY (lat ops ls) (Array.replicate ops.toArray.size false) d).2 ⟨j, o, qI hj hnl, hd, hf j (List.getElem?_eq_some_iff.1 hj).1⟩
   rw [hh] at this; cases this
 have hbt : ((bU (lat ops ls) (Array.replicate ops.toArray.size false) st1.t).all (·.below st1.h.length) && st1.h.all (·.below st1.h.length)) = true := by
  unfold St.okB at hb
  rw [Bool.and_eq_true] at hb ⊢
  rw [k2]
  refine ⟨List.all_eq_true.2 fun s hs => ?_, hb.2⟩
  obtain ⟨d, hd⟩ := List.mem_iff_getElem?.1 hs
  rcases (hle.1.get).2 d s hd with e | e
  ·subst e; rfl
  ·exact List.all_eq_true.1 hb.1 s (List.mem_of_getElem? e)
 have := a4p (eb := true) hT hE hok (Q := fun e a w => Post E.C F e a w) (K := F .normal) (fun g V st _ _ hr h => ⟨g, V, st, hr, h⟩) ops.toArray.size (Array.replicate ops.toArray.size false) [] ps t w0 st1 _ V a { w with drawn := w.drawn + 1 } (by simp)
  (by unfold sP; exact Nat.le_trans (List.length_filter_le _ _) (by simp)) (fun b o ho hl => by rw [hf b (List.getElem?_eq_some_iff.1 ho).1] at hl; cases hl) hn ht (fun e he => by simp at he)
  (fun q hq => by
   have hlq := of_decide_eq_true (List.all_eq_true.1 hlt q hq)
   exact ⟨hlq, hq, hf _ hlq⟩) (fun i _ hi _ => hi) k1.1 k1.2 ((hr.drawn).forget hle hbt)
 exact this
structure vcTT (E : Env) (eb : Bool) (all : List Oper) (t : PO) (st : St) (K : St → Prop) (u : Tie (all, t, K)) : Prop where
 out : vcEJ E eb all t st K
structure vcTN (E : Env) (eb : Bool) (all w : List Oper) (t : PO) (st : St) (K : St → Prop) (u : Tie (all, w, t, K)) : Prop where
 out : lM E st w ∧ if t.isNil = true then K st else vcEJ E eb all t st K
def a4q (E : Env) (eb : Bool) (all : List Oper) (p : Nat) (l : List Oper) (st : St) (k : St → Prop) (_ : Tie (l, k)) : Prop := match xM all p with
 | some o => efX E eb o st fun st' s => vcDRun E all l (st'.put o.dst s) k ⟨⟩
 | none => False
theorem bN {eb : Bool} {all : List Oper} {st : St} {K : St → Prop} : vcTT E eb all .nil st K ⟨⟩ := ⟨trivial⟩
theorem bE {eb : Bool} {all l w' : List Oper} {p : Nat} {sub r : PO} {st : St} {K : St → Prop} (h : a4q E eb all p l st (fun st'' => vcTN E eb all w' sub st'' K ⟨⟩) ⟨⟩) (hr : vcTT E eb all r st K ⟨⟩) : vcTT E eb all (.cons p l w' sub r) st K ⟨⟩ := ⟨by
 refine ⟨?_, hr.out⟩
 have e2 : (fun st'' => vcTN E eb all w' sub st'' K ⟨⟩) = (fun st'' => lM E st'' w' ∧ if sub.isNil = true then K st'' else vcEJ E eb all sub st'' K) := funext fun s => propext ⟨fun h => h.out, fun h => ⟨h⟩⟩
 rw [e2] at h
 unfold a4q at h
 rw [mV] at h
 split at h
 ·rename_i o ho
  refine ⟨o, ho, ?_⟩
  have e4 : (fun (st' : St) (s : SV) => vcDRun E all l (st'.put o.dst s) (fun st'' => lM E st'' w' ∧ if sub.isNil = true then K st'' else vcEJ E eb all sub st'' K) ⟨⟩) = (fun st' s => sK E all l (st'.put o.dst s) (fun st'' => lM E st'' w' ∧ if sub.isNil = true then K st'' else vcEJ E eb all sub st'' K)) := funext fun st' => funext fun s => propext ⟨fun h => h.out, fun h => ⟨h⟩⟩
  rw [e4] at h
  exact h
 ·exact h.elim⟩
theorem bF {eb : Bool} {all w : List Oper} {st : St} {K : St → Prop} (hc : lM E st w) (h : K st) : vcTN E eb all w .nil st K ⟨⟩ := ⟨hc, h⟩
theorem bG {eb : Bool} {all w l w' : List Oper} {p : Nat} {sub r : PO} {st : St} {K : St → Prop} (hc : lM E st w) (h : vcTT E eb all (.cons p l w' sub r) st K ⟨⟩) : vcTN E eb all w (.cons p l w' sub r) st K ⟨⟩ := ⟨hc, h.out⟩
end
attribute [go_sem] dO lF a4q efX a0w a2l a6M a4m
end Go.Sx
end
section
namespace Go.Proofs.YtlmpmpddakhfnaaDoor
open Go Go.Sx Go.RowKit Go.Proofs
def Ok2 (s : St) : Prop := s.okB = true
theorem oH {s : St} (h : s.okB = true := by simp only [go_sem] <;> fail) : Ok2 s := h
theorem rE {C : Ctx} {id : Nat} {ops L W : List Oper} {T : PO} {F : Ex → St → Prop} {st G : St} (ps ls l0 w0 : List Nat) (t : PT) (hl : dO ops l0 = L) (hw : dO ops w0 = W) (hp : lF ops t = T)
    (hok : (okE ops ps ls && (l0.all fun i => !ps.contains i) && okN ops ps [] ps w0 t && sS ops ps t [] ps && ps.all fun q => decide (q < ops.length)) = true) (hb : st.okB = true) (h : vcDRun (EV C) ops L st (fun st1 => vcTN (EV C) false ops W T st1 (yY G) ⟨⟩) ⟨⟩) (hG : Ok2 G) (hF : F .normal G) : WP Tryd.prog C (.region id ops.toArray true) F st := by
 subst hl hw hp
 simp only [Bool.and_eq_true] at hok
 refine a6N (E := EV C) tX a2u fol ps ls l0 w0 t hok.1.1.1.1 hok.1.1.1.2 hok.1.1.2 hok.1.2 hok.2 hb ?_ hG hF
 have e : (fun st1 => vcTN (EV C) false ops (dO ops w0) (lF ops t) st1 (yY G) ⟨⟩) = (fun st1 => lM (EV C) st1 (dO ops w0) ∧ if t.isNil = true then yY G st1 else oO (EV C) false ops t st1 (yY G)) := funext fun s => propext (by
  constructor
  ·intro h; have := h.out; rwa [rO, jX] at this
  ·intro h; exact ⟨by rwa [rO, jX]⟩)
 rw [e] at h
 exact h.out
theorem rF {C : Ctx} {id : Nat} {ops L W : List Oper} {T : PO} {F : Ex → St → Prop} {st : St} (ps ls l0 w0 : List Nat) (t : PT) (hl : dO ops l0 = L) (hw : dO ops w0 = W) (hp : lF ops t = T)
    (hok : (okE ops ps ls && (l0.all fun i => !ps.contains i) && okN ops ps [] ps w0 t && sS ops ps t [] ps && ps.all fun q => decide (q < ops.length)) = true) (hb : st.okB = true) (h : vcDRun (EV C) ops L st (fun st1 => vcTN (EV C) true ops W T st1 (F .normal) ⟨⟩) ⟨⟩) : WP Tryd.prog C (.region id ops.toArray true) F st := by
 subst hl hw hp
 simp only [Bool.and_eq_true] at hok
 refine a5F (E := EV C) tX a2u fol ps ls l0 w0 t hok.1.1.1.1 hok.1.1.1.2 hok.1.1.2 hok.1.2 hok.2 hb ?_
 have e : (fun st1 => vcTN (EV C) true ops (dO ops w0) (lF ops t) st1 (F .normal) ⟨⟩) = (fun st1 => lM (EV C) st1 (dO ops w0) ∧ if t.isNil = true then F .normal st1 else oO (EV C) true ops t st1 (F .normal)) := funext fun s => propext (by
  constructor
  ·intro h; have := h.out; rwa [rO, jX] at this
  ·intro h; exact ⟨by rwa [rO, jX]⟩)
 rw [e] at h
 exact h.out
instance clH {C : Ctx} {f : Nat} {args args' : List SV} {res : SV} {h : List HB} {k : List HB → SV → Prop} : Cy Tryd.prog f args' res (CallH (EV C) f args h k ⟨⟩) (args.map (dH (aQ h (eD args))) = args' ∧ args'.all bJ = true) (Nm (k (aQ h (eD args) ++ adH res.all) (adS (aQ h (eD args)).length res))) := ⟨fun hf o hk => CallH.det (CallG.frz (E := EV C) hf o.1 o.2 hk)⟩
theorem hO {C : Ctx} {f : Nat} {args args' : List SV} {res : SV} {h : List HB} {k : List HB → SV → Prop} (hf : FnC Tryd.prog f args' res) (hk : Nm (k (h ++ adG (fun _ => none) 0 res.all) (adS h.length res))) (he : args.map (cO h) = args' := by simp only [go_sem, qH] <;> fail) (hfree : args'.all bJ = true := by simp only [go_sem, qH] <;> fail) (hres : res.all.all jQ = true := by simp only [go_sem, qH] <;> fail) : CallH (EV C) f args h k ⟨⟩ := CallH.det (cGo hf he hfree hres hk)
theorem hR {C : Ctx} {f : Nat} {args args' : List SV} {res : SV} {h : List HB} {k : List HB → SV → Prop} (hf : FnC Tryd.prog f args' res) (hk : Nm (k (h ++ adH res.all) (adS h.length res))) (he : args.map (cO h) = args' := by simp only [go_sem, qH] <;> fail) (hfree : args'.all bJ = true := by simp only [go_sem, qH] <;> fail) (hres : res.all.all jQ = true := by simp only [go_sem, qH] <;> fail) : CallH (EV C) f args h k ⟨⟩ := CallH.det (cGr hf he hfree hres hk)
end Go.Proofs.YtlmpmpddakhfnaaDoor
end
section
set_option maxRecDepth 100000
set_option maxHeartbeats 4000000
namespace Go.Sx
open Go Go.RowKit
def a4i {α : Type} (G : α → St) (Q : α → Prop) (F : Ex → St → Prop) : Ex → St → Prop
 | .normal, s => ∃ x, Q x ∧ (∃ (m : List (Nat × Nat)) (s' : St), swL s m = some s' ∧ s'.le (G x)) ∧ (G x).okB = true
 | .exit j, s => F (.exit j) s
 | .ret, s => F .ret s
theorem qB {P : Program} {C : Ctx} {ks : List Kn} {F : Ex → St → Prop} {st : St} {c c2 : Code} {α : Type} (M : α → List (Nat × SV)) (H : α → List (Nat × HB)) (Q : α → Prop) (h1 : WP P C c (aR P C [] (a4i (fun x => a6n c st (M x) (H x)) Q (aR P C (.code c2 :: ks) F))) st) (h2 : ∀ x, Q x → WP P C c2 (aR P C ks F) (a6n c st (M x) (H x))) : WP P C c (aR P C (.code c2 :: ks) F) st := fun g V a w hr =>
 wp_mono (h1 g V a w hr) fun e a w q => by
  cases e with
  | normal =>
   obtain ⟨g, V, s, hs, x, hq, ⟨m, s', hsw, hle⟩, hok⟩ := q
   obtain ⟨g', h1⟩ := hs.swL m hsw
   exact ⟨_, V, _, h1.forget hle hok, h2 x hq⟩
  | exit j => obtain ⟨g, V, s, hs, q⟩ := q; exact ⟨g, V, s, hs, q⟩
  | ret => obtain ⟨g, V, s, hs, q⟩ := q; exact ⟨g, V, s, hs, q⟩
  | goto l => exact q.elim
  | panic ch => exact q.elim
  | outgrown => exact q.elim
theorem iE {α : Type} {G : α → St} {Q : α → Prop} {F : Ex → St → Prop} {s : St} (x : α) (hq : Q x) (h : s.le (G x)) (hb : (G x).okB = true) : a4i G Q F .normal s := ⟨x, hq, ⟨[], s, rfl, h⟩, hb⟩
theorem tT {α : Type} {G : α → St} {Q : α → Prop} {F : Ex → St → Prop} {s s' : St} (m : List (Nat × Nat)) (x : α) (hq : Q x) (hs : swL s m = some s') (h : s'.le (G x)) (hb : (G x).okB = true) : a4i G Q F .normal s := ⟨x, hq, ⟨m, s', hs, h⟩, hb⟩
end Go.Sx
namespace Go.Proofs.YtlmpmpddakhfnaaDoor
open Go Go.Sx Go.RowKit Go.Proofs
theorem hF {C : Ctx} {f : Nat} {args : List SV} {h : List HB} {k : List HB → SV → Prop} (ids : List Nat) (c : CallH (EV C) f args (aQ h ids) k ⟨⟩) : CallH (EV C) f args h k ⟨⟩ := by
 obtain ⟨β, Pb, h', s, h1, h2⟩ := c.out
 exact ⟨β, Pb, h', s, fun T => CallS.sees (E := EV C) (st := ⟨T, h⟩) (st' := ⟨T, aQ h ids⟩) (fun g V a w hr => by obtain ⟨g', V', q, _⟩ := dU ids hr; exact ⟨g', V', q⟩) (fun g V a w hr => by obtain ⟨g', V', q, q1, q2, _⟩ := dU ids hr; exact ⟨g', V', q, q1, q2⟩) (h1 T), h2⟩
theorem hB {C : Ctx} {f ty id : Nat} {ds : List D} {args' rest : List SV} {α : Type} {Q : α → Prop} {res : α → SV} {ds' : α → List D} {h : List HB} {k : List HB → SV → Prop} (c : FnB Tryd.prog f ty ds args' Q res ds') (hid : a1C ty ds (bK h id)) (he : rest.map (dH h) = args') (hfree : args'.all bJ = true)
    (k2 : ∀ a, Q a → k (setH h id (reD (ds' a) (bK h id)) ++ adH (res a).all) (adS (setH h id (reD (ds' a) (bK h id))).length (res a))) : CallH (EV C) f (.o (.p id 0) :: rest) h k ⟨⟩ :=
 ⟨α, Q, _, _, fun T => CallS.block (E := EV C) (st := ⟨T, h⟩) c hid he hfree fun a ha => ⟨a, ha, rfl, rfl⟩, k2⟩
theorem bB {C : Ctx} {f ty id : Nat} {ds : List D} {args' rest : List SV} {α : Type} {Q : α → Prop} {res : α → SV} {ds' : α → List D} {st : St} {K : St → SV → Prop} (c : FnB Tryd.prog f ty ds args' Q res ds') (hid : a1C ty ds (bK (aQ st.h (eD rest)) id)) (he : rest.map (dH (aQ st.h (eD rest))) = args') (hfree : args'.all bJ = true)
    (k : ∀ a, Q a → K ⟨st.t, setH (aQ st.h (eD rest)) id (reD (ds' a) (bK (aQ st.h (eD rest)) id)) ++ adH (res a).all⟩ (adS (setH (aQ st.h (eD rest)) id (reD (ds' a) (bK (aQ st.h (eD rest)) id))).length (res a))) : CallT (EV C) f (.o (.p id 0) :: rest) st K ⟨⟩ := a7T (eD rest) (qF c hid he hfree k)
theorem hZ {C : Ctx} {f ty id : Nat} {ds : List D} {args' rest : List SV} {α : Type} {Q : α → Prop} {res : α → SV} {ds' : α → List D} {h : List HB} {k : List HB → SV → Prop} (c : FnB Tryd.prog f ty ds args' Q res ds') (hid : a1C ty ds (bK (aQ h (eD rest)) id)) (he : rest.map (dH (aQ h (eD rest))) = args') (hfree : args'.all bJ = true)
    (k2 : ∀ a, Q a → k (setH (aQ h (eD rest)) id (reD (ds' a) (bK (aQ h (eD rest)) id)) ++ adH (res a).all) (adS (setH (aQ h (eD rest)) id (reD (ds' a) (bK (aQ h (eD rest)) id))).length (res a))) : CallH (EV C) f (.o (.p id 0) :: rest) h k ⟨⟩ := hF (eD rest) (hB c hid he hfree k2)
abbrev Drw (l : List Int) (f : Nat) (args : List SV) {T : Type} (Q : T → Prop) (res : T → SV) : Prop := ∀ (i : Nat) (h : Int), i ≤ l.length → inR .i64 h →
 FnB Tryd.prog f 89 (a1B l i h) args (fun x : T × Nat × Int => Q x.1 ∧ (x.2.1 ≤ l.length ∧ inR .i64 x.2.2)) (fun x => res x.1) (fun x => a1B l x.2.1 x.2.2)
def a9a {T : Type} (_ : T) : Prop := True
def gW (l : List Int) : Prop := l.length ≤ 1048576 ∧ ∀ i ∈ l, inR .u8 i
theorem bQ {l : List Int} (hl : gW l) (n : Int) (hn : 1 ≤ n) (hn2 : n ≤ 1000000000) : Drw l 52 [oi n] (fun b : Bool => a9a b) (fun b => ob b) := by
 intro i h hi hh; refine rJ Tryd.func52 rfl Tryd.call52 rfl (fun C b => ?_); simp only [go_sem, Tryd.ntmps52]
 refine aF ?_
 refine qF (qE l hl.1 hl.2 i h hi hh n hn hn2) ⟨rfl, rfl⟩ rfl rfl ?_
 rintro ⟨x, i1, h1⟩ ⟨⟨b1, b2⟩, b3, b4⟩
 simp only at b1 b2 b3 b4
 simp only [go_sem]
 refine aF ?_
 exact aN (decide (x = 0), i1, h1) ⟨⟨_, rfl, by simp only [go_sem]⟩, trivial⟩ ⟨trivial, ⟨b3, b4⟩⟩ (by simp only [go_sem])
theorem aL {l : List Int} (hl : gW l) (n : Int) (hn : 1 ≤ n) (hn2 : n ≤ 1000000000) : Drw l 53 [oi n] (fun x : Int => 0 ≤ x ∧ x < n) (fun x => oi x) := fun i h hi hh => qE l hl.1 hl.2 i h hi hh n hn hn2
theorem cK {l : List Int} (hl : gW l) (ns : List ByteArray) (h0 : 1 ≤ ns.length) (h1 : ns.length ≤ 1000000000) : Drw l 54 [.o (.d (.sl (ns.map nO)))] (fun x : ByteArray => x ∈ ns) (fun x => os x) := by
 intro i h hi hh; refine rJ Tryd.func54 rfl Tryd.call54 rfl (fun C b => ?_); simp only [go_sem, Tryd.ntmps54]
 refine aF ?_
 refine qF (qE l hl.1 hl.2 i h hi hh ns.length (by omega) (by omega)) ⟨rfl, rfl⟩ rfl rfl ?_
 rintro ⟨x, i1, h1⟩ ⟨⟨b1, b2⟩, b3, b4⟩
 simp only at b1 b2 b3 b4
 obtain ⟨k, rfl⟩ := Int.eq_ofNat_of_zero_le b1
 have hk : k < ns.length := by omega
 simp only [go_sem]
 have q0 := @hk; refine jL ?_
 exact aN (ns[k], i1, h1) ⟨⟨_, rfl, by simp only [go_sem]⟩, trivial⟩ ⟨List.getElem_mem hk, ⟨b3, b4⟩⟩ (by simp only [go_sem])
theorem dL {l : List Int} (hl : gW l) (ns : List Int) (h0 : 1 ≤ ns.length) (h1 : ns.length ≤ 1000000000) : Drw l 80 [.o (.d (.sl (ns.map dK)))] (fun x : Int => x ∈ ns) (fun x => oi x) := by
 intro i h hi hh; refine rJ Tryd.func80 rfl Tryd.call80 rfl (fun C b => ?_); simp only [go_sem, Tryd.ntmps80]
 refine aF ?_
 refine qF (qE l hl.1 hl.2 i h hi hh ns.length (by omega) (by omega)) ⟨rfl, rfl⟩ rfl rfl ?_
 rintro ⟨x, i1, h1⟩ ⟨⟨b1, b2⟩, b3, b4⟩
 simp only at b1 b2 b3 b4
 obtain ⟨k, rfl⟩ := Int.eq_ofNat_of_zero_le b1
 have hk : k < ns.length := by omega
 simp only [go_sem]
 have q0 := @hk; refine jL ?_
 exact aN (ns[k], i1, h1) ⟨⟨_, rfl, by simp only [go_sem]⟩, trivial⟩ ⟨List.getElem_mem hk, ⟨b3, b4⟩⟩ (by simp only [go_sem])
theorem qC (n : Int) : FnC Tryd.prog 86 [oi n] (kV ⟨1, n, ⟨#[]⟩⟩) := by
 refine ent Tryd.func86 rfl Tryd.call86 rfl (fun C => ?_); simp only [go_sem, st0, Tryd.ntmps86]
 refine aF ?_
 exact aA ⟨⟨_, rfl, by simp only [go_sem]⟩, trivial⟩
theorem mJ (s : ByteArray) : FnC Tryd.prog 14 [os s] (kV ⟨2, 0, s⟩) := by
 refine ent Tryd.func14 rfl Tryd.call14 rfl (fun C => ?_); simp only [go_sem, st0, Tryd.ntmps14]
 refine aF ?_
 exact aA ⟨⟨_, rfl, by simp only [go_sem]⟩, trivial⟩
def w1 (s : ByteArray) : Prop := s.size ≤ 6
@[go_sem] def a6F : List ByteArray := [⟨#[97]⟩, ⟨#[98]⟩, ⟨#[110]⟩, ⟨#[116]⟩, ⟨#[97]⟩, ⟨#[98]⟩, ⟨#[116]⟩, ⟨#[122]⟩, ⟨#[65]⟩, ⟨#[]⟩]
theorem a6G : ∀ s ∈ a6F, s.size ≤ 6 := by decide +kernel
theorem uY {l : List Int} (hl : gW l) : Drw l 33 [] (fun s : ByteArray => w1 s) (fun s => os s) := by
 intro i h hi hh; refine rJ Tryd.func33 rfl Tryd.call33 rfl (fun C b => ?_); simp only [go_sem, Tryd.ntmps33]
 refine aF ?_
 first | (refine bB (cK hl a6F (by decide) (by decide) i h hi hh) ⟨rfl, rfl⟩ ?_ rfl ?_; (focus first | rfl | (simp only [go_sem]; done))) | (refine hZ (cK hl a6F (by decide) (by decide) i h hi hh) ⟨rfl, rfl⟩ ?_ rfl ?_; (focus first | rfl | (simp only [go_sem]; done)))
 clear hi hh; rintro ⟨s, i, h⟩ ⟨hs, hi, hh⟩; simp only at hs hi hh; simp only [go_sem]
 refine aF ?_
 exact aN (s, i, h) ⟨⟨_, rfl, by simp only [go_sem]⟩, trivial⟩ ⟨a6G s hs, ⟨hi, hh⟩⟩ (by simp only [go_sem])
@[go_sem] def a9H : List ByteArray := [⟨#[100, 97]⟩, ⟨#[100, 98]⟩, ⟨#[100, 99]⟩, ⟨#[100, 100]⟩, ⟨#[100, 101]⟩, ⟨#[122, 122]⟩, ⟨#[]⟩]
@[go_sem] def nm9 : List ByteArray := [⟨#[100, 97]⟩, ⟨#[100, 98]⟩, ⟨#[100, 99]⟩, ⟨#[100, 100]⟩, ⟨#[100, 97]⟩, ⟨#[100, 98]⟩, ⟨#[100, 99]⟩]
@[go_sem] def us6 : List Int := [0, 1, 2, 0, 1, 3, -1]
@[go_sem] def id5 : List Int := [1, 2, 3, 4, 5, 2, 3, 9, 0, -1, 9223372036854775807]
theorem a0t {l : List Int} (hl : gW l) : Drw l 56 [] (fun n : Int => inR .i64 n) (fun n => oi n) := by
 intro i h hi hh; refine rJ Tryd.func56 rfl Tryd.call56 rfl (fun C b => ?_); simp only [go_sem, Tryd.ntmps56]
 refine aF ?_
 first | (refine bB (dL hl id5 (by decide) (by decide) i h hi hh) ⟨rfl, rfl⟩ ?_ rfl ?_; (focus first | rfl | (simp only [go_sem]; done))) | (refine hZ (dL hl id5 (by decide) (by decide) i h hi hh) ⟨rfl, rfl⟩ ?_ rfl ?_; (focus first | rfl | (simp only [go_sem]; done)))
 clear hi hh; rintro ⟨n, i, h⟩ ⟨hs, hi, hh⟩; simp only at hs hi hh; simp only [go_sem]
 have hn := (by decide : ∀ n ∈ id5, -1 ≤ n ∧ n ≤ 9223372036854775807) n hs
 refine aF ?_
 exact aN (n, i, h) ⟨⟨_, rfl, by simp only [go_sem]⟩, trivial⟩ ⟨(show inR .i64 n by simp only [inR]; omega), ⟨hi, hh⟩⟩ (by simp only [go_sem])
structure valD (v : TValue) : Prop where
 w : v.fStr.size ≤ 7
 k : inR .i64 v.fKind
 n : inR .i64 v.fInt
@[go_sem] def wd3 : List ByteArray := [⟨#[114, 101, 100]⟩, ⟨#[98, 108, 117, 101]⟩, ⟨#[105, 110, 107]⟩]
theorem in0 : inR .i64 0 := by simp [inR]
theorem in1 : inR .i64 1 := by simp [inR]
theorem in2 : inR .i64 2 := by simp [inR]
theorem a4j {x : Int} (h : inR .i64 x) : valD ⟨1, x, ⟨#[]⟩⟩ := ⟨Nat.zero_le 7, in1, h⟩
theorem a4k {s : ByteArray} (h : s.size ≤ 7) : valD ⟨2, 0, s⟩ := ⟨h, in2, in0⟩
theorem a6H : valD ⟨0, 0, ⟨#[]⟩⟩ := ⟨Nat.zero_le 7, in0, in0⟩
theorem sI {l : List Int} (hl : gW l) : Drw l 101 [] (fun v : TValue => valD v) (fun v => kV v) := by
 intro i h hi hh; refine rJ Tryd.func101 rfl Tryd.call101 rfl (fun C b => ?_); simp only [go_sem, Tryd.ntmps101]
 refine aF ?_
 first | (refine bB (aL hl 5 (by decide) (by decide) i h hi hh) ⟨rfl, rfl⟩ ?_ rfl ?_; (focus first | rfl | (simp only [go_sem]; done))) | (refine hZ (aL hl 5 (by decide) (by decide) i h hi hh) ⟨rfl, rfl⟩ ?_ rfl ?_; (focus first | rfl | (simp only [go_sem]; done)))
 clear hi hh; rintro ⟨k, i, h⟩ ⟨hk, hi, hh⟩; simp only at hk hi hh; simp only [go_sem]
 have h5 : k = 0 ∨ k = 1 ∨ k = 2 ∨ k = 3 ∨ k = 4 := by omega
 rcases h5 with rfl | rfl | rfl | rfl | rfl
 ·refine aF ?_
  exact aN (⟨0, 0, ⟨#[]⟩⟩, i, h) ⟨⟨_, rfl, by simp only [go_sem]⟩, trivial⟩ ⟨a6H, ⟨hi, hh⟩⟩ (by simp only [go_sem])
 ·refine aF ?_
  first | (refine bB (aL hl 5 (by decide) (by decide) i h hi hh) ⟨rfl, rfl⟩ ?_ rfl ?_; (focus first | rfl | (simp only [go_sem]; done))) | (refine hZ (aL hl 5 (by decide) (by decide) i h hi hh) ⟨rfl, rfl⟩ ?_ rfl ?_; (focus first | rfl | (simp only [go_sem]; done)))
  clear hi hh; rintro ⟨x, i, h⟩ ⟨hx, hi, hh⟩; simp only at hx hi hh; simp only [go_sem]
  refine sQ (qC x) ?_
  exact aN (⟨1, x, ⟨#[]⟩⟩, i, h) ⟨⟨_, rfl, by simp only [go_sem]⟩, trivial⟩ ⟨a4j (by simp only [inR]; omega), ⟨hi, hh⟩⟩ (by simp only [go_sem])
 ·refine aF ?_
  first | (refine bB (aL hl 5 (by decide) (by decide) i h hi hh) ⟨rfl, rfl⟩ ?_ rfl ?_; (focus first | rfl | (simp only [go_sem]; done))) | (refine hZ (aL hl 5 (by decide) (by decide) i h hi hh) ⟨rfl, rfl⟩ ?_ rfl ?_; (focus first | rfl | (simp only [go_sem]; done)))
  clear hi hh; rintro ⟨x, i, h⟩ ⟨hx, hi, hh⟩; simp only at hx hi hh; simp only [go_sem]
  refine sQ (qC x) ?_
  exact aN (⟨1, x, ⟨#[]⟩⟩, i, h) ⟨⟨_, rfl, by simp only [go_sem]⟩, trivial⟩ ⟨a4j (by simp only [inR]; omega), ⟨hi, hh⟩⟩ (by simp only [go_sem])
 ·refine aF ?_
  first | (refine bB (cK hl wd3 (by decide) (by decide) i h hi hh) ⟨rfl, rfl⟩ ?_ rfl ?_; (focus first | rfl | (simp only [go_sem]; done))) | (refine hZ (cK hl wd3 (by decide) (by decide) i h hi hh) ⟨rfl, rfl⟩ ?_ rfl ?_; (focus first | rfl | (simp only [go_sem]; done)))
  clear hi hh; rintro ⟨s, i, h⟩ ⟨hs, hi, hh⟩; simp only at hs hi hh; simp only [go_sem]
  have hw := (by decide +kernel : ∀ s ∈ wd3, s.size ≤ 7) s hs
  refine sQ (mJ s) ?_
  exact aN (⟨2, 0, s⟩, i, h) ⟨⟨_, rfl, by simp only [go_sem]⟩, trivial⟩ ⟨a4k hw, ⟨hi, hh⟩⟩ (by simp only [go_sem])
 ·refine aF ?_
  first | (refine bB (cK hl wd3 (by decide) (by decide) i h hi hh) ⟨rfl, rfl⟩ ?_ rfl ?_; (focus first | rfl | (simp only [go_sem]; done))) | (refine hZ (cK hl wd3 (by decide) (by decide) i h hi hh) ⟨rfl, rfl⟩ ?_ rfl ?_; (focus first | rfl | (simp only [go_sem]; done)))
  clear hi hh; rintro ⟨s, i, h⟩ ⟨hs, hi, hh⟩; simp only at hs hi hh; simp only [go_sem]
  have hw := (by decide +kernel : ∀ s ∈ wd3, s.size ≤ 7) s hs
  refine sQ (mJ s) ?_
  exact aN (⟨2, 0, s⟩, i, h) ⟨⟨_, rfl, by simp only [go_sem]⟩, trivial⟩ ⟨a4k hw, ⟨hi, hh⟩⟩ (by simp only [go_sem])
end Go.Proofs.YtlmpmpddakhfnaaDoor
end
section
section
set_option linter.all false
set_option maxRecDepth 100000
set_option maxHeartbeats 4000000
namespace Go.Proofs.YtlmpmpddakhfnaaDoor
open Go Go.Sx Go.RowKit Go.Proofs
def a7V (k : Nat) (out : ByteArray) : ByteArray :=
 if h : k = 0 then out else a7V (k / 10) (jS [(48 : Int) + ((k % 10 : Nat) : Int)] ++ out)
decreasing_by omega
def mM (k : Int) : ByteArray := ⟨#[109]⟩ ++ a7V k.toNat ⟨#[]⟩
def qL (x : Int) : Nat := 1
def a2n (x : Int) (k : Int) : Int := k
def a9A (x : ByteArray) : Nat := 1
def a9B (x : ByteArray) (k : Int) : ByteArray := (mM k)
def a9g (x : Bool) : Nat := 1
def a9h (x : Bool) (k : Int) : Bool := (decide (Int.tmod k 3 = 0))
end Go.Proofs.YtlmpmpddakhfnaaDoor
end
section
set_option linter.all false
set_option maxRecDepth 100000
set_option maxHeartbeats 4000000
namespace Go.Proofs.YtlmpmpddakhfnaaDoor
open Go Go.Sx Go.RowKit Go.Proofs
def a8t (x : TField) : Nat := 2
def a8u (x : TField) (k : Int) : TField := ⟨(mM k), (k + 1)⟩
def oP (x : TAttr) : Nat := 4
def a4u (x : TAttr) (k : Int) : TAttr := ⟨(mM k), ⟨(k + 1), ((k + 1) + 1), (mM (((k + 1) + 1) + 1))⟩⟩
def zA (x : TNode) : Nat := 7
def a4v (x : TNode) (k : Int) : TNode := ⟨k, (k + 1), ((k + 1) + 1), (mM (((k + 1) + 1) + 1)), ⟨((((k + 1) + 1) + 1) + 1), (((((k + 1) + 1) + 1) + 1) + 1), (mM ((((((k + 1) + 1) + 1) + 1) + 1) + 1))⟩⟩
end Go.Proofs.YtlmpmpddakhfnaaDoor
end
section
set_option linter.all false
set_option maxRecDepth 100000
set_option maxHeartbeats 4000000
namespace Go.Proofs.YtlmpmpddakhfnaaDoor
open Go Go.Sx Go.RowKit Go.Proofs
def a9i (x : TFile) : Nat := 4 + nM oP x.fAttrs
def a9j (x : TFile) (k : Int) : TFile := ⟨k, (k + 1), (decide (Int.tmod ((k + 1) + 1) 3 = 0)), (((k + 1) + 1) + 1), (mkL a4u oP x.fAttrs ((((k + 1) + 1) + 1) + 1))⟩
def a9C (x : TDir) : Nat := 1 + nM zA x.fQuery
def a9D (x : TDir) (k : Int) : TDir := ⟨(mM k), (mkL a4v zA x.fQuery (k + 1))⟩
def a7W (x : TResult) : Nat := 1 + nM qL x.fIDs
def a7X (x : TResult) (k : Int) : TResult := ⟨(mM k), (mkL a2n qL x.fIDs (k + 1))⟩
def a9k (x : TDiff) : Nat := 1 + nM qL x.fAdded + nM qL x.fRemoved
def a9l (x : TDiff) (k : Int) : TDiff := ⟨(mM k), (mkL a2n qL x.fAdded (k + 1)), (mkL a2n qL x.fRemoved ((k + 1) + (nM qL x.fAdded : Nat)))⟩
def a8v (x : TGroup) : Nat := 3 + nM qL x.fIDs
def a8w (x : TGroup) (k : Int) : TGroup := ⟨⟨k, (k + 1), (mM ((k + 1) + 1))⟩, (mkL a2n qL x.fIDs (((k + 1) + 1) + 1))⟩
def a7Y (x : TChange) : Nat := 7 + nM oP x.fFile.fAttrs + nM zA x.fDir.fQuery
def a7Z (x : TChange) (k : Int) : TChange := ⟨k, ⟨(k + 1), ((k + 1) + 1), (decide (Int.tmod (((k + 1) + 1) + 1) 3 = 0)), ((((k + 1) + 1) + 1) + 1), (mkL a4u oP x.fFile.fAttrs (((((k + 1) + 1) + 1) + 1) + 1))⟩, ((((((k + 1) + 1) + 1) + 1) + 1) + (nM oP x.fFile.fAttrs : Nat)), ⟨(mM (((((((k + 1) + 1) + 1) + 1) + 1) + (nM oP x.fFile.fAttrs : Nat)) + 1)), (mkL a4v zA x.fDir.fQuery ((((((((k + 1) + 1) + 1) + 1) + 1) + (nM oP x.fFile.fAttrs : Nat)) + 1) + 1))⟩⟩
end Go.Proofs.YtlmpmpddakhfnaaDoor
end
section
set_option linter.all false
set_option maxRecDepth 100000
set_option maxHeartbeats 4000000
namespace Go.Proofs.YtlmpmpddakhfnaaDoor
open Go Go.Sx Go.RowKit Go.Proofs
end Go.Proofs.YtlmpmpddakhfnaaDoor
end
section
set_option linter.all false
namespace Go.Proofs.YtlmpmpddakhfnaaDoor
open Go Go.Sx Go.RowKit Go.Proofs
end Go.Proofs.YtlmpmpddakhfnaaDoor
end
end
