/- Joined texts. -/
import Derived.Test.YtolgdibgnndoaaaGreatZ04
import Derived.Test.YtolgdibgnndoaaaGreatZ05
import Derived.Test.YtolgdibgnndoaaaGreatZ06
set_option linter.all false
section
namespace Go.Sx
open Go Go.RowKit
def a7e : Option Nat → SV → SV
 | none, s => s
 | some id, s => zT id s
def lL (φ : Option Nat) (T : List SV) : List SV := T.map (a7e φ)
theorem a7f (φ : Option Nat) : a7e φ (.o .u) = .o .u := by cases φ <;> rfl
theorem cK (T : List SV) : lL none T = T := by
 have e : a7e none = id := rfl
 rw [lL, e, List.map_id]
def nH (all : List Oper) : Nat → Nat → Nat → Bool
 | 0, a, b => match all[b]? with
  | some o => onE o a
  | none => false
 | n + 1, a, b => match all[b]? with
  | some o => onE o a || o.after.any fun e => Region.binds .any e && nH all n a e.on
  | none => false
def b2E (all : List Oper) (L : Array Bool) : Prop := ∀ (b : Nat) (o : Oper), all[b]? = some o → L.getD b true = true → ∀ e ∈ o.after, Region.binds .any e = true → L.getD e.on true = true
theorem a1k {all : List Oper} {L : Array Bool} {a b : Nat} {o : Oper} (ho : all[b]? = some o) (hd : ∀ e ∈ o.after, Region.binds .any e = true → L.getD e.on true = true) (h : onE o a = true) : L.getD a true = true := by
 obtain ⟨e, he, hb⟩ := Array.any_eq_true'.1 h
 simp only [Bool.and_eq_true, beq_iff_eq] at hb
 have := hd e he hb.1
 rwa [hb.2] at this
theorem sU {all : List Oper} {L : Array Bool} (hc : b2E all L) : ∀ (n a b : Nat) (o : Oper), all[b]? = some o → (∀ e ∈ o.after, Region.binds .any e = true → L.getD e.on true = true) → nH all n a b = true → L.getD a true = true
 | 0, a, b, o, ho, hd, h => by
  unfold nH at h; rw [ho] at h; exact a1k ho hd h
 | n + 1, a, b, o, ho, hd, h => by
  unfold nH at h
  rw [ho] at h
  rcases Bool.or_eq_true_iff.1 h with h | h
  ·exact a1k ho hd h
  ·obtain ⟨e, he, hb⟩ := Array.any_eq_true'.1 h
   rw [Bool.and_eq_true] at hb
   have h1 := hd e he hb.1
   cases hq : all[e.on]? with
   | none => have := hb.2; cases n <;> (unfold nH at this; rw [hq] at this; cases this)
   | some p => exact sU hc n a e.on p hq (hc e.on p hq h1) hb.2
def okE (all : List Oper) (ps ls : List Nat) : Bool := (ls.all fun i => ps.contains i) &&
 (List.range all.length).all fun i => a4y all i fun o =>
  (match o.guard with | none => true | some _ => false) && (o.after.all fun e => !Region.binds .any e || decide (e.on < i)) &&
  (ps.contains i || o.dst.isSome) &&
  ((List.range all.length).all fun j => a4y all j fun p => match p.dst with
   | none => true
   | some d => ((mW (opL o.op)).all fun t => t != d || onE o j || ls.contains j) && (j == i || o.dst != some d))
def b3X (all : List Oper) (ps dn rest w : List Nat) : Bool :=
 (List.range all.length).all fun i => ps.contains i || dn.any (fun e => nH all 4 i e) || rest.any (fun e => nH all 4 e i) || w.contains i
inductive PT where
 | n : PT
 | c : Nat → List Nat → List Nat → PT → PT → PT
def PT.tops : PT → List Nat
 | .n => []
 | .c p _ _ _ r => p :: r.tops
def PT.isNil : PT → Bool
 | .n => true
 | .c .. => false
def okN (all : List Oper) (ps dn rem w : List Nat) (t : PT) : Bool := b3X all ps dn rem w && rem.all fun p => (rem.any fun q => q != p && nH all 4 q p) || t.tops.contains p
def a0u (all : List Oper) (ps : List Nat) : PT → List Nat → List Nat → Bool
 | .n, _, _ => true
 | .c p li w' sub r, dn, rem => rem.contains p && (li.all fun i => !ps.contains i && nH all 4 p i) && okN all ps (p :: dn) (rem.filter (· != p)) w' sub && a0u all ps sub (p :: dn) (rem.filter (· != p)) && a0u all ps r dn rem
def gM (all : List Oper) : List Nat → List Oper
 | [] => []
 | i :: l => match a2X all i with
  | some o => o :: gM all l
  | none => gM all l
theorem mK {all : List Oper} {o : Oper} : ∀ {l : List Nat}, o ∈ gM all l ↔ ∃ i ∈ l, all[i]? = some o
 | [] => by simp [gM]
 | j :: l => by
  have ih := mK (all := all) (o := o) (l := l)
  unfold gM
  rw [tX]
  cases hq : all[j]? with
  | none => simp only [ih, List.mem_cons]; constructor
            ·rintro ⟨i, h1, h2⟩; exact ⟨i, .inr h1, h2⟩
            ·rintro ⟨i, h1 | h1, h2⟩
             ·subst h1; rw [hq] at h2; cases h2
             ·exact ⟨i, h1, h2⟩
  | some p =>
   simp only [List.mem_cons, ih]
   constructor
   ·rintro (rfl | ⟨i, h1, h2⟩)
    ·exact ⟨j, .inl rfl, hq⟩
    ·exact ⟨i, .inr h1, h2⟩
   ·rintro ⟨i, h1 | h1, h2⟩
    ·subst h1; rw [hq] at h2; exact .inl (Option.some.inj h2).symm
    ·exact .inr ⟨i, h1, h2⟩
def lat (all : List Oper) (ls : List Nat) : List Oper := all.mapIdx fun i o => if ls.contains i then { o with dst := none } else o
theorem xX {all : List Oper} {ls : List Nat} {j d : Nat} {o' : Oper} (h : (lat all ls)[j]? = some o') (hd : o'.dst = some d) : ∃ o, all[j]? = some o ∧ o.dst = some d ∧ j ∉ ls := by
 unfold lat at h
 rw [List.getElem?_mapIdx] at h
 cases ho : all[j]? with
 | none => rw [ho] at h; cases h
 | some o =>
  rw [ho] at h
  simp only [Option.map_some, Option.some.injEq] at h
  split at h
  ·subst h; cases hd
  ·rename_i hn
   subst h
   exact ⟨o, rfl, hd, fun hm => hn (List.contains_iff_mem.2 hm)⟩
theorem xY {all : List Oper} {ls : List Nat} {j : Nat} {o : Oper} (h : all[j]? = some o) (hj : j ∉ ls) : (lat all ls)[j]? = some o := by
 unfold lat
 rw [List.getElem?_mapIdx, h, Option.map_some, if_neg (fun hm => hj (List.contains_iff_mem.1 hm))]
section
variable {E : Env}
def a9D : Op → Bool
 | .alloc _ => true
 | .assign _ => true
 | .move _ => true
 | .buildSlice .. => true
 | .store .. => true
 | .call c => match c.callee with
  | .builtin .append => true
  | _ => false
 | _ => false
def a4X (E : Env) (o : Oper) (st : St) (k : St → SV → Prop) : Prop := if a9D o.op then dH E o.op st k else a6b E o st fun h' s => k ⟨st.t, h'⟩ s
structure CallH (E : Env) (f : Nat) (args : List SV) (h : List HB) (k : List HB → SV → Prop) (t : Tie k) : Prop where
 out : ∃ (β : Type) (Pb : β → Prop) (h' : β → List HB) (s : β → SV), (∀ T, CallS E f args ⟨T, h⟩ fun st2 s2 => ∃ b, Pb b ∧ st2 = ⟨T, h' b⟩ ∧ s2 = s b) ∧ ∀ b, Pb b → k (h' b) (s b)
theorem CallS.mono {E : Env} {f : Nat} {args : List SV} {st : St} {K K' : St → SV → Prop} (h : CallS E f args st K) (m : ∀ st2 s, K st2 s → K' st2 s) : CallS E f args st K' :=
 ⟨h.1, fun g V a w vs hr hl ha => (h.2 g V a w vs hr hl ha).mono fun _ _ ⟨y, g', V', st', s, e1, e2, e3, e4⟩ => ⟨y, g', V', st', s, e1, e2, e3, m _ _ e4⟩⟩
theorem CallH.det {E : Env} {f : Nat} {args : List SV} {h : List HB} {k : List HB → SV → Prop} (c : CallG E f args h k ⟨⟩) : CallH E f args h k ⟨⟩ := by
 obtain ⟨h', s, h1, h2⟩ := c.out
 exact ⟨Unit, fun _ => True, fun _ => h', fun _ => s, fun T => (h1 T).mono fun _ _ ⟨e1, e2⟩ => ⟨(), trivial, e1, e2⟩, fun _ _ => h2⟩
def b2F (E : Env) (o : Oper) (st : St) (k : List HB → SV → Prop) : Prop := match o.op with
 | .call c => (match c.callee with
  | .value f => (match ev st f with
   | .o (.f fn caps) => CallH E fn (c.args.toList.map (ev st) ++ caps.map (fun cs => .o (.q cs))) st.h k ⟨⟩
   | _ => False)
  | _ => False)
 | _ => False
def a7g (E : Env) (o : Oper) (st : St) (k : St → SV → Prop) : Prop := if a9D o.op then dH E o.op st k else b2F E o st fun h' s => k ⟨st.t, h'⟩ s
def efX (E : Env) : Bool → Oper → St → (St → SV → Prop) → Prop
 | false => a4X E
 | true => a7g E
theorem xZ {T : List SV} {st : St} : ∀ (l : List (Nat × Operand)) (n : Nat), (∀ p ∈ l, ev ⟨T, st.h⟩ p.2 = ev st p.2) → jR ⟨T, st.h⟩ n l = jR st n l
 | [], _, _ => rfl
 | (i, x) :: r, n, h => by
  have h1 : ev ⟨T, st.h⟩ x = ev st x := h (i, x) (by simp)
  simp only [jR, h1, xZ r (n + 1) fun p hp => h p (by simp [hp])]
theorem a4Y {op : Op} (ha : a9D op = true) {st : St} {k : St → SV → Prop} (h : dH E op st k) : ∃ φ h' s, (∀ T : List SV, (∀ x ∈ op.operands, ev ⟨T, st.h⟩ x = ev st x) → dH E op ⟨T, st.h⟩ fun st2 s2 => st2 = ⟨lL φ T, h'⟩ ∧ s2 = s) ∧ k ⟨lL φ st.t, h'⟩ s := by
 cases op <;> simp only [a9D, Bool.false_eq_true] at ha
 case alloc t =>
  simp only [dH] at h
  exact ⟨none, st.h ++ [.box t (E.T t).zero], _, fun T _ => by simp only [dH]; exact ⟨h.1, by rw [cK]; rfl, rfl⟩, by rw [cK]; exact h.2⟩
 case assign x => exact ⟨none, st.h, ev st x, fun T he => by simp only [dH, he x (by simp [Op.operands])]; exact ⟨by rw [cK], trivial⟩, by rw [cK]; exact h⟩
 case move x => exact ⟨none, st.h, ev st x, fun T he => by simp only [dH, he x (by simp [Op.operands])]; exact ⟨by rw [cK], trivial⟩, by rw [cK]; exact h⟩
 case buildSlice t len parts =>
  simp only [dH] at h
  unfold kK at h
  obtain ⟨h1, h2, h3, h4, h⟩ := h
  split at h
  ·rename_i cs e
   obtain ⟨h5, h⟩ := h
   split at h
   ·rename_i rows lin e2
    refine ⟨none, _, .o (.s st.h.length), fun T he => ?_, by rw [cK]; exact h.2⟩
    simp only [dH]
    unfold kK
    have hp : jR ⟨T, st.h⟩ 0 parts.toList = jR st 0 parts.toList := xZ _ _ fun p hp => he p.2 (by rw [← Array.mem_toList_iff, ← a5H]; exact List.mem_map.2 ⟨p, hp, rfl⟩)
    refine ⟨h1, h2, h3, h4, ?_⟩
    rw [hp, e]
    refine ⟨h5, ?_⟩
    simp only [e2]
    exact ⟨h.1, by rw [cK], trivial⟩
   ·exact h.elim
  ·exact h.elim
 case store t x v =>
  have key : ∀ T : List SV, (∀ y ∈ (Op.store t x v).operands, ev ⟨T, st.h⟩ y = ev st y) → ev ⟨T, st.h⟩ x = ev st x ∧ ev ⟨T, st.h⟩ v = ev st v := fun T he => ⟨he x (by simp [Op.operands]), he v (by simp [Op.operands])⟩
  simp only [dH] at h
  split at h
  ·rename_i id sz i fo e
   unfold kU at h
   obtain ⟨h1, h2, h3, h4, h5, h⟩ := h
   split at h
   ·rename_i e1 e2
    split at h
    ·rename_i e3
     refine ⟨none, _, .t [], fun T he => ?_, by rw [cK]; exact h.2.2⟩
     obtain ⟨hx, hv⟩ := key T he
     simp only [dH, hx, hv, e]
     unfold kU
     refine ⟨h1, h2, h3, h4, h5, ?_⟩
     simp only [e1, e2, e3]
     exact ⟨h.1, h.2.1, by rw [cK], trivial⟩
    ·exact h.elim
   ·exact h.elim
  ·rename_i id sz i fo e
   unfold jQ at h
   split at h
   ·rename_i e0
    split at h
    ·rename_i e1
     split at h
     ·rename_i e2 e3
      refine ⟨none, _, .t [], fun T he => ?_, by rw [cK]; exact h.2.2.2.2⟩
      obtain ⟨hx, hv⟩ := key T he
      simp only [dH, hx, hv, e]
      unfold jQ
      simp only [e0, e1, e2, e3]
      exact ⟨h.1, h.2.1, h.2.2.1, h.2.2.2.1, by rw [cK], trivial⟩
     ·exact h.elim
    ·exact h.elim
   ·exact h.elim
  ·rename_i e0 e1
   unfold nT at h
   split at h
   ·rename_i e
    split at h
    ·rename_i e2
     split at h
     ·rename_i e3
      refine ⟨none, _, .t [], fun T he => ?_, by rw [cK]; exact h.2.2.2.2⟩
      obtain ⟨hx, hv⟩ := key T he
      simp only [dH, hx, hv, e]
      unfold nT
      simp only [e2, e3]
      exact ⟨h.1, h.2.1, h.2.2.1, h.2.2.2.1, by rw [cK], trivial⟩
     ·exact h.elim
    ·rename_i e2
     split at h
     ·rename_i e4
      split at h
      ·rename_i e3
       refine ⟨none, _, .t [], fun T he => ?_, by rw [cK]; exact h.2.2⟩
       obtain ⟨hx, hv⟩ := key T he
       simp only [dH, hx, hv, e]
       unfold nT
       simp only [e2, e4, e3]
       exact ⟨h.1, h.2.1, by rw [cK], trivial⟩
      ·exact h.elim
     ·exact h.elim
    ·exact h.elim
   ·exact h.elim
 case call c =>
  have hc : c.callee = .builtin .append := by
   split at ha
   ·rename_i e; exact e
   ·cases ha
  simp only [dH, iM, hc] at h
  split at h
  ·rename_i s x t t' e1 e2
   have key : ∀ T : List SV, (∀ y ∈ (Op.call c).operands, ev ⟨T, st.h⟩ y = ev st y) → ev ⟨T, st.h⟩ s = ev st s ∧ ev ⟨T, st.h⟩ x = ev st x := fun T he =>
    ⟨he s (by simp only [Op.operands, Call.operands, Array.mem_append]; exact .inr (by rw [← Array.mem_toList_iff, e1]; simp)), he x (by simp only [Op.operands, Call.operands, Array.mem_append]; exact .inr (by rw [← Array.mem_toList_iff, e1]; simp))⟩
   have src : ∀ (T : List SV) (y : SV), a5V ⟨T, st.h⟩ y = a5V st y := fun T y => by unfold a5V; rfl
   obtain ⟨h0, h⟩ := h
   unfold pF at h
   obtain ⟨h1, h2, h⟩ := h
   split at h
   ·rename_i rows2 lin2 ids e3
    obtain ⟨h3, h⟩ := h
    split at h
    ·rename_i id e4
     split at h
     ·rename_i ty sz rows lin e5
      refine ⟨some id, _, .o (.s id), fun T he => ?_, h.2.2.2.2.2⟩
      obtain ⟨hs, hx⟩ := key T he
      simp only [dH, iM, hc, e1, e2]
      refine ⟨h0, ?_⟩
      unfold pF
      refine ⟨h1, h2, ?_⟩
      rw [hx, src, e3]
      refine ⟨h3, ?_⟩
      rw [hs, e4]
      simp only [e5]
      exact ⟨h.1, h.2.1, h.2.2.1, h.2.2.2.1, h.2.2.2.2.1, rfl, trivial⟩
     ·exact h.elim
    ·rename_i e4
     refine ⟨none, _, _, fun T he => ?_, by rw [cK]; exact h.2.2⟩
     obtain ⟨hs, hx⟩ := key T he
     simp only [dH, iM, hc, e1, e2]
     refine ⟨h0, ?_⟩
     unfold pF
     refine ⟨h1, h2, ?_⟩
     rw [hx, src, e3]
     refine ⟨h3, ?_⟩
     rw [hs, e4]
     exact ⟨h.1, h.2.1, by rw [cK], rfl⟩
    ·exact h.elim
   ·exact h.elim
  ·exact h.elim
end
section
variable {E : Env}
def wF (E : Env) (eb : Bool) (all : List Oper) : PT → St → (St → Prop) → Prop
 | .n, _, _ => True
 | .c p li w' sub r, st, K => (∃ o, all[p]? = some o ∧ efX E eb o st fun st' s => a0k E all (gM all li) (st'.put o.dst s) fun st'' => rV E st'' (gM all w') ∧ if sub.isNil = true then K st'' else wF E eb all sub st'' K) ∧ wF E eb all r st K
theorem a7h {eb : Bool} {all : List Oper} {ps dn rem : List Nat} {st : St} {K : St → Prop} {p : Nat} : ∀ {t : PT}, p ∈ t.tops → a0u all ps t dn rem = true → wF E eb all t st K → ∃ li w' sub, (li.all fun i => !ps.contains i && nH all 4 p i) = true ∧ okN all ps (p :: dn) (rem.filter (· != p)) w' sub = true ∧ a0u all ps sub (p :: dn) (rem.filter (· != p)) = true ∧
    ∃ o, all[p]? = some o ∧ efX E eb o st fun st' s => a0k E all (gM all li) (st'.put o.dst s) fun st'' => rV E st'' (gM all w') ∧ if sub.isNil = true then K st'' else wF E eb all sub st'' K
 | .n, h, _, _ => by simp [PT.tops] at h
 | .c q li w' sub r, h, ho, hv => by
  unfold a0u at ho
  simp only [Bool.and_eq_true] at ho
  obtain ⟨⟨⟨⟨h1, h2⟩, h3⟩, h4⟩, h5⟩ := ho
  obtain ⟨v1, v2⟩ := hv
  simp only [PT.tops, List.mem_cons] at h
  rcases h with rfl | h
  ·exact ⟨li, w', sub, h2, h3, h4, v1⟩
  ·exact a7h h h5 v2
theorem yA {all : List Oper} : ∀ {l : List Oper} {st : St} {K : St → Prop}, a0k E all l st K → ∃ st1, K st1 ∧ st1.h = st.h ∧ st1.t.length = st.t.length ∧ ∀ d, (∀ o ∈ l, o.dst ≠ some d) → nth st1.t d = nth st.t d
 | [], st, K, h => ⟨st, h, rfl, rfl, fun _ _ => rfl⟩
 | o :: l, st, K, h => by
  obtain ⟨s, h1, _⟩ := a3d h
  obtain ⟨st1, k1, k2, k3, k4⟩ := yA h1
  refine ⟨st1, k1, by rw [k2, a4k], by rw [k3, a0y], fun d hd => ?_⟩
  rw [k4 d fun p hp => hd p (List.mem_cons_of_mem _ hp)]
  cases ho : o.dst with
  | none => rfl
  | some e => exact a3x fun e2 => hd o (by simp) (by rw [ho, e2])
theorem a4Z (φ : Option Nat) (T : List SV) (d : Nat) : nth (lL φ T) d = a7e φ (nth T d) := by
 rw [oG, oG, List.getD_eq_getElem?_getD, List.getD_eq_getElem?_getD, lL, List.getElem?_map]
 cases T[d]? with
 | none => simp [a7f]
 | some s => rfl
theorem a9E {o : Oper} {st : St} {k : St → SV → Prop} (h : a4X E o st k) : ∃ φ h' s, (∀ T : List SV, (∀ x ∈ o.op.operands, ev ⟨T, st.h⟩ x = ev st x) → dH E o.op ⟨T, st.h⟩ fun st2 s2 => st2 = ⟨lL φ T, h'⟩ ∧ s2 = s) ∧ k ⟨lL φ st.t, h'⟩ s := by
 unfold a4X at h
 split at h
 ·rename_i ha; exact a4Y ha h
 ·unfold a6b at h
  split at h
  ·rename_i c hop
   split at h
   ·rename_i f hc
    split at h
    ·rename_i fn caps hfn
     obtain ⟨h', s', hcall, hk⟩ := h
     refine ⟨none, h', s', fun T he => ?_, by rw [cK]; exact hk⟩
     rw [hop] at he
     have hfe : ev ⟨T, st.h⟩ f = ev st f := he f (by simp [Op.operands, Call.operands, hc])
     have hargs : c.args.toList.map (ev ⟨T, st.h⟩) = c.args.toList.map (ev st) := List.map_congr_left fun x hx => he x (by simp only [Op.operands, Call.operands, Array.mem_append]; exact .inr (by simpa using hx))
     rw [hop]
     simp only [dH, iM, hc, hfe, hfn, hargs]
     rw [cK]
     exact ⟨hcall T⟩
    ·exact h.elim
   ·exact h.elim
  ·exact h.elim
theorem a9F {eb : Bool} {o : Oper} {st : St} {k : St → SV → Prop} (h : efX E eb o st k) : ∃ (β : Type) (Pb : β → Prop) (φ : Option Nat) (h' : β → List HB) (s : β → SV), (∀ T : List SV, (∀ x ∈ o.op.operands, ev ⟨T, st.h⟩ x = ev st x) → dH E o.op ⟨T, st.h⟩ fun st2 s2 => ∃ b, Pb b ∧ st2 = ⟨lL φ T, h' b⟩ ∧ s2 = s b) ∧ ∀ b, Pb b → k ⟨lL φ st.t, h' b⟩ (s b) := by
 have one : ∀ (φ : Option Nat) (h' : List HB) (s : SV), (∀ T : List SV, (∀ x ∈ o.op.operands, ev ⟨T, st.h⟩ x = ev st x) → dH E o.op ⟨T, st.h⟩ fun st2 s2 => st2 = ⟨lL φ T, h'⟩ ∧ s2 = s) → k ⟨lL φ st.t, h'⟩ s →
     ∃ (β : Type) (Pb : β → Prop) (φ : Option Nat) (h' : β → List HB) (s : β → SV), (∀ T : List SV, (∀ x ∈ o.op.operands, ev ⟨T, st.h⟩ x = ev st x) → dH E o.op ⟨T, st.h⟩ fun st2 s2 => ∃ b, Pb b ∧ st2 = ⟨lL φ T, h' b⟩ ∧ s2 = s b) ∧ ∀ b, Pb b → k ⟨lL φ st.t, h' b⟩ (s b) := fun φ h' s h1 h2 =>
  ⟨Unit, fun _ => True, φ, fun _ => h', fun _ => s, fun T hT => by
   have e : (fun (st2 : St) (s2 : SV) => ∃ _ : Unit, True ∧ st2 = ⟨lL φ T, h'⟩ ∧ s2 = s) = fun st2 s2 => st2 = ⟨lL φ T, h'⟩ ∧ s2 = s := funext fun a => funext fun b => propext ⟨fun ⟨_, _, q⟩ => q, fun q => ⟨(), trivial, q⟩⟩
   rw [e]; exact h1 T hT, fun _ _ => h2⟩
 cases eb with
 | false =>
  obtain ⟨φ, h', s, h1, h2⟩ := a9E (show a4X E o st k from h)
  exact one φ h' s h1 h2
 | true =>
  have h : a7g E o st k := h
  unfold a7g at h
  split at h
  ·rename_i ha
   obtain ⟨φ, h', s, h1, h2⟩ := a4Y ha h
   exact one φ h' s h1 h2
  ·unfold b2F at h
   split at h
   ·rename_i c hop
    split at h
    ·rename_i f hc
     split at h
     ·rename_i fn caps hfn
      obtain ⟨β, Pb, h', s', hcall, hk⟩ := h.out
      refine ⟨β, Pb, none, h', s', fun T he => ?_, by rw [cK]; exact hk⟩
      rw [hop] at he
      have hfe : ev ⟨T, st.h⟩ f = ev st f := he f (by simp [Op.operands, Call.operands, hc])
      have hargs : c.args.toList.map (ev ⟨T, st.h⟩) = c.args.toList.map (ev st) := List.map_congr_left fun x hx => he x (by simp only [Op.operands, Call.operands, Array.mem_append]; exact .inr (by simpa using hx))
      rw [hop]
      simp only [dH, iM, hc, hfe, hfn, hargs]
      rw [cK]
      exact ⟨hcall T⟩
     ·exact h.elim
    ·exact h.elim
   ·exact h.elim
theorem b1n {all : List Oper} {listed : Array Bool} {i d : Nat} {o : Oper} {T : List SV} {H : List HB} (s6 : ∀ (j : Nat) (p : Oper) (d : Nat), all[j]? = some p → p.dst = some d → j ≠ i → o.dst ≠ some d) (ho : all[i]? = some o) (hd : o.dst = some d) :
    St.put ⟨eY all listed T, H⟩ o.dst (nth T d) = ⟨eY all (listed.setIfInBounds i true) T, H⟩ := by
 have keep : ∀ j, j ≠ i → (listed.setIfInBounds i true).getD j true = listed.getD j true := fun j hj => getD_set_ne true (fun e => hj e.symm)
 rw [hd]
 simp only [St.put, lF]
 congr 1
 apply List.ext_getElem?
 intro m
 rw [List.getElem?_set]
 rcases Nat.lt_or_ge m T.length with hm | hm
 ·rw [jJ (l := eY all (listed.setIfInBounds i true) T) (by rw [dC]; exact hm), gD]
  by_cases e : d = m
  ·subst e
   rw [if_pos rfl, if_pos (by rw [dC]; exact hm)]
   have : jM all (listed.setIfInBounds i true) d = false := by
    cases hh : jM all (listed.setIfInBounds i true) d with
    | false => rfl
    | true =>
     obtain ⟨j, p, hj, hd2, hu⟩ := (fB _ _ d).1 hh
     by_cases e : j = i
     ·subst e; rw [bU] at hu; cases hu
     ·exact (s6 j p d hj hd2 e hd).elim
   rw [this]; simp
  ·rw [if_neg e, jJ (by rw [dC]; exact hm), gD]
   have : jM all (listed.setIfInBounds i true) m = jM all listed m := by
    rw [Bool.eq_iff_iff, fB, fB]
    constructor
    ·rintro ⟨j, p, hj, hd2, hu⟩
     refine ⟨j, p, hj, hd2, ?_⟩
     by_cases e2 : j = i
     ·subst e2; rw [bU] at hu; cases hu
     ·rwa [keep j e2] at hu
    ·rintro ⟨j, p, hj, hd2, hu⟩
     refine ⟨j, p, hj, hd2, ?_⟩
     by_cases e2 : j = i
     ·subst e2; rw [ho] at hj; cases hj; rw [hd] at hd2; cases hd2; exact (e rfl).elim
     ·rwa [keep j e2]
   rw [this]
 ·rw [List.getElem?_eq_none (l := eY all (listed.setIfInBounds i true) T) (by rw [dC]; exact hm)]
  split
  ·rename_i e; subst e
   rw [if_neg (by rw [dC]; omega)]
  ·rw [List.getElem?_eq_none (l := eY all listed T) (by rw [dC]; exact hm)]
theorem a9G {eb : Bool} (hT : TyOK E.P E.T) (hE : ∀ t, E.eqk t ≠ [] → EqT E.P t (E.eqk t)) {all : List Oper} {ps0 ls : List Nat} (hok : okE all ps0 ls = true) {Q : Exit → Act → World → Prop} {K : St → Prop} (hQ : ∀ g V st a w, Rel E.C g V st a w → K st → Q .normal a w) :
    ∀ (n : Nat) (listed : Array Bool) (dn rem : List Nat) (t : PT) (wi : List Nat) (st : St) (g : List Gh) (V : View) (a : Act) (w : World), listed.size = all.length → a0o all listed ≤ n → b2E all listed → okN all ps0 dn rem wi t = true → a0u all ps0 t dn rem = true → (∀ e ∈ dn, listed.getD e true = true) → (∀ q ∈ rem, q < all.length ∧ q ∈ ps0 ∧ listed.getD q true = false) → (∀ i, i < all.length → i ∈ ps0 → listed.getD i true = false → i ∈ rem) →
     rV E st (gM all wi) → (if t.isNil = true then K st else wF E eb all t st K) → Rel E.C g V ⟨eY (lat all ls) listed st.t, st.h⟩ a w → wpAny E.P .any all.toArray Q n listed a w := by
 unfold okE at hok
 rw [Bool.and_eq_true] at hok
 obtain ⟨hls0, hok⟩ := hok
 have hls : ∀ i ∈ ls, i ∈ ps0 := fun i hi => List.contains_iff_mem.1 (List.all_eq_true.1 hls0 i hi)
 have spec : ∀ (i : Nat) (o : Oper), all[i]? = some o → o.guard = none ∧ (∀ e ∈ o.after, Region.binds .any e = true → e.on < i) ∧ (i ∉ ps0 → ∃ d, o.dst = some d) ∧
     (∀ (j : Nat) (p : Oper) (d : Nat), all[j]? = some p → p.dst = some d → (∀ t ∈ mW (opL o.op), t = d → onE o j = true ∨ j ∈ ls) ∧ (j ≠ i → o.dst ≠ some d)) := fun i o ho => by
  have h := List.all_eq_true.1 hok i (List.mem_range.2 (List.getElem?_eq_some_iff.1 ho).1)
  unfold a4y at h
  rw [ho] at h
  simp only [Bool.and_eq_true] at h
  obtain ⟨⟨⟨h1, h2⟩, h4⟩, h5⟩ := h
  refine ⟨?_, fun e he hb => ?_, fun hs => ?_, fun j p d hj hd => ?_⟩
  ·cases hg : o.guard with
   | none => rfl
   | some x => rw [hg] at h1; cases h1
  ·have := (Array.all_eq_true_iff_forall_mem.1 h2) e he
   rw [hb] at this
   simpa using this
  ·rcases Bool.or_eq_true_iff.1 h4 with h | h
   ·exact (hs (List.contains_iff_mem.1 h)).elim
   ·exact Option.isSome_iff_exists.1 h
  ·have h := List.all_eq_true.1 h5 j (List.mem_range.2 (List.getElem?_eq_some_iff.1 hj).1)
   rw [hj] at h
   simp only [hd, Bool.and_eq_true] at h
   refine ⟨fun t ht e => ?_, fun hne => ?_⟩
   ·have := List.all_eq_true.1 h.1 t ht
    subst e
    simp only [bne_self_eq_false, Bool.false_or, Bool.or_eq_true] at this
    exact this.imp id List.contains_iff_mem.1
   ·rcases Bool.or_eq_true_iff.1 h.2 with h | h
    ·exact (hne (beq_iff_eq.1 h)).elim
    ·simpa using h
 have toT : ∀ {listed : Array Bool} {j : Nat}, listed.getD j false = true → listed.getD j true = true := fun {listed j} h => by
  rcases Nat.lt_or_ge j listed.size with h' | h'
  ·simp [h'] at h ⊢; exact h
  ·simp [Array.getElem?_eq_none h'] at h
 have fin : ∀ (listed : Array Bool) (dn rem : List Nat) (t : PT) (wi : List Nat) (st : St) (g : List Gh) (V : View) (a : Act) (w : World), (∀ j, j < all.length → listed.getD j true = true) → a0u all ps0 t dn rem = true → (∀ q ∈ rem, q < all.length ∧ q ∈ ps0 ∧ listed.getD q true = false) → (if t.isNil = true then K st else wF E eb all t st K) → Rel E.C g V ⟨eY (lat all ls) listed st.t, st.h⟩ a w → Q .normal a w := fun listed dn rem t wi st g V a w hl hpt h2 hv hr => by
  have hm : eY (lat all ls) listed st.t = st.t := by
   apply List.ext_getElem?
   intro d
   rcases Nat.lt_or_ge d st.t.length with h | h
   ·rw [jJ (by rw [dC]; exact h), jJ h, gD]
    have : jM (lat all ls) listed d = false := by
     cases hh : jM (lat all ls) listed d with
     | false => rfl
     | true =>
      obtain ⟨j, o', ho', hd', hu⟩ := (fB (lat all ls) listed d).1 hh
      obtain ⟨o, ho, _, _⟩ := xX ho' hd'
      rw [hl j (List.getElem?_eq_some_iff.1 ho).1] at hu; cases hu
    rw [this]; simp
   ·rw [List.getElem?_eq_none (by rw [dC]; exact h), List.getElem?_eq_none h]
  rw [hm] at hr
  cases t with
  | n => exact hQ _ _ _ _ _ hr hv
  | c p li w' sub r =>
   unfold a0u at hpt
   simp only [Bool.and_eq_true] at hpt
   obtain ⟨h3, _, h4⟩ := h2 p (List.contains_iff_mem.1 hpt.1.1.1.1)
   rw [hl _ h3] at h4; cases h4
 have none_left : ∀ (listed : Array Bool), listed.size = all.length → Region.ready .any all.toArray listed = [] → ∀ j, j < all.length → listed.getD j true = true := fun listed hsz hr => by
  intro j
  induction j using Nat.strongRecOn with
  | _ j ih =>
   intro hj
   cases hq : listed.getD j true with
   | true => rfl
   | false =>
    have ho : all[j]? = some (all[j]'hj) := List.getElem?_eq_getElem hj
    have : j ∈ Region.ready .any all.toArray listed := mem_ready.2 ⟨hq, _, toA ho, fun e he hb => by
     have hlt := (spec j _ ho).2.1 e he hb
     have h1 := ih e.on hlt (by omega)
     have hes : e.on < listed.size := by omega
     simp [hes] at h1 ⊢; exact h1⟩
    rw [hr] at this; cases this
 intro n
 induction n with
 | zero =>
  intro listed dn rem t wi st g V a w hsz hn hclo hokn hokt hdn hphs hall hchk hv hr
  have hl : ∀ j, j < all.length → listed.getD j true = true := fun j hj => by
   cases hq : listed.getD j true with
   | true => rfl
   | false =>
    have : j ∈ (List.range all.length).filter fun j => !listed.getD j true := List.mem_filter.2 ⟨List.mem_range.2 hj, by rw [hq]; rfl⟩
    have := List.length_pos_of_mem this
    unfold a0o at hn
    omega
  refine ⟨List.eq_nil_iff_forall_not_mem.2 fun i hi => ?_, fin listed dn rem t wi st g V a w hl hokt hphs hv hr⟩
  obtain ⟨h1, o, h2, _⟩ := mem_ready.1 hi
  rw [hl i (by simpa using (Array.getElem?_eq_some_iff.1 h2).1)] at h1; cases h1
 | succ n ih =>
  intro listed dn rem t wi st g V a w hsz hn hclo hokn hokt hdn hphs hall hchk hv hr
  refine ⟨fun he => fin listed dn rem t wi st g V a w (none_left listed hsz he) hokt hphs hv hr, fun i hi => ?_⟩
  obtain ⟨hun, o, ho', haft⟩ := mem_ready.1 hi
  have ho : all[i]? = some o := by simpa using ho'
  have hil := (List.getElem?_eq_some_iff.1 ho).1
  obtain ⟨s1, s2, s5, s6⟩ := spec i o ho
  have hun' : a0o all (listed.setIfInBounds i true) ≤ n := by have := a2p hil hun; omega
  have haft' : ∀ e ∈ o.after, Region.binds .any e = true → listed.getD e.on true = true := fun e he hb => toT (haft e he hb)
  have keep : ∀ j, j ≠ i → (listed.setIfInBounds i true).getD j true = listed.getD j true := fun j hj => getD_set_ne true (fun e => hj e.symm)
  have up : ∀ j, listed.getD j true = true → (listed.setIfInBounds i true).getD j true = true := fun j hj => by
   by_cases e : j = i
   ·subst e; rw [bU]
   ·rw [keep j e]; exact hj
  have hclo' : b2E all (listed.setIfInBounds i true) := fun b p hb hl e he hbd => by
   by_cases e2 : b = i
   ·subst e2; rw [ho] at hb; cases hb; exact up _ (haft' e he hbd)
   ·rw [keep b e2] at hl; exact up _ (hclo b p hb hl e he hbd)
  have evEq : ∀ x ∈ o.op.operands, ev ⟨eY (lat all ls) listed st.t, st.h⟩ x = ev st x := fun x hx => by
   cases x with
   | tmp t =>
    show nth (eY (lat all ls) listed st.t) t = nth st.t t
    rw [gD]
    have : jM (lat all ls) listed t = false := by
     cases hh : jM (lat all ls) listed t with
     | false => rfl
     | true =>
      obtain ⟨j, p', hj', hd', hu⟩ := (fB (lat all ls) listed t).1 hh
      obtain ⟨p, hj, hd, hnl⟩ := xX hj' hd'
      rcases (s6 j p t hj hd).1 t (qG.2 (by rw [a5H]; simpa using hx)) rfl with h1 | h1
      ·have h2 := a1k ho haft' h1
       rw [hu] at h2; cases h2
      ·exact (hnl h1).elim
    rw [this]; simp
   | const v => rfl
   | func f => rfl
   | global m => rfl
  unfold wpOp
  rw [ho']
  simp only [Region.wanted, s1, if_true]
  refine .inl ?_
  have hwin : ∀ (rest : List Nat), b3X all ps0 dn rest wi = true → i ∉ ps0 → (∀ e ∈ rest, listed.getD e true = false) → i ∈ wi := fun rest hw hni hrest => by
   have h := List.all_eq_true.1 hw i (List.mem_range.2 hil)
   simp only [Bool.or_eq_true] at h
   rcases h with ((h | h) | h) | h
   ·exact (hni (List.contains_iff_mem.1 h)).elim
   ·obtain ⟨e, he, hr⟩ := List.any_eq_true.1 h
    have hle := hdn e he
    cases hq : all[e]? with
    | none => unfold nH at hr; rw [hq] at hr; cases hr
    | some p =>
     have := sU hclo 4 i e p hq (hclo e p hq hle) hr
     rw [hun] at this; cases this
   ·obtain ⟨e, he, hr⟩ := List.any_eq_true.1 h
    have := sU hclo 4 e i o ho haft' hr
    rw [hrest e he] at this; cases this
   ·exact List.contains_iff_mem.1 h
  by_cases hp : i ∈ ps0
  ·have hip := hall i hil hp hun
   have htop : i ∈ t.tops := by
    unfold okN at hokn
    rw [Bool.and_eq_true] at hokn
    have h1 := List.all_eq_true.1 hokn.2 i hip
    rcases Bool.or_eq_true_iff.1 h1 with h | h
    ·obtain ⟨q, hq, hr⟩ := List.any_eq_true.1 h
     rw [Bool.and_eq_true] at hr
     have h2 := sU hclo 4 q i o ho haft' hr.2
     rw [(hphs q hq).2.2] at h2; cases h2
    ·exact List.contains_iff_mem.1 h
   have hv' : wF E eb all t st K := by
    cases t with
    | n => simp [PT.tops] at htop
    | c => exact hv
   obtain ⟨l, w', sub, hw3, hw4, hw5, o2, ho2, hvo⟩ := a7h htop hokt hv'
   rw [ho] at ho2; cases ho2
   obtain ⟨p, rfl⟩ : ∃ p, p = i := ⟨i, rfl⟩
   have hphs0 := hphs
   ·skip
    obtain ⟨β, Pb, φ, h'', s, hsw, hk⟩ := a9F hvo
    refine lD hT hE (hsw _ evEq) hr fun g' V' st' w2 s2 y hr' hsy hk2 => ?_
    obtain ⟨b0, hb0, rfl, rfl⟩ := hk2
    obtain ⟨st1, k1, k2, k3, k4⟩ := yA (hk b0 hb0)
    generalize h'' b0 = h' at *
    generalize s b0 = s2 at *
    have hr2 := hr'.put o.dst hsy
    have hh1 : st1.h = h' := by rw [k2, a4k]
    have hlen1 : st1.t.length = st.t.length := by rw [k3, a0y]; simp [lL]
    have e : (St.put ⟨lL φ (eY (lat all ls) listed st.t), h'⟩ o.dst s2) = ⟨eY (lat all ls) (listed.setIfInBounds p true) st1.t, st1.h⟩ := by
     rw [hh1]
     have key : ∀ m, m < st.t.length → nth (St.put ⟨lL φ (eY (lat all ls) listed st.t), h'⟩ o.dst s2).t m = nth (eY (lat all ls) (listed.setIfInBounds p true) st1.t) m := fun m hm => by
      rw [gD]
      by_cases ed : o.dst = some m
      ·have hid : jM (lat all ls) (listed.setIfInBounds p true) m = false := by
        cases hh : jM (lat all ls) (listed.setIfInBounds p true) m with
        | false => rfl
        | true =>
         obtain ⟨j, q', hj', hd', hu⟩ := (fB _ _ m).1 hh
         obtain ⟨q, hj, hd2, _⟩ := xX hj' hd'
         by_cases e : j = p
         ·subst e; rw [bU] at hu; cases hu
         ·exact ((s6 j q m hj hd2).2 e ed).elim
       have hnl : ∀ q ∈ gM all l, q.dst ≠ some m := fun q hq hd => by
        obtain ⟨j, hj, hjq⟩ := mK.1 hq
        have h1 := List.all_eq_true.1 hw3 j hj
        simp only [Bool.and_eq_true] at h1
        by_cases e : j = p
        ·subst e
         have := h1.1
         simp [hp] at this
        ·exact (s6 j q m hjq hd).2 e ed
       rw [hid, k4 m hnl, ed]
       simp only [St.put, lF, oG, List.getD_eq_getElem?_getD, List.getElem?_set, Bool.false_eq_true, if_false, if_true]
       rw [if_pos (by simp [lL, dC]; exact hm), if_pos (by simp [lL]; exact hm)]
      ·have ep : ∀ (T : List SV) (H : List HB), nth (St.put ⟨T, H⟩ o.dst s2).t m = nth T m := fun T H => by
        cases hq : o.dst with
        | none => rfl
        | some d => exact a3x (st := ⟨T, H⟩) fun e => ed (by rw [hq, e])
       rw [ep, a4Z, gD]
       have ehid : jM (lat all ls) (listed.setIfInBounds p true) m = jM (lat all ls) listed m := by
        rw [Bool.eq_iff_iff, fB, fB]
        constructor
        ·rintro ⟨j, q, hj, hd2, hu⟩
         refine ⟨j, q, hj, hd2, ?_⟩
         by_cases e2 : j = p
         ·subst e2; rw [bU] at hu; cases hu
         ·rwa [keep j e2] at hu
        ·rintro ⟨j, q, hj, hd2, hu⟩
         refine ⟨j, q, hj, hd2, ?_⟩
         by_cases e2 : j = p
         ·subst e2
          obtain ⟨q0, hq0, hd3, _⟩ := xX hj hd2
          rw [ho] at hq0; cases hq0; exact (ed hd3).elim
         ·rwa [keep j e2]
       rw [ehid]
       cases hh : jM (lat all ls) listed m with
       | true => simp [a7f]
       | false =>
        simp only [Bool.false_eq_true, if_false]
        have hnl : ∀ q ∈ gM all l, q.dst ≠ some m := fun q hq hd => by
         obtain ⟨j, hj, hjq⟩ := mK.1 hq
         have h1 := List.all_eq_true.1 hw3 j hj
         simp only [Bool.and_eq_true] at h1
         have hju : listed.getD j true = false := by
          cases hx : listed.getD j true with
          | false => rfl
          | true =>
           have := sU hclo 4 p j q hjq (hclo j q hjq hx) h1.2
           rw [hun] at this; cases this
         have hjl : j ∉ ls := fun hm => by have := h1.1; simp [hls j hm] at this
         have := (fB (lat all ls) listed m).2 ⟨j, q, xY hjq hjl, hd, hju⟩
         rw [hh] at this; cases this
        rw [k4 m hnl, ep, a4Z]
     have eh : (St.put ⟨lL φ (eY (lat all ls) listed st.t), h'⟩ o.dst s2).h = h' := a4k _ _ _
     have el : (St.put ⟨lL φ (eY (lat all ls) listed st.t), h'⟩ o.dst s2).t.length = st.t.length := by rw [a0y]; simp [lL, dC]
     have et : (St.put ⟨lL φ (eY (lat all ls) listed st.t), h'⟩ o.dst s2).t = eY (lat all ls) (listed.setIfInBounds p true) st1.t := by
      apply List.ext_getElem?
      intro m
      rcases Nat.lt_or_ge m st.t.length with hm | hm
      ·rw [jJ (by rw [el]; exact hm), jJ (by rw [dC, hlen1]; exact hm), key m hm]
      ·rw [List.getElem?_eq_none (by rw [el]; exact hm), List.getElem?_eq_none (by rw [dC, hlen1]; exact hm)]
     generalize (St.put ⟨lL φ (eY (lat all ls) listed st.t), h'⟩ o.dst s2) = X at eh et
     cases X
     simp only at eh et
     rw [eh, et]
    rw [e] at hr2
    have memf : ∀ q, q ∈ rem.filter (· != p) → q ∈ rem ∧ q ≠ p := fun q hq => by
     obtain ⟨h1, h2⟩ := List.mem_filter.1 hq
     exact ⟨h1, by simpa using h2⟩
    refine ih _ (p :: dn) (rem.filter (· != p)) sub w' st1 g' V' _ _ (by simp [hsz]) hun' hclo' hw4 hw5 (fun e2 he => ?_) (fun q hq => ?_) (fun j hj hj0 hu => ?_) k1.1 k1.2 hr2
    ·rcases List.mem_cons.1 he with rfl | he
     ·rw [bU]
     ·exact up _ (hdn e2 he)
    ·obtain ⟨hq, hne⟩ := memf q hq
     obtain ⟨q1, q2, q3⟩ := hphs q hq
     exact ⟨q1, q2, by rw [keep _ hne]; exact q3⟩
    ·by_cases e2 : j = p
     ·subst e2; rw [bU] at hu; cases hu
     ·rw [keep j e2] at hu
      exact List.mem_filter.2 ⟨hall j hj hj0 hu, by simpa using e2⟩
  ·have hmem : i ∈ wi ∧ rV E st (gM all wi) := by
    unfold okN at hokn
    rw [Bool.and_eq_true] at hokn
    exact ⟨hwin rem hokn.1 hp fun e he => (hphs e he).2.2, hchk⟩
   obtain ⟨d, hd, hvc⟩ := a4A hmem.2 (mK.2 ⟨i, hmem.1, ho⟩)
   have h1 := a4j (st := ⟨eY (lat all ls) listed st.t, st.h⟩) (tZ (fun x hx => (evEq x hx).symm) hvc)
   refine lD hT hE h1 hr fun g' V' st' w' s y hr' hsy hk => ?_
   obtain ⟨rfl, rfl⟩ := hk
   have hr2 := hr'.put o.dst hsy
   have hil : i ∉ ls := fun hm => hp (hls i hm)
   rw [b1n (all := lat all ls) (fun j p d hj hd hne => by
    obtain ⟨p0, hj0, hd0, _⟩ := xX hj hd
    exact (s6 j p0 d hj0 hd0).2 hne) (xY ho hil) hd] at hr2
   refine ih _ dn rem t wi st g' V' _ _ (by simp [hsz]) hun' hclo' hokn hokt (fun e he => up e (hdn e he)) (fun q hq => ?_) (fun j hj hj0 hu => ?_) hchk hv hr2
   ·obtain ⟨q1, q2, q3⟩ := hphs q hq
    exact ⟨q1, q2, by rw [keep q (fun e => hp (e ▸ q2))]; exact q3⟩
   ·by_cases e2 : j = i
    ·subst e2; rw [bU] at hu; cases hu
    ·rw [keep j e2] at hu; exact hall j hj hj0 hu
end
section
variable {E : Env}
inductive PO where
 | nil : PO
 | cons : Nat → List Oper → List Oper → PO → PO → PO
def PO.isNil : PO → Bool
 | .nil => true
 | .cons .. => false
def rQ (all : List Oper) : PT → PO
 | .n => .nil
 | .c p l w sub r => .cons p (gM all l) (gM all w) (rQ all sub) (rQ all r)
theorem pO {all : List Oper} (t : PT) : (rQ all t).isNil = t.isNil := by cases t <;> rfl
def vcEJ (E : Env) (eb : Bool) (all : List Oper) : PO → St → (St → Prop) → Prop
 | .nil, _, _ => True
 | .cons p l w' sub r, st, K => (∃ o, all[p]? = some o ∧ efX E eb o st fun st' s => a0k E all l (st'.put o.dst s) fun st'' => rV E st'' w' ∧ if sub.isNil = true then K st'' else vcEJ E eb all sub st'' K) ∧ vcEJ E eb all r st K
theorem zB {eb : Bool} {all : List Oper} {K : St → Prop} : ∀ (t : PT) (st : St), vcEJ E eb all (rQ all t) st K = wF E eb all t st K
 | .n, _ => rfl
 | .c p l w' sub r, st => by
  have h1 : ∀ st, vcEJ E eb all (rQ all sub) st K = wF E eb all sub st K := zB sub
  have h2 : vcEJ E eb all (rQ all r) st K = wF E eb all r st K := zB r st
  simp only [rQ, vcEJ, wF, h1, h2, pO]
def a3J (G : St) (s : St) : Prop := ∃ (l : List (Nat × Nat)) (s' : St), swL s l = some s' ∧ s'.le G
theorem a5a : ∀ l : List SV, leT l l
 | [] => trivial
 | _ :: l => ⟨.inr rfl, a5a l⟩
theorem St.le_refl (s : St) : s.le s := ⟨a5a _, sM _⟩
theorem bR {s : St} : a3J s s := ⟨[], s, rfl, s.le_refl⟩
theorem a3K {G s s' : St} (l : List (Nat × Nat)) (h : swL s l = some s') (e : s' = G) : a3J G s := ⟨l, s', h, e ▸ s'.le_refl⟩
theorem b2G (hT : TyOK E.P E.T) (hE : ∀ t, E.eqk t ≠ [] → EqT E.P t (E.eqk t)) (hm : E.P.follows .mixedOrders = true) {id : Nat} {ops : List Oper} {F : Ex → St → Prop} {st G : St} (ps ls l0 w0 : List Nat) (t : PT)
    (hok : okE ops ps ls = true) (hl0 : (l0.all fun i => !ps.contains i) = true) (hn : okN ops ps [] ps w0 t = true) (ht : a0u ops ps t [] ps = true) (hlt : (ps.all fun q => decide (q < ops.length)) = true) (hb : st.okB = true)
    (h : a0k E ops (gM ops l0) st fun st1 => rV E st1 (gM ops w0) ∧ if t.isNil = true then a3J G st1 else wF E false ops t st1 (a3J G)) (hG : G.okB = true) (hF : F .normal G) : WP E.P E.C (.region id ops.toArray true) F st := fun g V a w hr => by
 refine wp_region_any hm ?_
 obtain ⟨st1, k1, k2, k3, k4⟩ := yA h
 have hf : ∀ j : Nat, j < ops.length → (Array.replicate ops.toArray.size false).getD j true = false := fun j hj => by simp [hj]
 have hle : st.le ⟨eY (lat ops ls) (Array.replicate ops.toArray.size false) st1.t, st1.h⟩ := by
  refine ⟨a3w (by rw [dC, k3]) fun d _ => ?_, by show leH st.h st1.h; rw [k2]; exact sM _⟩
  rw [gD]
  cases hh : jM (lat ops ls) (Array.replicate ops.toArray.size false) d with
  | true => exact .inl rfl
  | false =>
   right
   simp only [Bool.false_eq_true, if_false]
   refine (k4 d fun o ho hd => ?_).symm
   obtain ⟨j, hjl, hj⟩ := mK.1 ho
   have hnl : j ∉ ls := fun hm => by
    unfold okE at hok
    rw [Bool.and_eq_true] at hok
    have h1 := List.all_eq_true.1 hok.1 j hm
    have h2 := List.all_eq_true.1 hl0 j hjl
    rw [h1] at h2; cases h2
   have := (fB (lat ops ls) (Array.replicate ops.toArray.size false) d).2 ⟨j, o, xY hj hnl, hd, hf j (List.getElem?_eq_some_iff.1 hj).1⟩
   rw [hh] at this; cases this
 have hbt : ((eY (lat ops ls) (Array.replicate ops.toArray.size false) st1.t).all (·.below st1.h.length) && st1.h.all (·.below st1.h.length)) = true := by
  unfold St.okB at hb
  rw [Bool.and_eq_true] at hb ⊢
  rw [k2]
  refine ⟨List.all_eq_true.2 fun s hs => ?_, hb.2⟩
  obtain ⟨d, hd⟩ := List.mem_iff_getElem?.1 hs
  rcases (hle.1.get).2 d s hd with e | e
  ·subst e; rfl
  ·exact List.all_eq_true.1 hb.1 s (List.mem_of_getElem? e)
 have := a9G (eb := false) hT hE hok (Q := fun e a w => Post E.C F e a w) (K := a3J G) (fun g V st _ _ hr h => by
     obtain ⟨l, s', hs, hle⟩ := h
     obtain ⟨g', h1⟩ := hr.swL l hs
     exact ⟨_, V, G, h1.forget hle hG, hF⟩) ops.toArray.size (Array.replicate ops.toArray.size false) [] ps t w0 st1 _ V a { w with drawn := w.drawn + 1 } (by simp)
  (by unfold a0o; exact Nat.le_trans (List.length_filter_le _ _) (by simp)) (fun b o ho hl => by rw [hf b (List.getElem?_eq_some_iff.1 ho).1] at hl; cases hl) hn ht (fun e he => by simp at he)
  (fun q hq => by
   have hlq := of_decide_eq_true (List.all_eq_true.1 hlt q hq)
   exact ⟨hlq, hq, hf _ hlq⟩) (fun i _ hi _ => hi) k1.1 k1.2 ((hr.drawn).forget hle hbt)
 exact this
theorem b1o (hT : TyOK E.P E.T) (hE : ∀ t, E.eqk t ≠ [] → EqT E.P t (E.eqk t)) (hm : E.P.follows .mixedOrders = true) {id : Nat} {ops : List Oper} {F : Ex → St → Prop} {st : St} (ps ls l0 w0 : List Nat) (t : PT)
    (hok : okE ops ps ls = true) (hl0 : (l0.all fun i => !ps.contains i) = true) (hn : okN ops ps [] ps w0 t = true) (ht : a0u ops ps t [] ps = true) (hlt : (ps.all fun q => decide (q < ops.length)) = true) (hb : st.okB = true)
    (h : a0k E ops (gM ops l0) st fun st1 => rV E st1 (gM ops w0) ∧ if t.isNil = true then F .normal st1 else wF E true ops t st1 (F .normal)) : WP E.P E.C (.region id ops.toArray true) F st := fun g V a w hr => by
 refine wp_region_any hm ?_
 obtain ⟨st1, k1, k2, k3, k4⟩ := yA h
 have hf : ∀ j : Nat, j < ops.length → (Array.replicate ops.toArray.size false).getD j true = false := fun j hj => by simp [hj]
 have hle : st.le ⟨eY (lat ops ls) (Array.replicate ops.toArray.size false) st1.t, st1.h⟩ := by
  refine ⟨a3w (by rw [dC, k3]) fun d _ => ?_, by show leH st.h st1.h; rw [k2]; exact sM _⟩
  rw [gD]
  cases hh : jM (lat ops ls) (Array.replicate ops.toArray.size false) d with
  | true => exact .inl rfl
  | false =>
   right
   simp only [Bool.false_eq_true, if_false]
   refine (k4 d fun o ho hd => ?_).symm
   obtain ⟨j, hjl, hj⟩ := mK.1 ho
   have hnl : j ∉ ls := fun hm => by
    unfold okE at hok
    rw [Bool.and_eq_true] at hok
    have h1 := List.all_eq_true.1 hok.1 j hm
    have h2 := List.all_eq_true.1 hl0 j hjl
    rw [h1] at h2; cases h2
   have := (fB (lat ops ls) (Array.replicate ops.toArray.size false) d).2 ⟨j, o, xY hj hnl, hd, hf j (List.getElem?_eq_some_iff.1 hj).1⟩
   rw [hh] at this; cases this
 have hbt : ((eY (lat ops ls) (Array.replicate ops.toArray.size false) st1.t).all (·.below st1.h.length) && st1.h.all (·.below st1.h.length)) = true := by
  unfold St.okB at hb
  rw [Bool.and_eq_true] at hb ⊢
  rw [k2]
  refine ⟨List.all_eq_true.2 fun s hs => ?_, hb.2⟩
  obtain ⟨d, hd⟩ := List.mem_iff_getElem?.1 hs
  rcases (hle.1.get).2 d s hd with e | e
  ·subst e; rfl
  ·exact List.all_eq_true.1 hb.1 s (List.mem_of_getElem? e)
 have := a9G (eb := true) hT hE hok (Q := fun e a w => Post E.C F e a w) (K := F .normal) (fun g V st _ _ hr h => ⟨g, V, st, hr, h⟩) ops.toArray.size (Array.replicate ops.toArray.size false) [] ps t w0 st1 _ V a { w with drawn := w.drawn + 1 } (by simp)
  (by unfold a0o; exact Nat.le_trans (List.length_filter_le _ _) (by simp)) (fun b o ho hl => by rw [hf b (List.getElem?_eq_some_iff.1 ho).1] at hl; cases hl) hn ht (fun e he => by simp at he)
  (fun q hq => by
   have hlq := of_decide_eq_true (List.all_eq_true.1 hlt q hq)
   exact ⟨hlq, hq, hf _ hlq⟩) (fun i _ hi _ => hi) k1.1 k1.2 ((hr.drawn).forget hle hbt)
 exact this
structure vcTT (E : Env) (eb : Bool) (all : List Oper) (t : PO) (st : St) (K : St → Prop) (u : Tie (all, t, K)) : Prop where
 out : vcEJ E eb all t st K
structure vcTN (E : Env) (eb : Bool) (all w : List Oper) (t : PO) (st : St) (K : St → Prop) (u : Tie (all, w, t, K)) : Prop where
 out : rV E st w ∧ if t.isNil = true then K st else vcEJ E eb all t st K
def a9H (E : Env) (eb : Bool) (all : List Oper) (p : Nat) (l : List Oper) (st : St) (k : St → Prop) (_ : Tie (l, k)) : Prop := match a2X all p with
 | some o => efX E eb o st fun st' s => vcDRun E all l (st'.put o.dst s) k ⟨⟩
 | none => False
theorem bF {eb : Bool} {all : List Oper} {st : St} {K : St → Prop} : vcTT E eb all .nil st K ⟨⟩ := ⟨trivial⟩
theorem aQ {eb : Bool} {all l w' : List Oper} {p : Nat} {sub r : PO} {st : St} {K : St → Prop} (h : a9H E eb all p l st (fun st'' => vcTN E eb all w' sub st'' K ⟨⟩) ⟨⟩) (hr : vcTT E eb all r st K ⟨⟩) : vcTT E eb all (.cons p l w' sub r) st K ⟨⟩ := ⟨by
 refine ⟨?_, hr.out⟩
 have e2 : (fun st'' => vcTN E eb all w' sub st'' K ⟨⟩) = (fun st'' => rV E st'' w' ∧ if sub.isNil = true then K st'' else vcEJ E eb all sub st'' K) := funext fun s => propext ⟨fun h => h.out, fun h => ⟨h⟩⟩
 rw [e2] at h
 unfold a9H at h
 rw [tX] at h
 split at h
 ·rename_i o ho
  refine ⟨o, ho, ?_⟩
  have e4 : (fun (st' : St) (s : SV) => vcDRun E all l (st'.put o.dst s) (fun st'' => rV E st'' w' ∧ if sub.isNil = true then K st'' else vcEJ E eb all sub st'' K) ⟨⟩) = (fun st' s => a0k E all l (st'.put o.dst s) (fun st'' => rV E st'' w' ∧ if sub.isNil = true then K st'' else vcEJ E eb all sub st'' K)) := funext fun st' => funext fun s => propext ⟨fun h => h.out, fun h => ⟨h⟩⟩
  rw [e4] at h
  exact h
 ·exact h.elim⟩
theorem aR {eb : Bool} {all w : List Oper} {st : St} {K : St → Prop} (hc : rV E st w) (h : K st) : vcTN E eb all w .nil st K ⟨⟩ := ⟨hc, h⟩
theorem aT {eb : Bool} {all w l w' : List Oper} {p : Nat} {sub r : PO} {st : St} {K : St → Prop} (hc : rV E st w) (h : vcTT E eb all (.cons p l w' sub r) st K ⟨⟩) : vcTN E eb all w (.cons p l w' sub r) st K ⟨⟩ := ⟨hc, h.out⟩
end
attribute [go_sem] gM rQ a9H efX a4X a7g b2F a9D
end Go.Sx
end
section
namespace Go.Proofs.YtolgdibgnndoaaaGreat
open Go Go.Sx Go.RowKit Go.Proofs
def Ok2 (s : St) : Prop := s.okB = true
theorem oH {s : St} (h : s.okB = true := by simp only [go_sem] <;> fail) : Ok2 s := h
theorem rE {C : Ctx} {id : Nat} {ops L W : List Oper} {T : PO} {F : Ex → St → Prop} {st G : St} (ps ls l0 w0 : List Nat) (t : PT) (hl : gM ops l0 = L) (hw : gM ops w0 = W) (hp : rQ ops t = T)
    (hok : (okE ops ps ls && (l0.all fun i => !ps.contains i) && okN ops ps [] ps w0 t && a0u ops ps t [] ps && ps.all fun q => decide (q < ops.length)) = true) (hb : st.okB = true) (h : vcDRun (EV C) ops L st (fun st1 => vcTN (EV C) false ops W T st1 (a3J G) ⟨⟩) ⟨⟩) (hG : Ok2 G) (hF : F .normal G) : WP Tryz.prog C (.region id ops.toArray true) F st := by
 subst hl hw hp
 simp only [Bool.and_eq_true] at hok
 refine b2G (E := EV C) a0n a7U fol ps ls l0 w0 t hok.1.1.1.1 hok.1.1.1.2 hok.1.1.2 hok.1.2 hok.2 hb ?_ hG hF
 have e : (fun st1 => vcTN (EV C) false ops (gM ops w0) (rQ ops t) st1 (a3J G) ⟨⟩) = (fun st1 => rV (EV C) st1 (gM ops w0) ∧ if t.isNil = true then a3J G st1 else wF (EV C) false ops t st1 (a3J G)) := funext fun s => propext (by
  constructor
  ·intro h; have := h.out; rwa [zB, pO] at this
  ·intro h; exact ⟨by rwa [zB, pO]⟩)
 rw [e] at h
 exact h.out
theorem rF {C : Ctx} {id : Nat} {ops L W : List Oper} {T : PO} {F : Ex → St → Prop} {st : St} (ps ls l0 w0 : List Nat) (t : PT) (hl : gM ops l0 = L) (hw : gM ops w0 = W) (hp : rQ ops t = T)
    (hok : (okE ops ps ls && (l0.all fun i => !ps.contains i) && okN ops ps [] ps w0 t && a0u ops ps t [] ps && ps.all fun q => decide (q < ops.length)) = true) (hb : st.okB = true) (h : vcDRun (EV C) ops L st (fun st1 => vcTN (EV C) true ops W T st1 (F .normal) ⟨⟩) ⟨⟩) : WP Tryz.prog C (.region id ops.toArray true) F st := by
 subst hl hw hp
 simp only [Bool.and_eq_true] at hok
 refine b1o (E := EV C) a0n a7U fol ps ls l0 w0 t hok.1.1.1.1 hok.1.1.1.2 hok.1.1.2 hok.1.2 hok.2 hb ?_
 have e : (fun st1 => vcTN (EV C) true ops (gM ops w0) (rQ ops t) st1 (F .normal) ⟨⟩) = (fun st1 => rV (EV C) st1 (gM ops w0) ∧ if t.isNil = true then F .normal st1 else wF (EV C) true ops t st1 (F .normal)) := funext fun s => propext (by
  constructor
  ·intro h; have := h.out; rwa [zB, pO] at this
  ·intro h; exact ⟨by rwa [zB, pO]⟩)
 rw [e] at h
 exact h.out
instance clH {C : Ctx} {f : Nat} {args args' : List SV} {res : SV} {h : List HB} {k : List HB → SV → Prop} : Cy Tryz.prog f args' res (CallH (EV C) f args h k ⟨⟩) (args.map (eU (bI h (dY args))) = args' ∧ args'.all bY = true) (Nm (k (bI h (dY args) ++ adH res.all) (adS (bI h (dY args)).length res))) := ⟨fun hf o hk => CallH.det (CallG.frz (E := EV C) hf o.1 o.2 hk)⟩
theorem hO {C : Ctx} {f : Nat} {args args' : List SV} {res : SV} {h : List HB} {k : List HB → SV → Prop} (hf : FnC Tryz.prog f args' res) (hk : Nm (k (h ++ adG (fun _ => none) 0 res.all) (adS h.length res))) (he : args.map (dX h) = args' := by simp only [go_sem, qH] <;> fail) (hfree : args'.all bY = true := by simp only [go_sem, qH] <;> fail) (hres : res.all.all lJ = true := by simp only [go_sem, qH] <;> fail) : CallH (EV C) f args h k ⟨⟩ := CallH.det (cGo hf he hfree hres hk)
theorem hR {C : Ctx} {f : Nat} {args args' : List SV} {res : SV} {h : List HB} {k : List HB → SV → Prop} (hf : FnC Tryz.prog f args' res) (hk : Nm (k (h ++ adH res.all) (adS h.length res))) (he : args.map (dX h) = args' := by simp only [go_sem, qH] <;> fail) (hfree : args'.all bY = true := by simp only [go_sem, qH] <;> fail) (hres : res.all.all lJ = true := by simp only [go_sem, qH] <;> fail) : CallH (EV C) f args h k ⟨⟩ := CallH.det (cGr hf he hfree hres hk)
end Go.Proofs.YtolgdibgnndoaaaGreat
end
section
section
set_option linter.all false
set_option maxHeartbeats 1000000
namespace Go.Proofs.YtolgdibgnndoaaaGreat
open Go Go.Sx Go.RowKit Go.Proofs
structure TResult where
 fName : ByteArray
 fIDs : List Int
@[go_sem] def aN (x : TResult) : List D := [sv x.fName, .sl (x.fIDs.map iQ)]
@[go_sem] def a7i (x : TResult) : SV := .g [.d (sv x.fName), .d (.sl (x.fIDs.map iQ))]
@[go_sem] def b4u (x : TResult) : SV := .g [.d (sv x.fName), .w 3 1 (x.fIDs.map iQ)]
def iO (x : TResult) : Nat := x.fName.size + x.fIDs.length
def a9I (x : TResult) : Prop := x.fName.size ≤ 9223372036854775807 ∧ a3H x.fIDs
def aW (l : List TResult) : Nat := l.length + dN iO l
def a8g (l : List TResult) : Prop := l.length ≤ 9223372036854775807 ∧ ∀ x ∈ l, a9I x
end Go.Proofs.YtolgdibgnndoaaaGreat
end
section
set_option linter.all false
set_option maxHeartbeats 1000000
namespace Go.Proofs.YtolgdibgnndoaaaGreat
open Go Go.Sx Go.RowKit Go.Proofs
structure TDiff where
 fName : ByteArray
 fAdded : List Int
 fRemoved : List Int
@[go_sem] def b4v (x : TDiff) : List D := [sv x.fName, .sl (x.fAdded.map iQ), .sl (x.fRemoved.map iQ)]
@[go_sem] def b5z (x : TDiff) : SV := .g [.d (sv x.fName), .d (.sl (x.fAdded.map iQ)), .d (.sl (x.fRemoved.map iQ))]
@[go_sem] def b5A (x : TDiff) : SV := .g [.d (sv x.fName), .w 3 1 (x.fAdded.map iQ), .w 3 1 (x.fRemoved.map iQ)]
def b3Y (x : TDiff) : Nat := x.fName.size + x.fAdded.length + x.fRemoved.length
def b2H (x : TDiff) : Prop := x.fName.size ≤ 9223372036854775807 ∧ a3H x.fAdded ∧ a3H x.fRemoved
def b5e (l : List TDiff) : Nat := l.length + dN b3Y l
def b4w (l : List TDiff) : Prop := l.length ≤ 9223372036854775807 ∧ ∀ x ∈ l, b2H x
end Go.Proofs.YtolgdibgnndoaaaGreat
end
section
set_option linter.all false
set_option maxHeartbeats 1000000
namespace Go.Proofs.YtolgdibgnndoaaaGreat
open Go Go.Sx Go.RowKit Go.Proofs
structure TCatalog where
 fStore : TStore
 fDirs : List TDir
 fResults : List TResult
@[go_sem] def b2I (x : TCatalog) : List D := [.sl (x.fStore.fSchema.map cZ), .sl (x.fStore.fFiles.map eP), iv x.fStore.fNextID, .sl (x.fDirs.map cO), .sl (x.fResults.map aN)]
@[go_sem] def b3Z (x : TCatalog) : SV := .g [.d (.sl (x.fStore.fSchema.map cZ)), .d (.sl (x.fStore.fFiles.map eP)), .d (iv x.fStore.fNextID), .d (.sl (x.fDirs.map cO)), .d (.sl (x.fResults.map aN))]
@[go_sem] def b4a (x : TCatalog) : SV := .g [.w 187 2 (x.fStore.fSchema.map cZ), .w 27 5 (x.fStore.fFiles.map eP), .d (iv x.fStore.fNextID), .w 67 2 (x.fDirs.map cO), .w 115 2 (x.fResults.map aN)]
def a9J (x : TCatalog) : Nat := dV x.fStore + gL x.fDirs + aW x.fResults
def a8h (x : TCatalog) : Prop := a3I x.fStore ∧ a9C x.fDirs ∧ a8g x.fResults
def b3k (l : List TCatalog) : Nat := l.length + dN a9J l
def b2J (l : List TCatalog) : Prop := l.length ≤ 9223372036854775807 ∧ ∀ x ∈ l, a8h x
end Go.Proofs.YtolgdibgnndoaaaGreat
end
section
set_option linter.all false
set_option maxHeartbeats 1000000
namespace Go.Proofs.YtolgdibgnndoaaaGreat
open Go Go.Sx Go.RowKit Go.Proofs
structure TGroup where
 fValue : TValue
 fIDs : List Int
@[go_sem] def b4b (x : TGroup) : List D := [iv x.fValue.fKind, iv x.fValue.fInt, sv x.fValue.fStr, .sl (x.fIDs.map iQ)]
@[go_sem] def b5f (x : TGroup) : SV := .g [.d (iv x.fValue.fKind), .d (iv x.fValue.fInt), .d (sv x.fValue.fStr), .d (.sl (x.fIDs.map iQ))]
@[go_sem] def b5g (x : TGroup) : SV := .g [.d (iv x.fValue.fKind), .d (iv x.fValue.fInt), .d (sv x.fValue.fStr), .w 3 1 (x.fIDs.map iQ)]
def b2K (x : TGroup) : Nat := nG x.fValue + x.fIDs.length
def b1p (x : TGroup) : Prop := a0H x.fValue ∧ a3H x.fIDs
def b4x (l : List TGroup) : Nat := l.length + dN b2K l
def b4c (l : List TGroup) : Prop := l.length ≤ 9223372036854775807 ∧ ∀ x ∈ l, b1p x
end Go.Proofs.YtolgdibgnndoaaaGreat
end
section
set_option linter.all false
set_option maxHeartbeats 1000000
namespace Go.Proofs.YtolgdibgnndoaaaGreat
open Go Go.Sx Go.RowKit Go.Proofs
structure TEdit where
 fOK : Bool
 fSet : List TAttr
@[go_sem] def b4y (x : TEdit) : List D := [bv x.fOK, .sl (x.fSet.map fP)]
@[go_sem] def b5B (x : TEdit) : SV := .g [.d (bv x.fOK), .d (.sl (x.fSet.map fP))]
@[go_sem] def b5C (x : TEdit) : SV := .g [.d (bv x.fOK), .w 173 4 (x.fSet.map fP)]
def b4d (x : TEdit) : Nat := gT x.fSet
def b2L (x : TEdit) : Prop := True ∧ uG x.fSet
def b5h (l : List TEdit) : Nat := l.length + dN b4d l
def b4z (l : List TEdit) : Prop := l.length ≤ 9223372036854775807 ∧ ∀ x ∈ l, b2L x
end Go.Proofs.YtolgdibgnndoaaaGreat
end
section
set_option linter.all false
set_option maxHeartbeats 1000000
namespace Go.Proofs.YtolgdibgnndoaaaGreat
open Go Go.Sx Go.RowKit Go.Proofs
structure TChange where
 fKind : Int
 fFile : TFile
 fID : Int
 fDir : TDir
@[go_sem] def b3l (x : TChange) : List D := [iv x.fKind, iv x.fFile.fID, iv x.fFile.fOwner, bv x.fFile.fShared, iv x.fFile.fLink, .sl (x.fFile.fAttrs.map fP), iv x.fID, sv x.fDir.fName, .sl (x.fDir.fQuery.map bH)]
@[go_sem] def b4A (x : TChange) : SV := .g [.d (iv x.fKind), .d (iv x.fFile.fID), .d (iv x.fFile.fOwner), .d (bv x.fFile.fShared), .d (iv x.fFile.fLink), .d (.sl (x.fFile.fAttrs.map fP)), .d (iv x.fID), .d (sv x.fDir.fName), .d (.sl (x.fDir.fQuery.map bH))]
@[go_sem] def b4B (x : TChange) : SV := .g [.d (iv x.fKind), .d (iv x.fFile.fID), .d (iv x.fFile.fOwner), .d (bv x.fFile.fShared), .d (iv x.fFile.fLink), .w 173 4 (x.fFile.fAttrs.map fP), .d (iv x.fID), .d (sv x.fDir.fName), .w 98 7 (x.fDir.fQuery.map bH)]
def b1q (x : TChange) : Nat := eF x.fFile + iU x.fDir
def a9K (x : TChange) : Prop := inR .i64 x.fKind ∧ a6k x.fFile ∧ inR .i64 x.fID ∧ b1M x.fDir
def b4e (l : List TChange) : Nat := l.length + dN b1q l
def b3m (l : List TChange) : Prop := l.length ≤ 9223372036854775807 ∧ ∀ x ∈ l, a9K x
end Go.Proofs.YtolgdibgnndoaaaGreat
end
section
set_option linter.all false
set_option maxHeartbeats 1000000
namespace Go.Proofs.YtolgdibgnndoaaaGreat
open Go Go.Sx Go.RowKit Go.Proofs
structure TSnapshot where
 fStore : TStore
 fDirs : List TDir
@[go_sem] def b1N (x : TSnapshot) : List D := [.sl (x.fStore.fSchema.map cZ), .sl (x.fStore.fFiles.map eP), iv x.fStore.fNextID, .sl (x.fDirs.map cO)]
@[go_sem] def b3n (x : TSnapshot) : SV := .g [.d (.sl (x.fStore.fSchema.map cZ)), .d (.sl (x.fStore.fFiles.map eP)), .d (iv x.fStore.fNextID), .d (.sl (x.fDirs.map cO))]
@[go_sem] def b3o (x : TSnapshot) : SV := .g [.w 187 2 (x.fStore.fSchema.map cZ), .w 27 5 (x.fStore.fFiles.map eP), .d (iv x.fStore.fNextID), .w 67 2 (x.fDirs.map cO)]
def a8i (x : TSnapshot) : Nat := dV x.fStore + gL x.fDirs
def a6m (x : TSnapshot) : Prop := a3I x.fStore ∧ a9C x.fDirs
def b2M (l : List TSnapshot) : Nat := l.length + dN a8i l
def b1O (l : List TSnapshot) : Prop := l.length ≤ 9223372036854775807 ∧ ∀ x ∈ l, a6m x
end Go.Proofs.YtolgdibgnndoaaaGreat
end
section
set_option linter.all false
set_option maxHeartbeats 1000000
namespace Go.Proofs.YtolgdibgnndoaaaGreat
open Go Go.Sx Go.RowKit Go.Proofs
structure TDisk where
 fSlotA : ByteArray
 fSlotB : ByteArray
@[go_sem] def b4C (x : TDisk) : List D := [sv x.fSlotA, sv x.fSlotB]
@[go_sem] def b5D (x : TDisk) : SV := .g [.d (sv x.fSlotA), .d (sv x.fSlotB)]
def b4f (x : TDisk) : Nat := x.fSlotA.size + x.fSlotB.size
def b2N (x : TDisk) : Prop := x.fSlotA.size ≤ 9223372036854775807 ∧ x.fSlotB.size ≤ 9223372036854775807
def b5i (l : List TDisk) : Nat := l.length + dN b4f l
def b4D (l : List TDisk) : Prop := l.length ≤ 9223372036854775807 ∧ ∀ x ∈ l, b2N x
end Go.Proofs.YtolgdibgnndoaaaGreat
end
section
set_option linter.all false
namespace Go.Proofs.YtolgdibgnndoaaaGreat
open Go Go.Sx Go.RowKit Go.Proofs
def inB (n a b : Int) : Bool := decide (a ≤ n) && decide (n ≤ b)
theorem aL (n a b : Int) : FnC Tryz.prog 204 [oi n, oi a, oi b] (ob (inB n a b)) := by
 refine ent Tryz.func204 rfl Tryz.call204 rfl (fun C => ?_); simp only [go_sem, st0, Tryz.ntmps204]
 by_cases h0 : a ≤ n <;> by_cases h1 : n ≤ b
 all_goals
  have q0 := @h0; have q1 := @h1; have q2 := @decide_false; refine kE ?_
  refine aA ⟨⟨_, rfl, ?_⟩, ?_⟩
  ·simp only [go_sem]; simp [inB, h0, h1]
  ·trivial
theorem bO (n a b : Int) : FnC Tryz.prog 94 [oi n, oi a, oi b] (ob (inB n a b)) := by
 refine ent Tryz.func94 rfl Tryz.call94 rfl (fun C => ?_); simp only [go_sem, st0, Tryz.ntmps94]
 by_cases h0 : a ≤ n <;> by_cases h1 : n ≤ b
 all_goals
  have q0 := @h0; have q1 := @h1; have q2 := @decide_false; refine kE ?_
  refine aA ⟨⟨_, rfl, ?_⟩, ?_⟩
  ·simp only [go_sem]; simp [inB, h0, h1]
  ·trivial
end Go.Proofs.YtolgdibgnndoaaaGreat
end
section
set_option linter.all false
set_option maxHeartbeats 1000000
namespace Go.Proofs.YtolgdibgnndoaaaGreat
open Go Go.Sx Go.RowKit Go.Proofs
end Go.Proofs.YtolgdibgnndoaaaGreat
end
end
