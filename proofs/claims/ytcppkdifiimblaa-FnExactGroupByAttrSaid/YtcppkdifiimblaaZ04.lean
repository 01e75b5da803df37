/- Joined texts. -/
import Derived.Test.YtcppkdifiimblaaZ03
import Derived.Test.YtcppkdifiimblaaZ02
set_option linter.all false
section
section
set_option linter.all false
namespace Go.Sx
open Go Go.RowKit
inductive Plan where
 | node : List (Nat × Plan) → Plan
def a7I (ops : List Oper) : Nat → Array Bool → List (Nat × Plan) → Bool
 | 0, listed, l => (Region.ready .any ops.toArray listed).isEmpty && l.isEmpty
 | n + 1, listed, l => decide (Region.ready .any ops.toArray listed = l.map (·.1)) && l.all fun p => match p.2 with
  | .node r => a7I ops n (listed.setIfInBounds p.1 true) r
section
variable {E : Env}
def a1y (E : Env) (ops : List Oper) : Nat → List (Nat × Plan) → St → (St → Prop) → Prop
 | 0, _, st, K => K st
 | _ + 1, [], st, K => K st
 | n + 1, l, st, K => ∀ p ∈ l, match p.2 with
  | .node r => match ops[p.1]? with
   | some o => jG E ops [o] st fun st' => a1y E ops n r st' K
   | none => False
end
structure vcPT (E : Env) (all : List Oper) (n : Nat) (l : List (Nat × Plan)) (st : St) (K : St → Prop) (t : Tie (all, l, K)) : Prop where
 out : a1y E all n l st K
structure vcPL (E : Env) (all : List Oper) (n : Nat) (l : List (Nat × Plan)) (st : St) (K : St → Prop) (t : Tie (all, l, K)) : Prop where
 out : ∀ p ∈ l, match p.2 with
  | .node r => match all[p.1]? with
   | some o => jG E all [o] st fun st' => a1y E all n r st' K
   | none => False
def a8H (E : Env) (all : List Oper) (i : Nat) (st : St) (k : St → Prop) (_ : Tie k) : Prop := match xW all i with
 | some o => uG E all o st k ⟨⟩
 | none => False
section
variable {E : Env}
end
attribute [go_sem] a8H
end Go.Sx
end
section
set_option linter.all false
namespace Go.Sx
open Go Go.RowKit
def a6K (ds : List Nat) (o : Oper) : Bool := match o.op with
 | .call _ => (match o.dst with | some d => vY d ds | none => false)
 | _ => false
def yQ (ds : List Nat) (o : Oper) : Bool := lH o || a6K ds o
def rdX (ds : List Nat) : List Oper → List Oper
 | [] => []
 | o :: r => if yQ ds o then rdX ds r else o :: rdX ds r
def uR : List Oper → List Oper
 | [] => []
 | o :: r => if lH o then uR r else o :: uR r
structure CallG (E : Env) (f : Nat) (args : List SV) (h : List HB) (k : List HB → SV → Prop) (t : Tie k) : Prop where
 out : ∃ h' s, (∀ T, CallS E f args ⟨T, h⟩ fun st2 s2 => st2 = ⟨T, h'⟩ ∧ s2 = s) ∧ k h' s
theorem CallG.frz {E : Env} {f : Nat} {args args' : List SV} {res : SV} {h : List HB} {k : List HB → SV → Prop} (hf : FnC E.P f args' res) (he : args.map (cZ (aJ h (bB args))) = args') (hfree : args'.all aW = true) (hk : k (aJ h (bB args) ++ adH res.all) (adS (aJ h (bB args)).length res)) : CallG E f args h k ⟨⟩ :=
 ⟨_, _, fun T => CallS.frz (st := ⟨T, h⟩) hf he hfree ⟨rfl, rfl⟩, hk⟩
theorem CallG.lend {E : Env} {f : Nat} {args args' : List SV} {res : SV} {h : List HB} {k : List HB → SV → Prop} (hf : FnC E.P f args' res) (he : args.map (bH h) = args') (hfree : args'.all aW = true) (hres : res.all.all eP = true) (hk : k (h ++ adG (fun _ => none) 0 res.all) (adS h.length res)) : CallG E f args h k ⟨⟩ :=
 ⟨_, _, fun T => CallS.lend (st := ⟨T, h⟩) hf he hfree hres ⟨rfl, rfl⟩, hk⟩
def a1z (E : Env) (o : Oper) (st : St) (k : List HB → SV → Prop) : Prop := match o.op with
 | .call c => (match c.callee with
  | .value f => (match ev st f with
   | .o (.f fn caps) => CallG E fn (c.args.toList.map (ev st) ++ caps.map (fun cs => .o (.q cs))) st.h k ⟨⟩
   | _ => False)
  | _ => False)
 | _ => False
def a0l (all : List Oper) (i : Nat) (f : Oper → Bool) : Bool := match all[i]? with
 | some o => f o
 | none => true
def onE (o : Oper) (j : Nat) : Bool := o.after.any fun e => Region.binds .any e && e.on == j
def xF (all : List Oper) (ps ds : List Nat) : Bool :=
 (List.range all.length).all fun i => a0l all i fun o =>
  (match o.guard with | none => true | some (j, _) => !yQ ds o && onE o j && (match all[j]? with | some p => p.dst.isSome | none => false)) && (o.after.all fun e => !Region.binds .any e || decide (e.on < i)) && (yQ ds o == ps.contains i) &&
  (match o.dst with | none => lH o | some d => !lH o) &&
  ((List.range all.length).all fun j => a0l all j fun p => match p.dst with
   | none => true
   | some d => ((gY (opL o.op)).all fun t => t != d || onE o j) && (j == i || o.dst != some d))
def a0m : List Nat → List Oper → Bool
 | [], _ => true
 | p :: r, all => (r.all fun q => decide (p < q) && a0l all q fun o => onE o p) && a0m r all
def eX (all : List Oper) (listed : Array Bool) (d : Nat) : Bool := (List.range all.length).any fun j => !listed.getD j true && (match all[j]? with | some o => o.dst == some d | none => false)
def bU (all : List Oper) (listed : Array Bool) (T : List SV) : List SV := (List.range T.length).map fun d => if eX all listed d then .o .u else nth T d
section
variable {E : Env}
def jO (E : Env) (st : St) : List Oper → Prop
 | [] => True
 | o :: r => (match o.dst with
  | some d => vcD E o.op (ev st) st.h fun s => s = nth st.t d
  | none => False) ∧ jO E st r
def a5N (E : Env) (all : List Oper) (st : St) (o : Oper) (d : Nat) : Prop := match o.guard with
 | none => vcD E o.op (ev st) st.h fun s => s = nth st.t d
 | some (j, b) => bW (iN all j st) b (vcD E o.op (ev st) st.h fun s => s = nth st.t d) (SV.t [] = nth st.t d) ⟨⟩ ⟨⟩
def a0n (E : Env) (all : List Oper) (st : St) : List Oper → Prop
 | [] => True
 | o :: r => (match o.dst with
  | some d => a5N E all st o d
  | none => False) ∧ a0n E all st r
def a4k (E : Env) (o : Oper) (st : St) (k : St → Prop) : Prop := if lH o then aY E o.op st fun st' _ => k st' else a1z E o st fun h' s => (match o.dst with | some d => s = nth st.t d | none => False) ∧ k ⟨st.t, h'⟩
def nG (E : Env) (all : List Oper) (ds : List Nat) : List Nat → St → (St → Prop) → Prop
 | [], st, K => a0n E all st (rdX ds all) ∧ K st
 | p :: r, st, K => a0n E all st (rdX ds all) ∧ ∃ o, all[p]? = some o ∧ a4k E o st fun st' => nG E all ds r st' K
theorem bC (all : List Oper) (listed : Array Bool) (T : List SV) : (bU all listed T).length = T.length := by simp [bU]
theorem dB (all : List Oper) (listed : Array Bool) (T : List SV) (d : Nat) : nth (bU all listed T) d = if eX all listed d then .o .u else nth T d := by
 rcases Nat.lt_or_ge d T.length with h | h
 ·rw [jZ, List.getD_eq_getElem?_getD]
  simp [bU, h]
 ·rw [a0a (by rw [bC]; exact h), a0a h]
  split <;> rfl
theorem bX (all : List Oper) (listed : Array Bool) (d : Nat) : eX all listed d = true ↔ ∃ j o, all[j]? = some o ∧ o.dst = some d ∧ listed.getD j true = false := by
 unfold eX
 rw [List.any_eq_true]
 constructor
 ·rintro ⟨j, _, h⟩
  rw [Bool.and_eq_true] at h
  obtain ⟨h1, h2⟩ := h
  split at h2
  ·rename_i o ho
   exact ⟨j, o, ho, by simpa using h2, by simpa using h1⟩
  ·cases h2
 ·rintro ⟨j, o, ho, hd, hl⟩
  refine ⟨j, List.mem_range.2 (List.getElem?_eq_some_iff.1 ho).1, ?_⟩
  rw [hl, ho]; simp [hd]
theorem a0o {st : St} : ∀ {l : List Oper} {o : Oper}, jO E st l → o ∈ l → ∃ d, o.dst = some d ∧ vcD E o.op (ev st) st.h fun s => s = nth st.t d
 | [], o, _, h => by simp at h
 | x :: l, o, hc, h => by
  rcases List.mem_cons.1 h with rfl | h
  ·have h1 := hc.1
   split at h1
   ·rename_i d hd; exact ⟨d, hd, h1⟩
   ·exact h1.elim
  ·exact a0o hc.2 h
theorem a0p {all : List Oper} {st : St} : ∀ {l : List Oper} {o : Oper}, a0n E all st l → o ∈ l → ∃ d, o.dst = some d ∧ a5N E all st o d
 | [], o, _, h => by simp at h
 | x :: l, o, hc, h => by
  rcases List.mem_cons.1 h with rfl | h
  ·have h1 := hc.1
   split at h1
   ·rename_i d hd; exact ⟨d, hd, h1⟩
   ·exact h1.elim
  ·exact a0p hc.2 h
theorem yR {ds : List Nat} : ∀ {l : List Oper} {o : Oper}, o ∈ l → yQ ds o = false → o ∈ rdX ds l
 | [], o, h, _ => by simp at h
 | x :: l, o, h, hs => by
  unfold rdX
  rcases List.mem_cons.1 h with rfl | h
  ·rw [hs]; simp
  ·split
   ·exact yR h hs
   ·exact List.mem_cons_of_mem _ (yR h hs)
theorem a3g {all : List Oper} {ds ps : List Nat} {st : St} {K : St → Prop} (h : nG E all ds ps st K) : a0n E all st (rdX ds all) := by
 cases ps with
 | nil => exact h.1
 | cons p r => exact h.1
theorem a1A {t : Nat} {x v : Operand} {st : St} {k : St → SV → Prop} {T : List SV} (h : aY E (.store t x v) st k) (hx : ev ⟨T, st.h⟩ x = ev st x) (hv : ev ⟨T, st.h⟩ v = ev st v) : aY E (.store t x v) ⟨T, st.h⟩ fun st2 _ => ∃ H s, st2 = ⟨T, H⟩ ∧ k ⟨st.t, H⟩ s := by
 simp only [aY, hx, hv] at h ⊢
 split at h
 ·unfold fQ at h ⊢
  dsimp only at h ⊢
  obtain ⟨h1, h2, h3, h4, h5, h⟩ := h
  refine ⟨h1, h2, h3, h4, h5, ?_⟩
  split at h
  ·rename_i e1 e2
   split at h
   ·rename_i e3
    try simp only [e3]
    exact ⟨h.1, h.2.1, _, _, rfl, h.2.2⟩
   ·exact h.elim
  ·exact h.elim
 ·unfold eY at h ⊢
  dsimp only at h ⊢
  split at h
  ·split at h
   ·rename_i e1
    try simp only [e1]
    split at h
    ·rename_i e2 e3
     try simp only [e2, e3]
     exact ⟨h.1, h.2.1, h.2.2.1, h.2.2.2.1, _, _, rfl, h.2.2.2.2⟩
    ·exact h.elim
   ·exact h.elim
  ·exact h.elim
 ·unfold iQ at h ⊢
  dsimp only at h ⊢
  split at h
  ·split at h
   ·rename_i e1
    try simp only [e1]
    split at h
    ·rename_i e2
     try simp only [e2]
     exact ⟨h.1, h.2.1, h.2.2.1, h.2.2.2.1, _, _, rfl, h.2.2.2.2⟩
    ·exact h.elim
   ·rename_i e1
    try simp only [e1]
    split at h
    ·rename_i e0
     try simp only [e0]
     split at h
     ·rename_i e2
      try simp only [e2]
      exact ⟨h.1, h.2.1, _, _, rfl, h.2.2⟩
     ·exact h.elim
    ·exact h.elim
   ·exact h.elim
  ·exact h.elim
def rZ (all : List Oper) (listed : Array Bool) : Nat := ((List.range all.length).filter fun j => !listed.getD j true).length
theorem xG {all : List Oper} {listed : Array Bool} {i : Nat} (hi : i < all.length) (hu : listed.getD i true = false) : rZ all (listed.setIfInBounds i true) < rZ all listed := by
 unfold rZ
 have key : ∀ l : List Nat, i ∈ l → ((l.filter fun j => !(listed.setIfInBounds i true).getD j true).length < (l.filter fun j => !listed.getD j true).length) ∧ True := by
  intro l hl
  refine ⟨?_, trivial⟩
  have le : ∀ l : List Nat, (l.filter fun j => !(listed.setIfInBounds i true).getD j true).length ≤ (l.filter fun j => !listed.getD j true).length := by
   intro l
   induction l with
   | nil => simp
   | cons x l ih =>
    simp only [List.filter_cons]
    by_cases e : i = x
    ·subst e; rw [aT]; simp only [Bool.not_true, Bool.false_eq_true, if_false]; split <;> (try simp only [List.length_cons]) <;> omega
    ·rw [getD_set_ne true e]; split <;> (try simp only [List.length_cons]) <;> omega
  induction l with
  | nil => simp at hl
  | cons x l ih =>
   simp only [List.filter_cons]
   by_cases e : i = x
   ·subst e
    rw [aT, hu]
    have := le l
    simp only [Bool.not_true, Bool.not_false, Bool.false_eq_true, if_false, if_true, List.length_cons]; omega
   ·rw [getD_set_ne true e]
    have := ih (by rcases List.mem_cons.1 hl with h | h; exact (e h).elim; exact h)
    split <;> (try simp only [List.length_cons]) <;> omega
 exact (key _ (List.mem_range.2 hi)).1
theorem a3h (hT : TyOK E.P E.T) (hE : ∀ t, E.eqk t ≠ [] → EqT E.P t (E.eqk t)) {all : List Oper} {ps0 ds : List Nat} (hok : xF all ps0 ds = true) {Q : Exit → Act → World → Prop} {K : St → Prop} (hQ : ∀ g V st a w, Rel E.C g V st a w → K st → Q .normal a w) :
    ∀ (n : Nat) (listed : Array Bool) (ps : List Nat) (st : St) (g : List Gh) (V : View) (a : Act) (w : World), listed.size = all.length → rZ all listed ≤ n → a0m ps all = true → (∀ i ∈ ps, i ∈ ps0) → (∀ i, i < all.length → i ∈ ps0 → listed.getD i true = false → i ∈ ps) → (∀ i ∈ ps, listed.getD i true = false) →
     nG E all ds ps st K → Rel E.C g V ⟨bU all listed st.t, st.h⟩ a w → wpAny E.P .any all.toArray Q n listed a w := by
 have spec : ∀ (i : Nat) (o : Oper), all[i]? = some o → (∀ j b, o.guard = some (j, b) → yQ ds o = false ∧ onE o j = true ∧ ∃ p dj, all[j]? = some p ∧ p.dst = some dj) ∧ (∀ e ∈ o.after, Region.binds .any e = true → e.on < i) ∧ (yQ ds o = true ↔ i ∈ ps0) ∧ (lH o = true → o.dst = none) ∧ (lH o = false → ∃ d, o.dst = some d) ∧
     (∀ (j : Nat) (p : Oper) (d : Nat), all[j]? = some p → p.dst = some d → (∀ t ∈ gY (opL o.op), t = d → onE o j = true) ∧ (j ≠ i → o.dst ≠ some d)) := fun i o ho => by
  have h := List.all_eq_true.1 hok i (List.mem_range.2 (List.getElem?_eq_some_iff.1 ho).1)
  unfold a0l at h
  rw [ho] at h
  simp only [Bool.and_eq_true] at h
  obtain ⟨⟨⟨⟨h1, h2⟩, h3⟩, h4⟩, h5⟩ := h
  refine ⟨fun j b hg => ?_, fun e he hb => ?_, ?_, fun hs => ?_, fun hs => ?_, fun j p d hj hd => ?_⟩
  ·rw [hg] at h1
   simp only [Bool.and_eq_true, Bool.not_eq_true'] at h1
   refine ⟨h1.1.1, h1.1.2, ?_⟩
   have h6 := h1.2
   split at h6
   ·rename_i p hp
    obtain ⟨dj, hdj⟩ := Option.isSome_iff_exists.1 h6
    exact ⟨p, dj, hp, hdj⟩
   ·cases h6
  ·have := (Array.all_eq_true_iff_forall_mem.1 h2) e he
   rw [hb] at this
   simpa using this
  ·have h3 := beq_iff_eq.1 h3
   rw [h3]; exact List.contains_iff_mem
  ·cases hd : o.dst with
   | none => rfl
   | some d => rw [hd, hs] at h4; cases h4
  ·cases hd : o.dst with
   | none => rw [hd, hs] at h4; cases h4
   | some d => exact ⟨d, rfl⟩
  ·have h := List.all_eq_true.1 h5 j (List.mem_range.2 (List.getElem?_eq_some_iff.1 hj).1)
   rw [hj] at h
   simp only [hd, Bool.and_eq_true] at h
   refine ⟨fun t ht e => ?_, fun hne => ?_⟩
   ·have := List.all_eq_true.1 h.1 t ht
    subst e
    simpa using this
   ·rcases Bool.or_eq_true_iff.1 h.2 with h | h
    ·exact (hne (beq_iff_eq.1 h)).elim
    ·simpa using h
 have toT : ∀ {listed : Array Bool} {j : Nat}, listed.getD j false = true → listed.getD j true = true := fun {listed j} h => by
  rcases Nat.lt_or_ge j listed.size with h' | h'
  ·simp [h'] at h ⊢; exact h
  ·simp [Array.getElem?_eq_none h'] at h
 have fin : ∀ (listed : Array Bool) (ps : List Nat) (st : St) (g : List Gh) (V : View) (a : Act) (w : World), (∀ j, j < all.length → listed.getD j true = true) → (∀ i ∈ ps, i ∈ ps0) → (∀ i ∈ ps, listed.getD i true = false) → (∀ i ∈ ps0, True) → nG E all ds ps st K → Rel E.C g V ⟨bU all listed st.t, st.h⟩ a w → Q .normal a w := fun listed ps st g V a w hl h1 h2 _ hv hr => by
  have hm : bU all listed st.t = st.t := by
   apply List.ext_getElem?
   intro d
   rcases Nat.lt_or_ge d st.t.length with h | h
   ·rw [eT (by rw [bC]; exact h), eT h, dB]
    have : eX all listed d = false := by
     cases hh : eX all listed d with
     | false => rfl
     | true =>
      obtain ⟨j, o, ho, _, hu⟩ := (bX all listed d).1 hh
      rw [hl j (List.getElem?_eq_some_iff.1 ho).1] at hu; cases hu
    rw [this]; simp
   ·rw [List.getElem?_eq_none (by rw [bC]; exact h), List.getElem?_eq_none h]
  rw [hm] at hr
  cases ps with
  | nil => exact hQ _ _ _ _ _ hr hv.2
  | cons p r =>
   obtain ⟨_, o, ho, _⟩ := hv
   have := h2 p (by simp)
   rw [hl p (List.getElem?_eq_some_iff.1 ho).1] at this; cases this
 have none_left : ∀ (listed : Array Bool), listed.size = all.length → Region.ready .any all.toArray listed = [] → ∀ j, j < all.length → listed.getD j true = true := fun listed hsz hr => by
  intro j
  induction j using Nat.strongRecOn with
  | _ j ih =>
   intro hj
   cases hq : listed.getD j true with
   | true => rfl
   | false =>
    have ho : all[j]? = some (all[j]'hj) := List.getElem?_eq_getElem hj
    have : j ∈ Region.ready .any all.toArray listed := mem_ready.2 ⟨hq, _, toA ho, fun e he hb => by
     have hlt := (spec j _ ho).2.1 e he hb
     have h1 := ih e.on hlt (by omega)
     have hes : e.on < listed.size := by omega
     simp [hes] at h1 ⊢; exact h1⟩
    rw [hr] at this; cases this
 intro n
 induction n with
 | zero =>
  intro listed ps st g V a w hsz hn hup hps0 hall hps hv hr
  have hl : ∀ j, j < all.length → listed.getD j true = true := fun j hj => by
   cases hq : listed.getD j true with
   | true => rfl
   | false =>
    have : j ∈ (List.range all.length).filter fun j => !listed.getD j true := List.mem_filter.2 ⟨List.mem_range.2 hj, by rw [hq]; rfl⟩
    have := List.length_pos_of_mem this
    unfold rZ at hn
    omega
  refine ⟨List.eq_nil_iff_forall_not_mem.2 fun i hi => ?_, fin listed ps st g V a w hl hps0 hps (fun _ _ => trivial) hv hr⟩
  obtain ⟨h1, o, h2, _⟩ := mem_ready.1 hi
  rw [hl i (by simpa using (Array.getElem?_eq_some_iff.1 h2).1)] at h1; cases h1
 | succ n ih =>
  intro listed ps st g V a w hsz hn hup hps0 hall hps hv hr
  refine ⟨fun he => fin listed ps st g V a w (none_left listed hsz he) hps0 hps (fun _ _ => trivial) hv hr, fun i hi => ?_⟩
  obtain ⟨hun, o, ho', haft⟩ := mem_ready.1 hi
  have ho : all[i]? = some o := by simpa using ho'
  have hil := (List.getElem?_eq_some_iff.1 ho).1
  obtain ⟨s1, s2, s3, s4, s5, s6⟩ := spec i o ho
  have hun' : rZ all (listed.setIfInBounds i true) ≤ n := by have := xG hil hun; omega
  have evEq : ∀ x ∈ o.op.operands, ev ⟨bU all listed st.t, st.h⟩ x = ev st x := fun x hx => by
   cases x with
   | tmp t =>
    show nth (bU all listed st.t) t = nth st.t t
    rw [dB]
    have : eX all listed t = false := by
     cases hh : eX all listed t with
     | false => rfl
     | true =>
      obtain ⟨j, p, hj, hd, hu⟩ := (bX all listed t).1 hh
      have h1 := (s6 j p t hj hd).1 t (jV.2 (by rw [yD]; simpa using hx)) rfl
      obtain ⟨e, he, hb⟩ := Array.any_eq_true'.1 h1
      simp only [Bool.and_eq_true, beq_iff_eq] at hb
      have h2 := toT (haft e he hb.1)
      rw [hb.2, hu] at h2; cases h2
    rw [this]; simp
   | const v => rfl
   | func f => rfl
   | global m => rfl
  have vis : ∀ j p dj, all[j]? = some p → p.dst = some dj → onE o j = true → nth (bU all listed st.t) dj = nth st.t dj := fun j p dj hj hdj hon => by
   rw [dB]
   have : eX all listed dj = false := by
    cases hh : eX all listed dj with
    | false => rfl
    | true =>
     obtain ⟨j2, q, hj2, hd2, hu⟩ := (bX all listed dj).1 hh
     obtain ⟨e, he, hb⟩ := Array.any_eq_true'.1 hon
     simp only [Bool.and_eq_true, beq_iff_eq] at hb
     have h2 := toT (haft e he hb.1)
     rw [hb.2] at h2
     by_cases e2 : j2 = j
     ·subst e2; rw [h2] at hu; cases hu
     ·exact (((spec j p hj).2.2.2.2.2 j2 q dj hj2 hd2).2 e2 hdj).elim
   rw [this]; simp
  have keep : ∀ j, j ≠ i → (listed.setIfInBounds i true).getD j true = listed.getD j true := fun j hj => getD_set_ne true (fun e => hj e.symm)
  have putE : ∀ d, o.dst = some d → ∀ H, (St.put ⟨bU all listed st.t, H⟩ o.dst (nth st.t d)) = ⟨bU all (listed.setIfInBounds i true) st.t, H⟩ := fun d hd H => by
      rw [hd]
      simp only [St.put, iP]
      congr 1
      apply List.ext_getElem?
      intro m
      rw [List.getElem?_set]
      rcases Nat.lt_or_ge m st.t.length with hm | hm
      ·rw [eT (l := bU all (listed.setIfInBounds i true) st.t) (by rw [bC]; exact hm), dB]
       by_cases e : d = m
       ·subst e
        rw [if_pos rfl, if_pos (by rw [bC]; exact hm)]
        have : eX all (listed.setIfInBounds i true) d = false := by
         cases hh : eX all (listed.setIfInBounds i true) d with
         | false => rfl
         | true =>
          obtain ⟨j, p, hj, hd2, hu⟩ := (bX _ _ d).1 hh
          by_cases e : j = i
          ·subst e; rw [aT] at hu; cases hu
          ·exact ((s6 j p d hj hd2).2 e hd).elim
        rw [this]; simp
       ·rw [if_neg e, eT (by rw [bC]; exact hm), dB]
        have : eX all (listed.setIfInBounds i true) m = eX all listed m := by
         rw [Bool.eq_iff_iff, bX, bX]
         constructor
         ·rintro ⟨j, p, hj, hd2, hu⟩
          refine ⟨j, p, hj, hd2, ?_⟩
          by_cases e2 : j = i
          ·subst e2; rw [aT] at hu; cases hu
          ·rwa [keep j e2] at hu
         ·rintro ⟨j, p, hj, hd2, hu⟩
          refine ⟨j, p, hj, hd2, ?_⟩
          by_cases e2 : j = i
          ·subst e2; rw [ho] at hj; cases hj; rw [hd] at hd2; cases hd2; exact (e rfl).elim
          ·rwa [keep j e2]
        rw [this]
      ·rw [List.getElem?_eq_none (l := bU all (listed.setIfInBounds i true) st.t) (by rw [bC]; exact hm)]
       split
       ·rename_i e; subst e
        rw [if_neg (by rw [bC]; omega)]
       ·rw [List.getElem?_eq_none (l := bU all listed st.t) (by rw [bC]; exact hm)]
  cases hef : yQ ds o with
  | false =>
   have hs : lH o = false := by unfold yQ at hef; exact (Bool.or_eq_false_iff.1 hef).1
   have hmem := yR (List.mem_of_getElem? ho) hef
   obtain ⟨d, hd, hvc⟩ := a0p (a3g hv) hmem
   have hnot : i ∉ ps := fun hm => by
    have := s3.2 (hps0 i hm)
    rw [hef] at this; cases this
   have run : ∀ {k : SV → Prop}, (vcD E o.op (ev st) st.h fun s => s = nth st.t d) → k (nth st.t d) → vcD E o.op (ev ⟨bU all listed st.t, st.h⟩) st.h k := fun {k} hv hk => by
    obtain ⟨s, h1, h2⟩ := sK (mH (fun x hx => (evEq x hx).symm) hv)
    exact h2 k (by rw [h1]; exact hk)
   refine a3M hT hE ho' hr (K := fun st' => st' = ⟨bU all (listed.setIfInBounds i true) st.t, st.h⟩) (fun g' V' st' a' w' hr2 hk => ?_) ?_
   ·subst hk
    exact ih _ ps st g' V' _ _ (by simp [hsz]) hun' hup hps0 (fun j hj hj0 hu => by
     by_cases e2 : j = i
     ·subst e2; rw [aT] at hu; cases hu
     ·rw [keep j e2] at hu; exact hall j hj hj0 hu) (fun j hj => by
     have e2 : j ≠ i := fun e => hnot (e ▸ hj)
     rw [keep j e2]; exact hps j hj) hv hr2
   ·unfold a5N at hvc
    unfold sop
    split at hvc
    ·rename_i hg
     simp only [hg]
     exact run hvc (putE d hd st.h)
    ·rename_i j b hg
     simp only [hg]
     obtain ⟨_, hon, p, dj, hj, hdj⟩ := s1 j b hg
     have ed : iN all j ⟨bU all listed st.t, st.h⟩ = iN all j st := by
      unfold iN
      rw [lZ, hj]
      simp only [hdj]
      exact vis j p dj hj hdj hon
     rw [ed]
     unfold bW at hvc ⊢
     split at hvc
     ·exact ⟨fun h => run (hvc.1 h) (putE d hd st.h), fun h => by rw [hvc.2 h]; exact putE d hd st.h⟩
     ·rw [hvc]; exact putE d hd st.h
     ·exact hvc.elim
  | true =>
   have s1 : o.guard = none := by
    cases hg : o.guard with
    | none => rfl
    | some x => obtain ⟨j, b⟩ := x; have := (s1 j b hg).1; rw [hef] at this; cases this
   unfold wpOp
   rw [ho']
   simp only [Region.wanted, s1, if_true]
   refine .inl ?_
   have hip := hall i hil (s3.1 hef) hun
   cases ps with
   | nil => simp at hip
   | cons p r =>
    obtain ⟨hc, o2, ho2, hvo⟩ := hv
    unfold a0m at hup
    rw [Bool.and_eq_true] at hup
    have hpi : p = i := by
     rcases List.mem_cons.1 hip with e | hm
     ·exact e.symm
     ·have h1 := List.all_eq_true.1 hup.1 i hm
      unfold a0l at h1
      rw [ho] at h1
      simp only [Bool.and_eq_true] at h1
      obtain ⟨e, he, hb⟩ := Array.any_eq_true'.1 h1.2
      simp only [Bool.and_eq_true, beq_iff_eq] at hb
      have h2 := toT (haft e he hb.1)
      rw [hb.2, hps p (by simp)] at h2; cases h2
    subst hpi
    rw [ho] at ho2; cases ho2
    have hlt : ∀ q ∈ r, p < q := fun q hq => by
     have := List.all_eq_true.1 hup.1 q hq
     rw [Bool.and_eq_true] at this
     exact of_decide_eq_true this.1
    have rest : ∀ H g' V' a' w', Rel E.C g' V' ⟨bU all (listed.setIfInBounds p true) st.t, H⟩ a' w' → nG E all ds r ⟨st.t, H⟩ K → wpAny E.P .any all.toArray Q n (listed.setIfInBounds p true) a' w' := fun H g' V' a' w' hr2 hk =>
     ih _ r ⟨st.t, H⟩ g' V' _ _ (by simp [hsz]) hun' hup.2 (fun j hj => hps0 j (List.mem_cons_of_mem _ hj)) (fun j hj hj0 hu => by
      by_cases e2 : j = p
      ·subst e2; rw [aT] at hu; cases hu
      ·rw [keep j e2] at hu
       rcases List.mem_cons.1 (hall j hj hj0 hu) with e | h
       ·exact (e2 e).elim
       ·exact h) (fun j hj => by
      have := hlt j hj
      rw [keep j (by omega)]; exact hps j (List.mem_cons_of_mem _ hj)) hk hr2
    cases hs : lH o with
    | false =>
     unfold a4k at hvo
     rw [if_neg (by rw [hs]; simp)] at hvo
     obtain ⟨d, hd⟩ := s5 hs
     unfold a1z at hvo
     split at hvo
     ·rename_i c hop
      split at hvo
      ·rename_i f hc
       have hfe : ev ⟨bU all listed st.t, st.h⟩ f = ev st f := evEq f (by rw [hop]; simp [Op.operands, Call.operands, hc])
       have hargs : c.args.toList.map (ev ⟨bU all listed st.t, st.h⟩) = c.args.toList.map (ev st) := List.map_congr_left fun x hx => evEq x (by rw [hop]; simp only [Op.operands, Call.operands, Array.mem_append]; exact .inr (by simpa using hx))
       split at hvo
       ·rename_i fn caps hfn
        obtain ⟨h', s', hcall, hsd, hk⟩ := hvo
        rw [hd] at hsd
        have hsd : s' = nth st.t d := hsd
        subst hsd
        have h1 : aY E o.op ⟨bU all listed st.t, st.h⟩ fun st2 s2 => st2 = ⟨bU all listed st.t, h'⟩ ∧ s2 = nth st.t d := by
         rw [hop]
         simp only [aY, dJ, hc, hfe, hfn, hargs]
         exact ⟨hcall _⟩
        refine jX hT hE h1 hr fun g' V' st' w' s y hr' hsy hk2 => ?_
        obtain ⟨rfl, rfl⟩ := hk2
        have hr2 := hr'.put o.dst hsy
        rw [putE d hd] at hr2
        exact rest h' g' V' _ _ hr2 hk
       ·exact hvo.elim
      ·exact hvo.elim
     ·exact hvo.elim
    | true =>
    unfold a4k at hvo
    rw [if_pos hs] at hvo
    have hd := s4 hs
    obtain ⟨t, x, v, hop⟩ : ∃ t x v, o.op = .store t x v := by
     unfold lH at hs
     split at hs
     ·rename_i t x v e; exact ⟨t, x, v, e⟩
     ·cases hs
    rw [hop] at hvo
    have h1 := a1A (T := bU all listed st.t) hvo (evEq x (by rw [hop]; simp [Op.operands])) (evEq v (by rw [hop]; simp [Op.operands]))
    rw [← hop] at h1
    refine jX hT hE h1 hr fun g' V' st' w' s y hr' hsy hk => ?_
    obtain ⟨H, s', rfl, hk⟩ := hk
    have hr2 := hr'.put o.dst hsy
    rw [hd] at hr2 ⊢
    have em : bU all (listed.setIfInBounds p true) st.t = bU all listed st.t := by
     unfold bU
     refine List.map_congr_left fun m _ => ?_
     have : eX all (listed.setIfInBounds p true) m = eX all listed m := by
      rw [Bool.eq_iff_iff, bX, bX]
      constructor
      ·rintro ⟨j, q, hj, hd2, hu⟩
       refine ⟨j, q, hj, hd2, ?_⟩
       by_cases e2 : j = p
       ·subst e2; rw [aT] at hu; cases hu
       ·rwa [keep j e2] at hu
      ·rintro ⟨j, q, hj, hd2, hu⟩
       refine ⟨j, q, hj, hd2, ?_⟩
       by_cases e2 : j = p
       ·subst e2; rw [ho] at hj; cases hj; rw [hd] at hd2; cases hd2
       ·rwa [keep j e2]
     rw [this]
    refine rest H g' V' _ _ ?_ hk
    rw [em]; exact hr2
theorem yS : ∀ {l m : List SV}, l.length = m.length → (∀ d, d < m.length → nth m d = .o .u ∨ nth l d = nth m d) → leT l m
 | [], [], _, _ => trivial
 | [], _ :: _, h, _ => by simp at h
 | _ :: _, [], h, _ => by simp at h
 | x :: l, y :: m, h, k => ⟨k 0 (by simp), yS (by simpa using h) fun d hd => k (d + 1) (by simpa using hd)⟩
theorem lN : ∀ h : List HB, leH h h
 | [] => trivial
 | _ :: l => ⟨.inr rfl, lN l⟩
theorem yT {st : St} {d n : Nat} {s : SV} (h : n ≠ d) : nth (st.put (some d) s).t n = nth st.t n := by
 have h' : d ≠ n := fun e => h e.symm
 simp only [St.put, iP, jZ, List.getD_eq_getElem?_getD, List.getElem?_set, if_neg h']
def a5O (E : Env) (ds : List Nat) (all : List Oper) (o : Oper) (st : St) (k : St → Prop) : Prop := if a6K ds o then a1z E o st fun h' s => k ⟨(st.put o.dst s).t, h'⟩ else sop E all o st k
def vcGs (E : Env) (ds : List Nat) (all : List Oper) : List Oper → St → (St → Prop) → Prop
 | [], st, K => K st
 | o :: r, st, K => a5O E ds all o st fun st' => vcGs E ds all r st' K
theorem a0q {ds : List Nat} {all : List Oper} : ∀ {l : List Oper} {st : St} {K : St → Prop}, vcGs E ds all l st K → ∃ st1, K st1 ∧ st1.t.length = st.t.length ∧ ∀ d, (∀ o ∈ l, o.dst ≠ some d) → nth st1.t d = nth st.t d
 | [], st, K, h => ⟨st, h, rfl, fun _ _ => rfl⟩
 | o :: l, st, K, h => by
  have key : ∃ s H, vcGs E ds all l ⟨(st.put o.dst s).t, H⟩ K := by
   unfold vcGs a5O at h
   split at h
   ·unfold a1z at h
    split at h
    ·split at h
     ·split at h
      ·obtain ⟨h', s, _, hk⟩ := h; exact ⟨s, h', hk⟩
      ·exact h.elim
     ·exact h.elim
    ·exact h.elim
   ·obtain ⟨s, h1, _⟩ := yA h; exact ⟨s, (st.put o.dst s).h, h1⟩
  obtain ⟨s, H, h1⟩ := key
  obtain ⟨st1, k1, k3, k4⟩ := a0q h1
  refine ⟨st1, k1, by rw [k3]; exact sM .., fun d hd => ?_⟩
  rw [k4 d fun p hp => hd p (List.mem_cons_of_mem _ hp)]
  cases ho : o.dst with
  | none => rfl
  | some e => exact yT fun e2 => hd o (by simp) (by rw [ho, e2])
theorem uS : ∀ {l : List Oper} {o : Oper}, o ∈ uR l → o ∈ l
 | [], o, h => by simp [uR] at h
 | x :: l, o, h => by
  unfold uR at h
  split at h
  ·exact List.mem_cons_of_mem _ (uS h)
  ·rcases List.mem_cons.1 h with rfl | h
   ·simp
   ·exact List.mem_cons_of_mem _ (uS h)
theorem xH (hT : TyOK E.P E.T) (hE : ∀ t, E.eqk t ≠ [] → EqT E.P t (E.eqk t)) (hm : E.P.follows .mixedOrders = true) {id : Nat} {ops : List Oper} {F : Ex → St → Prop} {st : St} (ps ds : List Nat) (hok : xF ops ps ds = true) (hup : a0m ps ops = true) (hlt : (ps.all fun i => decide (i < ops.length)) = true) (hb : st.okB = true)
    (h : vcGs E ds ops (uR ops) st fun st1 => nG E ops ds ps ⟨st1.t, st.h⟩ (F .normal)) : WP E.P E.C (.region id ops.toArray true) F st := fun g V a w hr => by
 refine wp_region_any hm ?_
 obtain ⟨st1, k1, k3, k4⟩ := a0q h
 have hf : ∀ j : Nat, j < ops.length → (Array.replicate ops.toArray.size false).getD j true = false := fun j hj => by simp [hj]
 have hle : st.le ⟨bU ops (Array.replicate ops.toArray.size false) st1.t, st.h⟩ := by
  refine ⟨yS (by rw [bC, k3]) fun d _ => ?_, lN _⟩
  rw [dB]
  cases hh : eX ops (Array.replicate ops.toArray.size false) d with
  | true => exact .inl rfl
  | false =>
   right
   simp only [Bool.false_eq_true, if_false]
   refine (k4 d fun o ho hd => ?_).symm
   obtain ⟨j, hj⟩ := List.mem_iff_getElem?.1 (uS ho)
   have := (bX ops (Array.replicate ops.toArray.size false) d).2 ⟨j, o, hj, hd, hf j (List.getElem?_eq_some_iff.1 hj).1⟩
   rw [hh] at this; cases this
 have hbt : ((bU ops (Array.replicate ops.toArray.size false) st1.t).all (·.below st.h.length) && st.h.all (·.below st.h.length)) = true := by
  unfold St.okB at hb
  rw [Bool.and_eq_true] at hb ⊢
  refine ⟨List.all_eq_true.2 fun s hs => ?_, hb.2⟩
  obtain ⟨d, hd⟩ := List.mem_iff_getElem?.1 hs
  rcases (hle.1.get).2 d s hd with e | e
  ·subst e; rfl
  ·exact List.all_eq_true.1 hb.1 s (List.mem_of_getElem? e)
 have := a3h hT hE hok (Q := fun e a w => Post E.C F e a w) (fun g V st _ _ hr h => ⟨g, V, st, hr, h⟩) ops.toArray.size (Array.replicate ops.toArray.size false) ps ⟨st1.t, st.h⟩ _ V a { w with drawn := w.drawn + 1 } (by simp)
  (by unfold rZ; exact Nat.le_trans (List.length_filter_le _ _) (by simp)) hup (fun i hi => hi) (fun i _ hi _ => hi) (fun i hi => hf i (of_decide_eq_true (List.all_eq_true.1 hlt i hi))) k1 ((hr.drawn).forget hle hbt)
 exact this
end
structure vcStT (E : Env) (all l : List Oper) (ds ps : List Nat) (st : St) (K : St → Prop) (t : Tie (all, l, K)) : Prop where
 out : rdX ds all = l → nG E all ds ps st K
structure vcGRun (E : Env) (ds : List Nat) (all l : List Oper) (st : St) (K : St → Prop) (t : Tie (all, l, K)) : Prop where
 out : vcGs E ds all l st K
def yU (E : Env) (ds : List Nat) (all : List Oper) (o : Oper) (st : St) (k : St → Prop) (_ : Tie k) : Prop := a5O E ds all o st k
def a4l (E : Env) (all : List Oper) (i : Nat) (st : St) (k : St → Prop) (_ : Tie k) : Prop := match xW all i with
 | some o => a4k E o st k
 | none => False
section
variable {E : Env}
theorem a3i {ds : List Nat} {all r : List Oper} {o : Oper} {st : St} {K : St → Prop} (h : yU E ds all o st (fun st' => vcGRun E ds all r st' K ⟨⟩) ⟨⟩) : vcGRun E ds all (o :: r) st K ⟨⟩ := by
 have e : (fun st' => vcGRun E ds all r st' K ⟨⟩) = (fun st' => vcGs E ds all r st' K) := funext fun s => propext ⟨fun h => h.out, fun h => ⟨h⟩⟩
 rw [e] at h
 exact ⟨h⟩
theorem a4m {ds : List Nat} {all : List Oper} {st : St} {K : St → Prop} (h : K st) : vcGRun E ds all [] st K ⟨⟩ := ⟨h⟩
theorem lQ {ds : List Nat} {all l : List Oper} {st : St} {K : St → Prop} (hc : a0n E all st l) (h : K st) : vcStT E all l ds [] st K ⟨⟩ := ⟨fun e => ⟨e ▸ hc, h⟩⟩
theorem iW {ds : List Nat} {all l : List Oper} {p : Nat} {r : List Nat} {st : St} {K : St → Prop} (hc : a0n E all st l) (h : a4l E all p st (fun st' => vcStT E all l ds r st' K ⟨⟩) ⟨⟩) : vcStT E all l ds (p :: r) st K ⟨⟩ := ⟨fun e => by
 refine ⟨e ▸ hc, ?_⟩
 have e2 : (fun st' => vcStT E all l ds r st' K ⟨⟩) = (fun st' => nG E all ds r st' K) := funext fun s => propext ⟨fun h => h.out e, fun h => ⟨fun _ => h⟩⟩
 rw [e2] at h
 unfold a4l at h
 rw [lZ] at h
 split at h
 ·rename_i o ho; exact ⟨o, ho, h⟩
 ·exact h.elim⟩
end
attribute [go_sem] jO a5N a0n a4l rdX uR yQ a6K a4k a1z yU a5O
end Go.Sx
end
section
set_option linter.all false
namespace Go.Sx
open Go Go.RowKit
def a0r (G : St) (F : Ex → St → Prop) : Ex → St → Prop
 | .normal, s => s.le G ∧ G.okB = true
 | .exit j, s => F (.exit j) s
 | .ret, s => F .ret s
def a5P (c : Code) (st : St) (M : List (Nat × SV)) (H : List (Nat × HB)) : St := ⟨mds (fgt st.t (xX c)) M, mhs st.h H⟩
section
variable {P : Program} {C : Ctx} {ks : List Kn} {F : Ex → St → Prop} {st : St}
theorem a0s {G s : St} (h : s.le G) (hb : G.okB = true) : a0r G F .normal s := ⟨h, hb⟩
theorem a5Q {G s : St} (h : F .ret s) : a0r G F .ret s := h
theorem a4n {G s : St} {j : Nat} (h : F (.exit j) s) : a0r G F (.exit j) s := h
end
attribute [go_sem] a5P
end Go.Sx
end
section
set_option linter.all false
namespace Go.Sx
open Go Go.RowKit
def Nm (P : Prop) : Prop := P
theorem mX {P : Prop} (h : P) : Nm P := h
theorem uX {P : Prop} (h : Nm P) : P := h
def Ar (P : Prop) : Prop := P
theorem aX {P : Prop} (h : Ar P) : P := h
theorem uA {P : Prop} (h : P) : Ar P := h
theorem uB {P : Prop} (h : P := by (simp only [go_sem, qH]; (repeat' first | omega | refine And.intro ?_ ?_)) <;> fail) : Ar P := h
theorem aO {P Q : Prop} (h : Q) (p : P := by omega) : P ∧ Q := ⟨p, h⟩
theorem aI {A B : Prop} (a : A) (b : B) : A ∧ B := ⟨a, b⟩
theorem a5R {α β : Type} (f : α → β) (l : List α) : (l.map f).length = l.length := List.length_map ..
theorem xI {α : Type} (n : Nat) (l : List α) : (l.take n).length = min n l.length := List.length_take
theorem xJ {α : Type} (n : Nat) (l : List α) : (l.drop n).length = l.length - n := List.length_drop
theorem a3j {α : Type} (l m : List α) : (l ++ m).length = l.length + m.length := List.length_append
class Nx (P : Prop) (Q : outParam Prop) : Prop where
 nx : Q → P
theorem nX {P Q : Prop} [i : Nx P Q] (h : Q) : P := i.nx h
class Ny (P : Prop) (Q : outParam Prop) : Prop where
 ny : Q → P
instance {P Q : Prop} [i : Nx P Q] : Ny P Q := ⟨i.nx⟩
theorem nY {P Q : Prop} [i : Ny P Q] (h : Q) : P := i.ny h
structure cndK (s : SV) (A B : Prop) (t : Tie (A, B)) : Prop where
 out : ∃ b, s = .o (.d (.v (.bool b))) ∧ (b = true → A) ∧ (b = false → B)
theorem cnd {s : SV} {A B : Prop} {b : Bool} (hs : s = .o (.d (.v (.bool b)))) (h1 : b = true → A) (h2 : b = false → B) : cndK s A B ⟨⟩ := ⟨b, hs, h1, h2⟩
instance nCt {A B : Prop} : Nx (cndK (.o (.d (.v (.bool true)))) A B ⟨⟩) A := ⟨fun h => ⟨true, rfl, fun _ => h, fun h => by cases h⟩⟩
instance nCf {A B : Prop} : Nx (cndK (.o (.d (.v (.bool false)))) A B ⟨⟩) B := ⟨fun h => ⟨false, rfl, (fun h => by cases h), fun _ => h⟩⟩
class Cy (P : Program) (f : Nat) (args' : List SV) (res : SV) (G : Prop) (O K : outParam Prop) : Prop where
 cl : FnC P f args' res → O → K → G
theorem cC {P : Program} {f : Nat} {args' : List SV} {res : SV} {G O K : Prop} [i : Cy P f args' res G O K] (h : FnC P f args' res) (o : O) (k : K) : G := i.cl h o k
theorem cP {P : Program} {f : Nat} {args' : List SV} {res : SV} {G O K : Prop} [i : Cy P f args' res G O K] (h : FnC P f args' res) (k : K) (o : O := by simp only [go_sem, and_self] <;> fail) : G := i.cl h o k
section
variable {P : Program} {C : Ctx} {F : Ex → St → Prop} {st : St} {ks : List Kn}
instance nRet : Nx (WP P C .ret (aS P C ks F) st) (aS P C ks F .ret st) := ⟨a6A⟩
instance nSkip : Nx (WP P C .skip (aS P C ks F) st) (aS P C ks F .normal st) := ⟨a5C⟩
instance nExit {id : Nat} : Nx (WP P C (.exit id) (aS P C ks F) st) (aS P C ks F (.exit id) st) := ⟨a5D⟩
instance nSeq {x y : Code} : Nx (WP P C (.seq x y) (aS P C ks F) st) (WP P C x (aS P C (.code y :: ks) F) st) := ⟨a6z⟩
instance nBlock {id : Nat} {c : Code} : Nx (WP P C (.block id c) (aS P C ks F) st) (WP P C c (aS P C (.blk id :: ks) F) st) := ⟨a4b⟩
instance nCode {c : Code} : Nx (aS P C (.code c :: ks) F .normal st) (WP P C c (aS P C ks F) st) := ⟨a6B⟩
instance nBlk {id : Nat} : Nx (aS P C (.blk id :: ks) F .normal st) (aS P C ks F .normal st) := ⟨a7A⟩
instance nCodeRet {c : Code} : Nx (aS P C (.code c :: ks) F .ret st) (aS P C ks F .ret st) := ⟨a1n⟩
instance nBlkRet {id : Nat} : Nx (aS P C (.blk id :: ks) F .ret st) (aS P C ks F .ret st) := ⟨a3c⟩
instance nCodeExit {c : Code} {j : Nat} : Nx (aS P C (.code c :: ks) F (.exit j) st) (aS P C ks F (.exit j) st) := ⟨a0g⟩
instance nBlkExit {id : Nat} : Nx (aS P C (.blk id :: ks) F (.exit id) st) (aS P C ks F .normal st) := ⟨rY⟩
theorem kO {id j : Nat} (h : aS P C ks F (.exit j) st) (hn : j ≠ id) : aS P C (.blk id :: ks) F (.exit j) st := jK hn h
theorem kD {id j : Nat} (h : aS P C ks F (.exit j) st) (hn : j ≠ id := by decide) : aS P C (.blk id :: ks) F (.exit j) st := jK hn h
instance nNil {e : Ex} : Nx (aS P C [] F e st) (F e st) := ⟨a7B⟩
instance nLRet {α : Type} {I : α → St} {Q : α → Prop} {μ : α → Nat} {x : α} : Nx (oZ I Q μ x F .ret st) (F .ret st) := ⟨a7u⟩
instance nLExit {α : Type} {I : α → St} {Q : α → Prop} {μ : α → Nat} {x : α} {j : Nat} : Nx (oZ I Q μ x F (.exit j) st) (F (.exit j) st) := ⟨a6r⟩
instance nCRet {G s : St} : Nx (a0r G F .ret s) (F .ret s) := ⟨a5Q⟩
instance nCExit {G s : St} {j : Nat} : Nx (a0r G F (.exit j) s) (F (.exit j) s) := ⟨a4n⟩
end
section
variable {E : Env} {all r : List Oper} {o : Oper} {st : St} {K : St → Prop}
instance nRun : Nx (vcRun E all (o :: r) st K ⟨⟩) (Nm (uG E all o st (fun st' => vcRun E all r st' K ⟨⟩) ⟨⟩)) := ⟨a3Q⟩
instance nRun0 : Nx (vcRun E all [] st K ⟨⟩) (K st) := ⟨a5u⟩
instance nDrun : Nx (vcDRun E all (o :: r) st K ⟨⟩) (Nm (yE E all o st (fun st' => vcDRun E all r st' K ⟨⟩) ⟨⟩)) := ⟨a2Q⟩
instance nDrun0 : Nx (vcDRun E all [] st K ⟨⟩) (K st) := ⟨a3R⟩
instance nGrun {ds : List Nat} : Nx (vcGRun E ds all (o :: r) st K ⟨⟩) (Nm (yU E ds all o st (fun st' => vcGRun E ds all r st' K ⟨⟩) ⟨⟩)) := ⟨a3i⟩
instance nGrun0 {ds : List Nat} : Nx (vcGRun E ds all [] st K ⟨⟩) (K st) := ⟨a4m⟩
end
end Go.Sx
end
section
set_option linter.all false
namespace Go.Sx
open Go Go.RowKit
theorem CallS.lendW {E : Env} {f : Nat} {args args' : List SV} {res : SV} {st : St} {K : St → SV → Prop} (h : FnC E.P f args' res) (he : args.map (bH st.h) = args') (hfree : args'.all aW = true) (hres : res.all.all eP = true)
    (k : K ⟨st.t, st.h ++ adH res.all⟩ (adS st.h.length res)) : CallS E f args st K := by
 refine ⟨h.enters, fun g V a w vs hr hlen hargs => ?_⟩
 subst he
 have hc : rA (fD V w) (args.map (bH st.h)) vs := by
  refine ⟨by simp [hlen], fun i s y h1 h2 => ?_⟩
  have hs := List.all_eq_true.1 hfree s (List.mem_of_getElem? h1)
  rw [List.getElem?_map] at h1
  cases hk : args[i]? with
  | none => rw [hk] at h1; cases h1
  | some s0 =>
   rw [hk] at h1
   cases h1
   exact lC (qI hr (hargs i s0 y hk h2)) hs
 refine (h.calls (fD V w) w vs hr.tab (jH hr.mod) hc).mono ?_
 rintro e w' ⟨y, rfl, ⟨V1, S, hv, hm, hnew, ⟨l, hshape, Ss, r1, r2, r3, r4⟩, hnd, hblk⟩, hbelow⟩
 have hVV' : V.le V1 := (gV V w).trans hv
 subst r3
 have hm0 : Mod V w' := hm.of_le hVV'
 obtain ⟨V', hV'⟩ : ∃ V' : View, V' = fun b => if b < w.heap.size then V b else V1 b := ⟨_, rfl⟩
 have ge : ∀ b, w.heap.size ≤ b → V' b = V1 b := fun b hb => by rw [hV']; exact if_neg (by omega)
 have hle : V.le V' := fun b cs hb => ⟨cs, by rw [hV']; simp only [if_pos (hr.mod.lt hb), hb], List.prefix_refl _⟩
 have hnone : ∀ b, w.heap.size ≤ b → fD V w b = none := fun b hb => (jH hr.mod).fresh hb
 have hr1 : Rel E.C g V' st a w' := hr.later hle (fun b cs hb => by
  rw [hV'] at hb
  simp only at hb
  split at hb
  ·exact hm0 b cs hb
  ·exact hm b cs hb) hbelow (fun b cs hb hn => by
  rcases Nat.lt_or_ge b w.heap.size with hlt | hge
  ·rw [hV'] at hb
   simp only [if_pos hlt] at hb
   rw [hb] at hn; cases hn
  ·rw [ge b hge] at hb
   exact hnew b cs hb (hnone b hge))
 have r5 : ∀ (k : Nat) (x : At) (y : Value) (s : List Nat), res.all[k]? = some x → l[k]? = some y → Ss[k]? = some s → rAt V' w' x y s := fun k x y s e1 e2 e3 => by
  have hr4 := r4 k x y s e1 e2 e3
  have hw := List.all_eq_true.1 hres x (List.mem_of_getElem? e1)
  have hin : ∀ b ∈ s, w.heap.size ≤ b := fun b hb => (hblk b (List.mem_flatten.2 ⟨s, List.mem_of_getElem? e3, hb⟩)).1
  cases x with
  | d x => cases x with
   | v x =>
    obtain ⟨q1, T, hT⟩ := hr4
    cases hT with
    | v _ hsc => exact ⟨q1, _, .v _ hsc⟩
   | sl r => simp [eP] at hw
  | w ty sz rows =>
   obtain ⟨p0, ys, Ts, p1, p2⟩ := hr4
   have lay : (∀ b ∈ Ts.flatten, b ∈ s) → LayL V' rows.flatten ys Ts := fun hsub => ⟨p1.1, p1.2.1, fun j d z T h1 h2 h3 => (p1.2.2 j d z T h1 h2 h3).restrict fun b hb cs hcs => ⟨cs, by rw [ge b (hin b (hsub b (List.mem_flatten.2 ⟨T, List.mem_of_getElem? h3, hb⟩)))]; exact hcs, List.prefix_refl _⟩⟩
   rcases p2 with ⟨q1, rfl, q3⟩ | ⟨b, cap, c, q1, q2, q3, q4, q5, q6, q7, q8⟩
   ·have hT : Ts = [] := by have := p1.2.1; simpa using this
    subst hT
    exact ⟨p0, ys, [], lay (fun b hb => by simp at hb), .inl ⟨q1, rfl, q3⟩⟩
   ·exact ⟨p0, ys, Ts, lay (fun b' hb' => by rw [q8]; exact List.mem_cons_of_mem _ hb'), .inr ⟨b, cap, c, q1, q2, q3, q4, q5, q6, by rw [ge b (hin b (by rw [q8]; simp))]; exact q7, q8⟩⟩
  | _ => simp [eP] at hw
 obtain ⟨g', h1, h2, h3⟩ := zT (cs := res.all) hr1 r1 r2 r5 hnd (fun b hb => ⟨.inl (Nat.le_trans hr.fr.size (hblk b hb).1), (hblk b hb).2, fun i hb' x e1 e2 hm' => by
  have := (hr.hp.lo i hb' x e1 e2 b hm').2
  have := (hblk b hb).1
  omega⟩)
 refine ⟨y, g', V', _, _, rfl, h1, ?_, k⟩
 cases res with
 | o x =>
  have hl : l = [y] := hshape
  subst hl
  simp only [SV.all] at h3
  simp only [adS]
  have hlen1 : (adA st.h.length [x]).length = 1 := mF _ _
  match he' : adA st.h.length [x], hlen1 with
  | [z], _ =>
   rw [he'] at h3
   exact h3.2 0 z y rfl rfl
 | g cs => exact ⟨l, hshape, h3⟩
 | t cs =>
  obtain ⟨ls, e1, e2, e3, ys, e4, e5, e6⟩ := hshape
  subst e2
  refine ⟨ys, e4, by rw [e5, jT], fun i b c v hi hv' => ?_⟩
  have hlt : i < ls.length := by rw [e1, ← jT st.h.length cs]; exact (List.getElem?_eq_some_iff.1 hi).1
  have hm' : ls[i]? = some ls[i] := List.getElem?_eq_getElem hlt
  obtain ⟨⟨c0, hc0⟩, hcc⟩ := sJ st.h.length cs ls e1 e3 h3 i b c _ hi hm'
  have := e6 i b c0 _ v hc0 hm' hv'
  cases b with
  | true => simp only [if_true] at this ⊢; exact ⟨_, this, hcc⟩
  | false => simp only [Bool.false_eq_true, if_false] at this ⊢; rw [← this]; exact hcc
theorem CallG.lendW {E : Env} {f : Nat} {args args' : List SV} {res : SV} {h : List HB} {k : List HB → SV → Prop} (hf : FnC E.P f args' res) (he : args.map (bH h) = args') (hfree : args'.all aW = true) (hres : res.all.all eP = true) (hk : k (h ++ adH res.all) (adS h.length res)) : CallG E f args h k ⟨⟩ :=
 ⟨_, _, fun T => CallS.lendW (st := ⟨T, h⟩) hf he hfree hres ⟨rfl, rfl⟩, hk⟩
end Go.Sx
end
section
set_option linter.all false
namespace Go.Sx
open Go Go.RowKit
section
variable {C : Ctx} {st : St}
theorem mM {g : List Gh} {V : View} {a : Act} {w : World} (hr : Rel C g V st a w) {id : Nat} {b : HB} (h : st.h[id]? = some b) : ∃ x, g[id]? = some x :=
 ⟨_, List.getElem?_eq_getElem (by rw [hr.hp.glen]; exact (List.getElem?_eq_some_iff.1 h).1)⟩
theorem Sees.pool0 (ty sz : Nat) : Sees C st ⟨st.t, st.h ++ [.pool ty sz []]⟩ := fun g V a w hr => by
 let x : Gh := ⟨none, undef, [], []⟩
 refine ⟨g ++ [x], V, hr.sl.mono (GLe.push _ _) (View.le.refl V), hr.hp.push (x := x) ?_ (by simp [aK, x]) (fun n hn => by simp [aK, x] at hn) (fun i b' x' _ _ n _ hm => by simp [aK, x] at hm) (fun n hn => by simp [aN, x] at hn), hr.mod, hr.fr, hr.vw⟩
 exact ⟨by simp [bls], fun b hb => by simp [bls] at hb, fun p hp => by simp at hp⟩
theorem Sees.poolN (id : Nat) {ty sz : Nat} {items : List (Value × List (List Value))} (h : bK st.h id = .pool ty sz items) : Sees C st ⟨st.t, dF st.h id (.pool ty sz (items ++ [(.slice none 0 0, [])]))⟩ := fun g V a w hr => by
 have h1 := aC h (by simp)
 obtain ⟨x, h2⟩ := mM hr h1
 have hp : PoolR w ty sz items x.tr := hr.hp.hb id _ x h1 h2
 have e : bls (items ++ [(.slice none 0 0, [])]) = bls items := by simp [bls, Value.ownBlock]
 refine ⟨g, V, hr.sl, ?_, hr.mod, hr.fr, hr.vw⟩
 rw [aV]
 refine hr.hp.set id h1 h2 (fun n hn => hn) (show x.tr.Nodup from hr.hp.nd id _ x h1 h2) (fun n hn => hn) ?_ (fun _ _ => rfl) rfl
 refine ⟨by rw [e]; exact hp.nd, by rw [e]; exact hp.sub, fun p hq => ?_⟩
 rcases List.mem_append.1 hq with hq | hq
 ·exact hp.at_ p hq
 ·simp only [List.mem_singleton] at hq
  subst hq
  exact ⟨by simp, by simp, by simp, .inl ⟨rfl, rfl⟩⟩
theorem a0t {A B : List (Value × List (List Value))} (h : A.Perm B) : (bls A).Perm (bls B) := h.flatMap_right _
theorem Sees.poolP (id : Nat) {ty sz : Nat} {A B : List (Value × List (List Value))} (h : bK st.h id = .pool ty sz A) (hp : A.Perm B) : Sees C st ⟨st.t, dF st.h id (.pool ty sz B)⟩ := fun g V a w hr => by
 have h1 := aC h (by simp)
 obtain ⟨x, h2⟩ := mM hr h1
 have hq : PoolR w ty sz A x.tr := hr.hp.hb id _ x h1 h2
 refine ⟨g, V, hr.sl, ?_, hr.mod, hr.fr, hr.vw⟩
 rw [aV]
 refine hr.hp.set id h1 h2 (fun n hn => hn) (show x.tr.Nodup from hr.hp.nd id _ x h1 h2) (fun n hn => hn) ?_ (fun _ _ => rfl) rfl
 exact ⟨(a0t hp).nodup_iff.1 hq.nd, fun b hb => hq.sub b ((a0t hp).mem_iff.2 hb), fun p hm => hq.at_ p (hp.mem_iff.2 hm)⟩
theorem Sees.poolM (i j : Nat) {ty sz : Nat} {A B : List (Value × List (List Value))} (h : bK st.h i = .pool ty sz A) (k : bK st.h j = .pool ty sz B) (hij : i ≠ j) : Sees C st ⟨st.t, dF (dF st.h j .gone) i (.pool ty sz (A ++ B))⟩ := fun g V a w hr => by
 have h1 := aC h (by simp)
 have k1 := aC k (by simp)
 obtain ⟨x, h2⟩ := mM hr h1
 obtain ⟨y, k2⟩ := mM hr k1
 have hp : PoolR w ty sz A x.tr := hr.hp.hb i _ x h1 h2
 have kp : PoolR w ty sz B y.tr := hr.hp.hb j _ y k1 k2
 have hdj := hr.hp.dj i j _ _ x y hij h1 h2 k1 k2
 have hr1 : Rel C g V ⟨st.t, st.h.set j .gone⟩ a w := ⟨hr.sl, hr.hp.set j k1 k2 (fun n hn => by simp [aK] at hn) (by simp [aK]) (fun n hn => by simp [aN] at hn) trivial (fun _ _ => rfl) rfl, hr.mod, hr.fr, hr.vw⟩
 have h1' : (st.h.set j .gone)[i]? = some (.pool ty sz A) := by rw [List.getElem?_set, if_neg (fun e => hij e.symm)]; exact h1
 let x' : Gh := { x with tr := bls A ++ bls B }
 have e : bls (A ++ B) = bls A ++ bls B := by simp [bls]
 have hnd : (bls A ++ bls B).Nodup := List.nodup_append.2 ⟨hp.nd, kp.nd, fun b hb c hc e => by
  subst e; exact hdj b (hp.sub b hb) (kp.sub b hc)⟩
 refine ⟨g.set i x', V, ?_⟩
 rw [aV, aV]
 refine ⟨hr1.sl.mono (GLe.set h2 rfl rfl rfl) (View.le.refl V), hr1.hp.swapG i h1' h2 rfl rfl rfl (fun n hn => ?_) hnd (fun n hn => ?_) ?_ (fun _ _ _ => rfl) (Nat.le_refl _), hr1.mod, hr1.fr, hr1.vw⟩
 ·have hn : n ∈ bls A ++ bls B := hn
  rcases List.mem_append.1 hn with hn | hn
  ·exact .inl (hp.sub n hn)
  ·refine .inr ⟨hr.hp.lo j _ y k1 k2 n (kp.sub n hn), fun m c z hc hz hm => ?_⟩
   rw [List.getElem?_set] at hc
   by_cases hmj : j = m
   ·subst hmj
    rw [if_pos rfl] at hc
    split at hc
    ·cases hc; simp [aK] at hm
    ·cases hc
   ·rw [if_neg hmj] at hc
    exact hr.hp.dj m j _ _ z y (fun e => hmj e.symm) hc hz k1 k2 n hm (kp.sub n hn)
 ·have hn : n ∈ bls A ++ bls B := hn
  rcases List.mem_append.1 hn with hn | hn
  ·exact hr.hp.rt i _ x h1 h2 n (hp.sub n hn)
  ·exact hr.hp.rt j _ y k1 k2 n (kp.sub n hn)
 ·exact ⟨by rw [e]; exact hnd, fun b hb => by rw [e] at hb; exact hb, fun p hq => by
   rcases List.mem_append.1 hq with hq | hq
   ·exact hp.at_ p hq
   ·exact kp.at_ p hq⟩
theorem a6L {E : Env} {t : Nat} {z z2 : Value} {st : St} {k : St → SV → Prop} (id i id2 : Nat) (xs xs2 : List (List Value)) {items items2 : List (Value × List (List Value))}
    (h1 : bK st.h id = .pool (E.T t).elem (E.T (E.T t).elem).size items) (h3 : bK st.h id2 = .pool (E.T t).elem (E.T (E.T t).elem).size items2) (h2 : items[i]? = some (z, xs)) (h4 : (z2, xs2) ∈ items2) (h5 : xs2 ≠ [])
    (h6 : xs.length + xs2.length ≤ maxLen ∧ (xs.length + xs2.length) * (E.T (E.T t).elem).bytes ≤ 140737488355328)
    (hk : ∀ z', k ⟨st.t, dF st.h id (.pool (E.T t).elem (E.T (E.T t).elem).size (items.set i (z', xs ++ xs2)))⟩ (.o (.d (.v z')))) : AppT E t z z2 st k ⟨⟩ :=
 ⟨⟨id, items, i, xs, id2, items2, xs2, h1, h2, h3, h4, h5, h6.1, h6.2, hk⟩⟩
theorem a4o {P : Value → Prop} (h : ∀ z, P z) : OpqT (∀ z, P z) ⟨⟩ := ⟨h⟩
def poolV (V : View) (items : List (Value × List (List Value))) : View := fun k => match items.find? fun p => p.1.ownBlock == some k with
 | some p => some p.2.flatten
 | none => V k
theorem mO {V : View} {items : List (Value × List (List Value))} {k : Nat} (h : k ∉ bls items) : poolV V items k = V k := by
 unfold poolV
 have : items.find? (fun p => p.1.ownBlock == some k) = none := List.find?_eq_none.2 fun p hp e => h (gD.2 ⟨p, hp, by simpa using e⟩)
 rw [this]
theorem a0u {V : View} {items : List (Value × List (List Value))} (hnd : (bls items).Nodup) {p : Value × List (List Value)} (hp : p ∈ items) {k : Nat} (hk : p.1.ownBlock = some k) : poolV V items k = some p.2.flatten := by
 unfold poolV
 induction items with
 | nil => simp at hp
 | cons q l ih =>
  rw [List.find?_cons]
  have hnd' : (q.1.ownBlock.toList ++ bls l).Nodup := by simpa [bls] using hnd
  rw [List.nodup_append] at hnd'
  by_cases hq : (q.1.ownBlock == some k) = true
  ·rw [hq]
   rcases List.mem_cons.1 hp with rfl | hp
   ·rfl
   ·have hqk : q.1.ownBlock = some k := by simpa using hq
    exact (hnd'.2.2 k (by rw [hqk]; simp) k (gD.2 ⟨p, hp, hk⟩) rfl).elim
  ·have hq : (q.1.ownBlock == some k) = false := by simpa using hq
   rw [hq]
   rcases List.mem_cons.1 hp with rfl | hp
   ·rw [hk] at hq; simp at hq
   ·exact ih hnd'.2.1 hp
def iE (p : List Value × Value × List (List Value)) : List D := p.1.map D.v ++ [.v p.2.1]
def jC (p : List Value × Value × List (List Value)) : List D := p.1.map D.v ++ [.sl (p.2.2.map fun r => r.map D.v)]
theorem dV (p : List Value × Value × List (List Value)) : (iE p).length = p.1.length + 1 := by simp [iE]
theorem kL (p : List Value × Value × List (List Value)) : (jC p).length = p.1.length + 1 := by simp [jC]
theorem a4p {V : View} {w : World} {ty sz : Nat} {items : List (Value × List (List Value))} {S : List Nat} (h : PoolR w ty sz items S) {p : Value × List (List Value)} (hp : p ∈ items) :
    Lay (poolV V items) (.sl (p.2.map fun r => r.map D.v)) p.1 (if p.2.isEmpty then [] else p.1.ownBlock.toList) := by
 obtain ⟨h1, h2, h3, h4⟩ := h.at_ p hp
 rcases h4 with ⟨e, e0⟩ | ⟨b, cap, cur, e, _, e2, e3, e4, e5, e6⟩
 ·have : p.2 = [] := List.eq_nil_of_length_eq_zero e0
  rw [e, this]; exact .nil
 ·have hb : p.1.ownBlock = some b := by rw [e]; rfl
  have hV := a0u (V := V) h.nd hp hb
  have hflat : (p.2.map fun r => r.map D.v).flatten = p.2.flatten.map D.v := by rw [List.map_flatten]
  have := Lay.sl (V := poolV V items) (p.2.map fun r => r.map D.v) ⟨b, 0, none⟩ cap sz p.2.flatten (List.replicate p.2.flatten.length []) (fun r hr => by obtain ⟨r0, hr0, rfl⟩ := List.mem_map.1 hr; simpa using h1 r0 hr0)
   (by simpa using e3) e4 (by rw [hflat, List.length_map]) (by rw [hflat, List.length_map, List.length_replicate])
   (fun k y hk => by
    rw [Addr.add_lit, Nat.zero_add]
    simp only [View.cell, Option.isSome_none, Bool.false_eq_true, if_false, hV, Option.bind_some]
    exact hk)
   (fun k d y S q1 q2 q3 => by
    rw [hflat, List.getElem?_map] at q1
    rw [q2] at q1
    cases q1
    rw [List.getElem?_replicate] at q3
    split at q3
    ·cases q3
     obtain ⟨hk, ek⟩ := List.getElem?_eq_some_iff.1 q2
     obtain ⟨r, hr, hv⟩ := List.mem_flatten.1 (List.mem_of_getElem? q2)
     exact .v _ (h2 r hr y hv)
    ·cases q3)
  have e7 : (List.replicate p.2.flatten.length ([] : List Nat)).flatten = [] := by simp
  rw [e7, List.append_nil] at this
  rw [e]
  simpa [Value.ownBlock] using this
def kU (p : List Value × Value × List (List Value)) : List (List Nat) := List.replicate p.1.length [] ++ [if p.2.2.isEmpty then [] else p.2.1.ownBlock.toList]
theorem a2u {V : View} {w : World} {ty sz : Nat} {items : List (Value × List (List Value))} {S : List Nat} (h : PoolR w ty sz items S) : ∀ {its : List (List Value × Value × List (List Value))} {ys : List Value} {Ss : List (List Nat)}, (∀ p ∈ its, (p.2.1, p.2.2) ∈ items) → LayL V (its.map iE).flatten ys Ss →
    LayL (poolV V items) (its.map jC).flatten ys (its.map kU).flatten
 | [], ys, Ss, hm, hl => by
  have : ys = [] := List.eq_nil_of_length_eq_zero (by simpa using hl.1)
  subst this
  exact LayL.nil _
 | p :: its, ys, Ss, hm, hl => by
  have hlen := hl.1
  simp only [List.map_cons, List.flatten_cons, List.length_append, dV] at hlen
  have hl2 : LayL V (its.map iE).flatten (ys.drop (p.1.length + 1)) (Ss.drop (p.1.length + 1)) := by
   refine ⟨by rw [List.length_drop]; omega, by have := hl.2.1; simp only [List.map_cons, List.flatten_cons, List.length_append, dV] at this; rw [List.length_drop]; omega, fun k d y s q1 q2 q3 => ?_⟩
   rw [List.getElem?_drop] at q2 q3
   refine hl.2.2 (p.1.length + 1 + k) d y s ?_ q2 q3
   simp only [List.map_cons, List.flatten_cons]
   rw [List.getElem?_append_right (by rw [dV]; omega), dV, Nat.add_sub_cancel_left]
   exact q1
  have ih := a2u h (fun q hq => hm q (List.mem_cons_of_mem _ hq)) hl2
  have hy : ys = ys.take (p.1.length + 1) ++ ys.drop (p.1.length + 1) := (List.take_append_drop _ _).symm
  rw [List.map_cons, List.flatten_cons, List.map_cons, List.flatten_cons, hy]
  refine LayL.append ?_ ih
  have cell : ∀ (k : Nat) (d : D) (y : Value), (iE p)[k]? = some d → ys[k]? = some y → ∃ s, Lay V d y s := fun k d y q1 q2 => by
   have hk : k < p.1.length + 1 := by rw [← dV]; exact (List.getElem?_eq_some_iff.1 q1).1
   have hks : k < Ss.length := by rw [hl.2.1]; simp only [List.map_cons, List.flatten_cons, List.length_append, dV]; omega
   exact ⟨Ss[k], hl.2.2 k d y Ss[k] (by simp only [List.map_cons, List.flatten_cons]; rw [List.getElem?_append_left (by rw [dV]; exact hk)]; exact q1) q2 (List.getElem?_eq_getElem hks)⟩
  refine ⟨by rw [kL]; simp; omega, by simp [kU, kL], fun k d y s q1 q2 q3 => ?_⟩
  have hk : k < p.1.length + 1 := by rw [← kL]; exact (List.getElem?_eq_some_iff.1 q1).1
  rw [List.getElem?_take, if_pos hk] at q2
  rcases Nat.lt_or_ge k p.1.length with hk1 | hk1
  ·unfold jC at q1
   rw [List.getElem?_append_left (by simpa using hk1), List.getElem?_map, List.getElem?_eq_getElem hk1] at q1
   cases q1
   obtain ⟨s0, hs0⟩ := cell k (.v p.1[k]) y (by unfold iE; rw [List.getElem?_append_left (by simpa using hk1), List.getElem?_map, List.getElem?_eq_getElem hk1]; rfl) q2
   cases hs0
   unfold kU at q3
   rw [List.getElem?_append_left (by simpa using hk1), List.getElem?_replicate, if_pos hk1] at q3
   cases q3
   exact .v _ ‹_›
  ·have hk2 : k = p.1.length := by omega
   subst hk2
   unfold jC at q1
   rw [List.getElem?_append_right (by simp)] at q1
   simp at q1
   subst q1
   obtain ⟨s0, hs0⟩ := cell p.1.length (.v p.2.1) y (by unfold iE; rw [List.getElem?_append_right (by simp)]; simp) q2
   cases hs0
   unfold kU at q3
   rw [List.getElem?_append_right (by simp)] at q3
   simp at q3
   subst q3
   have := a4p (V := V) h (hm p (List.mem_cons_self))
   simpa using this
theorem yV : ∀ {its : List (List Value × Value × List (List Value))} {b : Nat}, b ∈ (its.map kU).flatten.flatten → b ∈ bls (its.map fun p => (p.2.1, p.2.2))
 | [], b, h => by simp at h
 | p :: its, b, h => by
  simp only [List.map_cons, List.flatten_cons, List.flatten_append, List.mem_append] at h
  simp only [List.map_cons, bls, List.flatMap_cons, List.mem_append]
  rcases h with h | h
  ·left
   simp only [kU, List.flatten_append, List.mem_append] at h
   rcases h with h | h
   ·simp at h
   ·simp only [List.flatten_cons, List.flatten_nil, List.append_nil] at h
    split at h
    ·simp at h
    ·exact h
  ·exact .inr (yV h)
theorem a0v : ∀ {its : List (List Value × Value × List (List Value))}, (bls (its.map fun p => (p.2.1, p.2.2))).Nodup → ((its.map kU).flatten.flatten).Nodup
 | [], _ => by simp
 | p :: its, h => by
  have h : (p.2.1.ownBlock.toList ++ bls (its.map fun p => (p.2.1, p.2.2))).Nodup := by simpa [bls] using h
  rw [List.nodup_append] at h
  have e : (kU p).flatten = if p.2.2.isEmpty then [] else p.2.1.ownBlock.toList := by simp [kU]
  simp only [List.map_cons, List.flatten_cons, List.flatten_append]
  rw [e]
  refine List.nodup_append.2 ⟨?_, a0v h.2.1, fun a ha b hb e => ?_⟩
  ·split
   ·simp
   ·exact h.1
  ·split at ha
   ·simp at ha
   ·exact h.2.2 a ha b (yV hb) e
theorem Sees.unpool (id ip : Nat) {ty sz pty psz : Nat} (its : List (List Value × Value × List (List Value))) {items : List (Value × List (List Value))} (h : bK st.h id = .row ty sz (its.map iE) true) (hp : bK st.h ip = .pool pty psz items) (hperm : items.Perm (its.map fun p => (p.2.1, p.2.2))) :
    Sees C st ⟨st.t, dF (dF st.h ip .gone) id (.row ty sz (its.map jC) true)⟩ := fun g V a w hr => by
 have hne : id ≠ ip := fun e => by subst e; rw [h] at hp; cases hp
 obtain ⟨g0, V0, hr⟩ := Sees.poolP ip hp hperm g V a w hr
 rw [aV] at hr
 have hl : ip < st.h.length := by have := (List.getElem?_eq_some_iff.1 (aC hp (by simp))).1; exact this
 have k1 : (st.h.set ip (.pool pty psz (its.map fun p => (p.2.1, p.2.2))))[ip]? = some (.pool pty psz (its.map fun p => (p.2.1, p.2.2))) := by rw [List.getElem?_set, if_pos rfl, if_pos hl]
 have h1 : (st.h.set ip (.pool pty psz (its.map fun p => (p.2.1, p.2.2))))[id]? = some (.row ty sz (its.map iE) true) := by rw [List.getElem?_set, if_neg (fun e => hne e.symm)]; exact aC h (by simp)
 obtain ⟨x, h2⟩ := mM hr h1
 obtain ⟨y, k2⟩ := mM hr k1
 have hq : PoolR w pty psz (its.map fun p => (p.2.1, p.2.2)) y.tr := hr.hp.hb ip _ y k1 k2
 have hlo := hr.hp.lo ip _ y k1 k2
 have hrt := hr.hp.rt ip _ y k1 k2
 have hVn : ∀ b ∈ bls (its.map fun p => (p.2.1, p.2.2)), V0 b = none := fun b hb => hrt b (hq.sub b hb)
 have hV : V0.le (poolV V0 (its.map fun p => (p.2.1, p.2.2))) := fun b cs hb => ⟨cs, by
  have hm : b ∉ bls (its.map fun p => (p.2.1, p.2.2)) := fun hm => by rw [hVn b hm] at hb; cases hb
  rw [mO hm]; exact hb, List.prefix_refl _⟩
 have hnew : ∀ b cs, poolV V0 (its.map fun p => (p.2.1, p.2.2)) b = some cs → (V0 b = some cs ∧ b ∉ bls (its.map fun p => (p.2.1, p.2.2))) ∨ (b ∈ bls (its.map fun p => (p.2.1, p.2.2)) ∧ ∃ c, w.heap[b]? = some (.cells c pty (0, 0)) ∧ cs <+: c.toList) := fun b cs hb => by
  by_cases hm : b ∈ bls (its.map fun p => (p.2.1, p.2.2))
  ·right
   obtain ⟨p, hpm, hpb⟩ := gD.1 hm
   rw [a0u hq.nd hpm hpb] at hb
   cases hb
   obtain ⟨_, _, _, e⟩ := hq.at_ p hpm
   rcases e with ⟨e, _⟩ | ⟨b', cap, cur, e, _, e2, _, _, _, e6⟩
   ·rw [e] at hpb; cases hpb
   ·rw [e] at hpb
    cases hpb
    exact ⟨hm, cur, e2, by rw [← e6]; exact List.take_prefix _ _⟩
  ·left; exact ⟨by rw [mO hm] at hb; exact hb, hm⟩
 have hmod : Mod (poolV V0 (its.map fun p => (p.2.1, p.2.2))) w := fun b cs hb => by
  rcases hnew b cs hb with ⟨e, _⟩ | ⟨_, c, e1, e2⟩
  ·exact hr.mod b cs e
  ·exact ⟨c, pty, _, e1, e2⟩
 have hr1 : Rel C g0 (poolV V0 (its.map fun p => (p.2.1, p.2.2))) ⟨st.t, (st.h.set ip (.pool pty psz (its.map fun p => (p.2.1, p.2.2)))).set ip .gone⟩ a w := by
  refine ⟨hr.sl.mono (GLe.refl g0) hV, ?_, hmod, hr.fr, hr.vw.grow hV fun b cs hb1 hb2 => ?_⟩
  ·have := hr.hp.swap (x' := y) (b' := .gone) (V' := poolV V0 (its.map fun p => (p.2.1, p.2.2))) (w' := w) ip k1 k2 rfl rfl rfl hV (fun n hn => by simp [aK] at hn) (by simp [aK]) (fun n hn => by simp [aN] at hn) trivial (fun _ _ _ => rfl) (Nat.le_refl _) hr.fr.size (fun n hn hlt hn0 => by
    rw [mO (fun hm => hn (hq.sub n hm))]; exact hn0)
   have e : g0.set ip y = g0 := by
    apply List.ext_getElem?
    intro j
    rw [List.getElem?_set]
    by_cases hj : ip = j
    ·subst hj; rw [if_pos rfl, if_pos (List.getElem?_eq_some_iff.1 k2).1, k2]
    ·rw [if_neg hj]
   rw [e] at this
   exact this
  ·rcases hnew b cs hb1 with ⟨e, _⟩ | ⟨hm, c, e1, _⟩
   ·rw [hb2] at e; cases e
   ·exact ⟨(hlo b (hq.sub b hm)).1, c, pty, e1⟩
 have e1 : (st.h.set ip (.pool pty psz (its.map fun p => (p.2.1, p.2.2)))).set ip .gone = st.h.set ip .gone := by rw [List.set_set]
 rw [e1] at hr1
 have h1' : (st.h.set ip .gone)[id]? = some (.row ty sz (its.map iE) true) := by rw [List.getElem?_set, if_neg (fun e => hne e.symm)]; exact aC h (by simp)
 obtain ⟨q0, ys, Ss, q1, q2, q3⟩ := hr.hp.hb id _ x h1 h2
 let x' : Gh := { x with tr := (its.map kU).flatten.flatten }
 have hlay := a2u hq (fun p hp => List.mem_map.2 ⟨p, hp, rfl⟩) q1
 have hdj := hr.hp.dj id ip _ _ x y hne h1 h2 k1 k2
 refine ⟨g0.set id x', poolV V0 (its.map fun p => (p.2.1, p.2.2)), ?_⟩
 rw [aV, aV]
 have hblk : ∀ n ∈ x.blk.toList, n ∉ bls (its.map fun p => (p.2.1, p.2.2)) := fun n hn hm => hdj n (List.mem_append.2 (.inl hn)) (hq.sub n hm)
 refine ⟨hr1.sl.mono (GLe.set h2 rfl rfl rfl) (View.le.refl _), hr1.hp.swapG id h1' h2 rfl rfl rfl (fun n hn => ?_) ?_ (fun n hn => ?_) ⟨fun r hr => ?_, ys, _, hlay, fun _ => rfl, ?_⟩ (fun _ _ _ => rfl) (Nat.le_refl _), hr1.mod, hr1.fr, hr1.vw⟩
 ·have hn : n ∈ x.blk.toList ++ (its.map kU).flatten.flatten := hn
  rcases List.mem_append.1 hn with hn | hn
  ·exact .inl (List.mem_append.2 (.inl hn))
  ·have hm := yV hn
   refine .inr ⟨hlo n (hq.sub n hm), fun i c z hc hz hin => ?_⟩
   rw [List.getElem?_set] at hc
   by_cases hi : ip = i
   ·subst hi
    rw [if_pos rfl] at hc
    split at hc
    ·cases hc; simp [aK] at hin
    ·first | (cases hc; done) | (cases hc; simp [aK] at hin)
   ·rw [if_neg hi] at hc
    have hc' : (st.h.set ip (.pool pty psz (its.map fun p => (p.2.1, p.2.2))))[i]? = some c := by rw [List.getElem?_set, if_neg hi]; exact hc
    exact hr.hp.dj i ip _ _ z y (fun e => hi e.symm) hc' hz k1 k2 n hin (hq.sub n hm)
 ·show (x.blk.toList ++ (its.map kU).flatten.flatten).Nodup
  exact List.nodup_append.2 ⟨by cases x.blk <;> simp, a0v hq.nd, fun a ha b hb e => by subst e; exact hblk a ha (yV hb)⟩
 ·have hn : n ∈ x.blk.toList := hn
  rw [mO (hblk n hn)]
  exact hr.hp.rt id _ x h1 h2 n hn
 ·obtain ⟨p, hp, rfl⟩ := List.mem_map.1 hr
  have := q0 (iE p) (List.mem_map.2 ⟨p, hp, rfl⟩)
  rw [dV] at this
  rw [kL]; exact this
 ·rcases q3 with ⟨e1, e2, e3⟩ | ⟨b, cap, c, e1, e2, e3, e4, e5, e6, e7⟩
  ·exact .inl ⟨e1, e2, by simpa using e3⟩
  ·exact .inr ⟨b, cap, c, e1, by simpa using e2, by simpa using e3, e4, e5, e6, e7⟩
end
end Go.Sx
end
section
set_option linter.all false
namespace Go.Sx
open Go Go.RowKit
theorem yX {V : View} {ds : List D} {ys : List Value} {Ss : List (List Nat)} (h : LayL V ds ys Ss) (hf : ds.all isV = true) : Ss.flatten = [] ∧ ∀ V', LayL V' ds ys Ss := by
 obtain ⟨h1, h2, h3⟩ := h
 have key : ∀ (k : Nat) (d : D) (y : Value) (S : List Nat), ds[k]? = some d → ys[k]? = some y → Ss[k]? = some S → S = [] ∧ ∀ V', Lay V' d y S := fun k d y S e1 e2 e3 => by
  have h4 := h3 k d y S e1 e2 e3
  have h5 := List.all_eq_true.1 hf d (List.mem_of_getElem? e1)
  cases h4 with
  | v _ hx => exact ⟨rfl, fun V' => .v _ hx⟩
  | nil => simp [isV] at h5
  | sl => simp [isV] at h5
 refine ⟨?_, fun V' => ⟨h1, h2, fun k d y S e1 e2 e3 => (key k d y S e1 e2 e3).2 V'⟩⟩
 rw [List.flatten_eq_nil_iff]
 intro S hS
 obtain ⟨k, hk, rfl⟩ := List.getElem_of_mem hS
 exact (key k ds[k] ys[k] Ss[k] (List.getElem?_eq_getElem (by omega)) (List.getElem?_eq_getElem (by omega)) (List.getElem?_eq_getElem hk)).1
theorem qM {rows : List (List D)} (h : eO rows = true) : rows.flatten.all isV = true := by
 unfold eO at h
 simpa [List.all_flatten] using h
def stI (ty sz : Nat) (rows : List (List D)) (y : Value) (args : List SV) (n : Nat) : St := ⟨.o (.s 0) :: (args ++ List.replicate (n - 1 - args.length) (.t [])), [.row ty sz rows true, .isv 0 y]⟩
def a4q (ty sz : Nat) (rows' : List (List D)) (y : Value) : Ex → St → Prop
 | .exit _, _ => False
 | _, st => bK st.h 0 = .row ty sz rows' true ∧ bK st.h 1 = .isv 0 y
theorem a0w {ty sz : Nat} {rows' : List (List D)} {y : Value} {st : St} (h1 : bK st.h 0 = .row ty sz rows' true) (h2 : bK st.h 1 = .isv 0 y) : a4q ty sz rows' y .ret st := ⟨h1, h2⟩
theorem aF {ty sz : Nat} {rows' : List (List D)} {y : Value} {st : St} (h1 : bK st.h 0 = .row ty sz rows' true) (h2 : bK st.h 1 = .isv 0 y) : a4q ty sz rows' y .normal st := ⟨h1, h2⟩
theorem a1B {V : View} {w w' : World} {y : Value} (h : Done V w (.t []) y w') : y = .tuple #[] := by
 obtain ⟨_, _, _, _, _, ⟨l, hs, _⟩, _⟩ := h.out
 obtain ⟨ls, h1, h2, h3, ys, h4, h5, _⟩ := hs
 have : ys = [] := List.eq_nil_of_length_eq_zero (by simpa using h5)
 subst this
 exact h4
theorem FnI.of_wp {P : Program} {T : Nat → Ty} {eqk : Nat → List Nat} (hT : TyOK P T) {f : Nat} {fn : Func} {c : Code} {ty sz : Nat} {rows rows' : List (List D)} {args : List SV}
    (hf : P.funcs[f]? = some fn) (hb : fn.body = some c) (hcall : ∀ as w, (callFunc f as).run P w = .ok (.enter f as) w) (hres : fn.results = #[])
    (hfl : eO rows = true) (hfl' : eO rows' = true) (hlen : rows'.length = rows.length) (h0 : rows = [] → FnC P f (.o (.d (.sl [])) :: args) (.t []))
    (h : rows ≠ [] → ∀ (C : Ctx) (y : Value), WP P C c (aS P C [] (a4q ty sz rows' y)) (stI ty sz rows y args fn.ntmps)) : FnI P f ty sz rows args true rows' := by
 refine ⟨hcall, fun V w y S vs htab hm hrow hnd hlt ha => ?_⟩
 by_cases hr0 : rows = []
 ·subst hr0
  have hr' : rows' = [] := List.eq_nil_of_length_eq_zero (by simpa using hlen)
  subst hr'
  have hL : ∃ T, Lay V (.sl []) y T := by
   obtain ⟨_, ys, Ss, _, ⟨⟨ao, rfl⟩, _, _⟩ | ⟨b, cap, cc, rfl, _, e4, _⟩⟩ := hrow
   ·cases ao with
    | none => exact ⟨_, .nil⟩
    | some a => exact ⟨_, .sl [] a 0 0 [] [] (by simp) (by simp) (by simp [maxLen]) rfl rfl (fun k y h => by simp at h) (fun k d y S h => by simp at h)⟩
   ·exact ⟨_, .sl [] ⟨b, 0, none⟩ cap 0 [] [] (by simp) (by simp) e4 rfl rfl (fun k y h => by simp at h) (fun k d y S h => by simp at h)⟩
  refine ((h0 rfl).calls V w (y :: vs) htab.nil hm ⟨by simp [ha.1], fun k s z e1 e2 => ?_⟩).mono ?_
  ·cases k with
   | zero => simp at e1 e2; subst e1; subst e2; exact hL
   | succ k => exact ha.2 k s z (by simpa using e1) (by simpa using e2)
  ·rintro e w' ⟨y', rfl, hd⟩
   have e0 := a1B hd
   subst e0
   refine ⟨y, rfl, fun _ => rfl, ⟨hd.below.os, hd.below.tape, hd.below.output, hd.below.size, fun k hk _ => hd.below.block k hk⟩, S, ?_, hnd, fun b hb => .inl hb, fun _ => rfl⟩
   obtain ⟨g0, ys, Ss, g1, g2⟩ := hrow
   refine ⟨g0, ys, Ss, g1, ?_⟩
   rcases g2 with g2 | ⟨b, cap, cc, e1, e2, e3, e4, e5, e6, e7, e8⟩
   ·exact .inl g2
   ·exact .inr ⟨b, cap, cc, e1, e2, e3, by rw [hd.below.block b (hlt b (by rw [e8]; simp))]; exact e4, e5, e6, e7, e8⟩
 ·let C : Ctx := ⟨w, S, V, htab⟩
  refine calls_of_wp hf hb ?_
  have hrow0 := hrow
  obtain ⟨x2, e1, _, e3, e4, e5, e6, e7⟩ := zZ hrow []
  let xi : Gh := ⟨none, undef, [], []⟩
  have hSV : ∀ n ∈ S, V n = none := by
   obtain ⟨_, ys, Ss, g1, ⟨_, _, h⟩ | ⟨b, cap, cc, _, _, _, _, _, _, g8, hS⟩⟩ := hrow0
   ·rw [h]; intro n hn; cases hn
   ·rw [hS, (yX g1 (qM hfl)).1]
    intro n hn
    rw [List.mem_singleton.1 hn]; exact g8
  have hr : Rel C [x2, xi] V (stI ty sz rows y args fn.ntmps) { tmps := (y :: vs).toArray ++ Array.replicate (fn.ntmps - (y :: vs).toArray.size) undef, defers := [] } w := by
   refine ⟨⟨by simp [stI, ha.1]; omega, fun i s y0 h1 h2 => ?_, rfl⟩, ⟨rfl, ?_, ?_, ?_, ?_, ?_⟩, hm,
    ⟨rfl, rfl, rfl, Nat.le_refl _, fun _ _ _ => rfl⟩, Vw.init hm hSV⟩
   ·match i with
    | 0 =>
     simp [stI] at h1
     rw [Array.getElem?_append_left (by simp)] at h2
     simp at h2
     subst h1; subst h2
     exact ⟨x2, rfl, e1.symm, e6⟩
    | i + 1 =>
     simp only [stI, List.getElem?_cons_succ] at h1
     have h2' : (vs.toArray ++ Array.replicate (fn.ntmps - (vs.length + 1)) undef)[i]? = some y0 := by
      simp only [List.size_toArray, List.length_cons] at h2
      rw [← h2]
      rw [Array.getElem?_append, Array.getElem?_append]
      simp
     rw [List.getElem?_append] at h1
     rw [Array.getElem?_append] at h2'
     simp only [List.size_toArray, ha.1] at h2'
     split at h1
     ·rw [if_pos ‹_›] at h2'
      exact (ha.2 i s y0 h1 (by simpa using h2')).mono (fun j z hz => by simp at hz) (View.le.refl V)
     ·rw [if_neg ‹_›] at h2'
      rw [List.getElem?_replicate] at h1
      rw [Array.getElem?_replicate] at h2'
      split at h1
      ·split at h2'
       ·cases h1; cases h2'; exact fG _ _
       ·cases h2'
      ·cases h1
   all_goals
    have key : ∀ (i : Nat) (c : HB) (z : Gh), (stI ty sz rows y args fn.ntmps).h[i]? = some c → [x2, xi][i]? = some z → (i = 0 ∧ c = .row ty sz rows true ∧ z = x2) ∨ (i = 1 ∧ c = .isv 0 y ∧ z = xi) := fun i c z h1 h2 => by
     match i with
     | 0 => simp [stI] at h1 h2; exact .inl ⟨rfl, h1.symm, h2.symm⟩
     | 1 => simp [stI] at h1 h2; exact .inr ⟨rfl, h1.symm, h2.symm⟩
     | i + 2 => simp at h2
   ·intro i c z h1 h2
    rcases key i c z h1 h2 with ⟨rfl, rfl, rfl⟩ | ⟨rfl, rfl, rfl⟩
    ·exact e7 _
    ·exact ⟨x2, rfl, by obtain ⟨_, _, _, _, ⟨⟨ao, rfl⟩, _⟩ | ⟨_, _, _, rfl, _⟩⟩ := hrow0 <;> exact e1⟩
   ·intro i c z h1 h2
    rcases key i c z h1 h2 with ⟨rfl, rfl, rfl⟩ | ⟨rfl, rfl, rfl⟩
    ·rw [e4]; exact hnd
    ·simp [aK]
   ·intro i j c c' z z' hij h1 h2 h3 h4 n hn hn'
    rcases key i c z h1 h2 with ⟨rfl, rfl, rfl⟩ | ⟨rfl, rfl, rfl⟩
    ·rcases key j c' z' h3 h4 with ⟨rfl, rfl, rfl⟩ | ⟨rfl, rfl, rfl⟩
     ·exact hij rfl
     ·simp [aK] at hn'
    ·simp [aK] at hn
   ·intro i c z h1 h2 n hn
    rcases key i c z h1 h2 with ⟨rfl, rfl, rfl⟩ | ⟨rfl, rfl, rfl⟩
    ·rw [e4] at hn
     exact ⟨.inr hn, hlt n hn⟩
    ·simp [aK] at hn
   ·intro i c z h1 h2 n hn
    rcases key i c z h1 h2 with ⟨rfl, rfl, rfl⟩ | ⟨rfl, rfl, rfl⟩
    ·exact e5 n hn
    ·simp [aN] at hn
  obtain ⟨_, ys, Ss, g1, ⟨_, g2, _⟩ | ⟨b, cap, cc, rfl, g3, g4, g5, g6, g7, g8, hS⟩⟩ := hrow0
  ·exact (hr0 g2).elim
  have hS0 : S = [b] := by rw [hS, (yX g1 (qM hfl)).1]
  refine wp_mono (h hr0 C _ [x2, xi] V _ w hr) fun e a' w' q => ?_
  have fin : ∀ (g : List Gh) (V' : View) (st : St), Rel C g V' st a' w' → bK st.h 0 = .row ty sz rows' true ∧ bK st.h 1 = .isv 0 (.slice (some ⟨b, 0, none⟩) rows.length cap) →
      ∃ y', (results fn a'.tmps).run P w' = .ok y' w' ∧ ∃ y'', Ending.returned y' = .returned (if true then .tuple #[] else y'') ∧ (true = true → y'' = .slice (some ⟨b, 0, none⟩) rows.length cap) ∧ Gave V w S ty sz true rows' y'' w' := by
   rintro g V' st hr' ⟨k1, k2⟩
   have hi := aC k1 (by simp)
   have hi1 := aC k2 (by simp)
   obtain ⟨z0, hz0⟩ : ∃ z0, g[0]? = some z0 := ⟨_, List.getElem?_eq_getElem (by rw [hr'.hp.glen]; exact (List.getElem?_eq_some_iff.1 hi).1)⟩
   obtain ⟨z1, hz1⟩ : ∃ z1, g[1]? = some z1 := ⟨_, List.getElem?_eq_getElem (by rw [hr'.hp.glen]; exact (List.getElem?_eq_some_iff.1 hi1).1)⟩
   obtain ⟨z, hz, hv⟩ := hr'.hp.hb 1 _ z1 hi1 hz1
   rw [hz0] at hz
   cases hz
   have hv : z0.val = .slice (some ⟨b, 0, none⟩) rows.length cap := hv
   have hok := hr'.hp.hb 0 _ z0 hi hz0
   obtain ⟨p0, ys', Ss', p1, p2, p3⟩ := hok
   obtain ⟨q1, q2⟩ := yX p1 (qM hfl')
   have hb' : z0.blk = some b ∧ ∃ cur, w'.heap[b]? = some (.cells cur ty (0, 0)) ∧ cur.size = cap * sz ∧ ys' <+: cur.toList := by
    rcases p3 with ⟨_, ⟨ao, e⟩, e'⟩ | ⟨b', cap', cur, f1, f2, f3, f4, f5, f6, f7⟩
    ·have : rows = [] := List.eq_nil_of_length_eq_zero (by rw [← hlen, e']; rfl)
     exact (hr0 this).elim
    ·rw [hv] at f2
     simp only [Value.slice.injEq, Option.some.injEq, Addr.mk.injEq] at f2
     obtain ⟨⟨rfl, _⟩, _, rfl⟩ := f2
     exact ⟨f1, cur, f5, f6, f7⟩
   obtain ⟨hblk, cur, f5, f6, f7⟩ := hb'
   refine ⟨.tuple #[], ?_, _, rfl, fun _ => rfl, ⟨hr'.fr.os, hr'.fr.tape, hr'.fr.output, hr'.fr.size, fun k hk hx => hr'.fr.block k hk (fun hm => hx ?_)⟩, [b], ⟨p0, ys', Ss', q2 V, .inr ⟨b, cap, cur, by rw [hlen], by rw [hlen]; exact g3, g4, f5, f6, f7, g8, by rw [q1]⟩⟩, by simp, fun n hn => .inl (by rw [hS0]; exact hn), fun _ => by rw [hS0]⟩
   ·have := nN (a := a') (rs := []) hres (P := P) (vs := []) (w := w') rfl
    exact this
   ·have hm : k ∈ S := hm
    rw [hS0] at hm ⊢
    simp at hm
    simp [hm]
  cases e with
  | normal =>
   obtain ⟨g, V', st', hr', hret⟩ := q
   obtain ⟨y, hy, hd⟩ := fin g V' st' hr' hret
   exact ⟨hr'.sl.defers, y, hy, hd⟩
  | ret =>
   obtain ⟨g, V', st', hr', hret⟩ := q
   obtain ⟨y, hy, hd⟩ := fin g V' st' hr' hret
   exact ⟨hr'.sl.defers, y, hy, hd⟩
  | exit id => obtain ⟨g, V', st', hr', q⟩ := q; exact q.elim
  | goto l => exact q.elim
  | panic ch => exact q.elim
  | outgrown => exact q.elim
end Go.Sx
end
end
