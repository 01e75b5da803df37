/- Joined texts. -/
import Derived.Test.YtolgdibgnndoaaaGreatZ03
import Derived.KernelRfl
set_option linter.all false
section
section
set_option linter.all false
namespace Go.Sx
open Go Go.RowKit
inductive Plan where
 | node : List (Nat × Plan) → Plan
def b3B (ops : List Oper) : Nat → Array Bool → List (Nat × Plan) → Bool
 | 0, listed, l => (Region.ready .any ops.toArray listed).isEmpty && l.isEmpty
 | n + 1, listed, l => decide (Region.ready .any ops.toArray listed = l.map (·.1)) && l.all fun p => match p.2 with
  | .node r => b3B ops n (listed.setIfInBounds p.1 true) r
section
variable {E : Env}
def a6a (E : Env) (ops : List Oper) : Nat → List (Nat × Plan) → St → (St → Prop) → Prop
 | 0, _, st, K => K st
 | _ + 1, [], st, K => K st
 | n + 1, l, st, K => ∀ p ∈ l, match p.2 with
  | .node r => match ops[p.1]? with
   | some o => oP E ops [o] st fun st' => a6a E ops n r st' K
   | none => False
end
structure vcPT (E : Env) (all : List Oper) (n : Nat) (l : List (Nat × Plan)) (st : St) (K : St → Prop) (t : Tie (all, l, K)) : Prop where
 out : a6a E all n l st K
structure vcPL (E : Env) (all : List Oper) (n : Nat) (l : List (Nat × Plan)) (st : St) (K : St → Prop) (t : Tie (all, l, K)) : Prop where
 out : ∀ p ∈ l, match p.2 with
  | .node r => match all[p.1]? with
   | some o => oP E all [o] st fun st' => a6a E all n r st' K
   | none => False
def b4X (E : Env) (all : List Oper) (i : Nat) (st : St) (k : St → Prop) (_ : Tie k) : Prop := match a2X all i with
 | some o => a0R E all o st k ⟨⟩
 | none => False
section
variable {E : Env}
end
attribute [go_sem] b4X
end Go.Sx
end
section
set_option linter.all false
namespace Go.Sx
open Go Go.RowKit
def b2p (ds : List Nat) (o : Oper) : Bool := match o.op with
 | .call _ => (match o.dst with | some d => a1N d ds | none => false)
 | _ => false
def a3t (ds : List Nat) (o : Oper) : Bool := sH o || b2p ds o
def rdX (ds : List Nat) : List Oper → List Oper
 | [] => []
 | o :: r => if a3t ds o then rdX ds r else o :: rdX ds r
def a3u : List Oper → List Oper
 | [] => []
 | o :: r => if sH o then a3u r else o :: a3u r
structure CallG (E : Env) (f : Nat) (args : List SV) (h : List HB) (k : List HB → SV → Prop) (t : Tie k) : Prop where
 out : ∃ h' s, (∀ T, CallS E f args ⟨T, h⟩ fun st2 s2 => st2 = ⟨T, h'⟩ ∧ s2 = s) ∧ k h' s
theorem CallG.frz {E : Env} {f : Nat} {args args' : List SV} {res : SV} {h : List HB} {k : List HB → SV → Prop} (hf : FnC E.P f args' res) (he : args.map (eU (bI h (dY args))) = args') (hfree : args'.all bY = true) (hk : k (bI h (dY args) ++ adH res.all) (adS (bI h (dY args)).length res)) : CallG E f args h k ⟨⟩ :=
 ⟨_, _, fun T => CallS.frz (st := ⟨T, h⟩) hf he hfree ⟨rfl, rfl⟩, hk⟩
theorem CallG.lend {E : Env} {f : Nat} {args args' : List SV} {res : SV} {h : List HB} {k : List HB → SV → Prop} (hf : FnC E.P f args' res) (he : args.map (dX h) = args') (hfree : args'.all bY = true) (hres : res.all.all lJ = true) (hk : k (h ++ adG (fun _ => none) 0 res.all) (adS h.length res)) : CallG E f args h k ⟨⟩ :=
 ⟨_, _, fun T => CallS.lend (st := ⟨T, h⟩) hf he hfree hres ⟨rfl, rfl⟩, hk⟩
def a6b (E : Env) (o : Oper) (st : St) (k : List HB → SV → Prop) : Prop := match o.op with
 | .call c => (match c.callee with
  | .value f => (match ev st f with
   | .o (.f fn caps) => CallG E fn (c.args.toList.map (ev st) ++ caps.map (fun cs => .o (.q cs))) st.h k ⟨⟩
   | _ => False)
  | _ => False)
 | _ => False
def a4y (all : List Oper) (i : Nat) (f : Oper → Bool) : Bool := match all[i]? with
 | some o => f o
 | none => true
def onE (o : Oper) (j : Nat) : Bool := o.after.any fun e => Region.binds .any e && e.on == j
def a6W (all : List Oper) (ps ds : List Nat) : Bool :=
 (List.range all.length).all fun i => a4y all i fun o =>
  (match o.guard with | none => true | some (j, _) => !a3t ds o && onE o j && (match all[j]? with | some p => p.dst.isSome | none => false)) && (o.after.all fun e => !Region.binds .any e || decide (e.on < i)) && (a3t ds o == ps.contains i) &&
  (match o.dst with | none => sH o | some d => !sH o) &&
  ((List.range all.length).all fun j => a4y all j fun p => match p.dst with
   | none => true
   | some d => ((mW (opL o.op)).all fun t => t != d || onE o j) && (j == i || o.dst != some d))
def a7V : List Nat → List Oper → Bool
 | [], _ => true
 | p :: r, all => (r.all fun q => decide (p < q) && a4y all q fun o => onE o p) && a7V r all
def jM (all : List Oper) (listed : Array Bool) (d : Nat) : Bool := (List.range all.length).any fun j => !listed.getD j true && (match all[j]? with | some o => o.dst == some d | none => false)
def eY (all : List Oper) (listed : Array Bool) (T : List SV) : List SV := (List.range T.length).map fun d => if jM all listed d then .o .u else nth T d
section
variable {E : Env}
def rV (E : Env) (st : St) : List Oper → Prop
 | [] => True
 | o :: r => (match o.dst with
  | some d => vcD E o.op (ev st) st.h fun s => s = nth st.t d
  | none => False) ∧ rV E st r
def b0X (E : Env) (all : List Oper) (st : St) (o : Oper) (d : Nat) : Prop := match o.guard with
 | none => vcD E o.op (ev st) st.h fun s => s = nth st.t d
 | some (j, b) => eZ (nS all j st) b (vcD E o.op (ev st) st.h fun s => s = nth st.t d) (SV.t [] = nth st.t d) ⟨⟩ ⟨⟩
def a4z (E : Env) (all : List Oper) (st : St) : List Oper → Prop
 | [] => True
 | o :: r => (match o.dst with
  | some d => b0X E all st o d
  | none => False) ∧ a4z E all st r
def a9k (E : Env) (o : Oper) (st : St) (k : St → Prop) : Prop := if sH o then dH E o.op st fun st' _ => k st' else a6b E o st fun h' s => (match o.dst with | some d => s = nth st.t d | none => False) ∧ k ⟨st.t, h'⟩
def xN (E : Env) (all : List Oper) (ds : List Nat) : List Nat → St → (St → Prop) → Prop
 | [], st, K => a4z E all st (rdX ds all) ∧ K st
 | p :: r, st, K => a4z E all st (rdX ds all) ∧ ∃ o, all[p]? = some o ∧ a9k E o st fun st' => xN E all ds r st' K
theorem dC (all : List Oper) (listed : Array Bool) (T : List SV) : (eY all listed T).length = T.length := by simp [eY]
theorem gD (all : List Oper) (listed : Array Bool) (T : List SV) (d : Nat) : nth (eY all listed T) d = if jM all listed d then .o .u else nth T d := by
 rcases Nat.lt_or_ge d T.length with h | h
 ·rw [oG, List.getD_eq_getElem?_getD]
  simp [eY, h]
 ·rw [a4n (by rw [dC]; exact h), a4n h]
  split <;> rfl
theorem fB (all : List Oper) (listed : Array Bool) (d : Nat) : jM all listed d = true ↔ ∃ j o, all[j]? = some o ∧ o.dst = some d ∧ listed.getD j true = false := by
 unfold jM
 rw [List.any_eq_true]
 constructor
 ·rintro ⟨j, _, h⟩
  rw [Bool.and_eq_true] at h
  obtain ⟨h1, h2⟩ := h
  split at h2
  ·rename_i o ho
   exact ⟨j, o, ho, by simpa using h2, by simpa using h1⟩
  ·cases h2
 ·rintro ⟨j, o, ho, hd, hl⟩
  refine ⟨j, List.mem_range.2 (List.getElem?_eq_some_iff.1 ho).1, ?_⟩
  rw [hl, ho]; simp [hd]
theorem a4A {st : St} : ∀ {l : List Oper} {o : Oper}, rV E st l → o ∈ l → ∃ d, o.dst = some d ∧ vcD E o.op (ev st) st.h fun s => s = nth st.t d
 | [], o, _, h => by simp at h
 | x :: l, o, hc, h => by
  rcases List.mem_cons.1 h with rfl | h
  ·have h1 := hc.1
   split at h1
   ·rename_i d hd; exact ⟨d, hd, h1⟩
   ·exact h1.elim
  ·exact a4A hc.2 h
theorem a4B {all : List Oper} {st : St} : ∀ {l : List Oper} {o : Oper}, a4z E all st l → o ∈ l → ∃ d, o.dst = some d ∧ b0X E all st o d
 | [], o, _, h => by simp at h
 | x :: l, o, hc, h => by
  rcases List.mem_cons.1 h with rfl | h
  ·have h1 := hc.1
   split at h1
   ·rename_i d hd; exact ⟨d, hd, h1⟩
   ·exact h1.elim
  ·exact a4B hc.2 h
theorem a3v {ds : List Nat} : ∀ {l : List Oper} {o : Oper}, o ∈ l → a3t ds o = false → o ∈ rdX ds l
 | [], o, h, _ => by simp at h
 | x :: l, o, h, hs => by
  unfold rdX
  rcases List.mem_cons.1 h with rfl | h
  ·rw [hs]; simp
  ·split
   ·exact a3v h hs
   ·exact List.mem_cons_of_mem _ (a3v h hs)
theorem a7W {all : List Oper} {ds ps : List Nat} {st : St} {K : St → Prop} (h : xN E all ds ps st K) : a4z E all st (rdX ds all) := by
 cases ps with
 | nil => exact h.1
 | cons p r => exact h.1
theorem a6c {t : Nat} {x v : Operand} {st : St} {k : St → SV → Prop} {T : List SV} (h : dH E (.store t x v) st k) (hx : ev ⟨T, st.h⟩ x = ev st x) (hv : ev ⟨T, st.h⟩ v = ev st v) : dH E (.store t x v) ⟨T, st.h⟩ fun st2 _ => ∃ H s, st2 = ⟨T, H⟩ ∧ k ⟨st.t, H⟩ s := by
 simp only [dH, hx, hv] at h ⊢
 split at h
 ·unfold kU at h ⊢
  dsimp only at h ⊢
  obtain ⟨h1, h2, h3, h4, h5, h⟩ := h
  refine ⟨h1, h2, h3, h4, h5, ?_⟩
  split at h
  ·rename_i e1 e2
   split at h
   ·rename_i e3
    try simp only [e3]
    exact ⟨h.1, h.2.1, _, _, rfl, h.2.2⟩
   ·exact h.elim
  ·exact h.elim
 ·unfold jQ at h ⊢
  dsimp only at h ⊢
  split at h
  ·split at h
   ·rename_i e1
    try simp only [e1]
    split at h
    ·rename_i e2 e3
     try simp only [e2, e3]
     exact ⟨h.1, h.2.1, h.2.2.1, h.2.2.2.1, _, _, rfl, h.2.2.2.2⟩
    ·exact h.elim
   ·exact h.elim
  ·exact h.elim
 ·unfold nT at h ⊢
  dsimp only at h ⊢
  split at h
  ·split at h
   ·rename_i e1
    try simp only [e1]
    split at h
    ·rename_i e2
     try simp only [e2]
     exact ⟨h.1, h.2.1, h.2.2.1, h.2.2.2.1, _, _, rfl, h.2.2.2.2⟩
    ·exact h.elim
   ·rename_i e1
    try simp only [e1]
    split at h
    ·rename_i e0
     try simp only [e0]
     split at h
     ·rename_i e2
      try simp only [e2]
      exact ⟨h.1, h.2.1, _, _, rfl, h.2.2⟩
     ·exact h.elim
    ·exact h.elim
   ·exact h.elim
  ·exact h.elim
def a0o (all : List Oper) (listed : Array Bool) : Nat := ((List.range all.length).filter fun j => !listed.getD j true).length
theorem a2p {all : List Oper} {listed : Array Bool} {i : Nat} (hi : i < all.length) (hu : listed.getD i true = false) : a0o all (listed.setIfInBounds i true) < a0o all listed := by
 unfold a0o
 have key : ∀ l : List Nat, i ∈ l → ((l.filter fun j => !(listed.setIfInBounds i true).getD j true).length < (l.filter fun j => !listed.getD j true).length) ∧ True := by
  intro l hl
  refine ⟨?_, trivial⟩
  have le : ∀ l : List Nat, (l.filter fun j => !(listed.setIfInBounds i true).getD j true).length ≤ (l.filter fun j => !listed.getD j true).length := by
   intro l
   induction l with
   | nil => simp
   | cons x l ih =>
    simp only [List.filter_cons]
    by_cases e : i = x
    ·subst e; rw [bU]; simp only [Bool.not_true, Bool.false_eq_true, if_false]; split <;> (try simp only [List.length_cons]) <;> omega
    ·rw [getD_set_ne true e]; split <;> (try simp only [List.length_cons]) <;> omega
  induction l with
  | nil => simp at hl
  | cons x l ih =>
   simp only [List.filter_cons]
   by_cases e : i = x
   ·subst e
    rw [bU, hu]
    have := le l
    simp only [Bool.not_true, Bool.not_false, Bool.false_eq_true, if_false, if_true, List.length_cons]; omega
   ·rw [getD_set_ne true e]
    have := ih (by rcases List.mem_cons.1 hl with h | h; exact (e h).elim; exact h)
    split <;> (try simp only [List.length_cons]) <;> omega
 exact (key _ (List.mem_range.2 hi)).1
theorem a7X (hT : TyOK E.P E.T) (hE : ∀ t, E.eqk t ≠ [] → EqT E.P t (E.eqk t)) {all : List Oper} {ps0 ds : List Nat} (hok : a6W all ps0 ds = true) {Q : Exit → Act → World → Prop} {K : St → Prop} (hQ : ∀ g V st a w, Rel E.C g V st a w → K st → Q .normal a w) :
    ∀ (n : Nat) (listed : Array Bool) (ps : List Nat) (st : St) (g : List Gh) (V : View) (a : Act) (w : World), listed.size = all.length → a0o all listed ≤ n → a7V ps all = true → (∀ i ∈ ps, i ∈ ps0) → (∀ i, i < all.length → i ∈ ps0 → listed.getD i true = false → i ∈ ps) → (∀ i ∈ ps, listed.getD i true = false) →
     xN E all ds ps st K → Rel E.C g V ⟨eY all listed st.t, st.h⟩ a w → wpAny E.P .any all.toArray Q n listed a w := by
 have spec : ∀ (i : Nat) (o : Oper), all[i]? = some o → (∀ j b, o.guard = some (j, b) → a3t ds o = false ∧ onE o j = true ∧ ∃ p dj, all[j]? = some p ∧ p.dst = some dj) ∧ (∀ e ∈ o.after, Region.binds .any e = true → e.on < i) ∧ (a3t ds o = true ↔ i ∈ ps0) ∧ (sH o = true → o.dst = none) ∧ (sH o = false → ∃ d, o.dst = some d) ∧
     (∀ (j : Nat) (p : Oper) (d : Nat), all[j]? = some p → p.dst = some d → (∀ t ∈ mW (opL o.op), t = d → onE o j = true) ∧ (j ≠ i → o.dst ≠ some d)) := fun i o ho => by
  have h := List.all_eq_true.1 hok i (List.mem_range.2 (List.getElem?_eq_some_iff.1 ho).1)
  unfold a4y at h
  rw [ho] at h
  simp only [Bool.and_eq_true] at h
  obtain ⟨⟨⟨⟨h1, h2⟩, h3⟩, h4⟩, h5⟩ := h
  refine ⟨fun j b hg => ?_, fun e he hb => ?_, ?_, fun hs => ?_, fun hs => ?_, fun j p d hj hd => ?_⟩
  ·rw [hg] at h1
   simp only [Bool.and_eq_true, Bool.not_eq_true'] at h1
   refine ⟨h1.1.1, h1.1.2, ?_⟩
   have h6 := h1.2
   split at h6
   ·rename_i p hp
    obtain ⟨dj, hdj⟩ := Option.isSome_iff_exists.1 h6
    exact ⟨p, dj, hp, hdj⟩
   ·cases h6
  ·have := (Array.all_eq_true_iff_forall_mem.1 h2) e he
   rw [hb] at this
   simpa using this
  ·have h3 := beq_iff_eq.1 h3
   rw [h3]; exact List.contains_iff_mem
  ·cases hd : o.dst with
   | none => rfl
   | some d => rw [hd, hs] at h4; cases h4
  ·cases hd : o.dst with
   | none => rw [hd, hs] at h4; cases h4
   | some d => exact ⟨d, rfl⟩
  ·have h := List.all_eq_true.1 h5 j (List.mem_range.2 (List.getElem?_eq_some_iff.1 hj).1)
   rw [hj] at h
   simp only [hd, Bool.and_eq_true] at h
   refine ⟨fun t ht e => ?_, fun hne => ?_⟩
   ·have := List.all_eq_true.1 h.1 t ht
    subst e
    simpa using this
   ·rcases Bool.or_eq_true_iff.1 h.2 with h | h
    ·exact (hne (beq_iff_eq.1 h)).elim
    ·simpa using h
 have toT : ∀ {listed : Array Bool} {j : Nat}, listed.getD j false = true → listed.getD j true = true := fun {listed j} h => by
  rcases Nat.lt_or_ge j listed.size with h' | h'
  ·simp [h'] at h ⊢; exact h
  ·simp [Array.getElem?_eq_none h'] at h
 have fin : ∀ (listed : Array Bool) (ps : List Nat) (st : St) (g : List Gh) (V : View) (a : Act) (w : World), (∀ j, j < all.length → listed.getD j true = true) → (∀ i ∈ ps, i ∈ ps0) → (∀ i ∈ ps, listed.getD i true = false) → (∀ i ∈ ps0, True) → xN E all ds ps st K → Rel E.C g V ⟨eY all listed st.t, st.h⟩ a w → Q .normal a w := fun listed ps st g V a w hl h1 h2 _ hv hr => by
  have hm : eY all listed st.t = st.t := by
   apply List.ext_getElem?
   intro d
   rcases Nat.lt_or_ge d st.t.length with h | h
   ·rw [jJ (by rw [dC]; exact h), jJ h, gD]
    have : jM all listed d = false := by
     cases hh : jM all listed d with
     | false => rfl
     | true =>
      obtain ⟨j, o, ho, _, hu⟩ := (fB all listed d).1 hh
      rw [hl j (List.getElem?_eq_some_iff.1 ho).1] at hu; cases hu
    rw [this]; simp
   ·rw [List.getElem?_eq_none (by rw [dC]; exact h), List.getElem?_eq_none h]
  rw [hm] at hr
  cases ps with
  | nil => exact hQ _ _ _ _ _ hr hv.2
  | cons p r =>
   obtain ⟨_, o, ho, _⟩ := hv
   have := h2 p (by simp)
   rw [hl p (List.getElem?_eq_some_iff.1 ho).1] at this; cases this
 have none_left : ∀ (listed : Array Bool), listed.size = all.length → Region.ready .any all.toArray listed = [] → ∀ j, j < all.length → listed.getD j true = true := fun listed hsz hr => by
  intro j
  induction j using Nat.strongRecOn with
  | _ j ih =>
   intro hj
   cases hq : listed.getD j true with
   | true => rfl
   | false =>
    have ho : all[j]? = some (all[j]'hj) := List.getElem?_eq_getElem hj
    have : j ∈ Region.ready .any all.toArray listed := mem_ready.2 ⟨hq, _, toA ho, fun e he hb => by
     have hlt := (spec j _ ho).2.1 e he hb
     have h1 := ih e.on hlt (by omega)
     have hes : e.on < listed.size := by omega
     simp [hes] at h1 ⊢; exact h1⟩
    rw [hr] at this; cases this
 intro n
 induction n with
 | zero =>
  intro listed ps st g V a w hsz hn hup hps0 hall hps hv hr
  have hl : ∀ j, j < all.length → listed.getD j true = true := fun j hj => by
   cases hq : listed.getD j true with
   | true => rfl
   | false =>
    have : j ∈ (List.range all.length).filter fun j => !listed.getD j true := List.mem_filter.2 ⟨List.mem_range.2 hj, by rw [hq]; rfl⟩
    have := List.length_pos_of_mem this
    unfold a0o at hn
    omega
  refine ⟨List.eq_nil_iff_forall_not_mem.2 fun i hi => ?_, fin listed ps st g V a w hl hps0 hps (fun _ _ => trivial) hv hr⟩
  obtain ⟨h1, o, h2, _⟩ := mem_ready.1 hi
  rw [hl i (by simpa using (Array.getElem?_eq_some_iff.1 h2).1)] at h1; cases h1
 | succ n ih =>
  intro listed ps st g V a w hsz hn hup hps0 hall hps hv hr
  refine ⟨fun he => fin listed ps st g V a w (none_left listed hsz he) hps0 hps (fun _ _ => trivial) hv hr, fun i hi => ?_⟩
  obtain ⟨hun, o, ho', haft⟩ := mem_ready.1 hi
  have ho : all[i]? = some o := by simpa using ho'
  have hil := (List.getElem?_eq_some_iff.1 ho).1
  obtain ⟨s1, s2, s3, s4, s5, s6⟩ := spec i o ho
  have hun' : a0o all (listed.setIfInBounds i true) ≤ n := by have := a2p hil hun; omega
  have evEq : ∀ x ∈ o.op.operands, ev ⟨eY all listed st.t, st.h⟩ x = ev st x := fun x hx => by
   cases x with
   | tmp t =>
    show nth (eY all listed st.t) t = nth st.t t
    rw [gD]
    have : jM all listed t = false := by
     cases hh : jM all listed t with
     | false => rfl
     | true =>
      obtain ⟨j, p, hj, hd, hu⟩ := (fB all listed t).1 hh
      have h1 := (s6 j p t hj hd).1 t (qG.2 (by rw [a5H]; simpa using hx)) rfl
      obtain ⟨e, he, hb⟩ := Array.any_eq_true'.1 h1
      simp only [Bool.and_eq_true, beq_iff_eq] at hb
      have h2 := toT (haft e he hb.1)
      rw [hb.2, hu] at h2; cases h2
    rw [this]; simp
   | const v => rfl
   | func f => rfl
   | global m => rfl
  have vis : ∀ j p dj, all[j]? = some p → p.dst = some dj → onE o j = true → nth (eY all listed st.t) dj = nth st.t dj := fun j p dj hj hdj hon => by
   rw [gD]
   have : jM all listed dj = false := by
    cases hh : jM all listed dj with
    | false => rfl
    | true =>
     obtain ⟨j2, q, hj2, hd2, hu⟩ := (fB all listed dj).1 hh
     obtain ⟨e, he, hb⟩ := Array.any_eq_true'.1 hon
     simp only [Bool.and_eq_true, beq_iff_eq] at hb
     have h2 := toT (haft e he hb.1)
     rw [hb.2] at h2
     by_cases e2 : j2 = j
     ·subst e2; rw [h2] at hu; cases hu
     ·exact (((spec j p hj).2.2.2.2.2 j2 q dj hj2 hd2).2 e2 hdj).elim
   rw [this]; simp
  have keep : ∀ j, j ≠ i → (listed.setIfInBounds i true).getD j true = listed.getD j true := fun j hj => getD_set_ne true (fun e => hj e.symm)
  have putE : ∀ d, o.dst = some d → ∀ H, (St.put ⟨eY all listed st.t, H⟩ o.dst (nth st.t d)) = ⟨eY all (listed.setIfInBounds i true) st.t, H⟩ := fun d hd H => by
      rw [hd]
      simp only [St.put, lF]
      congr 1
      apply List.ext_getElem?
      intro m
      rw [List.getElem?_set]
      rcases Nat.lt_or_ge m st.t.length with hm | hm
      ·rw [jJ (l := eY all (listed.setIfInBounds i true) st.t) (by rw [dC]; exact hm), gD]
       by_cases e : d = m
       ·subst e
        rw [if_pos rfl, if_pos (by rw [dC]; exact hm)]
        have : jM all (listed.setIfInBounds i true) d = false := by
         cases hh : jM all (listed.setIfInBounds i true) d with
         | false => rfl
         | true =>
          obtain ⟨j, p, hj, hd2, hu⟩ := (fB _ _ d).1 hh
          by_cases e : j = i
          ·subst e; rw [bU] at hu; cases hu
          ·exact ((s6 j p d hj hd2).2 e hd).elim
        rw [this]; simp
       ·rw [if_neg e, jJ (by rw [dC]; exact hm), gD]
        have : jM all (listed.setIfInBounds i true) m = jM all listed m := by
         rw [Bool.eq_iff_iff, fB, fB]
         constructor
         ·rintro ⟨j, p, hj, hd2, hu⟩
          refine ⟨j, p, hj, hd2, ?_⟩
          by_cases e2 : j = i
          ·subst e2; rw [bU] at hu; cases hu
          ·rwa [keep j e2] at hu
         ·rintro ⟨j, p, hj, hd2, hu⟩
          refine ⟨j, p, hj, hd2, ?_⟩
          by_cases e2 : j = i
          ·subst e2; rw [ho] at hj; cases hj; rw [hd] at hd2; cases hd2; exact (e rfl).elim
          ·rwa [keep j e2]
        rw [this]
      ·rw [List.getElem?_eq_none (l := eY all (listed.setIfInBounds i true) st.t) (by rw [dC]; exact hm)]
       split
       ·rename_i e; subst e
        rw [if_neg (by rw [dC]; omega)]
       ·rw [List.getElem?_eq_none (l := eY all listed st.t) (by rw [dC]; exact hm)]
  cases hef : a3t ds o with
  | false =>
   have hs : sH o = false := by unfold a3t at hef; exact (Bool.or_eq_false_iff.1 hef).1
   have hmem := a3v (List.mem_of_getElem? ho) hef
   obtain ⟨d, hd, hvc⟩ := a4B (a7W hv) hmem
   have hnot : i ∉ ps := fun hm => by
    have := s3.2 (hps0 i hm)
    rw [hef] at this; cases this
   have run : ∀ {k : SV → Prop}, (vcD E o.op (ev st) st.h fun s => s = nth st.t d) → k (nth st.t d) → vcD E o.op (ev ⟨eY all listed st.t, st.h⟩) st.h k := fun {k} hv hk => by
    obtain ⟨s, h1, h2⟩ := a0x (tZ (fun x hx => (evEq x hx).symm) hv)
    exact h2 k (by rw [h1]; exact hk)
   refine a8N hT hE ho' hr (K := fun st' => st' = ⟨eY all (listed.setIfInBounds i true) st.t, st.h⟩) (fun g' V' st' a' w' hr2 hk => ?_) ?_
   ·subst hk
    exact ih _ ps st g' V' _ _ (by simp [hsz]) hun' hup hps0 (fun j hj hj0 hu => by
     by_cases e2 : j = i
     ·subst e2; rw [bU] at hu; cases hu
     ·rw [keep j e2] at hu; exact hall j hj hj0 hu) (fun j hj => by
     have e2 : j ≠ i := fun e => hnot (e ▸ hj)
     rw [keep j e2]; exact hps j hj) hv hr2
   ·unfold b0X at hvc
    unfold sop
    split at hvc
    ·rename_i hg
     simp only [hg]
     exact run hvc (putE d hd st.h)
    ·rename_i j b hg
     simp only [hg]
     obtain ⟨_, hon, p, dj, hj, hdj⟩ := s1 j b hg
     have ed : nS all j ⟨eY all listed st.t, st.h⟩ = nS all j st := by
      unfold nS
      rw [tX, hj]
      simp only [hdj]
      exact vis j p dj hj hdj hon
     rw [ed]
     unfold eZ at hvc ⊢
     split at hvc
     ·exact ⟨fun h => run (hvc.1 h) (putE d hd st.h), fun h => by rw [hvc.2 h]; exact putE d hd st.h⟩
     ·rw [hvc]; exact putE d hd st.h
     ·exact hvc.elim
  | true =>
   have s1 : o.guard = none := by
    cases hg : o.guard with
    | none => rfl
    | some x => obtain ⟨j, b⟩ := x; have := (s1 j b hg).1; rw [hef] at this; cases this
   unfold wpOp
   rw [ho']
   simp only [Region.wanted, s1, if_true]
   refine .inl ?_
   have hip := hall i hil (s3.1 hef) hun
   cases ps with
   | nil => simp at hip
   | cons p r =>
    obtain ⟨hc, o2, ho2, hvo⟩ := hv
    unfold a7V at hup
    rw [Bool.and_eq_true] at hup
    have hpi : p = i := by
     rcases List.mem_cons.1 hip with e | hm
     ·exact e.symm
     ·have h1 := List.all_eq_true.1 hup.1 i hm
      unfold a4y at h1
      rw [ho] at h1
      simp only [Bool.and_eq_true] at h1
      obtain ⟨e, he, hb⟩ := Array.any_eq_true'.1 h1.2
      simp only [Bool.and_eq_true, beq_iff_eq] at hb
      have h2 := toT (haft e he hb.1)
      rw [hb.2, hps p (by simp)] at h2; cases h2
    subst hpi
    rw [ho] at ho2; cases ho2
    have hlt : ∀ q ∈ r, p < q := fun q hq => by
     have := List.all_eq_true.1 hup.1 q hq
     rw [Bool.and_eq_true] at this
     exact of_decide_eq_true this.1
    have rest : ∀ H g' V' a' w', Rel E.C g' V' ⟨eY all (listed.setIfInBounds p true) st.t, H⟩ a' w' → xN E all ds r ⟨st.t, H⟩ K → wpAny E.P .any all.toArray Q n (listed.setIfInBounds p true) a' w' := fun H g' V' a' w' hr2 hk =>
     ih _ r ⟨st.t, H⟩ g' V' _ _ (by simp [hsz]) hun' hup.2 (fun j hj => hps0 j (List.mem_cons_of_mem _ hj)) (fun j hj hj0 hu => by
      by_cases e2 : j = p
      ·subst e2; rw [bU] at hu; cases hu
      ·rw [keep j e2] at hu
       rcases List.mem_cons.1 (hall j hj hj0 hu) with e | h
       ·exact (e2 e).elim
       ·exact h) (fun j hj => by
      have := hlt j hj
      rw [keep j (by omega)]; exact hps j (List.mem_cons_of_mem _ hj)) hk hr2
    cases hs : sH o with
    | false =>
     unfold a9k at hvo
     rw [if_neg (by rw [hs]; simp)] at hvo
     obtain ⟨d, hd⟩ := s5 hs
     unfold a6b at hvo
     split at hvo
     ·rename_i c hop
      split at hvo
      ·rename_i f hc
       have hfe : ev ⟨eY all listed st.t, st.h⟩ f = ev st f := evEq f (by rw [hop]; simp [Op.operands, Call.operands, hc])
       have hargs : c.args.toList.map (ev ⟨eY all listed st.t, st.h⟩) = c.args.toList.map (ev st) := List.map_congr_left fun x hx => evEq x (by rw [hop]; simp only [Op.operands, Call.operands, Array.mem_append]; exact .inr (by simpa using hx))
       split at hvo
       ·rename_i fn caps hfn
        obtain ⟨h', s', hcall, hsd, hk⟩ := hvo
        rw [hd] at hsd
        have hsd : s' = nth st.t d := hsd
        subst hsd
        have h1 : dH E o.op ⟨eY all listed st.t, st.h⟩ fun st2 s2 => st2 = ⟨eY all listed st.t, h'⟩ ∧ s2 = nth st.t d := by
         rw [hop]
         simp only [dH, iM, hc, hfe, hfn, hargs]
         exact ⟨hcall _⟩
        refine lD hT hE h1 hr fun g' V' st' w' s y hr' hsy hk2 => ?_
        obtain ⟨rfl, rfl⟩ := hk2
        have hr2 := hr'.put o.dst hsy
        rw [putE d hd] at hr2
        exact rest h' g' V' _ _ hr2 hk
       ·exact hvo.elim
      ·exact hvo.elim
     ·exact hvo.elim
    | true =>
    unfold a9k at hvo
    rw [if_pos hs] at hvo
    have hd := s4 hs
    obtain ⟨t, x, v, hop⟩ : ∃ t x v, o.op = .store t x v := by
     unfold sH at hs
     split at hs
     ·rename_i t x v e; exact ⟨t, x, v, e⟩
     ·cases hs
    rw [hop] at hvo
    have h1 := a6c (T := eY all listed st.t) hvo (evEq x (by rw [hop]; simp [Op.operands])) (evEq v (by rw [hop]; simp [Op.operands]))
    rw [← hop] at h1
    refine lD hT hE h1 hr fun g' V' st' w' s y hr' hsy hk => ?_
    obtain ⟨H, s', rfl, hk⟩ := hk
    have hr2 := hr'.put o.dst hsy
    rw [hd] at hr2 ⊢
    have em : eY all (listed.setIfInBounds p true) st.t = eY all listed st.t := by
     unfold eY
     refine List.map_congr_left fun m _ => ?_
     have : jM all (listed.setIfInBounds p true) m = jM all listed m := by
      rw [Bool.eq_iff_iff, fB, fB]
      constructor
      ·rintro ⟨j, q, hj, hd2, hu⟩
       refine ⟨j, q, hj, hd2, ?_⟩
       by_cases e2 : j = p
       ·subst e2; rw [bU] at hu; cases hu
       ·rwa [keep j e2] at hu
      ·rintro ⟨j, q, hj, hd2, hu⟩
       refine ⟨j, q, hj, hd2, ?_⟩
       by_cases e2 : j = p
       ·subst e2; rw [ho] at hj; cases hj; rw [hd] at hd2; cases hd2
       ·rwa [keep j e2]
     rw [this]
    refine rest H g' V' _ _ ?_ hk
    rw [em]; exact hr2
theorem a3w : ∀ {l m : List SV}, l.length = m.length → (∀ d, d < m.length → nth m d = .o .u ∨ nth l d = nth m d) → leT l m
 | [], [], _, _ => trivial
 | [], _ :: _, h, _ => by simp at h
 | _ :: _, [], h, _ => by simp at h
 | x :: l, y :: m, h, k => ⟨k 0 (by simp), a3w (by simpa using h) fun d hd => k (d + 1) (by simpa using hd)⟩
theorem sM : ∀ h : List HB, leH h h
 | [] => trivial
 | _ :: l => ⟨.inr rfl, sM l⟩
theorem a3x {st : St} {d n : Nat} {s : SV} (h : n ≠ d) : nth (st.put (some d) s).t n = nth st.t n := by
 have h' : d ≠ n := fun e => h e.symm
 simp only [St.put, lF, oG, List.getD_eq_getElem?_getD, List.getElem?_set, if_neg h']
def b0Y (E : Env) (ds : List Nat) (all : List Oper) (o : Oper) (st : St) (k : St → Prop) : Prop := if b2p ds o then a6b E o st fun h' s => k ⟨(st.put o.dst s).t, h'⟩ else sop E all o st k
def vcGs (E : Env) (ds : List Nat) (all : List Oper) : List Oper → St → (St → Prop) → Prop
 | [], st, K => K st
 | o :: r, st, K => b0Y E ds all o st fun st' => vcGs E ds all r st' K
theorem a4C {ds : List Nat} {all : List Oper} : ∀ {l : List Oper} {st : St} {K : St → Prop}, vcGs E ds all l st K → ∃ st1, K st1 ∧ st1.t.length = st.t.length ∧ ∀ d, (∀ o ∈ l, o.dst ≠ some d) → nth st1.t d = nth st.t d
 | [], st, K, h => ⟨st, h, rfl, fun _ _ => rfl⟩
 | o :: l, st, K, h => by
  have key : ∃ s H, vcGs E ds all l ⟨(st.put o.dst s).t, H⟩ K := by
   unfold vcGs b0Y at h
   split at h
   ·unfold a6b at h
    split at h
    ·split at h
     ·split at h
      ·obtain ⟨h', s, _, hk⟩ := h; exact ⟨s, h', hk⟩
      ·exact h.elim
     ·exact h.elim
    ·exact h.elim
   ·obtain ⟨s, h1, _⟩ := a3d h; exact ⟨s, (st.put o.dst s).h, h1⟩
  obtain ⟨s, H, h1⟩ := key
  obtain ⟨st1, k1, k3, k4⟩ := a4C h1
  refine ⟨st1, k1, by rw [k3]; exact a0y .., fun d hd => ?_⟩
  rw [k4 d fun p hp => hd p (List.mem_cons_of_mem _ hp)]
  cases ho : o.dst with
  | none => rfl
  | some e => exact a3x fun e2 => hd o (by simp) (by rw [ho, e2])
theorem a1b : ∀ {l : List Oper} {o : Oper}, o ∈ a3u l → o ∈ l
 | [], o, h => by simp [a3u] at h
 | x :: l, o, h => by
  unfold a3u at h
  split at h
  ·exact List.mem_cons_of_mem _ (a1b h)
  ·rcases List.mem_cons.1 h with rfl | h
   ·simp
   ·exact List.mem_cons_of_mem _ (a1b h)
theorem a7Y (hT : TyOK E.P E.T) (hE : ∀ t, E.eqk t ≠ [] → EqT E.P t (E.eqk t)) (hm : E.P.follows .mixedOrders = true) {id : Nat} {ops : List Oper} {F : Ex → St → Prop} {st : St} (ps ds : List Nat) (hok : a6W ops ps ds = true) (hup : a7V ps ops = true) (hlt : (ps.all fun i => decide (i < ops.length)) = true) (hb : st.okB = true)
    (h : vcGs E ds ops (a3u ops) st fun st1 => xN E ops ds ps ⟨st1.t, st.h⟩ (F .normal)) : WP E.P E.C (.region id ops.toArray true) F st := fun g V a w hr => by
 refine wp_region_any hm ?_
 obtain ⟨st1, k1, k3, k4⟩ := a4C h
 have hf : ∀ j : Nat, j < ops.length → (Array.replicate ops.toArray.size false).getD j true = false := fun j hj => by simp [hj]
 have hle : st.le ⟨eY ops (Array.replicate ops.toArray.size false) st1.t, st.h⟩ := by
  refine ⟨a3w (by rw [dC, k3]) fun d _ => ?_, sM _⟩
  rw [gD]
  cases hh : jM ops (Array.replicate ops.toArray.size false) d with
  | true => exact .inl rfl
  | false =>
   right
   simp only [Bool.false_eq_true, if_false]
   refine (k4 d fun o ho hd => ?_).symm
   obtain ⟨j, hj⟩ := List.mem_iff_getElem?.1 (a1b ho)
   have := (fB ops (Array.replicate ops.toArray.size false) d).2 ⟨j, o, hj, hd, hf j (List.getElem?_eq_some_iff.1 hj).1⟩
   rw [hh] at this; cases this
 have hbt : ((eY ops (Array.replicate ops.toArray.size false) st1.t).all (·.below st.h.length) && st.h.all (·.below st.h.length)) = true := by
  unfold St.okB at hb
  rw [Bool.and_eq_true] at hb ⊢
  refine ⟨List.all_eq_true.2 fun s hs => ?_, hb.2⟩
  obtain ⟨d, hd⟩ := List.mem_iff_getElem?.1 hs
  rcases (hle.1.get).2 d s hd with e | e
  ·subst e; rfl
  ·exact List.all_eq_true.1 hb.1 s (List.mem_of_getElem? e)
 have := a7X hT hE hok (Q := fun e a w => Post E.C F e a w) (fun g V st _ _ hr h => ⟨g, V, st, hr, h⟩) ops.toArray.size (Array.replicate ops.toArray.size false) ps ⟨st1.t, st.h⟩ _ V a { w with drawn := w.drawn + 1 } (by simp)
  (by unfold a0o; exact Nat.le_trans (List.length_filter_le _ _) (by simp)) hup (fun i hi => hi) (fun i _ hi _ => hi) (fun i hi => hf i (of_decide_eq_true (List.all_eq_true.1 hlt i hi))) k1 ((hr.drawn).forget hle hbt)
 exact this
end
structure vcStT (E : Env) (all l : List Oper) (ds ps : List Nat) (st : St) (K : St → Prop) (t : Tie (all, l, K)) : Prop where
 out : rdX ds all = l → xN E all ds ps st K
structure vcGRun (E : Env) (ds : List Nat) (all l : List Oper) (st : St) (K : St → Prop) (t : Tie (all, l, K)) : Prop where
 out : vcGs E ds all l st K
def a3y (E : Env) (ds : List Nat) (all : List Oper) (o : Oper) (st : St) (k : St → Prop) (_ : Tie k) : Prop := b0Y E ds all o st k
def a9l (E : Env) (all : List Oper) (i : Nat) (st : St) (k : St → Prop) (_ : Tie k) : Prop := match a2X all i with
 | some o => a9k E o st k
 | none => False
section
variable {E : Env}
theorem a7Z {ds : List Nat} {all r : List Oper} {o : Oper} {st : St} {K : St → Prop} (h : a3y E ds all o st (fun st' => vcGRun E ds all r st' K ⟨⟩) ⟨⟩) : vcGRun E ds all (o :: r) st K ⟨⟩ := by
 have e : (fun st' => vcGRun E ds all r st' K ⟨⟩) = (fun st' => vcGs E ds all r st' K) := funext fun s => propext ⟨fun h => h.out, fun h => ⟨h⟩⟩
 rw [e] at h
 exact ⟨h⟩
theorem a9m {ds : List Nat} {all : List Oper} {st : St} {K : St → Prop} (h : K st) : vcGRun E ds all [] st K ⟨⟩ := ⟨h⟩
theorem dZ {ds : List Nat} {all l : List Oper} {st : St} {K : St → Prop} (hc : a4z E all st l) (h : K st) : vcStT E all l ds [] st K ⟨⟩ := ⟨fun e => ⟨e ▸ hc, h⟩⟩
theorem dA {ds : List Nat} {all l : List Oper} {p : Nat} {r : List Nat} {st : St} {K : St → Prop} (hc : a4z E all st l) (h : a9l E all p st (fun st' => vcStT E all l ds r st' K ⟨⟩) ⟨⟩) : vcStT E all l ds (p :: r) st K ⟨⟩ := ⟨fun e => by
 refine ⟨e ▸ hc, ?_⟩
 have e2 : (fun st' => vcStT E all l ds r st' K ⟨⟩) = (fun st' => xN E all ds r st' K) := funext fun s => propext ⟨fun h => h.out e, fun h => ⟨fun _ => h⟩⟩
 rw [e2] at h
 unfold a9l at h
 rw [tX] at h
 split at h
 ·rename_i o ho; exact ⟨o, ho, h⟩
 ·exact h.elim⟩
end
attribute [go_sem] rV b0X a4z a9l rdX a3u a3t b2p a9k a6b a3y b0Y
end Go.Sx
end
section
set_option linter.all false
namespace Go.Sx
open Go Go.RowKit
def a8a (G : St) (F : Ex → St → Prop) : Ex → St → Prop
 | .normal, s => s.le G ∧ G.okB = true
 | .exit j, s => F (.exit j) s
 | .ret, s => F .ret s
def a9n (c : Code) (st : St) (M : List (Nat × SV)) (H : List (Nat × HB)) : St := ⟨mds (fgt st.t (a2Z c)) M, mhs st.h H⟩
section
variable {P : Program} {C : Ctx} {ks : List Kn} {F : Ex → St → Prop} {st : St}
theorem a9o {c c2 : Code} (M : List (Nat × SV)) (H : List (Nat × HB)) (h1 : WP P C c (bN P C [] (a8a (a9n c st M H) (bN P C (.code c2 :: ks) F))) st) (h2 : WP P C c2 (bN P C ks F) (a9n c st M H)) : WP P C c (bN P C (.code c2 :: ks) F) st := fun g V a w hr =>
 wp_mono (h1 g V a w hr) fun e a w q => by
  cases e with
  | normal =>
   obtain ⟨g, V, s, hs, hle, hok⟩ := q
   exact ⟨_, V, _, hs.forget hle hok, h2⟩
  | exit j => obtain ⟨g, V, s, hs, q⟩ := q; exact ⟨g, V, s, hs, q⟩
  | ret => obtain ⟨g, V, s, hs, q⟩ := q; exact ⟨g, V, s, hs, q⟩
  | goto l => exact q.elim
  | panic ch => exact q.elim
  | outgrown => exact q.elim
theorem a4D {G s : St} (h : s.le G) (hb : G.okB = true) : a8a G F .normal s := ⟨h, hb⟩
theorem b0Z {G s : St} (h : F .ret s) : a8a G F .ret s := h
theorem a9p {G s : St} {j : Nat} (h : F (.exit j) s) : a8a G F (.exit j) s := h
end
attribute [go_sem] a9n
end Go.Sx
end
section
set_option linter.all false
namespace Go.Sx
open Go Go.RowKit
def Nm (P : Prop) : Prop := P
theorem mX {P : Prop} (h : P) : Nm P := h
theorem uX {P : Prop} (h : Nm P) : P := h
def Ar (P : Prop) : Prop := P
theorem aX {P : Prop} (h : Ar P) : P := h
theorem uA {P : Prop} (h : P) : Ar P := h
theorem uB {P : Prop} (h : P := by (simp only [go_sem, qH]; (repeat' first | omega | refine And.intro ?_ ?_)) <;> fail) : Ar P := h
theorem aO {P Q : Prop} (h : Q) (p : P := by omega) : P ∧ Q := ⟨p, h⟩
theorem aI {A B : Prop} (a : A) (b : B) : A ∧ B := ⟨a, b⟩
theorem b2q {α β : Type} (f : α → β) (l : List α) : (l.map f).length = l.length := List.length_map ..
theorem xO {α : Type} (n : Nat) (l : List α) : (l.take n).length = min n l.length := List.length_take
theorem xP {α : Type} (n : Nat) (l : List α) : (l.drop n).length = l.length - n := List.length_drop
theorem a3z {α : Type} (l m : List α) : (l ++ m).length = l.length + m.length := List.length_append
class Nx (P : Prop) (Q : outParam Prop) : Prop where
 nx : Q → P
theorem nX {P Q : Prop} [i : Nx P Q] (h : Q) : P := i.nx h
class Ny (P : Prop) (Q : outParam Prop) : Prop where
 ny : Q → P
instance {P Q : Prop} [i : Nx P Q] : Ny P Q := ⟨i.nx⟩
theorem nY {P Q : Prop} [i : Ny P Q] (h : Q) : P := i.ny h
structure cndK (s : SV) (A B : Prop) (t : Tie (A, B)) : Prop where
 out : ∃ b, s = .o (.d (.v (.bool b))) ∧ (b = true → A) ∧ (b = false → B)
theorem cnd {s : SV} {A B : Prop} {b : Bool} (hs : s = .o (.d (.v (.bool b)))) (h1 : b = true → A) (h2 : b = false → B) : cndK s A B ⟨⟩ := ⟨b, hs, h1, h2⟩
instance nCt {A B : Prop} : Nx (cndK (.o (.d (.v (.bool true)))) A B ⟨⟩) A := ⟨fun h => ⟨true, rfl, fun _ => h, fun h => by cases h⟩⟩
instance nCf {A B : Prop} : Nx (cndK (.o (.d (.v (.bool false)))) A B ⟨⟩) B := ⟨fun h => ⟨false, rfl, (fun h => by cases h), fun _ => h⟩⟩
class Cy (P : Program) (f : Nat) (args' : List SV) (res : SV) (G : Prop) (O K : outParam Prop) : Prop where
 cl : FnC P f args' res → O → K → G
theorem cC {P : Program} {f : Nat} {args' : List SV} {res : SV} {G O K : Prop} [i : Cy P f args' res G O K] (h : FnC P f args' res) (o : O) (k : K) : G := i.cl h o k
theorem cP {P : Program} {f : Nat} {args' : List SV} {res : SV} {G O K : Prop} [i : Cy P f args' res G O K] (h : FnC P f args' res) (k : K) (o : O := by simp only [go_sem, and_self] <;> fail) : G := i.cl h o k
section
variable {P : Program} {C : Ctx} {F : Ex → St → Prop} {st : St} {ks : List Kn}
instance nRet : Nx (WP P C .ret (bN P C ks F) st) (bN P C ks F .ret st) := ⟨b2b⟩
instance nSkip : Nx (WP P C .skip (bN P C ks F) st) (bN P C ks F .normal st) := ⟨b0M⟩
instance nExit {id : Nat} : Nx (WP P C (.exit id) (bN P C ks F) st) (bN P C ks F (.exit id) st) := ⟨b0N⟩
instance nSeq {x y : Code} : Nx (WP P C (.seq x y) (bN P C ks F) st) (WP P C x (bN P C (.code y :: ks) F) st) := ⟨b2a⟩
instance nBlock {id : Nat} {c : Code} : Nx (WP P C (.block id c) (bN P C ks F) st) (WP P C c (bN P C (.blk id :: ks) F) st) := ⟨a9b⟩
instance nCode {c : Code} : Nx (bN P C (.code c :: ks) F .normal st) (WP P C c (bN P C ks F) st) := ⟨b2c⟩
instance nBlk {id : Nat} : Nx (bN P C (.blk id :: ks) F .normal st) (bN P C ks F .normal st) := ⟨b3u⟩
instance nCodeRet {c : Code} : Nx (bN P C (.code c :: ks) F .ret st) (bN P C ks F .ret st) := ⟨a5Q⟩
instance nBlkRet {id : Nat} : Nx (bN P C (.blk id :: ks) F .ret st) (bN P C ks F .ret st) := ⟨a7Q⟩
instance nCodeExit {c : Code} {j : Nat} : Nx (bN P C (.code c :: ks) F (.exit j) st) (bN P C ks F (.exit j) st) := ⟨a4t⟩
instance nBlkExit {id : Nat} : Nx (bN P C (.blk id :: ks) F (.exit id) st) (bN P C ks F .normal st) := ⟨a0m⟩
theorem kO {id j : Nat} (h : bN P C ks F (.exit j) st) (hn : j ≠ id) : bN P C (.blk id :: ks) F (.exit j) st := oZ hn h
theorem kD {id j : Nat} (h : bN P C ks F (.exit j) st) (hn : j ≠ id := by decide) : bN P C (.blk id :: ks) F (.exit j) st := oZ hn h
instance nNil {e : Ex} : Nx (bN P C [] F e st) (F e st) := ⟨b3v⟩
instance nLRet {α : Type} {I : α → St} {Q : α → Prop} {μ : α → Nat} {x : α} : Nx (xE I Q μ x F .ret st) (F .ret st) := ⟨b3p⟩
instance nLExit {α : Type} {I : α → St} {Q : α → Prop} {μ : α → Nat} {x : α} {j : Nat} : Nx (xE I Q μ x F (.exit j) st) (F (.exit j) st) := ⟨b1S⟩
instance nCRet {G s : St} : Nx (a8a G F .ret s) (F .ret s) := ⟨b0Z⟩
instance nCExit {G s : St} {j : Nat} : Nx (a8a G F (.exit j) s) (F (.exit j) s) := ⟨a9p⟩
end
section
variable {E : Env} {all r : List Oper} {o : Oper} {st : St} {K : St → Prop}
instance nRun : Nx (vcRun E all (o :: r) st K ⟨⟩) (Nm (a0R E all o st (fun st' => vcRun E all r st' K ⟨⟩) ⟨⟩)) := ⟨a8Q⟩
instance nRun0 : Nx (vcRun E all [] st K ⟨⟩) (K st) := ⟨b0E⟩
instance nDrun : Nx (vcDRun E all (o :: r) st K ⟨⟩) (Nm (a3g E all o st (fun st' => vcDRun E all r st' K ⟨⟩) ⟨⟩)) := ⟨a7J⟩
instance nDrun0 : Nx (vcDRun E all [] st K ⟨⟩) (K st) := ⟨a8R⟩
instance nGrun {ds : List Nat} : Nx (vcGRun E ds all (o :: r) st K ⟨⟩) (Nm (a3y E ds all o st (fun st' => vcGRun E ds all r st' K ⟨⟩) ⟨⟩)) := ⟨a7Z⟩
instance nGrun0 {ds : List Nat} : Nx (vcGRun E ds all [] st K ⟨⟩) (K st) := ⟨a9m⟩
end
end Go.Sx
end
section
set_option linter.all false
namespace Go.Sx
open Go Go.RowKit
theorem CallS.lendW {E : Env} {f : Nat} {args args' : List SV} {res : SV} {st : St} {K : St → SV → Prop} (h : FnC E.P f args' res) (he : args.map (dX st.h) = args') (hfree : args'.all bY = true) (hres : res.all.all lJ = true)
    (k : K ⟨st.t, st.h ++ adH res.all⟩ (adS st.h.length res)) : CallS E f args st K := by
 refine ⟨h.enters, fun g V a w vs hr hlen hargs => ?_⟩
 subst he
 have hc : lY (kI V w) (args.map (dX st.h)) vs := by
  refine ⟨by simp [hlen], fun i s y h1 h2 => ?_⟩
  have hs := List.all_eq_true.1 hfree s (List.mem_of_getElem? h1)
  rw [List.getElem?_map] at h1
  cases hk : args[i]? with
  | none => rw [hk] at h1; cases h1
  | some s0 =>
   rw [hk] at h1
   cases h1
   exact kG (yR hr (hargs i s0 y hk h2)) hs
 refine (h.calls (kI V w) w vs hr.tab (oV hr.mod) hc).mono ?_
 rintro e w' ⟨y, rfl, ⟨V1, S, hv, hm, hnew, ⟨l, hshape, Ss, r1, r2, r3, r4⟩, hnd, hblk⟩, hbelow⟩
 have hVV' : V.le V1 := (mU V w).trans hv
 subst r3
 have hm0 : Mod V w' := hm.of_le hVV'
 obtain ⟨V', hV'⟩ : ∃ V' : View, V' = fun b => if b < w.heap.size then V b else V1 b := ⟨_, rfl⟩
 have ge : ∀ b, w.heap.size ≤ b → V' b = V1 b := fun b hb => by rw [hV']; exact if_neg (by omega)
 have hle : V.le V' := fun b cs hb => ⟨cs, by rw [hV']; simp only [if_pos (hr.mod.lt hb), hb], List.prefix_refl _⟩
 have hnone : ∀ b, w.heap.size ≤ b → kI V w b = none := fun b hb => (oV hr.mod).fresh hb
 have hr1 : Rel E.C g V' st a w' := hr.later hle (fun b cs hb => by
  rw [hV'] at hb
  simp only at hb
  split at hb
  ·exact hm0 b cs hb
  ·exact hm b cs hb) hbelow (fun b cs hb hn => by
  rcases Nat.lt_or_ge b w.heap.size with hlt | hge
  ·rw [hV'] at hb
   simp only [if_pos hlt] at hb
   rw [hb] at hn; cases hn
  ·rw [ge b hge] at hb
   exact hnew b cs hb (hnone b hge))
 have r5 : ∀ (k : Nat) (x : At) (y : Value) (s : List Nat), res.all[k]? = some x → l[k]? = some y → Ss[k]? = some s → rAt V' w' x y s := fun k x y s e1 e2 e3 => by
  have hr4 := r4 k x y s e1 e2 e3
  have hw := List.all_eq_true.1 hres x (List.mem_of_getElem? e1)
  have hin : ∀ b ∈ s, w.heap.size ≤ b := fun b hb => (hblk b (List.mem_flatten.2 ⟨s, List.mem_of_getElem? e3, hb⟩)).1
  cases x with
  | d x => cases x with
   | v x =>
    obtain ⟨q1, T, hT⟩ := hr4
    cases hT with
    | v _ hsc => exact ⟨q1, _, .v _ hsc⟩
   | sl r => simp [lJ] at hw
  | w ty sz rows =>
   obtain ⟨p0, ys, Ts, p1, p2⟩ := hr4
   have lay : (∀ b ∈ Ts.flatten, b ∈ s) → LayL V' rows.flatten ys Ts := fun hsub => ⟨p1.1, p1.2.1, fun j d z T h1 h2 h3 => (p1.2.2 j d z T h1 h2 h3).restrict fun b hb cs hcs => ⟨cs, by rw [ge b (hin b (hsub b (List.mem_flatten.2 ⟨T, List.mem_of_getElem? h3, hb⟩)))]; exact hcs, List.prefix_refl _⟩⟩
   rcases p2 with ⟨q1, rfl, q3⟩ | ⟨b, cap, c, q1, q2, q3, q4, q5, q6, q7, q8⟩
   ·have hT : Ts = [] := by have := p1.2.1; simpa using this
    subst hT
    exact ⟨p0, ys, [], lay (fun b hb => by simp at hb), .inl ⟨q1, rfl, q3⟩⟩
   ·exact ⟨p0, ys, Ts, lay (fun b' hb' => by rw [q8]; exact List.mem_cons_of_mem _ hb'), .inr ⟨b, cap, c, q1, q2, q3, q4, q5, q6, by rw [ge b (hin b (by rw [q8]; simp))]; exact q7, q8⟩⟩
  | _ => simp [lJ] at hw
 obtain ⟨g', h1, h2, h3⟩ := rZ (cs := res.all) hr1 r1 r2 r5 hnd (fun b hb => ⟨.inl (Nat.le_trans hr.fr.size (hblk b hb).1), (hblk b hb).2, fun i hb' x e1 e2 hm' => by
  have := (hr.hp.lo i hb' x e1 e2 b hm').2
  have := (hblk b hb).1
  omega⟩)
 refine ⟨y, g', V', _, _, rfl, h1, ?_, k⟩
 cases res with
 | o x =>
  have hl : l = [y] := hshape
  subst hl
  simp only [SV.all] at h3
  simp only [adS]
  have hlen1 : (adA st.h.length [x]).length = 1 := mD _ _
  match he' : adA st.h.length [x], hlen1 with
  | [z], _ =>
   rw [he'] at h3
   exact h3.2 0 z y rfl rfl
 | g cs => exact ⟨l, hshape, h3⟩
 | t cs =>
  obtain ⟨ls, e1, e2, e3, ys, e4, e5, e6⟩ := hshape
  subst e2
  refine ⟨ys, e4, by rw [e5, kH], fun i b c v hi hv' => ?_⟩
  have hlt : i < ls.length := by rw [e1, ← kH st.h.length cs]; exact (List.getElem?_eq_some_iff.1 hi).1
  have hm' : ls[i]? = some ls[i] := List.getElem?_eq_getElem hlt
  obtain ⟨⟨c0, hc0⟩, hcc⟩ := tY st.h.length cs ls e1 e3 h3 i b c _ hi hm'
  have := e6 i b c0 _ v hc0 hm' hv'
  cases b with
  | true => simp only [if_true] at this ⊢; exact ⟨_, this, hcc⟩
  | false => simp only [Bool.false_eq_true, if_false] at this ⊢; rw [← this]; exact hcc
theorem CallG.lendW {E : Env} {f : Nat} {args args' : List SV} {res : SV} {h : List HB} {k : List HB → SV → Prop} (hf : FnC E.P f args' res) (he : args.map (dX h) = args') (hfree : args'.all bY = true) (hres : res.all.all lJ = true) (hk : k (h ++ adH res.all) (adS h.length res)) : CallG E f args h k ⟨⟩ :=
 ⟨_, _, fun T => CallS.lendW (st := ⟨T, h⟩) hf he hfree hres ⟨rfl, rfl⟩, hk⟩
theorem b2r {P : Program} {C : Ctx} {c : Code} {F : Ex → St → Prop} {st : St} (id : Nat) {ty sz : Nat} {rows : List (List D)} (h : bP st.h id = .row ty sz rows true) (k : WP P C c F ⟨st.t, setH st.h id (.row ty sz rows false)⟩) : WP P C c F st := fun g V a w hr => by
 have h1 := aJ h (by simp)
 obtain ⟨x, h2⟩ : ∃ x, g[id]? = some x := ⟨_, List.getElem?_eq_getElem (by rw [hr.hp.glen]; exact (List.getElem?_eq_some_iff.1 h1).1)⟩
 refine k g V a w ⟨hr.sl, ?_, hr.mod, hr.fr, hr.vw⟩
 rw [bV]
 obtain ⟨q0, ys, Ss, q1, _, q3⟩ := hr.hp.hb id _ x h1 h2
 have hnd := hr.hp.nd id _ x h1 h2
 refine hr.hp.set id h1 h2 (fun n hn => ?_) ?_ (fun n hn => hn) ⟨q0, ys, Ss, q1, (fun h => by cases h), q3⟩ (fun _ _ => rfl) rfl
 ·simp only [ownB] at hn ⊢
  simp only [Bool.false_eq_true, if_false, List.append_nil] at hn
  exact List.mem_append.2 (.inl hn)
 ·simp only [ownB, Bool.false_eq_true, if_false, List.append_nil] at hnd ⊢
  exact (List.nodup_append.1 hnd).1
end Go.Sx
end
end
section
namespace Go.Sx
open Go Go.RowKit
structure Hd (Q : Prop) : Prop where
 out : Q
theorem aD {P Q : Prop} (h : Q) (t : Hd Q → P := by intro h; (repeat' (with_reducible first | refine nY ?_ | (refine mX ?_; try simp only [go_sem]) | refine kD ?_ | refine rD ?_ | refine aO ?_ | fail)); exact h.out) : P := t ⟨h⟩
theorem jH {C0 : Prop} (c0 : C0) {P Q : Prop} (h : Q) (t : C0 → Hd Q → P := by intro c0 h; (repeat' (with_reducible first | refine nY ?_ | (refine mX ?_; try simp only [go_sem]) | refine kD ?_ | refine rD ?_ | refine cP c0 ?_ | refine aO ?_ | fail)); exact h.out) : P := t c0 ⟨h⟩
theorem b4Y {C0 : Prop} (c0 : C0) {C1 : Prop} (c1 : C1) {P Q : Prop} (h : Q) (t : C0 → C1 → Hd Q → P := by intro c0 c1 h; (repeat' (with_reducible first | refine nY ?_ | (refine mX ?_; try simp only [go_sem]) | refine kD ?_ | refine rD ?_ | refine cP c0 ?_ | refine cP c1 ?_ | refine aO ?_ | fail)); exact h.out) : P := t c0 c1 ⟨h⟩
theorem iH {P Q : Prop} (h : Q) (t : Hd Q → P := by intro h; (repeat' (with_reducible first | refine nY ?_ | (refine mX ?_; try simp only [go_sem, q0]) | refine kD ?_ | refine rD ?_ | refine aO ?_ | fail)); exact h.out) : P := t ⟨h⟩
theorem lK {C0 : Prop} (c0 : C0) {P Q : Prop} (h : Q) (t : C0 → Hd Q → P := by intro c0 h; (repeat' (with_reducible first | refine nY ?_ | (refine mX ?_; try simp only [go_sem, q0]) | refine kD ?_ | refine rD ?_ | refine cP c0 ?_ | refine aO ?_ | fail)); exact h.out) : P := t c0 ⟨h⟩
theorem b3C {C0 : Prop} (c0 : C0) {C1 : Prop} (c1 : C1) {P Q : Prop} (h : Q) (t : C0 → C1 → Hd Q → P := by intro c0 c1 h; (repeat' (with_reducible first | refine nY ?_ | (refine mX ?_; try simp only [go_sem, q0]) | refine kD ?_ | refine rD ?_ | refine cP c0 ?_ | refine cP c1 ?_ | refine aO ?_ | fail)); exact h.out) : P := t c0 c1 ⟨h⟩
theorem gQ {P Q : Prop} (h : Q) (t : Hd Q → P := by intro h; (repeat' (with_reducible first | refine nY ?_ | (refine mX ?_; try simp only [go_sem, q0, q1]) | refine kD ?_ | refine rD ?_ | refine aO ?_ | fail)); exact h.out) : P := t ⟨h⟩
theorem a3A {C0 : Prop} (c0 : C0) {P Q : Prop} (h : Q) (t : C0 → Hd Q → P := by intro c0 h; (repeat' (with_reducible first | refine nY ?_ | (refine mX ?_; try simp only [go_sem, q0, q1]) | refine kD ?_ | refine rD ?_ | refine cP c0 ?_ | refine aO ?_ | fail)); exact h.out) : P := t c0 ⟨h⟩
theorem a0p {C0 : Prop} (c0 : C0) {C1 : Prop} (c1 : C1) {P Q : Prop} (h : Q) (t : C0 → C1 → Hd Q → P := by intro c0 c1 h; (repeat' (with_reducible first | refine nY ?_ | (refine mX ?_; try simp only [go_sem, q0, q1]) | refine kD ?_ | refine rD ?_ | refine cP c0 ?_ | refine cP c1 ?_ | refine aO ?_ | fail)); exact h.out) : P := t c0 c1 ⟨h⟩
theorem b3D {C0 : Prop} (c0 : C0) {C1 : Prop} (c1 : C1) {C2 : Prop} (c2 : C2) {C3 : Prop} (c3 : C3) {P Q : Prop} (h : Q) (t : C0 → C1 → C2 → C3 → Hd Q → P := by intro c0 c1 c2 c3 h; (repeat' (with_reducible first | refine nY ?_ | (refine mX ?_; try simp only [go_sem, q0, q1]) | refine kD ?_ | refine rD ?_ | refine cP c0 ?_ | refine cP c1 ?_ | refine cP c2 ?_ | refine cP c3 ?_ | refine aO ?_ | fail)); exact h.out) : P := t c0 c1 c2 c3 ⟨h⟩
theorem kE {P Q : Prop} (h : Q) (t : Hd Q → P := by intro h; (repeat' (with_reducible first | refine nY ?_ | (refine mX ?_; try simp only [go_sem, q0, q1, q2]) | refine kD ?_ | refine rD ?_ | refine aO ?_ | fail)); exact h.out) : P := t ⟨h⟩
theorem a0q {C0 : Prop} (c0 : C0) {P Q : Prop} (h : Q) (t : C0 → Hd Q → P := by intro c0 h; (repeat' (with_reducible first | refine nY ?_ | (refine mX ?_; try simp only [go_sem, q0, q1, q2]) | refine kD ?_ | refine rD ?_ | refine cP c0 ?_ | refine aO ?_ | fail)); exact h.out) : P := t c0 ⟨h⟩
theorem a4E {C0 : Prop} (c0 : C0) {C1 : Prop} (c1 : C1) {P Q : Prop} (h : Q) (t : C0 → C1 → Hd Q → P := by intro c0 c1 h; (repeat' (with_reducible first | refine nY ?_ | (refine mX ?_; try simp only [go_sem, q0, q1, q2]) | refine kD ?_ | refine rD ?_ | refine cP c0 ?_ | refine cP c1 ?_ | refine aO ?_ | fail)); exact h.out) : P := t c0 c1 ⟨h⟩
theorem b3E {C0 : Prop} (c0 : C0) {C1 : Prop} (c1 : C1) {C2 : Prop} (c2 : C2) {C3 : Prop} (c3 : C3) {P Q : Prop} (h : Q) (t : C0 → C1 → C2 → C3 → Hd Q → P := by intro c0 c1 c2 c3 h; (repeat' (with_reducible first | refine nY ?_ | (refine mX ?_; try simp only [go_sem, q0, q1, q2]) | refine kD ?_ | refine rD ?_ | refine cP c0 ?_ | refine cP c1 ?_ | refine cP c2 ?_ | refine cP c3 ?_ | refine aO ?_ | fail)); exact h.out) : P := t c0 c1 c2 c3 ⟨h⟩
theorem kF {P Q : Prop} (h : Q) (t : Hd Q → P := by intro h; (repeat' (with_reducible first | refine nY ?_ | (refine mX ?_; try simp only [go_sem, q0, q1, q2, q3]) | refine kD ?_ | refine rD ?_ | refine aO ?_ | fail)); exact h.out) : P := t ⟨h⟩
theorem a1c {C0 : Prop} (c0 : C0) {P Q : Prop} (h : Q) (t : C0 → Hd Q → P := by intro c0 h; (repeat' (with_reducible first | refine nY ?_ | (refine mX ?_; try simp only [go_sem, q0, q1, q2, q3]) | refine kD ?_ | refine rD ?_ | refine cP c0 ?_ | refine aO ?_ | fail)); exact h.out) : P := t c0 ⟨h⟩
theorem a4F {C0 : Prop} (c0 : C0) {C1 : Prop} (c1 : C1) {P Q : Prop} (h : Q) (t : C0 → C1 → Hd Q → P := by intro c0 c1 h; (repeat' (with_reducible first | refine nY ?_ | (refine mX ?_; try simp only [go_sem, q0, q1, q2, q3]) | refine kD ?_ | refine rD ?_ | refine cP c0 ?_ | refine cP c1 ?_ | refine aO ?_ | fail)); exact h.out) : P := t c0 c1 ⟨h⟩
theorem b3F {C0 : Prop} (c0 : C0) {C1 : Prop} (c1 : C1) {C2 : Prop} (c2 : C2) {C3 : Prop} (c3 : C3) {P Q : Prop} (h : Q) (t : C0 → C1 → C2 → C3 → Hd Q → P := by intro c0 c1 c2 c3 h; (repeat' (with_reducible first | refine nY ?_ | (refine mX ?_; try simp only [go_sem, q0, q1, q2, q3]) | refine kD ?_ | refine rD ?_ | refine cP c0 ?_ | refine cP c1 ?_ | refine cP c2 ?_ | refine cP c3 ?_ | refine aO ?_ | fail)); exact h.out) : P := t c0 c1 c2 c3 ⟨h⟩
theorem sN {P Q : Prop} (h : Q) (t : Hd Q → P := by intro h; (repeat' (with_reducible first | refine nY ?_ | (refine mX ?_; try simp only [go_sem, q0, q1, q2, q3, q4]) | refine kD ?_ | refine rD ?_ | refine aO ?_ | fail)); exact h.out) : P := t ⟨h⟩
theorem a0r {C0 : Prop} (c0 : C0) {P Q : Prop} (h : Q) (t : C0 → Hd Q → P := by intro c0 h; (repeat' (with_reducible first | refine nY ?_ | (refine mX ?_; try simp only [go_sem, q0, q1, q2, q3, q4]) | refine kD ?_ | refine rD ?_ | refine cP c0 ?_ | refine aO ?_ | fail)); exact h.out) : P := t c0 ⟨h⟩
theorem a8b {C0 : Prop} (c0 : C0) {C1 : Prop} (c1 : C1) {P Q : Prop} (h : Q) (t : C0 → C1 → Hd Q → P := by intro c0 c1 h; (repeat' (with_reducible first | refine nY ?_ | (refine mX ?_; try simp only [go_sem, q0, q1, q2, q3, q4]) | refine kD ?_ | refine rD ?_ | refine cP c0 ?_ | refine cP c1 ?_ | refine aO ?_ | fail)); exact h.out) : P := t c0 c1 ⟨h⟩
theorem b3G {C0 : Prop} (c0 : C0) {C1 : Prop} (c1 : C1) {C2 : Prop} (c2 : C2) {C3 : Prop} (c3 : C3) {P Q : Prop} (h : Q) (t : C0 → C1 → C2 → C3 → Hd Q → P := by intro c0 c1 c2 c3 h; (repeat' (with_reducible first | refine nY ?_ | (refine mX ?_; try simp only [go_sem, q0, q1, q2, q3, q4]) | refine kD ?_ | refine rD ?_ | refine cP c0 ?_ | refine cP c1 ?_ | refine cP c2 ?_ | refine cP c3 ?_ | refine aO ?_ | fail)); exact h.out) : P := t c0 c1 c2 c3 ⟨h⟩
theorem a9q {P Q : Prop} (h : Q) (t : Hd Q → P := by intro h; (repeat' (with_reducible first | refine nY ?_ | (refine mX ?_; try simp only [go_sem, q0, q1, q2, q3, q4, q5]) | refine kD ?_ | refine rD ?_ | refine aO ?_ | fail)); exact h.out) : P := t ⟨h⟩
theorem a0s {C0 : Prop} (c0 : C0) {P Q : Prop} (h : Q) (t : C0 → Hd Q → P := by intro c0 h; (repeat' (with_reducible first | refine nY ?_ | (refine mX ?_; try simp only [go_sem, q0, q1, q2, q3, q4, q5]) | refine kD ?_ | refine rD ?_ | refine cP c0 ?_ | refine aO ?_ | fail)); exact h.out) : P := t c0 ⟨h⟩
theorem a1O {C0 : Prop} (c0 : C0) {C1 : Prop} (c1 : C1) {P Q : Prop} (h : Q) (t : C0 → C1 → Hd Q → P := by intro c0 c1 h; (repeat' (with_reducible first | refine nY ?_ | (refine mX ?_; try simp only [go_sem, q0, q1, q2, q3, q4, q5]) | refine kD ?_ | refine rD ?_ | refine cP c0 ?_ | refine cP c1 ?_ | refine aO ?_ | fail)); exact h.out) : P := t c0 c1 ⟨h⟩
theorem a3B {P Q : Prop} (h : Q) (t : Hd Q → P := by intro h; (repeat' (with_reducible first | refine nY ?_ | (refine mX ?_; try simp only [go_sem, q0, q1, q2, q3, q4, q5, q6]) | refine kD ?_ | refine rD ?_ | refine aO ?_ | fail)); exact h.out) : P := t ⟨h⟩
theorem b1a {C0 : Prop} (c0 : C0) {P Q : Prop} (h : Q) (t : C0 → Hd Q → P := by intro c0 h; (repeat' (with_reducible first | refine nY ?_ | (refine mX ?_; try simp only [go_sem, q0, q1, q2, q3, q4, q5, q6]) | refine kD ?_ | refine rD ?_ | refine cP c0 ?_ | refine aO ?_ | fail)); exact h.out) : P := t c0 ⟨h⟩
theorem b2s {C0 : Prop} (c0 : C0) {C1 : Prop} (c1 : C1) {P Q : Prop} (h : Q) (t : C0 → C1 → Hd Q → P := by intro c0 c1 h; (repeat' (with_reducible first | refine nY ?_ | (refine mX ?_; try simp only [go_sem, q0, q1, q2, q3, q4, q5, q6]) | refine kD ?_ | refine rD ?_ | refine cP c0 ?_ | refine cP c1 ?_ | refine aO ?_ | fail)); exact h.out) : P := t c0 c1 ⟨h⟩
theorem a1d {P Q : Prop} (h : Q) (t : Hd Q → P := by intro h; (repeat' (with_reducible first | refine nY ?_ | (refine mX ?_; try simp only [go_sem, q0, q1, q2, q3, q4, q5, q6, q7]) | refine kD ?_ | refine rD ?_ | refine aO ?_ | fail)); exact h.out) : P := t ⟨h⟩
theorem a0t {C0 : Prop} (c0 : C0) {P Q : Prop} (h : Q) (t : C0 → Hd Q → P := by intro c0 h; (repeat' (with_reducible first | refine nY ?_ | (refine mX ?_; try simp only [go_sem, q0, q1, q2, q3, q4, q5, q6, q7]) | refine kD ?_ | refine rD ?_ | refine cP c0 ?_ | refine aO ?_ | fail)); exact h.out) : P := t c0 ⟨h⟩
theorem a9r {C0 : Prop} (c0 : C0) {C1 : Prop} (c1 : C1) {P Q : Prop} (h : Q) (t : C0 → C1 → Hd Q → P := by intro c0 c1 h; (repeat' (with_reducible first | refine nY ?_ | (refine mX ?_; try simp only [go_sem, q0, q1, q2, q3, q4, q5, q6, q7]) | refine kD ?_ | refine rD ?_ | refine cP c0 ?_ | refine cP c1 ?_ | refine aO ?_ | fail)); exact h.out) : P := t c0 c1 ⟨h⟩
theorem yX {P Q : Prop} (h : Q) (t : Hd Q → P := by intro h; (repeat' (with_reducible first | refine nY ?_ | (refine mX ?_; try simp only [go_sem, q0, q1, q2, q3, q4, q5, q6, q7, q8]) | refine kD ?_ | refine rD ?_ | refine aO ?_ | fail)); exact h.out) : P := t ⟨h⟩
theorem a8c {C0 : Prop} (c0 : C0) {P Q : Prop} (h : Q) (t : C0 → Hd Q → P := by intro c0 h; (repeat' (with_reducible first | refine nY ?_ | (refine mX ?_; try simp only [go_sem, q0, q1, q2, q3, q4, q5, q6, q7, q8]) | refine kD ?_ | refine rD ?_ | refine cP c0 ?_ | refine aO ?_ | fail)); exact h.out) : P := t c0 ⟨h⟩
theorem a4G {C0 : Prop} (c0 : C0) {C1 : Prop} (c1 : C1) {P Q : Prop} (h : Q) (t : C0 → C1 → Hd Q → P := by intro c0 c1 h; (repeat' (with_reducible first | refine nY ?_ | (refine mX ?_; try simp only [go_sem, q0, q1, q2, q3, q4, q5, q6, q7, q8]) | refine kD ?_ | refine rD ?_ | refine cP c0 ?_ | refine cP c1 ?_ | refine aO ?_ | fail)); exact h.out) : P := t c0 c1 ⟨h⟩
theorem pI {P Q : Prop} (h : Q) (t : Hd Q → P := by intro h; (repeat' (with_reducible first | refine nY ?_ | (refine mX ?_; try simp only [go_sem, q0, q1, q2, q3, q4, q5, q6, q7, q8, q9]) | refine kD ?_ | refine rD ?_ | refine aO ?_ | fail)); exact h.out) : P := t ⟨h⟩
theorem a6X {C0 : Prop} (c0 : C0) {P Q : Prop} (h : Q) (t : C0 → Hd Q → P := by intro c0 h; (repeat' (with_reducible first | refine nY ?_ | (refine mX ?_; try simp only [go_sem, q0, q1, q2, q3, q4, q5, q6, q7, q8, q9]) | refine kD ?_ | refine rD ?_ | refine cP c0 ?_ | refine aO ?_ | fail)); exact h.out) : P := t c0 ⟨h⟩
theorem a2q {C0 : Prop} (c0 : C0) {C1 : Prop} (c1 : C1) {P Q : Prop} (h : Q) (t : C0 → C1 → Hd Q → P := by intro c0 c1 h; (repeat' (with_reducible first | refine nY ?_ | (refine mX ?_; try simp only [go_sem, q0, q1, q2, q3, q4, q5, q6, q7, q8, q9]) | refine kD ?_ | refine rD ?_ | refine cP c0 ?_ | refine cP c1 ?_ | refine aO ?_ | fail)); exact h.out) : P := t c0 c1 ⟨h⟩
end Go.Sx
end
