/- Joined texts. -/
import Derived.Test.YtlmpmpddakhfnaaDoorZ04
import Derived.KernelRfl
set_option linter.all false
section
section
set_option linter.all false
namespace Go.Sx
open Go Go.RowKit
inductive Plan where
 | node : List (Nat × Plan) → Plan
def a7p (ops : List Oper) : Nat → Array Bool → List (Nat × Plan) → Bool
 | 0, listed, l => (Region.ready .any ops.toArray listed).isEmpty && l.isEmpty
 | n + 1, listed, l => decide (Region.ready .any ops.toArray listed = l.map (·.1)) && l.all fun p => match p.2 with
  | .node r => a7p ops n (listed.setIfInBounds p.1 true) r
section
variable {E : Env}
def a1m (E : Env) (ops : List Oper) : Nat → List (Nat × Plan) → St → (St → Prop) → Prop
 | 0, _, st, K => K st
 | _ + 1, [], st, K => K st
 | n + 1, l, st, K => ∀ p ∈ l, match p.2 with
  | .node r => match ops[p.1]? with
   | some o => jN E ops [o] st fun st' => a1m E ops n r st' K
   | none => False
end
structure vcPT (E : Env) (all : List Oper) (n : Nat) (l : List (Nat × Plan)) (st : St) (K : St → Prop) (t : Tie (all, l, K)) : Prop where
 out : a1m E all n l st K
structure vcPL (E : Env) (all : List Oper) (n : Nat) (l : List (Nat × Plan)) (st : St) (K : St → Prop) (t : Tie (all, l, K)) : Prop where
 out : ∀ p ∈ l, match p.2 with
  | .node r => match all[p.1]? with
   | some o => jN E all [o] st fun st' => a1m E all n r st' K
   | none => False
def a8H (E : Env) (all : List Oper) (i : Nat) (st : St) (k : St → Prop) (_ : Tie k) : Prop := match xM all i with
 | some o => uH E all o st k ⟨⟩
 | none => False
section
variable {E : Env}
end
attribute [go_sem] a8H
end Go.Sx
end
section
set_option linter.all false
namespace Go.Sx
open Go Go.RowKit
def a6m (ds : List Nat) (o : Oper) : Bool := match o.op with
 | .call _ => (match o.dst with | some d => vU d ds | none => false)
 | _ => false
def yI (ds : List Nat) (o : Oper) : Bool := mD o || a6m ds o
def rdX (ds : List Nat) : List Oper → List Oper
 | [] => []
 | o :: r => if yI ds o then rdX ds r else o :: rdX ds r
def yJ : List Oper → List Oper
 | [] => []
 | o :: r => if mD o then yJ r else o :: yJ r
structure CallG (E : Env) (f : Nat) (args : List SV) (h : List HB) (k : List HB → SV → Prop) (t : Tie k) : Prop where
 out : ∃ h' s, (∀ T, CallS E f args ⟨T, h⟩ fun st2 s2 => st2 = ⟨T, h'⟩ ∧ s2 = s) ∧ k h' s
theorem CallG.frz {E : Env} {f : Nat} {args args' : List SV} {res : SV} {h : List HB} {k : List HB → SV → Prop} (hf : FnC E.P f args' res) (he : args.map (dH (aQ h (eD args))) = args') (hfree : args'.all bJ = true) (hk : k (aQ h (eD args) ++ adH res.all) (adS (aQ h (eD args)).length res)) : CallG E f args h k ⟨⟩ :=
 ⟨_, _, fun T => CallS.frz (st := ⟨T, h⟩) hf he hfree ⟨rfl, rfl⟩, hk⟩
theorem CallG.lend {E : Env} {f : Nat} {args args' : List SV} {res : SV} {h : List HB} {k : List HB → SV → Prop} (hf : FnC E.P f args' res) (he : args.map (cO h) = args') (hfree : args'.all bJ = true) (hres : res.all.all jQ = true) (hk : k (h ++ adG (fun _ => none) 0 res.all) (adS h.length res)) : CallG E f args h k ⟨⟩ :=
 ⟨_, _, fun T => CallS.lend (st := ⟨T, h⟩) hf he hfree hres ⟨rfl, rfl⟩, hk⟩
def a1n (E : Env) (o : Oper) (st : St) (k : List HB → SV → Prop) : Prop := match o.op with
 | .call c => (match c.callee with
  | .value f => (match ev st f with
   | .o (.f fn caps) => CallG E fn (c.args.toList.map (ev st) ++ caps.map (fun cs => .o (.q cs))) st.h k ⟨⟩
   | _ => False)
  | _ => False)
 | _ => False
def zZ (all : List Oper) (i : Nat) (f : Oper → Bool) : Bool := match all[i]? with
 | some o => f o
 | none => true
def onE (o : Oper) (j : Nat) : Bool := o.after.any fun e => Region.binds .any e && e.on == j
def a2b (all : List Oper) (ps ds : List Nat) : Bool :=
 (List.range all.length).all fun i => zZ all i fun o =>
  (match o.guard with | none => true | some (j, _) => !yI ds o && onE o j && (match all[j]? with | some p => p.dst.isSome | none => false)) && (o.after.all fun e => !Region.binds .any e || decide (e.on < i)) && (yI ds o == ps.contains i) &&
  (match o.dst with | none => mD o | some d => !mD o) &&
  ((List.range all.length).all fun j => zZ all j fun p => match p.dst with
   | none => true
   | some d => ((iM (opL o.op)).all fun t => t != d || onE o j) && (j == i || o.dst != some d))
def a2L : List Nat → List Oper → Bool
 | [], _ => true
 | p :: r, all => (r.all fun q => decide (p < q) && zZ all q fun o => onE o p) && a2L r all
def fF (all : List Oper) (listed : Array Bool) (d : Nat) : Bool := (List.range all.length).any fun j => !listed.getD j true && (match all[j]? with | some o => o.dst == some d | none => false)
def bU (all : List Oper) (listed : Array Bool) (T : List SV) : List SV := (List.range T.length).map fun d => if fF all listed d then .o .u else nth T d
section
variable {E : Env}
def lM (E : Env) (st : St) : List Oper → Prop
 | [] => True
 | o :: r => (match o.dst with
  | some d => vcD E o.op (ev st) st.h fun s => s = nth st.t d
  | none => False) ∧ lM E st r
def a5e (E : Env) (all : List Oper) (st : St) (o : Oper) (d : Nat) : Prop := match o.guard with
 | none => vcD E o.op (ev st) st.h fun s => s = nth st.t d
 | some (j, b) => bW (iY all j st) b (vcD E o.op (ev st) st.h fun s => s = nth st.t d) (SV.t [] = nth st.t d) ⟨⟩ ⟨⟩
def a0a (E : Env) (all : List Oper) (st : St) : List Oper → Prop
 | [] => True
 | o :: r => (match o.dst with
  | some d => a5e E all st o d
  | none => False) ∧ a0a E all st r
def a3N (E : Env) (o : Oper) (st : St) (k : St → Prop) : Prop := if mD o then bC E o.op st fun st' _ => k st' else a1n E o st fun h' s => (match o.dst with | some d => s = nth st.t d | none => False) ∧ k ⟨st.t, h'⟩
def pY (E : Env) (all : List Oper) (ds : List Nat) : List Nat → St → (St → Prop) → Prop
 | [], st, K => a0a E all st (rdX ds all) ∧ K st
 | p :: r, st, K => a0a E all st (rdX ds all) ∧ ∃ o, all[p]? = some o ∧ a3N E o st fun st' => pY E all ds r st' K
theorem aZ (all : List Oper) (listed : Array Bool) (T : List SV) : (bU all listed T).length = T.length := by simp [bU]
theorem dJ (all : List Oper) (listed : Array Bool) (T : List SV) (d : Nat) : nth (bU all listed T) d = if fF all listed d then .o .u else nth T d := by
 rcases Nat.lt_or_ge d T.length with h | h
 ·rw [kK, List.getD_eq_getElem?_getD]
  simp [bU, h]
 ·rw [zP (by rw [aZ]; exact h), zP h]
  split <;> rfl
theorem bY (all : List Oper) (listed : Array Bool) (d : Nat) : fF all listed d = true ↔ ∃ j o, all[j]? = some o ∧ o.dst = some d ∧ listed.getD j true = false := by
 unfold fF
 rw [List.any_eq_true]
 constructor
 ·rintro ⟨j, _, h⟩
  rw [Bool.and_eq_true] at h
  obtain ⟨h1, h2⟩ := h
  split at h2
  ·rename_i o ho
   exact ⟨j, o, ho, by simpa using h2, by simpa using h1⟩
  ·cases h2
 ·rintro ⟨j, o, ho, hd, hl⟩
  refine ⟨j, List.mem_range.2 (List.getElem?_eq_some_iff.1 ho).1, ?_⟩
  rw [hl, ho]; simp [hd]
theorem a0b {st : St} : ∀ {l : List Oper} {o : Oper}, lM E st l → o ∈ l → ∃ d, o.dst = some d ∧ vcD E o.op (ev st) st.h fun s => s = nth st.t d
 | [], o, _, h => by simp at h
 | x :: l, o, hc, h => by
  rcases List.mem_cons.1 h with rfl | h
  ·have h1 := hc.1
   split at h1
   ·rename_i d hd; exact ⟨d, hd, h1⟩
   ·exact h1.elim
  ·exact a0b hc.2 h
theorem a0c {all : List Oper} {st : St} : ∀ {l : List Oper} {o : Oper}, a0a E all st l → o ∈ l → ∃ d, o.dst = some d ∧ a5e E all st o d
 | [], o, _, h => by simp at h
 | x :: l, o, hc, h => by
  rcases List.mem_cons.1 h with rfl | h
  ·have h1 := hc.1
   split at h1
   ·rename_i d hd; exact ⟨d, hd, h1⟩
   ·exact h1.elim
  ·exact a0c hc.2 h
theorem yK {ds : List Nat} : ∀ {l : List Oper} {o : Oper}, o ∈ l → yI ds o = false → o ∈ rdX ds l
 | [], o, h, _ => by simp at h
 | x :: l, o, h, hs => by
  unfold rdX
  rcases List.mem_cons.1 h with rfl | h
  ·rw [hs]; simp
  ·split
   ·exact yK h hs
   ·exact List.mem_cons_of_mem _ (yK h hs)
theorem a2M {all : List Oper} {ds ps : List Nat} {st : St} {K : St → Prop} (h : pY E all ds ps st K) : a0a E all st (rdX ds all) := by
 cases ps with
 | nil => exact h.1
 | cons p r => exact h.1
theorem a1o {t : Nat} {x v : Operand} {st : St} {k : St → SV → Prop} {T : List SV} (h : bC E (.store t x v) st k) (hx : ev ⟨T, st.h⟩ x = ev st x) (hv : ev ⟨T, st.h⟩ v = ev st v) : bC E (.store t x v) ⟨T, st.h⟩ fun st2 _ => ∃ H s, st2 = ⟨T, H⟩ ∧ k ⟨st.t, H⟩ s := by
 simp only [bC, hx, hv] at h ⊢
 split at h
 ·unfold gJ at h ⊢
  dsimp only at h ⊢
  obtain ⟨h1, h2, h3, h4, h5, h⟩ := h
  refine ⟨h1, h2, h3, h4, h5, ?_⟩
  split at h
  ·rename_i e1 e2
   split at h
   ·rename_i e3
    try simp only [e3]
    exact ⟨h.1, h.2.1, _, _, rfl, h.2.2⟩
   ·exact h.elim
  ·exact h.elim
 ·unfold fJ at h ⊢
  dsimp only at h ⊢
  split at h
  ·split at h
   ·rename_i e1
    try simp only [e1]
    split at h
    ·rename_i e2 e3
     try simp only [e2, e3]
     exact ⟨h.1, h.2.1, h.2.2.1, h.2.2.2.1, _, _, rfl, h.2.2.2.2⟩
    ·exact h.elim
   ·exact h.elim
  ·exact h.elim
 ·unfold jC at h ⊢
  dsimp only at h ⊢
  split at h
  ·split at h
   ·rename_i e1
    try simp only [e1]
    split at h
    ·rename_i e2
     try simp only [e2]
     exact ⟨h.1, h.2.1, h.2.2.1, h.2.2.2.1, _, _, rfl, h.2.2.2.2⟩
    ·exact h.elim
   ·rename_i e1
    try simp only [e1]
    split at h
    ·rename_i e0
     try simp only [e0]
     split at h
     ·rename_i e2
      try simp only [e2]
      exact ⟨h.1, h.2.1, _, _, rfl, h.2.2⟩
     ·exact h.elim
    ·exact h.elim
   ·exact h.elim
  ·exact h.elim
def sP (all : List Oper) (listed : Array Bool) : Nat := ((List.range all.length).filter fun j => !listed.getD j true).length
theorem wS {all : List Oper} {listed : Array Bool} {i : Nat} (hi : i < all.length) (hu : listed.getD i true = false) : sP all (listed.setIfInBounds i true) < sP all listed := by
 unfold sP
 have key : ∀ l : List Nat, i ∈ l → ((l.filter fun j => !(listed.setIfInBounds i true).getD j true).length < (l.filter fun j => !listed.getD j true).length) ∧ True := by
  intro l hl
  refine ⟨?_, trivial⟩
  have le : ∀ l : List Nat, (l.filter fun j => !(listed.setIfInBounds i true).getD j true).length ≤ (l.filter fun j => !listed.getD j true).length := by
   intro l
   induction l with
   | nil => simp
   | cons x l ih =>
    simp only [List.filter_cons]
    by_cases e : i = x
    ·subst e; rw [aP]; simp only [Bool.not_true, Bool.false_eq_true, if_false]; split <;> (try simp only [List.length_cons]) <;> omega
    ·rw [getD_set_ne true e]; split <;> (try simp only [List.length_cons]) <;> omega
  induction l with
  | nil => simp at hl
  | cons x l ih =>
   simp only [List.filter_cons]
   by_cases e : i = x
   ·subst e
    rw [aP, hu]
    have := le l
    simp only [Bool.not_true, Bool.not_false, Bool.false_eq_true, if_false, if_true, List.length_cons]; omega
   ·rw [getD_set_ne true e]
    have := ih (by rcases List.mem_cons.1 hl with h | h; exact (e h).elim; exact h)
    split <;> (try simp only [List.length_cons]) <;> omega
 exact (key _ (List.mem_range.2 hi)).1
theorem a2N (hT : TyOK E.P E.T) (hE : ∀ t, E.eqk t ≠ [] → EqT E.P t (E.eqk t)) {all : List Oper} {ps0 ds : List Nat} (hok : a2b all ps0 ds = true) {Q : Exit → Act → World → Prop} {K : St → Prop} (hQ : ∀ g V st a w, Rel E.C g V st a w → K st → Q .normal a w) :
    ∀ (n : Nat) (listed : Array Bool) (ps : List Nat) (st : St) (g : List Gh) (V : View) (a : Act) (w : World), listed.size = all.length → sP all listed ≤ n → a2L ps all = true → (∀ i ∈ ps, i ∈ ps0) → (∀ i, i < all.length → i ∈ ps0 → listed.getD i true = false → i ∈ ps) → (∀ i ∈ ps, listed.getD i true = false) →
     pY E all ds ps st K → Rel E.C g V ⟨bU all listed st.t, st.h⟩ a w → wpAny E.P .any all.toArray Q n listed a w := by
 have spec : ∀ (i : Nat) (o : Oper), all[i]? = some o → (∀ j b, o.guard = some (j, b) → yI ds o = false ∧ onE o j = true ∧ ∃ p dj, all[j]? = some p ∧ p.dst = some dj) ∧ (∀ e ∈ o.after, Region.binds .any e = true → e.on < i) ∧ (yI ds o = true ↔ i ∈ ps0) ∧ (mD o = true → o.dst = none) ∧ (mD o = false → ∃ d, o.dst = some d) ∧
     (∀ (j : Nat) (p : Oper) (d : Nat), all[j]? = some p → p.dst = some d → (∀ t ∈ iM (opL o.op), t = d → onE o j = true) ∧ (j ≠ i → o.dst ≠ some d)) := fun i o ho => by
  have h := List.all_eq_true.1 hok i (List.mem_range.2 (List.getElem?_eq_some_iff.1 ho).1)
  unfold zZ at h
  rw [ho] at h
  simp only [Bool.and_eq_true] at h
  obtain ⟨⟨⟨⟨h1, h2⟩, h3⟩, h4⟩, h5⟩ := h
  refine ⟨fun j b hg => ?_, fun e he hb => ?_, ?_, fun hs => ?_, fun hs => ?_, fun j p d hj hd => ?_⟩
  ·rw [hg] at h1
   simp only [Bool.and_eq_true, Bool.not_eq_true'] at h1
   refine ⟨h1.1.1, h1.1.2, ?_⟩
   have h6 := h1.2
   split at h6
   ·rename_i p hp
    obtain ⟨dj, hdj⟩ := Option.isSome_iff_exists.1 h6
    exact ⟨p, dj, hp, hdj⟩
   ·cases h6
  ·have := (Array.all_eq_true_iff_forall_mem.1 h2) e he
   rw [hb] at this
   simpa using this
  ·have h3 := beq_iff_eq.1 h3
   rw [h3]; exact List.contains_iff_mem
  ·cases hd : o.dst with
   | none => rfl
   | some d => rw [hd, hs] at h4; cases h4
  ·cases hd : o.dst with
   | none => rw [hd, hs] at h4; cases h4
   | some d => exact ⟨d, rfl⟩
  ·have h := List.all_eq_true.1 h5 j (List.mem_range.2 (List.getElem?_eq_some_iff.1 hj).1)
   rw [hj] at h
   simp only [hd, Bool.and_eq_true] at h
   refine ⟨fun t ht e => ?_, fun hne => ?_⟩
   ·have := List.all_eq_true.1 h.1 t ht
    subst e
    simpa using this
   ·rcases Bool.or_eq_true_iff.1 h.2 with h | h
    ·exact (hne (beq_iff_eq.1 h)).elim
    ·simpa using h
 have toT : ∀ {listed : Array Bool} {j : Nat}, listed.getD j false = true → listed.getD j true = true := fun {listed j} h => by
  rcases Nat.lt_or_ge j listed.size with h' | h'
  ·simp [h'] at h ⊢; exact h
  ·simp [Array.getElem?_eq_none h'] at h
 have fin : ∀ (listed : Array Bool) (ps : List Nat) (st : St) (g : List Gh) (V : View) (a : Act) (w : World), (∀ j, j < all.length → listed.getD j true = true) → (∀ i ∈ ps, i ∈ ps0) → (∀ i ∈ ps, listed.getD i true = false) → (∀ i ∈ ps0, True) → pY E all ds ps st K → Rel E.C g V ⟨bU all listed st.t, st.h⟩ a w → Q .normal a w := fun listed ps st g V a w hl h1 h2 _ hv hr => by
  have hm : bU all listed st.t = st.t := by
   apply List.ext_getElem?
   intro d
   rcases Nat.lt_or_ge d st.t.length with h | h
   ·rw [fD (by rw [aZ]; exact h), fD h, dJ]
    have : fF all listed d = false := by
     cases hh : fF all listed d with
     | false => rfl
     | true =>
      obtain ⟨j, o, ho, _, hu⟩ := (bY all listed d).1 hh
      rw [hl j (List.getElem?_eq_some_iff.1 ho).1] at hu; cases hu
    rw [this]; simp
   ·rw [List.getElem?_eq_none (by rw [aZ]; exact h), List.getElem?_eq_none h]
  rw [hm] at hr
  cases ps with
  | nil => exact hQ _ _ _ _ _ hr hv.2
  | cons p r =>
   obtain ⟨_, o, ho, _⟩ := hv
   have := h2 p (by simp)
   rw [hl p (List.getElem?_eq_some_iff.1 ho).1] at this; cases this
 have none_left : ∀ (listed : Array Bool), listed.size = all.length → Region.ready .any all.toArray listed = [] → ∀ j, j < all.length → listed.getD j true = true := fun listed hsz hr => by
  intro j
  induction j using Nat.strongRecOn with
  | _ j ih =>
   intro hj
   cases hq : listed.getD j true with
   | true => rfl
   | false =>
    have ho : all[j]? = some (all[j]'hj) := List.getElem?_eq_getElem hj
    have : j ∈ Region.ready .any all.toArray listed := mem_ready.2 ⟨hq, _, toA ho, fun e he hb => by
     have hlt := (spec j _ ho).2.1 e he hb
     have h1 := ih e.on hlt (by omega)
     have hes : e.on < listed.size := by omega
     simp [hes] at h1 ⊢; exact h1⟩
    rw [hr] at this; cases this
 intro n
 induction n with
 | zero =>
  intro listed ps st g V a w hsz hn hup hps0 hall hps hv hr
  have hl : ∀ j, j < all.length → listed.getD j true = true := fun j hj => by
   cases hq : listed.getD j true with
   | true => rfl
   | false =>
    have : j ∈ (List.range all.length).filter fun j => !listed.getD j true := List.mem_filter.2 ⟨List.mem_range.2 hj, by rw [hq]; rfl⟩
    have := List.length_pos_of_mem this
    unfold sP at hn
    omega
  refine ⟨List.eq_nil_iff_forall_not_mem.2 fun i hi => ?_, fin listed ps st g V a w hl hps0 hps (fun _ _ => trivial) hv hr⟩
  obtain ⟨h1, o, h2, _⟩ := mem_ready.1 hi
  rw [hl i (by simpa using (Array.getElem?_eq_some_iff.1 h2).1)] at h1; cases h1
 | succ n ih =>
  intro listed ps st g V a w hsz hn hup hps0 hall hps hv hr
  refine ⟨fun he => fin listed ps st g V a w (none_left listed hsz he) hps0 hps (fun _ _ => trivial) hv hr, fun i hi => ?_⟩
  obtain ⟨hun, o, ho', haft⟩ := mem_ready.1 hi
  have ho : all[i]? = some o := by simpa using ho'
  have hil := (List.getElem?_eq_some_iff.1 ho).1
  obtain ⟨s1, s2, s3, s4, s5, s6⟩ := spec i o ho
  have hun' : sP all (listed.setIfInBounds i true) ≤ n := by have := wS hil hun; omega
  have evEq : ∀ x ∈ o.op.operands, ev ⟨bU all listed st.t, st.h⟩ x = ev st x := fun x hx => by
   cases x with
   | tmp t =>
    show nth (bU all listed st.t) t = nth st.t t
    rw [dJ]
    have : fF all listed t = false := by
     cases hh : fF all listed t with
     | false => rfl
     | true =>
      obtain ⟨j, p, hj, hd, hu⟩ := (bY all listed t).1 hh
      have h1 := (s6 j p t hj hd).1 t (kI.2 (by rw [a0S]; simpa using hx)) rfl
      obtain ⟨e, he, hb⟩ := Array.any_eq_true'.1 h1
      simp only [Bool.and_eq_true, beq_iff_eq] at hb
      have h2 := toT (haft e he hb.1)
      rw [hb.2, hu] at h2; cases h2
    rw [this]; simp
   | const v => rfl
   | func f => rfl
   | global m => rfl
  have vis : ∀ j p dj, all[j]? = some p → p.dst = some dj → onE o j = true → nth (bU all listed st.t) dj = nth st.t dj := fun j p dj hj hdj hon => by
   rw [dJ]
   have : fF all listed dj = false := by
    cases hh : fF all listed dj with
    | false => rfl
    | true =>
     obtain ⟨j2, q, hj2, hd2, hu⟩ := (bY all listed dj).1 hh
     obtain ⟨e, he, hb⟩ := Array.any_eq_true'.1 hon
     simp only [Bool.and_eq_true, beq_iff_eq] at hb
     have h2 := toT (haft e he hb.1)
     rw [hb.2] at h2
     by_cases e2 : j2 = j
     ·subst e2; rw [h2] at hu; cases hu
     ·exact (((spec j p hj).2.2.2.2.2 j2 q dj hj2 hd2).2 e2 hdj).elim
   rw [this]; simp
  have keep : ∀ j, j ≠ i → (listed.setIfInBounds i true).getD j true = listed.getD j true := fun j hj => getD_set_ne true (fun e => hj e.symm)
  have putE : ∀ d, o.dst = some d → ∀ H, (St.put ⟨bU all listed st.t, H⟩ o.dst (nth st.t d)) = ⟨bU all (listed.setIfInBounds i true) st.t, H⟩ := fun d hd H => by
      rw [hd]
      simp only [St.put, jB]
      congr 1
      apply List.ext_getElem?
      intro m
      rw [List.getElem?_set]
      rcases Nat.lt_or_ge m st.t.length with hm | hm
      ·rw [fD (l := bU all (listed.setIfInBounds i true) st.t) (by rw [aZ]; exact hm), dJ]
       by_cases e : d = m
       ·subst e
        rw [if_pos rfl, if_pos (by rw [aZ]; exact hm)]
        have : fF all (listed.setIfInBounds i true) d = false := by
         cases hh : fF all (listed.setIfInBounds i true) d with
         | false => rfl
         | true =>
          obtain ⟨j, p, hj, hd2, hu⟩ := (bY _ _ d).1 hh
          by_cases e : j = i
          ·subst e; rw [aP] at hu; cases hu
          ·exact ((s6 j p d hj hd2).2 e hd).elim
        rw [this]; simp
       ·rw [if_neg e, fD (by rw [aZ]; exact hm), dJ]
        have : fF all (listed.setIfInBounds i true) m = fF all listed m := by
         rw [Bool.eq_iff_iff, bY, bY]
         constructor
         ·rintro ⟨j, p, hj, hd2, hu⟩
          refine ⟨j, p, hj, hd2, ?_⟩
          by_cases e2 : j = i
          ·subst e2; rw [aP] at hu; cases hu
          ·rwa [keep j e2] at hu
         ·rintro ⟨j, p, hj, hd2, hu⟩
          refine ⟨j, p, hj, hd2, ?_⟩
          by_cases e2 : j = i
          ·subst e2; rw [ho] at hj; cases hj; rw [hd] at hd2; cases hd2; exact (e rfl).elim
          ·rwa [keep j e2]
        rw [this]
      ·rw [List.getElem?_eq_none (l := bU all (listed.setIfInBounds i true) st.t) (by rw [aZ]; exact hm)]
       split
       ·rename_i e; subst e
        rw [if_neg (by rw [aZ]; omega)]
       ·rw [List.getElem?_eq_none (l := bU all listed st.t) (by rw [aZ]; exact hm)]
  cases hef : yI ds o with
  | false =>
   have hs : mD o = false := by unfold yI at hef; exact (Bool.or_eq_false_iff.1 hef).1
   have hmem := yK (List.mem_of_getElem? ho) hef
   obtain ⟨d, hd, hvc⟩ := a0c (a2M hv) hmem
   have hnot : i ∉ ps := fun hm => by
    have := s3.2 (hps0 i hm)
    rw [hef] at this; cases this
   have run : ∀ {k : SV → Prop}, (vcD E o.op (ev st) st.h fun s => s = nth st.t d) → k (nth st.t d) → vcD E o.op (ev ⟨bU all listed st.t, st.h⟩) st.h k := fun {k} hv hk => by
    obtain ⟨s, h1, h2⟩ := sZ (mY (fun x hx => (evEq x hx).symm) hv)
    exact h2 k (by rw [h1]; exact hk)
   refine a3o hT hE ho' hr (K := fun st' => st' = ⟨bU all (listed.setIfInBounds i true) st.t, st.h⟩) (fun g' V' st' a' w' hr2 hk => ?_) ?_
   ·subst hk
    exact ih _ ps st g' V' _ _ (by simp [hsz]) hun' hup hps0 (fun j hj hj0 hu => by
     by_cases e2 : j = i
     ·subst e2; rw [aP] at hu; cases hu
     ·rw [keep j e2] at hu; exact hall j hj hj0 hu) (fun j hj => by
     have e2 : j ≠ i := fun e => hnot (e ▸ hj)
     rw [keep j e2]; exact hps j hj) hv hr2
   ·unfold a5e at hvc
    unfold sop
    split at hvc
    ·rename_i hg
     simp only [hg]
     exact run hvc (putE d hd st.h)
    ·rename_i j b hg
     simp only [hg]
     obtain ⟨_, hon, p, dj, hj, hdj⟩ := s1 j b hg
     have ed : iY all j ⟨bU all listed st.t, st.h⟩ = iY all j st := by
      unfold iY
      rw [mV, hj]
      simp only [hdj]
      exact vis j p dj hj hdj hon
     rw [ed]
     unfold bW at hvc ⊢
     split at hvc
     ·exact ⟨fun h => run (hvc.1 h) (putE d hd st.h), fun h => by rw [hvc.2 h]; exact putE d hd st.h⟩
     ·rw [hvc]; exact putE d hd st.h
     ·exact hvc.elim
  | true =>
   have s1 : o.guard = none := by
    cases hg : o.guard with
    | none => rfl
    | some x => obtain ⟨j, b⟩ := x; have := (s1 j b hg).1; rw [hef] at this; cases this
   unfold wpOp
   rw [ho']
   simp only [Region.wanted, s1, if_true]
   refine .inl ?_
   have hip := hall i hil (s3.1 hef) hun
   cases ps with
   | nil => simp at hip
   | cons p r =>
    obtain ⟨hc, o2, ho2, hvo⟩ := hv
    unfold a2L at hup
    rw [Bool.and_eq_true] at hup
    have hpi : p = i := by
     rcases List.mem_cons.1 hip with e | hm
     ·exact e.symm
     ·have h1 := List.all_eq_true.1 hup.1 i hm
      unfold zZ at h1
      rw [ho] at h1
      simp only [Bool.and_eq_true] at h1
      obtain ⟨e, he, hb⟩ := Array.any_eq_true'.1 h1.2
      simp only [Bool.and_eq_true, beq_iff_eq] at hb
      have h2 := toT (haft e he hb.1)
      rw [hb.2, hps p (by simp)] at h2; cases h2
    subst hpi
    rw [ho] at ho2; cases ho2
    have hlt : ∀ q ∈ r, p < q := fun q hq => by
     have := List.all_eq_true.1 hup.1 q hq
     rw [Bool.and_eq_true] at this
     exact of_decide_eq_true this.1
    have rest : ∀ H g' V' a' w', Rel E.C g' V' ⟨bU all (listed.setIfInBounds p true) st.t, H⟩ a' w' → pY E all ds r ⟨st.t, H⟩ K → wpAny E.P .any all.toArray Q n (listed.setIfInBounds p true) a' w' := fun H g' V' a' w' hr2 hk =>
     ih _ r ⟨st.t, H⟩ g' V' _ _ (by simp [hsz]) hun' hup.2 (fun j hj => hps0 j (List.mem_cons_of_mem _ hj)) (fun j hj hj0 hu => by
      by_cases e2 : j = p
      ·subst e2; rw [aP] at hu; cases hu
      ·rw [keep j e2] at hu
       rcases List.mem_cons.1 (hall j hj hj0 hu) with e | h
       ·exact (e2 e).elim
       ·exact h) (fun j hj => by
      have := hlt j hj
      rw [keep j (by omega)]; exact hps j (List.mem_cons_of_mem _ hj)) hk hr2
    cases hs : mD o with
    | false =>
     unfold a3N at hvo
     rw [if_neg (by rw [hs]; simp)] at hvo
     obtain ⟨d, hd⟩ := s5 hs
     unfold a1n at hvo
     split at hvo
     ·rename_i c hop
      split at hvo
      ·rename_i f hc
       have hfe : ev ⟨bU all listed st.t, st.h⟩ f = ev st f := evEq f (by rw [hop]; simp [Op.operands, Call.operands, hc])
       have hargs : c.args.toList.map (ev ⟨bU all listed st.t, st.h⟩) = c.args.toList.map (ev st) := List.map_congr_left fun x hx => evEq x (by rw [hop]; simp only [Op.operands, Call.operands, Array.mem_append]; exact .inr (by simpa using hx))
       split at hvo
       ·rename_i fn caps hfn
        obtain ⟨h', s', hcall, hsd, hk⟩ := hvo
        rw [hd] at hsd
        have hsd : s' = nth st.t d := hsd
        subst hsd
        have h1 : bC E o.op ⟨bU all listed st.t, st.h⟩ fun st2 s2 => st2 = ⟨bU all listed st.t, h'⟩ ∧ s2 = nth st.t d := by
         rw [hop]
         simp only [bC, eP, hc, hfe, hfn, hargs]
         exact ⟨hcall _⟩
        refine gM hT hE h1 hr fun g' V' st' w' s y hr' hsy hk2 => ?_
        obtain ⟨rfl, rfl⟩ := hk2
        have hr2 := hr'.put o.dst hsy
        rw [putE d hd] at hr2
        exact rest h' g' V' _ _ hr2 hk
       ·exact hvo.elim
      ·exact hvo.elim
     ·exact hvo.elim
    | true =>
    unfold a3N at hvo
    rw [if_pos hs] at hvo
    have hd := s4 hs
    obtain ⟨t, x, v, hop⟩ : ∃ t x v, o.op = .store t x v := by
     unfold mD at hs
     split at hs
     ·rename_i t x v e; exact ⟨t, x, v, e⟩
     ·cases hs
    rw [hop] at hvo
    have h1 := a1o (T := bU all listed st.t) hvo (evEq x (by rw [hop]; simp [Op.operands])) (evEq v (by rw [hop]; simp [Op.operands]))
    rw [← hop] at h1
    refine gM hT hE h1 hr fun g' V' st' w' s y hr' hsy hk => ?_
    obtain ⟨H, s', rfl, hk⟩ := hk
    have hr2 := hr'.put o.dst hsy
    rw [hd] at hr2 ⊢
    have em : bU all (listed.setIfInBounds p true) st.t = bU all listed st.t := by
     unfold bU
     refine List.map_congr_left fun m _ => ?_
     have : fF all (listed.setIfInBounds p true) m = fF all listed m := by
      rw [Bool.eq_iff_iff, bY, bY]
      constructor
      ·rintro ⟨j, q, hj, hd2, hu⟩
       refine ⟨j, q, hj, hd2, ?_⟩
       by_cases e2 : j = p
       ·subst e2; rw [aP] at hu; cases hu
       ·rwa [keep j e2] at hu
      ·rintro ⟨j, q, hj, hd2, hu⟩
       refine ⟨j, q, hj, hd2, ?_⟩
       by_cases e2 : j = p
       ·subst e2; rw [ho] at hj; cases hj; rw [hd] at hd2; cases hd2
       ·rwa [keep j e2]
     rw [this]
    refine rest H g' V' _ _ ?_ hk
    rw [em]; exact hr2
theorem yL : ∀ {l m : List SV}, l.length = m.length → (∀ d, d < m.length → nth m d = .o .u ∨ nth l d = nth m d) → leT l m
 | [], [], _, _ => trivial
 | [], _ :: _, h, _ => by simp at h
 | _ :: _, [], h, _ => by simp at h
 | x :: l, y :: m, h, k => ⟨k 0 (by simp), yL (by simpa using h) fun d hd => k (d + 1) (by simpa using hd)⟩
theorem mH : ∀ h : List HB, leH h h
 | [] => trivial
 | _ :: l => ⟨.inr rfl, mH l⟩
theorem yM {st : St} {d n : Nat} {s : SV} (h : n ≠ d) : nth (st.put (some d) s).t n = nth st.t n := by
 have h' : d ≠ n := fun e => h e.symm
 simp only [St.put, jB, kK, List.getD_eq_getElem?_getD, List.getElem?_set, if_neg h']
def a5f (E : Env) (ds : List Nat) (all : List Oper) (o : Oper) (st : St) (k : St → Prop) : Prop := if a6m ds o then a1n E o st fun h' s => k ⟨(st.put o.dst s).t, h'⟩ else sop E all o st k
def vcGs (E : Env) (ds : List Nat) (all : List Oper) : List Oper → St → (St → Prop) → Prop
 | [], st, K => K st
 | o :: r, st, K => a5f E ds all o st fun st' => vcGs E ds all r st' K
theorem a0d {ds : List Nat} {all : List Oper} : ∀ {l : List Oper} {st : St} {K : St → Prop}, vcGs E ds all l st K → ∃ st1, K st1 ∧ st1.t.length = st.t.length ∧ ∀ d, (∀ o ∈ l, o.dst ≠ some d) → nth st1.t d = nth st.t d
 | [], st, K, h => ⟨st, h, rfl, fun _ _ => rfl⟩
 | o :: l, st, K, h => by
  have key : ∃ s H, vcGs E ds all l ⟨(st.put o.dst s).t, H⟩ K := by
   unfold vcGs a5f at h
   split at h
   ·unfold a1n at h
    split at h
    ·split at h
     ·split at h
      ·obtain ⟨h', s, _, hk⟩ := h; exact ⟨s, h', hk⟩
      ·exact h.elim
     ·exact h.elim
    ·exact h.elim
   ·obtain ⟨s, h1, _⟩ := xR h; exact ⟨s, (st.put o.dst s).h, h1⟩
  obtain ⟨s, H, h1⟩ := key
  obtain ⟨st1, k1, k3, k4⟩ := a0d h1
  refine ⟨st1, k1, by rw [k3]; exact tC .., fun d hd => ?_⟩
  rw [k4 d fun p hp => hd p (List.mem_cons_of_mem _ hp)]
  cases ho : o.dst with
  | none => rfl
  | some e => exact yM fun e2 => hd o (by simp) (by rw [ho, e2])
theorem uR : ∀ {l : List Oper} {o : Oper}, o ∈ yJ l → o ∈ l
 | [], o, h => by simp [yJ] at h
 | x :: l, o, h => by
  unfold yJ at h
  split at h
  ·exact List.mem_cons_of_mem _ (uR h)
  ·rcases List.mem_cons.1 h with rfl | h
   ·simp
   ·exact List.mem_cons_of_mem _ (uR h)
theorem a2O (hT : TyOK E.P E.T) (hE : ∀ t, E.eqk t ≠ [] → EqT E.P t (E.eqk t)) (hm : E.P.follows .mixedOrders = true) {id : Nat} {ops : List Oper} {F : Ex → St → Prop} {st : St} (ps ds : List Nat) (hok : a2b ops ps ds = true) (hup : a2L ps ops = true) (hlt : (ps.all fun i => decide (i < ops.length)) = true) (hb : st.okB = true)
    (h : vcGs E ds ops (yJ ops) st fun st1 => pY E ops ds ps ⟨st1.t, st.h⟩ (F .normal)) : WP E.P E.C (.region id ops.toArray true) F st := fun g V a w hr => by
 refine wp_region_any hm ?_
 obtain ⟨st1, k1, k3, k4⟩ := a0d h
 have hf : ∀ j : Nat, j < ops.length → (Array.replicate ops.toArray.size false).getD j true = false := fun j hj => by simp [hj]
 have hle : st.le ⟨bU ops (Array.replicate ops.toArray.size false) st1.t, st.h⟩ := by
  refine ⟨yL (by rw [aZ, k3]) fun d _ => ?_, mH _⟩
  rw [dJ]
  cases hh : fF ops (Array.replicate ops.toArray.size false) d with
  | true => exact .inl rfl
  | false =>
   right
   simp only [Bool.false_eq_true, if_false]
   refine (k4 d fun o ho hd => ?_).symm
   obtain ⟨j, hj⟩ := List.mem_iff_getElem?.1 (uR ho)
   have := (bY ops (Array.replicate ops.toArray.size false) d).2 ⟨j, o, hj, hd, hf j (List.getElem?_eq_some_iff.1 hj).1⟩
   rw [hh] at this; cases this
 have hbt : ((bU ops (Array.replicate ops.toArray.size false) st1.t).all (·.below st.h.length) && st.h.all (·.below st.h.length)) = true := by
  unfold St.okB at hb
  rw [Bool.and_eq_true] at hb ⊢
  refine ⟨List.all_eq_true.2 fun s hs => ?_, hb.2⟩
  obtain ⟨d, hd⟩ := List.mem_iff_getElem?.1 hs
  rcases (hle.1.get).2 d s hd with e | e
  ·subst e; rfl
  ·exact List.all_eq_true.1 hb.1 s (List.mem_of_getElem? e)
 have := a2N hT hE hok (Q := fun e a w => Post E.C F e a w) (fun g V st _ _ hr h => ⟨g, V, st, hr, h⟩) ops.toArray.size (Array.replicate ops.toArray.size false) ps ⟨st1.t, st.h⟩ _ V a { w with drawn := w.drawn + 1 } (by simp)
  (by unfold sP; exact Nat.le_trans (List.length_filter_le _ _) (by simp)) hup (fun i hi => hi) (fun i _ hi _ => hi) (fun i hi => hf i (of_decide_eq_true (List.all_eq_true.1 hlt i hi))) k1 ((hr.drawn).forget hle hbt)
 exact this
end
structure vcStT (E : Env) (all l : List Oper) (ds ps : List Nat) (st : St) (K : St → Prop) (t : Tie (all, l, K)) : Prop where
 out : rdX ds all = l → pY E all ds ps st K
structure vcGRun (E : Env) (ds : List Nat) (all l : List Oper) (st : St) (K : St → Prop) (t : Tie (all, l, K)) : Prop where
 out : vcGs E ds all l st K
def yN (E : Env) (ds : List Nat) (all : List Oper) (o : Oper) (st : St) (k : St → Prop) (_ : Tie k) : Prop := a5f E ds all o st k
def a3O (E : Env) (all : List Oper) (i : Nat) (st : St) (k : St → Prop) (_ : Tie k) : Prop := match xM all i with
 | some o => a3N E o st k
 | none => False
section
variable {E : Env}
theorem a2P {ds : List Nat} {all r : List Oper} {o : Oper} {st : St} {K : St → Prop} (h : yN E ds all o st (fun st' => vcGRun E ds all r st' K ⟨⟩) ⟨⟩) : vcGRun E ds all (o :: r) st K ⟨⟩ := by
 have e : (fun st' => vcGRun E ds all r st' K ⟨⟩) = (fun st' => vcGs E ds all r st' K) := funext fun s => propext ⟨fun h => h.out, fun h => ⟨h⟩⟩
 rw [e] at h
 exact ⟨h⟩
theorem a3P {ds : List Nat} {all : List Oper} {st : St} {K : St → Prop} (h : K st) : vcGRun E ds all [] st K ⟨⟩ := ⟨h⟩
theorem a1p {ds : List Nat} {all l : List Oper} {st : St} {K : St → Prop} (hc : a0a E all st l) (h : K st) : vcStT E all l ds [] st K ⟨⟩ := ⟨fun e => ⟨e ▸ hc, h⟩⟩
theorem yO {ds : List Nat} {all l : List Oper} {p : Nat} {r : List Nat} {st : St} {K : St → Prop} (hc : a0a E all st l) (h : a3O E all p st (fun st' => vcStT E all l ds r st' K ⟨⟩) ⟨⟩) : vcStT E all l ds (p :: r) st K ⟨⟩ := ⟨fun e => by
 refine ⟨e ▸ hc, ?_⟩
 have e2 : (fun st' => vcStT E all l ds r st' K ⟨⟩) = (fun st' => pY E all ds r st' K) := funext fun s => propext ⟨fun h => h.out e, fun h => ⟨fun _ => h⟩⟩
 rw [e2] at h
 unfold a3O at h
 rw [mV] at h
 split at h
 ·rename_i o ho; exact ⟨o, ho, h⟩
 ·exact h.elim⟩
end
attribute [go_sem] lM a5e a0a a3O rdX yJ yI a6m a3N a1n yN a5f
end Go.Sx
end
section
set_option linter.all false
namespace Go.Sx
open Go Go.RowKit
def a5g (G : St) (F : Ex → St → Prop) : Ex → St → Prop
 | .normal, s => s.le G ∧ G.okB = true
 | .exit j, s => F (.exit j) s
 | .ret, s => F .ret s
def a6n (c : Code) (st : St) (M : List (Nat × SV)) (H : List (Nat × HB)) : St := ⟨mds (fgt st.t (xO c)) M, mhs st.h H⟩
section
variable {P : Program} {C : Ctx} {ks : List Kn} {F : Ex → St → Prop} {st : St}
theorem a5h {G s : St} (h : F .ret s) : a5g G F .ret s := h
theorem a3Q {G s : St} {j : Nat} (h : F (.exit j) s) : a5g G F (.exit j) s := h
end
attribute [go_sem] a6n
end Go.Sx
end
section
set_option linter.all false
namespace Go.Sx
open Go Go.RowKit
def Nm (P : Prop) : Prop := P
theorem mX {P : Prop} (h : P) : Nm P := h
theorem uX {P : Prop} (h : Nm P) : P := h
def Ar (P : Prop) : Prop := P
theorem aX {P : Prop} (h : Ar P) : P := h
theorem uA {P : Prop} (h : P) : Ar P := h
theorem uB {P : Prop} (h : P := by (simp only [go_sem, qH]; (repeat' first | omega | refine And.intro ?_ ?_)) <;> fail) : Ar P := h
theorem aO {P Q : Prop} (h : Q) (p : P := by omega) : P ∧ Q := ⟨p, h⟩
theorem aI {A B : Prop} (a : A) (b : B) : A ∧ B := ⟨a, b⟩
theorem fG {α β : Type} (f : α → β) (l : List α) : (l.map f).length = l.length := List.length_map ..
theorem a3R {α : Type} (n : Nat) (l : List α) : (l.take n).length = min n l.length := List.length_take
theorem a3S {α : Type} (n : Nat) (l : List α) : (l.drop n).length = l.length - n := List.length_drop
theorem a6o {α : Type} (l m : List α) : (l ++ m).length = l.length + m.length := List.length_append
class Nx (P : Prop) (Q : outParam Prop) : Prop where
 nx : Q → P
theorem nX {P Q : Prop} [i : Nx P Q] (h : Q) : P := i.nx h
class Ny (P : Prop) (Q : outParam Prop) : Prop where
 ny : Q → P
instance {P Q : Prop} [i : Nx P Q] : Ny P Q := ⟨i.nx⟩
theorem nY {P Q : Prop} [i : Ny P Q] (h : Q) : P := i.ny h
structure cndK (s : SV) (A B : Prop) (t : Tie (A, B)) : Prop where
 out : ∃ b, s = .o (.d (.v (.bool b))) ∧ (b = true → A) ∧ (b = false → B)
theorem cnd {s : SV} {A B : Prop} {b : Bool} (hs : s = .o (.d (.v (.bool b)))) (h1 : b = true → A) (h2 : b = false → B) : cndK s A B ⟨⟩ := ⟨b, hs, h1, h2⟩
instance nCt {A B : Prop} : Nx (cndK (.o (.d (.v (.bool true)))) A B ⟨⟩) A := ⟨fun h => ⟨true, rfl, fun _ => h, fun h => by cases h⟩⟩
instance nCf {A B : Prop} : Nx (cndK (.o (.d (.v (.bool false)))) A B ⟨⟩) B := ⟨fun h => ⟨false, rfl, (fun h => by cases h), fun _ => h⟩⟩
class Cy (P : Program) (f : Nat) (args' : List SV) (res : SV) (G : Prop) (O K : outParam Prop) : Prop where
 cl : FnC P f args' res → O → K → G
theorem cP {P : Program} {f : Nat} {args' : List SV} {res : SV} {G O K : Prop} [i : Cy P f args' res G O K] (h : FnC P f args' res) (k : K) (o : O := by simp only [go_sem, and_self] <;> fail) : G := i.cl h o k
section
variable {P : Program} {C : Ctx} {F : Ex → St → Prop} {st : St} {ks : List Kn}
instance nRet : Nx (WP P C .ret (aR P C ks F) st) (aR P C ks F .ret st) := ⟨a6e⟩
instance nSkip : Nx (WP P C .skip (aR P C ks F) st) (aR P C ks F .normal st) := ⟨a4U⟩
instance nExit {id : Nat} : Nx (WP P C (.exit id) (aR P C ks F) st) (aR P C ks F (.exit id) st) := ⟨a4V⟩
instance nSeq {x y : Code} : Nx (WP P C (.seq x y) (aR P C ks F) st) (WP P C x (aR P C (.code y :: ks) F) st) := ⟨a6d⟩
instance nBlock {id : Nat} {c : Code} : Nx (WP P C (.block id c) (aR P C ks F) st) (WP P C c (aR P C (.blk id :: ks) F) st) := ⟨a3E⟩
instance nCode {c : Code} : Nx (aR P C (.code c :: ks) F .normal st) (WP P C c (aR P C ks F) st) := ⟨a6f⟩
instance nBlk {id : Nat} : Nx (aR P C (.blk id :: ks) F .normal st) (aR P C ks F .normal st) := ⟨a7l⟩
instance nCodeRet {c : Code} : Nx (aR P C (.code c :: ks) F .ret st) (aR P C ks F .ret st) := ⟨a1b⟩
instance nBlkRet {id : Nat} : Nx (aR P C (.blk id :: ks) F .ret st) (aR P C ks F .ret st) := ⟨a2H⟩
instance nCodeExit {c : Code} {j : Nat} : Nx (aR P C (.code c :: ks) F (.exit j) st) (aR P C ks F (.exit j) st) := ⟨zV⟩
instance nBlkExit {id : Nat} : Nx (aR P C (.blk id :: ks) F (.exit id) st) (aR P C ks F .normal st) := ⟨sN⟩
theorem kD {id j : Nat} (h : aR P C ks F (.exit j) st) (hn : j ≠ id := by decide) : aR P C (.blk id :: ks) F (.exit j) st := rA hn h
instance nNil {e : Ex} : Nx (aR P C [] F e st) (F e st) := ⟨a7m⟩
instance nLRet {α : Type} {I : α → St} {Q : α → Prop} {μ : α → Nat} {x : α} : Nx (pV I Q μ x F .ret st) (F .ret st) := ⟨a7g⟩
instance nLExit {α : Type} {I : α → St} {Q : α → Prop} {μ : α → Nat} {x : α} {j : Nat} : Nx (pV I Q μ x F (.exit j) st) (F (.exit j) st) := ⟨a5V⟩
instance nCRet {G s : St} : Nx (a5g G F .ret s) (F .ret s) := ⟨a5h⟩
instance nCExit {G s : St} {j : Nat} : Nx (a5g G F (.exit j) s) (F (.exit j) s) := ⟨a3Q⟩
end
section
variable {E : Env} {all r : List Oper} {o : Oper} {st : St} {K : St → Prop}
instance nRun : Nx (vcRun E all (o :: r) st K ⟨⟩) (Nm (uH E all o st (fun st' => vcRun E all r st' K ⟨⟩) ⟨⟩)) := ⟨a3t⟩
instance nRun0 : Nx (vcRun E all [] st K ⟨⟩) (K st) := ⟨a4M⟩
instance nDrun : Nx (vcDRun E all (o :: r) st K ⟨⟩) (Nm (xV E all o st (fun st' => vcDRun E all r st' K ⟨⟩) ⟨⟩)) := ⟨a2y⟩
instance nDrun0 : Nx (vcDRun E all [] st K ⟨⟩) (K st) := ⟨a3u⟩
instance nGrun {ds : List Nat} : Nx (vcGRun E ds all (o :: r) st K ⟨⟩) (Nm (yN E ds all o st (fun st' => vcGRun E ds all r st' K ⟨⟩) ⟨⟩)) := ⟨a2P⟩
instance nGrun0 {ds : List Nat} : Nx (vcGRun E ds all [] st K ⟨⟩) (K st) := ⟨a3P⟩
end
end Go.Sx
end
section
set_option linter.all false
namespace Go.Sx
open Go Go.RowKit
theorem CallS.lendW {E : Env} {f : Nat} {args args' : List SV} {res : SV} {st : St} {K : St → SV → Prop} (h : FnC E.P f args' res) (he : args.map (cO st.h) = args') (hfree : args'.all bJ = true) (hres : res.all.all jQ = true)
    (k : K ⟨st.t, st.h ++ adH res.all⟩ (adS st.h.length res)) : CallS E f args st K := by
 refine ⟨h.enters, fun g V a w vs hr hlen hargs => ?_⟩
 subst he
 have hc : jA (fU V w) (args.map (cO st.h)) vs := by
  refine ⟨by simp [hlen], fun i s y h1 h2 => ?_⟩
  have hs := List.all_eq_true.1 hfree s (List.mem_of_getElem? h1)
  rw [List.getElem?_map] at h1
  cases hk : args[i]? with
  | none => rw [hk] at h1; cases h1
  | some s0 =>
   rw [hk] at h1
   cases h1
   exact gP (qW hr (hargs i s0 y hk h2)) hs
 refine (h.calls (fU V w) w vs hr.tab (jP hr.mod) hc).mono ?_
 rintro e w' ⟨y, rfl, ⟨V1, S, hv, hm, hnew, ⟨l, hshape, Ss, r1, r2, r3, r4⟩, hnd, hblk⟩, hbelow⟩
 have hVV' : V.le V1 := (iK V w).trans hv
 subst r3
 have hm0 : Mod V w' := hm.of_le hVV'
 obtain ⟨V', hV'⟩ : ∃ V' : View, V' = fun b => if b < w.heap.size then V b else V1 b := ⟨_, rfl⟩
 have ge : ∀ b, w.heap.size ≤ b → V' b = V1 b := fun b hb => by rw [hV']; exact if_neg (by omega)
 have hle : V.le V' := fun b cs hb => ⟨cs, by rw [hV']; simp only [if_pos (hr.mod.lt hb), hb], List.prefix_refl _⟩
 have hnone : ∀ b, w.heap.size ≤ b → fU V w b = none := fun b hb => (jP hr.mod).fresh hb
 have hr1 : Rel E.C g V' st a w' := hr.later hle (fun b cs hb => by
  rw [hV'] at hb
  simp only at hb
  split at hb
  ·exact hm0 b cs hb
  ·exact hm b cs hb) hbelow (fun b cs hb hn => by
  rcases Nat.lt_or_ge b w.heap.size with hlt | hge
  ·rw [hV'] at hb
   simp only [if_pos hlt] at hb
   rw [hb] at hn; cases hn
  ·rw [ge b hge] at hb
   exact hnew b cs hb (hnone b hge))
 have r5 : ∀ (k : Nat) (x : At) (y : Value) (s : List Nat), res.all[k]? = some x → l[k]? = some y → Ss[k]? = some s → rAt V' w' x y s := fun k x y s e1 e2 e3 => by
  have hr4 := r4 k x y s e1 e2 e3
  have hw := List.all_eq_true.1 hres x (List.mem_of_getElem? e1)
  have hin : ∀ b ∈ s, w.heap.size ≤ b := fun b hb => (hblk b (List.mem_flatten.2 ⟨s, List.mem_of_getElem? e3, hb⟩)).1
  cases x with
  | d x => cases x with
   | v x =>
    obtain ⟨q1, T, hT⟩ := hr4
    cases hT with
    | v _ hsc => exact ⟨q1, _, .v _ hsc⟩
   | sl r => simp [jQ] at hw
  | w ty sz rows =>
   obtain ⟨p0, ys, Ts, p1, p2⟩ := hr4
   have lay : (∀ b ∈ Ts.flatten, b ∈ s) → LayL V' rows.flatten ys Ts := fun hsub => ⟨p1.1, p1.2.1, fun j d z T h1 h2 h3 => (p1.2.2 j d z T h1 h2 h3).restrict fun b hb cs hcs => ⟨cs, by rw [ge b (hin b (hsub b (List.mem_flatten.2 ⟨T, List.mem_of_getElem? h3, hb⟩)))]; exact hcs, List.prefix_refl _⟩⟩
   rcases p2 with ⟨q1, rfl, q3⟩ | ⟨b, cap, c, q1, q2, q3, q4, q5, q6, q7, q8⟩
   ·have hT : Ts = [] := by have := p1.2.1; simpa using this
    subst hT
    exact ⟨p0, ys, [], lay (fun b hb => by simp at hb), .inl ⟨q1, rfl, q3⟩⟩
   ·exact ⟨p0, ys, Ts, lay (fun b' hb' => by rw [q8]; exact List.mem_cons_of_mem _ hb'), .inr ⟨b, cap, c, q1, q2, q3, q4, q5, q6, by rw [ge b (hin b (by rw [q8]; simp))]; exact q7, q8⟩⟩
  | _ => simp [jQ] at hw
 obtain ⟨g', h1, h2, h3⟩ := pI (cs := res.all) hr1 r1 r2 r5 hnd (fun b hb => ⟨.inl (Nat.le_trans hr.fr.size (hblk b hb).1), (hblk b hb).2, fun i hb' x e1 e2 hm' => by
  have := (hr.hp.lo i hb' x e1 e2 b hm').2
  have := (hblk b hb).1
  omega⟩)
 refine ⟨y, g', V', _, _, rfl, h1, ?_, k⟩
 cases res with
 | o x =>
  have hl : l = [y] := hshape
  subst hl
  simp only [SV.all] at h3
  simp only [adS]
  have hlen1 : (adA st.h.length [x]).length = 1 := iZ _ _
  match he' : adA st.h.length [x], hlen1 with
  | [z], _ =>
   rw [he'] at h3
   exact h3.2 0 z y rfl rfl
 | g cs => exact ⟨l, hshape, h3⟩
 | t cs =>
  obtain ⟨ls, e1, e2, e3, ys, e4, e5, e6⟩ := hshape
  subst e2
  refine ⟨ys, e4, by rw [e5, fT], fun i b c v hi hv' => ?_⟩
  have hlt : i < ls.length := by rw [e1, ← fT st.h.length cs]; exact (List.getElem?_eq_some_iff.1 hi).1
  have hm' : ls[i]? = some ls[i] := List.getElem?_eq_getElem hlt
  obtain ⟨⟨c0, hc0⟩, hcc⟩ := mW st.h.length cs ls e1 e3 h3 i b c _ hi hm'
  have := e6 i b c0 _ v hc0 hm' hv'
  cases b with
  | true => simp only [if_true] at this ⊢; exact ⟨_, this, hcc⟩
  | false => simp only [Bool.false_eq_true, if_false] at this ⊢; rw [← this]; exact hcc
theorem CallG.lendW {E : Env} {f : Nat} {args args' : List SV} {res : SV} {h : List HB} {k : List HB → SV → Prop} (hf : FnC E.P f args' res) (he : args.map (cO h) = args') (hfree : args'.all bJ = true) (hres : res.all.all jQ = true) (hk : k (h ++ adH res.all) (adS h.length res)) : CallG E f args h k ⟨⟩ :=
 ⟨_, _, fun T => CallS.lendW (st := ⟨T, h⟩) hf he hfree hres ⟨rfl, rfl⟩, hk⟩
end Go.Sx
end
end
section
namespace Go.Sx
open Go Go.RowKit
structure Hd (Q : Prop) : Prop where
 out : Q
theorem aF {P Q : Prop} (h : Q) (t : Hd Q → P := by intro h; (repeat' (with_reducible first | refine nY ?_ | (refine mX ?_; try simp only [go_sem]) | refine kD ?_ | refine rD ?_ | refine aO ?_ | fail)); exact h.out) : P := t ⟨h⟩
theorem sQ {C0 : Prop} (c0 : C0) {P Q : Prop} (h : Q) (t : C0 → Hd Q → P := by intro c0 h; (repeat' (with_reducible first | refine nY ?_ | (refine mX ?_; try simp only [go_sem]) | refine kD ?_ | refine rD ?_ | refine cP c0 ?_ | refine aO ?_ | fail)); exact h.out) : P := t c0 ⟨h⟩
theorem a6p {C0 : Prop} (c0 : C0) {C1 : Prop} (c1 : C1) {P Q : Prop} (h : Q) (t : C0 → C1 → Hd Q → P := by intro c0 c1 h; (repeat' (with_reducible first | refine nY ?_ | (refine mX ?_; try simp only [go_sem]) | refine kD ?_ | refine rD ?_ | refine cP c0 ?_ | refine cP c1 ?_ | refine aO ?_ | fail)); exact h.out) : P := t c0 c1 ⟨h⟩
theorem jL {P Q : Prop} (h : Q) (t : Hd Q → P := by intro h; (repeat' (with_reducible first | refine nY ?_ | (refine mX ?_; try simp only [go_sem, q0]) | refine kD ?_ | refine rD ?_ | refine aO ?_ | fail)); exact h.out) : P := t ⟨h⟩
theorem vV {C0 : Prop} (c0 : C0) {P Q : Prop} (h : Q) (t : C0 → Hd Q → P := by intro c0 h; (repeat' (with_reducible first | refine nY ?_ | (refine mX ?_; try simp only [go_sem, q0]) | refine kD ?_ | refine rD ?_ | refine cP c0 ?_ | refine aO ?_ | fail)); exact h.out) : P := t c0 ⟨h⟩
theorem a8I {C0 : Prop} (c0 : C0) {C1 : Prop} (c1 : C1) {P Q : Prop} (h : Q) (t : C0 → C1 → Hd Q → P := by intro c0 c1 h; (repeat' (with_reducible first | refine nY ?_ | (refine mX ?_; try simp only [go_sem, q0]) | refine kD ?_ | refine rD ?_ | refine cP c0 ?_ | refine cP c1 ?_ | refine aO ?_ | fail)); exact h.out) : P := t c0 c1 ⟨h⟩
theorem lN {P Q : Prop} (h : Q) (t : Hd Q → P := by intro h; (repeat' (with_reducible first | refine nY ?_ | (refine mX ?_; try simp only [go_sem, q0, q1]) | refine kD ?_ | refine rD ?_ | refine aO ?_ | fail)); exact h.out) : P := t ⟨h⟩
theorem a5i {C0 : Prop} (c0 : C0) {P Q : Prop} (h : Q) (t : C0 → Hd Q → P := by intro c0 h; (repeat' (with_reducible first | refine nY ?_ | (refine mX ?_; try simp only [go_sem, q0, q1]) | refine kD ?_ | refine rD ?_ | refine cP c0 ?_ | refine aO ?_ | fail)); exact h.out) : P := t c0 ⟨h⟩
theorem a7q {C0 : Prop} (c0 : C0) {C1 : Prop} (c1 : C1) {P Q : Prop} (h : Q) (t : C0 → C1 → Hd Q → P := by intro c0 c1 h; (repeat' (with_reducible first | refine nY ?_ | (refine mX ?_; try simp only [go_sem, q0, q1]) | refine kD ?_ | refine rD ?_ | refine cP c0 ?_ | refine cP c1 ?_ | refine aO ?_ | fail)); exact h.out) : P := t c0 c1 ⟨h⟩
theorem a8J {C0 : Prop} (c0 : C0) {C1 : Prop} (c1 : C1) {C2 : Prop} (c2 : C2) {C3 : Prop} (c3 : C3) {P Q : Prop} (h : Q) (t : C0 → C1 → C2 → C3 → Hd Q → P := by intro c0 c1 c2 c3 h; (repeat' (with_reducible first | refine nY ?_ | (refine mX ?_; try simp only [go_sem, q0, q1]) | refine kD ?_ | refine rD ?_ | refine cP c0 ?_ | refine cP c1 ?_ | refine cP c2 ?_ | refine cP c3 ?_ | refine aO ?_ | fail)); exact h.out) : P := t c0 c1 c2 c3 ⟨h⟩
theorem oN {P Q : Prop} (h : Q) (t : Hd Q → P := by intro h; (repeat' (with_reducible first | refine nY ?_ | (refine mX ?_; try simp only [go_sem, q0, q1, q2]) | refine kD ?_ | refine rD ?_ | refine aO ?_ | fail)); exact h.out) : P := t ⟨h⟩
theorem a7r {C0 : Prop} (c0 : C0) {P Q : Prop} (h : Q) (t : C0 → Hd Q → P := by intro c0 h; (repeat' (with_reducible first | refine nY ?_ | (refine mX ?_; try simp only [go_sem, q0, q1, q2]) | refine kD ?_ | refine rD ?_ | refine cP c0 ?_ | refine aO ?_ | fail)); exact h.out) : P := t c0 ⟨h⟩
theorem a6q {C0 : Prop} (c0 : C0) {C1 : Prop} (c1 : C1) {P Q : Prop} (h : Q) (t : C0 → C1 → Hd Q → P := by intro c0 c1 h; (repeat' (with_reducible first | refine nY ?_ | (refine mX ?_; try simp only [go_sem, q0, q1, q2]) | refine kD ?_ | refine rD ?_ | refine cP c0 ?_ | refine cP c1 ?_ | refine aO ?_ | fail)); exact h.out) : P := t c0 c1 ⟨h⟩
theorem a8K {C0 : Prop} (c0 : C0) {C1 : Prop} (c1 : C1) {C2 : Prop} (c2 : C2) {C3 : Prop} (c3 : C3) {P Q : Prop} (h : Q) (t : C0 → C1 → C2 → C3 → Hd Q → P := by intro c0 c1 c2 c3 h; (repeat' (with_reducible first | refine nY ?_ | (refine mX ?_; try simp only [go_sem, q0, q1, q2]) | refine kD ?_ | refine rD ?_ | refine cP c0 ?_ | refine cP c1 ?_ | refine cP c2 ?_ | refine cP c3 ?_ | refine aO ?_ | fail)); exact h.out) : P := t c0 c1 c2 c3 ⟨h⟩
theorem kU {P Q : Prop} (h : Q) (t : Hd Q → P := by intro h; (repeat' (with_reducible first | refine nY ?_ | (refine mX ?_; try simp only [go_sem, q0, q1, q2, q3]) | refine kD ?_ | refine rD ?_ | refine aO ?_ | fail)); exact h.out) : P := t ⟨h⟩
theorem a6r {C0 : Prop} (c0 : C0) {P Q : Prop} (h : Q) (t : C0 → Hd Q → P := by intro c0 h; (repeat' (with_reducible first | refine nY ?_ | (refine mX ?_; try simp only [go_sem, q0, q1, q2, q3]) | refine kD ?_ | refine rD ?_ | refine cP c0 ?_ | refine aO ?_ | fail)); exact h.out) : P := t c0 ⟨h⟩
theorem a1q {C0 : Prop} (c0 : C0) {C1 : Prop} (c1 : C1) {P Q : Prop} (h : Q) (t : C0 → C1 → Hd Q → P := by intro c0 c1 h; (repeat' (with_reducible first | refine nY ?_ | (refine mX ?_; try simp only [go_sem, q0, q1, q2, q3]) | refine kD ?_ | refine rD ?_ | refine cP c0 ?_ | refine cP c1 ?_ | refine aO ?_ | fail)); exact h.out) : P := t c0 c1 ⟨h⟩
theorem a8L {C0 : Prop} (c0 : C0) {C1 : Prop} (c1 : C1) {C2 : Prop} (c2 : C2) {C3 : Prop} (c3 : C3) {P Q : Prop} (h : Q) (t : C0 → C1 → C2 → C3 → Hd Q → P := by intro c0 c1 c2 c3 h; (repeat' (with_reducible first | refine nY ?_ | (refine mX ?_; try simp only [go_sem, q0, q1, q2, q3]) | refine kD ?_ | refine rD ?_ | refine cP c0 ?_ | refine cP c1 ?_ | refine cP c2 ?_ | refine cP c3 ?_ | refine aO ?_ | fail)); exact h.out) : P := t c0 c1 c2 c3 ⟨h⟩
theorem a3T {P Q : Prop} (h : Q) (t : Hd Q → P := by intro h; (repeat' (with_reducible first | refine nY ?_ | (refine mX ?_; try simp only [go_sem, q0, q1, q2, q3, q4]) | refine kD ?_ | refine rD ?_ | refine aO ?_ | fail)); exact h.out) : P := t ⟨h⟩
theorem a2Q {C0 : Prop} (c0 : C0) {P Q : Prop} (h : Q) (t : C0 → Hd Q → P := by intro c0 h; (repeat' (with_reducible first | refine nY ?_ | (refine mX ?_; try simp only [go_sem, q0, q1, q2, q3, q4]) | refine kD ?_ | refine rD ?_ | refine cP c0 ?_ | refine aO ?_ | fail)); exact h.out) : P := t c0 ⟨h⟩
theorem a8M {C0 : Prop} (c0 : C0) {C1 : Prop} (c1 : C1) {P Q : Prop} (h : Q) (t : C0 → C1 → Hd Q → P := by intro c0 c1 h; (repeat' (with_reducible first | refine nY ?_ | (refine mX ?_; try simp only [go_sem, q0, q1, q2, q3, q4]) | refine kD ?_ | refine rD ?_ | refine cP c0 ?_ | refine cP c1 ?_ | refine aO ?_ | fail)); exact h.out) : P := t c0 c1 ⟨h⟩
theorem a8N {C0 : Prop} (c0 : C0) {C1 : Prop} (c1 : C1) {C2 : Prop} (c2 : C2) {C3 : Prop} (c3 : C3) {P Q : Prop} (h : Q) (t : C0 → C1 → C2 → C3 → Hd Q → P := by intro c0 c1 c2 c3 h; (repeat' (with_reducible first | refine nY ?_ | (refine mX ?_; try simp only [go_sem, q0, q1, q2, q3, q4]) | refine kD ?_ | refine rD ?_ | refine cP c0 ?_ | refine cP c1 ?_ | refine cP c2 ?_ | refine cP c3 ?_ | refine aO ?_ | fail)); exact h.out) : P := t c0 c1 c2 c3 ⟨h⟩
theorem a6s {P Q : Prop} (h : Q) (t : Hd Q → P := by intro h; (repeat' (with_reducible first | refine nY ?_ | (refine mX ?_; try simp only [go_sem, q0, q1, q2, q3, q4, q5]) | refine kD ?_ | refine rD ?_ | refine aO ?_ | fail)); exact h.out) : P := t ⟨h⟩
theorem a3U {C0 : Prop} (c0 : C0) {P Q : Prop} (h : Q) (t : C0 → Hd Q → P := by intro c0 h; (repeat' (with_reducible first | refine nY ?_ | (refine mX ?_; try simp only [go_sem, q0, q1, q2, q3, q4, q5]) | refine kD ?_ | refine rD ?_ | refine cP c0 ?_ | refine aO ?_ | fail)); exact h.out) : P := t c0 ⟨h⟩
theorem a7s {C0 : Prop} (c0 : C0) {C1 : Prop} (c1 : C1) {P Q : Prop} (h : Q) (t : C0 → C1 → Hd Q → P := by intro c0 c1 h; (repeat' (with_reducible first | refine nY ?_ | (refine mX ?_; try simp only [go_sem, q0, q1, q2, q3, q4, q5]) | refine kD ?_ | refine rD ?_ | refine cP c0 ?_ | refine cP c1 ?_ | refine aO ?_ | fail)); exact h.out) : P := t c0 c1 ⟨h⟩
theorem a8O {C0 : Prop} (c0 : C0) {P Q : Prop} (h : Q) (t : C0 → Hd Q → P := by intro c0 h; (repeat' (with_reducible first | refine nY ?_ | (refine mX ?_; try simp only [go_sem, q0, q1, q2, q3, q4, q5, q6]) | refine kD ?_ | refine rD ?_ | refine cP c0 ?_ | refine aO ?_ | fail)); exact h.out) : P := t c0 ⟨h⟩
theorem a8P {P Q : Prop} (h : Q) (t : Hd Q → P := by intro h; (repeat' (with_reducible first | refine nY ?_ | (refine mX ?_; try simp only [go_sem, q0, q1, q2, q3, q4, q5, q6, q7]) | refine kD ?_ | refine rD ?_ | refine aO ?_ | fail)); exact h.out) : P := t ⟨h⟩
theorem a7t {C0 : Prop} (c0 : C0) {P Q : Prop} (h : Q) (t : C0 → Hd Q → P := by intro c0 h; (repeat' (with_reducible first | refine nY ?_ | (refine mX ?_; try simp only [go_sem, q0, q1, q2, q3, q4, q5, q6, q7]) | refine kD ?_ | refine rD ?_ | refine cP c0 ?_ | refine aO ?_ | fail)); exact h.out) : P := t c0 ⟨h⟩
theorem a8Q {C0 : Prop} (c0 : C0) {C1 : Prop} (c1 : C1) {P Q : Prop} (h : Q) (t : C0 → C1 → Hd Q → P := by intro c0 c1 h; (repeat' (with_reducible first | refine nY ?_ | (refine mX ?_; try simp only [go_sem, q0, q1, q2, q3, q4, q5, q6, q7]) | refine kD ?_ | refine rD ?_ | refine cP c0 ?_ | refine cP c1 ?_ | refine aO ?_ | fail)); exact h.out) : P := t c0 c1 ⟨h⟩
theorem a7u {P Q : Prop} (h : Q) (t : Hd Q → P := by intro h; (repeat' (with_reducible first | refine nY ?_ | (refine mX ?_; try simp only [go_sem, q0, q1, q2, q3, q4, q5, q6, q7, q8]) | refine kD ?_ | refine rD ?_ | refine aO ?_ | fail)); exact h.out) : P := t ⟨h⟩
theorem a8R {C0 : Prop} (c0 : C0) {P Q : Prop} (h : Q) (t : C0 → Hd Q → P := by intro c0 h; (repeat' (with_reducible first | refine nY ?_ | (refine mX ?_; try simp only [go_sem, q0, q1, q2, q3, q4, q5, q6, q7, q8]) | refine kD ?_ | refine rD ?_ | refine cP c0 ?_ | refine aO ?_ | fail)); exact h.out) : P := t c0 ⟨h⟩
theorem a8S {C0 : Prop} (c0 : C0) {C1 : Prop} (c1 : C1) {P Q : Prop} (h : Q) (t : C0 → C1 → Hd Q → P := by intro c0 c1 h; (repeat' (with_reducible first | refine nY ?_ | (refine mX ?_; try simp only [go_sem, q0, q1, q2, q3, q4, q5, q6, q7, q8]) | refine kD ?_ | refine rD ?_ | refine cP c0 ?_ | refine cP c1 ?_ | refine aO ?_ | fail)); exact h.out) : P := t c0 c1 ⟨h⟩
end Go.Sx
end
