/- Joined texts. -/
import Derived.Test.YtgpoopjfkplilaaGreatDoorZ04
import Derived.Test.YtgpoopjfkplilaaGreatDoorZ03
import Derived.KernelRfl
set_option linter.all false
section
section
set_option linter.all false
namespace Go.Sx
open Go Go.RowKit
inductive Plan where
 | node : List (Nat × Plan) → Plan
def b6E (ops : List Oper) : Nat → Array Bool → List (Nat × Plan) → Bool
 | 0, listed, l => (Region.ready .any ops.toArray listed).isEmpty && l.isEmpty
 | n + 1, listed, l => decide (Region.ready .any ops.toArray listed = l.map (·.1)) && l.all fun p => match p.2 with
  | .node r => b6E ops n (listed.setIfInBounds p.1 true) r
section
variable {E : Env}
def a7H (E : Env) (ops : List Oper) : Nat → List (Nat × Plan) → St → (St → Prop) → Prop
 | 0, _, st, K => K st
 | _ + 1, [], st, K => K st
 | n + 1, l, st, K => ∀ p ∈ l, match p.2 with
  | .node r => match ops[p.1]? with
   | some o => pG E ops [o] st fun st' => a7H E ops n r st' K
   | none => False
end
structure vcPT (E : Env) (all : List Oper) (n : Nat) (l : List (Nat × Plan)) (st : St) (K : St → Prop) (t : Tie (all, l, K)) : Prop where
 out : a7H E all n l st K
structure vcPL (E : Env) (all : List Oper) (n : Nat) (l : List (Nat × Plan)) (st : St) (K : St → Prop) (t : Tie (all, l, K)) : Prop where
 out : ∀ p ∈ l, match p.2 with
  | .node r => match all[p.1]? with
   | some o => pG E all [o] st fun st' => a7H E all n r st' K
   | none => False
def b8h (E : Env) (all : List Oper) (i : Nat) (st : St) (k : St → Prop) (_ : Tie k) : Prop := match a4p all i with
 | some o => a1K E all o st k ⟨⟩
 | none => False
section
variable {E : Env}
end
attribute [go_sem] b8h
end Go.Sx
end
section
set_option linter.all false
namespace Go.Sx
open Go Go.RowKit
def b5n (ds : List Nat) (o : Oper) : Bool := match o.op with
 | .call _ => (match o.dst with | some d => a2I d ds | none => false)
 | _ => false
def a4M (ds : List Nat) (o : Oper) : Bool := tX o || b5n ds o
def rdX (ds : List Nat) : List Oper → List Oper
 | [] => []
 | o :: r => if a4M ds o then rdX ds r else o :: rdX ds r
def a4N : List Oper → List Oper
 | [] => []
 | o :: r => if tX o then a4N r else o :: a4N r
structure CallG (E : Env) (f : Nat) (args : List SV) (h : List HB) (k : List HB → SV → Prop) (t : Tie k) : Prop where
 out : ∃ h' s, (∀ T, CallS E f args ⟨T, h⟩ fun st2 s2 => st2 = ⟨T, h'⟩ ∧ s2 = s) ∧ k h' s
theorem CallG.frz {E : Env} {f : Nat} {args args' : List SV} {res : SV} {h : List HB} {k : List HB → SV → Prop} (hf : FnC E.P f args' res) (he : args.map (eY (bI h (dZ args))) = args') (hfree : args'.all bX = true) (hk : k (bI h (dZ args) ++ adH res.all) (adS (bI h (dZ args)).length res)) : CallG E f args h k ⟨⟩ :=
 ⟨_, _, fun T => CallS.frz (st := ⟨T, h⟩) hf he hfree ⟨rfl, rfl⟩, hk⟩
theorem CallG.lend {E : Env} {f : Nat} {args args' : List SV} {res : SV} {h : List HB} {k : List HB → SV → Prop} (hf : FnC E.P f args' res) (he : args.map (dY h) = args') (hfree : args'.all bX = true) (hres : res.all.all lS = true) (hk : k (h ++ adG (fun _ => none) 0 res.all) (adS h.length res)) : CallG E f args h k ⟨⟩ :=
 ⟨_, _, fun T => CallS.lend (st := ⟨T, h⟩) hf he hfree hres ⟨rfl, rfl⟩, hk⟩
def a7I (E : Env) (o : Oper) (st : St) (k : List HB → SV → Prop) : Prop := match o.op with
 | .call c => (match c.callee with
  | .value f => (match ev st f with
   | .o (.f fn caps) => CallG E fn (c.args.toList.map (ev st) ++ caps.map (fun cs => .o (.q cs))) st.h k ⟨⟩
   | _ => False)
  | _ => False)
 | _ => False
def a5X (all : List Oper) (i : Nat) (f : Oper → Bool) : Bool := match all[i]? with
 | some o => f o
 | none => true
def onE (o : Oper) (j : Nat) : Bool := o.after.any fun e => Region.binds .any e && e.on == j
def a8N (all : List Oper) (ps ds : List Nat) : Bool :=
 (List.range all.length).all fun i => a5X all i fun o =>
  (match o.guard with | none => true | some (j, _) => !a4M ds o && onE o j && (match all[j]? with | some p => p.dst.isSome | none => false)) && (o.after.all fun e => !Region.binds .any e || decide (e.on < i)) && (a4M ds o == ps.contains i) &&
  (match o.dst with | none => tX o | some d => !tX o) &&
  ((List.range all.length).all fun j => a5X all j fun p => match p.dst with
   | none => true
   | some d => ((nG (opL o.op)).all fun t => t != d || onE o j) && (j == i || o.dst != some d))
def b0l : List Nat → List Oper → Bool
 | [], _ => true
 | p :: r, all => (r.all fun q => decide (p < q) && a5X all q fun o => onE o p) && b0l r all
def jP (all : List Oper) (listed : Array Bool) (d : Nat) : Bool := (List.range all.length).any fun j => !listed.getD j true && (match all[j]? with | some o => o.dst == some d | none => false)
def eZ (all : List Oper) (listed : Array Bool) (T : List SV) : List SV := (List.range T.length).map fun d => if jP all listed d then .o .u else nth T d
section
variable {E : Env}
def sP (E : Env) (st : St) : List Oper → Prop
 | [] => True
 | o :: r => (match o.dst with
  | some d => vcD E o.op (ev st) st.h fun s => s = nth st.t d
  | none => False) ∧ sP E st r
def b3H (E : Env) (all : List Oper) (st : St) (o : Oper) (d : Nat) : Prop := match o.guard with
 | none => vcD E o.op (ev st) st.h fun s => s = nth st.t d
 | some (j, b) => fC (oI all j st) b (vcD E o.op (ev st) st.h fun s => s = nth st.t d) (SV.t [] = nth st.t d) ⟨⟩ ⟨⟩
def a5Y (E : Env) (all : List Oper) (st : St) : List Oper → Prop
 | [] => True
 | o :: r => (match o.dst with
  | some d => b3H E all st o d
  | none => False) ∧ a5Y E all st r
def b1L (E : Env) (o : Oper) (st : St) (k : St → Prop) : Prop := if tX o then cO E o.op st fun st' _ => k st' else a7I E o st fun h' s => (match o.dst with | some d => s = nth st.t d | none => False) ∧ k ⟨st.t, h'⟩
def yN (E : Env) (all : List Oper) (ds : List Nat) : List Nat → St → (St → Prop) → Prop
 | [], st, K => a5Y E all st (rdX ds all) ∧ K st
 | p :: r, st, K => a5Y E all st (rdX ds all) ∧ ∃ o, all[p]? = some o ∧ b1L E o st fun st' => yN E all ds r st' K
theorem dC (all : List Oper) (listed : Array Bool) (T : List SV) : (eZ all listed T).length = T.length := by simp [eZ]
theorem gH (all : List Oper) (listed : Array Bool) (T : List SV) (d : Nat) : nth (eZ all listed T) d = if jP all listed d then .o .u else nth T d := by
 rcases Nat.lt_or_ge d T.length with h | h
 ·rw [oW, List.getD_eq_getElem?_getD]
  simp [eZ, h]
 ·rw [a5K (by rw [dC]; exact h), a5K h]
  split <;> rfl
theorem fE (all : List Oper) (listed : Array Bool) (d : Nat) : jP all listed d = true ↔ ∃ j o, all[j]? = some o ∧ o.dst = some d ∧ listed.getD j true = false := by
 unfold jP
 rw [List.any_eq_true]
 constructor
 ·rintro ⟨j, _, h⟩
  rw [Bool.and_eq_true] at h
  obtain ⟨h1, h2⟩ := h
  split at h2
  ·rename_i o ho
   exact ⟨j, o, ho, by simpa using h2, by simpa using h1⟩
  ·cases h2
 ·rintro ⟨j, o, ho, hd, hl⟩
  refine ⟨j, List.mem_range.2 (List.getElem?_eq_some_iff.1 ho).1, ?_⟩
  rw [hl, ho]; simp [hd]
theorem a5Z {st : St} : ∀ {l : List Oper} {o : Oper}, sP E st l → o ∈ l → ∃ d, o.dst = some d ∧ vcD E o.op (ev st) st.h fun s => s = nth st.t d
 | [], o, _, h => by simp at h
 | x :: l, o, hc, h => by
  rcases List.mem_cons.1 h with rfl | h
  ·have h1 := hc.1
   split at h1
   ·rename_i d hd; exact ⟨d, hd, h1⟩
   ·exact h1.elim
  ·exact a5Z hc.2 h
theorem a6a {all : List Oper} {st : St} : ∀ {l : List Oper} {o : Oper}, a5Y E all st l → o ∈ l → ∃ d, o.dst = some d ∧ b3H E all st o d
 | [], o, _, h => by simp at h
 | x :: l, o, hc, h => by
  rcases List.mem_cons.1 h with rfl | h
  ·have h1 := hc.1
   split at h1
   ·rename_i d hd; exact ⟨d, hd, h1⟩
   ·exact h1.elim
  ·exact a6a hc.2 h
theorem a4O {ds : List Nat} : ∀ {l : List Oper} {o : Oper}, o ∈ l → a4M ds o = false → o ∈ rdX ds l
 | [], o, h, _ => by simp at h
 | x :: l, o, h, hs => by
  unfold rdX
  rcases List.mem_cons.1 h with rfl | h
  ·rw [hs]; simp
  ·split
   ·exact a4O h hs
   ·exact List.mem_cons_of_mem _ (a4O h hs)
theorem b0m {all : List Oper} {ds ps : List Nat} {st : St} {K : St → Prop} (h : yN E all ds ps st K) : a5Y E all st (rdX ds all) := by
 cases ps with
 | nil => exact h.1
 | cons p r => exact h.1
theorem a7J {t : Nat} {x v : Operand} {st : St} {k : St → SV → Prop} {T : List SV} (h : cO E (.store t x v) st k) (hx : ev ⟨T, st.h⟩ x = ev st x) (hv : ev ⟨T, st.h⟩ v = ev st v) : cO E (.store t x v) ⟨T, st.h⟩ fun st2 _ => ∃ H s, st2 = ⟨T, H⟩ ∧ k ⟨st.t, H⟩ s := by
 simp only [cO, hx, hv] at h ⊢
 split at h
 ·unfold kX at h ⊢
  dsimp only at h ⊢
  obtain ⟨h1, h2, h3, h4, h5, h⟩ := h
  refine ⟨h1, h2, h3, h4, h5, ?_⟩
  split at h
  ·rename_i e1 e2
   split at h
   ·rename_i e3
    try simp only [e3]
    exact ⟨h.1, h.2.1, _, _, rfl, h.2.2⟩
   ·exact h.elim
  ·exact h.elim
 ·unfold jW at h ⊢
  dsimp only at h ⊢
  split at h
  ·split at h
   ·rename_i e1
    try simp only [e1]
    split at h
    ·rename_i e2 e3
     try simp only [e2, e3]
     exact ⟨h.1, h.2.1, h.2.2.1, h.2.2.2.1, _, _, rfl, h.2.2.2.2⟩
    ·exact h.elim
   ·exact h.elim
  ·exact h.elim
 ·unfold oJ at h ⊢
  dsimp only at h ⊢
  split at h
  ·split at h
   ·rename_i e1
    try simp only [e1]
    split at h
    ·rename_i e2
     try simp only [e2]
     exact ⟨h.1, h.2.1, h.2.2.1, h.2.2.2.1, _, _, rfl, h.2.2.2.2⟩
    ·exact h.elim
   ·rename_i e1
    try simp only [e1]
    split at h
    ·rename_i e0
     try simp only [e0]
     split at h
     ·rename_i e2
      try simp only [e2]
      exact ⟨h.1, h.2.1, _, _, rfl, h.2.2⟩
     ·exact h.elim
    ·exact h.elim
   ·exact h.elim
  ·exact h.elim
def a0W (all : List Oper) (listed : Array Bool) : Nat := ((List.range all.length).filter fun j => !listed.getD j true).length
theorem a3p {all : List Oper} {listed : Array Bool} {i : Nat} (hi : i < all.length) (hu : listed.getD i true = false) : a0W all (listed.setIfInBounds i true) < a0W all listed := by
 unfold a0W
 have key : ∀ l : List Nat, i ∈ l → ((l.filter fun j => !(listed.setIfInBounds i true).getD j true).length < (l.filter fun j => !listed.getD j true).length) ∧ True := by
  intro l hl
  refine ⟨?_, trivial⟩
  have le : ∀ l : List Nat, (l.filter fun j => !(listed.setIfInBounds i true).getD j true).length ≤ (l.filter fun j => !listed.getD j true).length := by
   intro l
   induction l with
   | nil => simp
   | cons x l ih =>
    simp only [List.filter_cons]
    by_cases e : i = x
    ·subst e; rw [bV]; simp only [Bool.not_true, Bool.false_eq_true, if_false]; split <;> (try simp only [List.length_cons]) <;> omega
    ·rw [getD_set_ne true e]; split <;> (try simp only [List.length_cons]) <;> omega
  induction l with
  | nil => simp at hl
  | cons x l ih =>
   simp only [List.filter_cons]
   by_cases e : i = x
   ·subst e
    rw [bV, hu]
    have := le l
    simp only [Bool.not_true, Bool.not_false, Bool.false_eq_true, if_false, if_true, List.length_cons]; omega
   ·rw [getD_set_ne true e]
    have := ih (by rcases List.mem_cons.1 hl with h | h; exact (e h).elim; exact h)
    split <;> (try simp only [List.length_cons]) <;> omega
 exact (key _ (List.mem_range.2 hi)).1
theorem b0n (hT : TyOK E.P E.T) (hE : ∀ t, E.eqk t ≠ [] → EqT E.P t (E.eqk t)) {all : List Oper} {ps0 ds : List Nat} (hok : a8N all ps0 ds = true) {Q : Exit → Act → World → Prop} {K : St → Prop} (hQ : ∀ g V st a w, Rel E.C g V st a w → K st → Q .normal a w) :
    ∀ (n : Nat) (listed : Array Bool) (ps : List Nat) (st : St) (g : List Gh) (V : View) (a : Act) (w : World), listed.size = all.length → a0W all listed ≤ n → b0l ps all = true → (∀ i ∈ ps, i ∈ ps0) → (∀ i, i < all.length → i ∈ ps0 → listed.getD i true = false → i ∈ ps) → (∀ i ∈ ps, listed.getD i true = false) →
     yN E all ds ps st K → Rel E.C g V ⟨eZ all listed st.t, st.h⟩ a w → wpAny E.P .any all.toArray Q n listed a w := by
 have spec : ∀ (i : Nat) (o : Oper), all[i]? = some o → (∀ j b, o.guard = some (j, b) → a4M ds o = false ∧ onE o j = true ∧ ∃ p dj, all[j]? = some p ∧ p.dst = some dj) ∧ (∀ e ∈ o.after, Region.binds .any e = true → e.on < i) ∧ (a4M ds o = true ↔ i ∈ ps0) ∧ (tX o = true → o.dst = none) ∧ (tX o = false → ∃ d, o.dst = some d) ∧
     (∀ (j : Nat) (p : Oper) (d : Nat), all[j]? = some p → p.dst = some d → (∀ t ∈ nG (opL o.op), t = d → onE o j = true) ∧ (j ≠ i → o.dst ≠ some d)) := fun i o ho => by
  have h := List.all_eq_true.1 hok i (List.mem_range.2 (List.getElem?_eq_some_iff.1 ho).1)
  unfold a5X at h
  rw [ho] at h
  simp only [Bool.and_eq_true] at h
  obtain ⟨⟨⟨⟨h1, h2⟩, h3⟩, h4⟩, h5⟩ := h
  refine ⟨fun j b hg => ?_, fun e he hb => ?_, ?_, fun hs => ?_, fun hs => ?_, fun j p d hj hd => ?_⟩
  ·rw [hg] at h1
   simp only [Bool.and_eq_true, Bool.not_eq_true'] at h1
   refine ⟨h1.1.1, h1.1.2, ?_⟩
   have h6 := h1.2
   split at h6
   ·rename_i p hp
    obtain ⟨dj, hdj⟩ := Option.isSome_iff_exists.1 h6
    exact ⟨p, dj, hp, hdj⟩
   ·cases h6
  ·have := (Array.all_eq_true_iff_forall_mem.1 h2) e he
   rw [hb] at this
   simpa using this
  ·have h3 := beq_iff_eq.1 h3
   rw [h3]; exact List.contains_iff_mem
  ·cases hd : o.dst with
   | none => rfl
   | some d => rw [hd, hs] at h4; cases h4
  ·cases hd : o.dst with
   | none => rw [hd, hs] at h4; cases h4
   | some d => exact ⟨d, rfl⟩
  ·have h := List.all_eq_true.1 h5 j (List.mem_range.2 (List.getElem?_eq_some_iff.1 hj).1)
   rw [hj] at h
   simp only [hd, Bool.and_eq_true] at h
   refine ⟨fun t ht e => ?_, fun hne => ?_⟩
   ·have := List.all_eq_true.1 h.1 t ht
    subst e
    simpa using this
   ·rcases Bool.or_eq_true_iff.1 h.2 with h | h
    ·exact (hne (beq_iff_eq.1 h)).elim
    ·simpa using h
 have toT : ∀ {listed : Array Bool} {j : Nat}, listed.getD j false = true → listed.getD j true = true := fun {listed j} h => by
  rcases Nat.lt_or_ge j listed.size with h' | h'
  ·simp [h'] at h ⊢; exact h
  ·simp [Array.getElem?_eq_none h'] at h
 have fin : ∀ (listed : Array Bool) (ps : List Nat) (st : St) (g : List Gh) (V : View) (a : Act) (w : World), (∀ j, j < all.length → listed.getD j true = true) → (∀ i ∈ ps, i ∈ ps0) → (∀ i ∈ ps, listed.getD i true = false) → (∀ i ∈ ps0, True) → yN E all ds ps st K → Rel E.C g V ⟨eZ all listed st.t, st.h⟩ a w → Q .normal a w := fun listed ps st g V a w hl h1 h2 _ hv hr => by
  have hm : eZ all listed st.t = st.t := by
   apply List.ext_getElem?
   intro d
   rcases Nat.lt_or_ge d st.t.length with h | h
   ·rw [jN (by rw [dC]; exact h), jN h, gH]
    have : jP all listed d = false := by
     cases hh : jP all listed d with
     | false => rfl
     | true =>
      obtain ⟨j, o, ho, _, hu⟩ := (fE all listed d).1 hh
      rw [hl j (List.getElem?_eq_some_iff.1 ho).1] at hu; cases hu
    rw [this]; simp
   ·rw [List.getElem?_eq_none (by rw [dC]; exact h), List.getElem?_eq_none h]
  rw [hm] at hr
  cases ps with
  | nil => exact hQ _ _ _ _ _ hr hv.2
  | cons p r =>
   obtain ⟨_, o, ho, _⟩ := hv
   have := h2 p (by simp)
   rw [hl p (List.getElem?_eq_some_iff.1 ho).1] at this; cases this
 have none_left : ∀ (listed : Array Bool), listed.size = all.length → Region.ready .any all.toArray listed = [] → ∀ j, j < all.length → listed.getD j true = true := fun listed hsz hr => by
  intro j
  induction j using Nat.strongRecOn with
  | _ j ih =>
   intro hj
   cases hq : listed.getD j true with
   | true => rfl
   | false =>
    have ho : all[j]? = some (all[j]'hj) := List.getElem?_eq_getElem hj
    have : j ∈ Region.ready .any all.toArray listed := mem_ready.2 ⟨hq, _, toA ho, fun e he hb => by
     have hlt := (spec j _ ho).2.1 e he hb
     have h1 := ih e.on hlt (by omega)
     have hes : e.on < listed.size := by omega
     simp [hes] at h1 ⊢; exact h1⟩
    rw [hr] at this; cases this
 intro n
 induction n with
 | zero =>
  intro listed ps st g V a w hsz hn hup hps0 hall hps hv hr
  have hl : ∀ j, j < all.length → listed.getD j true = true := fun j hj => by
   cases hq : listed.getD j true with
   | true => rfl
   | false =>
    have : j ∈ (List.range all.length).filter fun j => !listed.getD j true := List.mem_filter.2 ⟨List.mem_range.2 hj, by rw [hq]; rfl⟩
    have := List.length_pos_of_mem this
    unfold a0W at hn
    omega
  refine ⟨List.eq_nil_iff_forall_not_mem.2 fun i hi => ?_, fin listed ps st g V a w hl hps0 hps (fun _ _ => trivial) hv hr⟩
  obtain ⟨h1, o, h2, _⟩ := mem_ready.1 hi
  rw [hl i (by simpa using (Array.getElem?_eq_some_iff.1 h2).1)] at h1; cases h1
 | succ n ih =>
  intro listed ps st g V a w hsz hn hup hps0 hall hps hv hr
  refine ⟨fun he => fin listed ps st g V a w (none_left listed hsz he) hps0 hps (fun _ _ => trivial) hv hr, fun i hi => ?_⟩
  obtain ⟨hun, o, ho', haft⟩ := mem_ready.1 hi
  have ho : all[i]? = some o := by simpa using ho'
  have hil := (List.getElem?_eq_some_iff.1 ho).1
  obtain ⟨s1, s2, s3, s4, s5, s6⟩ := spec i o ho
  have hun' : a0W all (listed.setIfInBounds i true) ≤ n := by have := a3p hil hun; omega
  have evEq : ∀ x ∈ o.op.operands, ev ⟨eZ all listed st.t, st.h⟩ x = ev st x := fun x hx => by
   cases x with
   | tmp t =>
    show nth (eZ all listed st.t) t = nth st.t t
    rw [gH]
    have : jP all listed t = false := by
     cases hh : jP all listed t with
     | false => rfl
     | true =>
      obtain ⟨j, p, hj, hd, hu⟩ := (fE all listed t).1 hh
      have h1 := (s6 j p t hj hd).1 t (qM.2 (by rw [a4y]; simpa using hx)) rfl
      obtain ⟨e, he, hb⟩ := Array.any_eq_true'.1 h1
      simp only [Bool.and_eq_true, beq_iff_eq] at hb
      have h2 := toT (haft e he hb.1)
      rw [hb.2, hu] at h2; cases h2
    rw [this]; simp
   | const v => rfl
   | func f => rfl
   | global m => rfl
  have vis : ∀ j p dj, all[j]? = some p → p.dst = some dj → onE o j = true → nth (eZ all listed st.t) dj = nth st.t dj := fun j p dj hj hdj hon => by
   rw [gH]
   have : jP all listed dj = false := by
    cases hh : jP all listed dj with
    | false => rfl
    | true =>
     obtain ⟨j2, q, hj2, hd2, hu⟩ := (fE all listed dj).1 hh
     obtain ⟨e, he, hb⟩ := Array.any_eq_true'.1 hon
     simp only [Bool.and_eq_true, beq_iff_eq] at hb
     have h2 := toT (haft e he hb.1)
     rw [hb.2] at h2
     by_cases e2 : j2 = j
     ·subst e2; rw [h2] at hu; cases hu
     ·exact (((spec j p hj).2.2.2.2.2 j2 q dj hj2 hd2).2 e2 hdj).elim
   rw [this]; simp
  have keep : ∀ j, j ≠ i → (listed.setIfInBounds i true).getD j true = listed.getD j true := fun j hj => getD_set_ne true (fun e => hj e.symm)
  have putE : ∀ d, o.dst = some d → ∀ H, (St.put ⟨eZ all listed st.t, H⟩ o.dst (nth st.t d)) = ⟨eZ all (listed.setIfInBounds i true) st.t, H⟩ := fun d hd H => by
      rw [hd]
      simp only [St.put, lL]
      congr 1
      apply List.ext_getElem?
      intro m
      rw [List.getElem?_set]
      rcases Nat.lt_or_ge m st.t.length with hm | hm
      ·rw [jN (l := eZ all (listed.setIfInBounds i true) st.t) (by rw [dC]; exact hm), gH]
       by_cases e : d = m
       ·subst e
        rw [if_pos rfl, if_pos (by rw [dC]; exact hm)]
        have : jP all (listed.setIfInBounds i true) d = false := by
         cases hh : jP all (listed.setIfInBounds i true) d with
         | false => rfl
         | true =>
          obtain ⟨j, p, hj, hd2, hu⟩ := (fE _ _ d).1 hh
          by_cases e : j = i
          ·subst e; rw [bV] at hu; cases hu
          ·exact ((s6 j p d hj hd2).2 e hd).elim
        rw [this]; simp
       ·rw [if_neg e, jN (by rw [dC]; exact hm), gH]
        have : jP all (listed.setIfInBounds i true) m = jP all listed m := by
         rw [Bool.eq_iff_iff, fE, fE]
         constructor
         ·rintro ⟨j, p, hj, hd2, hu⟩
          refine ⟨j, p, hj, hd2, ?_⟩
          by_cases e2 : j = i
          ·subst e2; rw [bV] at hu; cases hu
          ·rwa [keep j e2] at hu
         ·rintro ⟨j, p, hj, hd2, hu⟩
          refine ⟨j, p, hj, hd2, ?_⟩
          by_cases e2 : j = i
          ·subst e2; rw [ho] at hj; cases hj; rw [hd] at hd2; cases hd2; exact (e rfl).elim
          ·rwa [keep j e2]
        rw [this]
      ·rw [List.getElem?_eq_none (l := eZ all (listed.setIfInBounds i true) st.t) (by rw [dC]; exact hm)]
       split
       ·rename_i e; subst e
        rw [if_neg (by rw [dC]; omega)]
       ·rw [List.getElem?_eq_none (l := eZ all listed st.t) (by rw [dC]; exact hm)]
  cases hef : a4M ds o with
  | false =>
   have hs : tX o = false := by unfold a4M at hef; exact (Bool.or_eq_false_iff.1 hef).1
   have hmem := a4O (List.mem_of_getElem? ho) hef
   obtain ⟨d, hd, hvc⟩ := a6a (b0m hv) hmem
   have hnot : i ∉ ps := fun hm => by
    have := s3.2 (hps0 i hm)
    rw [hef] at this; cases this
   have run : ∀ {k : SV → Prop}, (vcD E o.op (ev st) st.h fun s => s = nth st.t d) → k (nth st.t d) → vcD E o.op (ev ⟨eZ all listed st.t, st.h⟩) st.h k := fun {k} hv hk => by
    obtain ⟨s, h1, h2⟩ := a1h (uZ (fun x hx => (evEq x hx).symm) hv)
    exact h2 k (by rw [h1]; exact hk)
   refine b1o hT hE ho' hr (K := fun st' => st' = ⟨eZ all (listed.setIfInBounds i true) st.t, st.h⟩) (fun g' V' st' a' w' hr2 hk => ?_) ?_
   ·subst hk
    exact ih _ ps st g' V' _ _ (by simp [hsz]) hun' hup hps0 (fun j hj hj0 hu => by
     by_cases e2 : j = i
     ·subst e2; rw [bV] at hu; cases hu
     ·rw [keep j e2] at hu; exact hall j hj hj0 hu) (fun j hj => by
     have e2 : j ≠ i := fun e => hnot (e ▸ hj)
     rw [keep j e2]; exact hps j hj) hv hr2
   ·unfold b3H at hvc
    unfold sop
    split at hvc
    ·rename_i hg
     simp only [hg]
     exact run hvc (putE d hd st.h)
    ·rename_i j b hg
     simp only [hg]
     obtain ⟨_, hon, p, dj, hj, hdj⟩ := s1 j b hg
     have ed : oI all j ⟨eZ all listed st.t, st.h⟩ = oI all j st := by
      unfold oI
      rw [uU, hj]
      simp only [hdj]
      exact vis j p dj hj hdj hon
     rw [ed]
     unfold fC at hvc ⊢
     split at hvc
     ·exact ⟨fun h => run (hvc.1 h) (putE d hd st.h), fun h => by rw [hvc.2 h]; exact putE d hd st.h⟩
     ·rw [hvc]; exact putE d hd st.h
     ·exact hvc.elim
  | true =>
   have s1 : o.guard = none := by
    cases hg : o.guard with
    | none => rfl
    | some x => obtain ⟨j, b⟩ := x; have := (s1 j b hg).1; rw [hef] at this; cases this
   unfold wpOp
   rw [ho']
   simp only [Region.wanted, s1, if_true]
   refine .inl ?_
   have hip := hall i hil (s3.1 hef) hun
   cases ps with
   | nil => simp at hip
   | cons p r =>
    obtain ⟨hc, o2, ho2, hvo⟩ := hv
    unfold b0l at hup
    rw [Bool.and_eq_true] at hup
    have hpi : p = i := by
     rcases List.mem_cons.1 hip with e | hm
     ·exact e.symm
     ·have h1 := List.all_eq_true.1 hup.1 i hm
      unfold a5X at h1
      rw [ho] at h1
      simp only [Bool.and_eq_true] at h1
      obtain ⟨e, he, hb⟩ := Array.any_eq_true'.1 h1.2
      simp only [Bool.and_eq_true, beq_iff_eq] at hb
      have h2 := toT (haft e he hb.1)
      rw [hb.2, hps p (by simp)] at h2; cases h2
    subst hpi
    rw [ho] at ho2; cases ho2
    have hlt : ∀ q ∈ r, p < q := fun q hq => by
     have := List.all_eq_true.1 hup.1 q hq
     rw [Bool.and_eq_true] at this
     exact of_decide_eq_true this.1
    have rest : ∀ H g' V' a' w', Rel E.C g' V' ⟨eZ all (listed.setIfInBounds p true) st.t, H⟩ a' w' → yN E all ds r ⟨st.t, H⟩ K → wpAny E.P .any all.toArray Q n (listed.setIfInBounds p true) a' w' := fun H g' V' a' w' hr2 hk =>
     ih _ r ⟨st.t, H⟩ g' V' _ _ (by simp [hsz]) hun' hup.2 (fun j hj => hps0 j (List.mem_cons_of_mem _ hj)) (fun j hj hj0 hu => by
      by_cases e2 : j = p
      ·subst e2; rw [bV] at hu; cases hu
      ·rw [keep j e2] at hu
       rcases List.mem_cons.1 (hall j hj hj0 hu) with e | h
       ·exact (e2 e).elim
       ·exact h) (fun j hj => by
      have := hlt j hj
      rw [keep j (by omega)]; exact hps j (List.mem_cons_of_mem _ hj)) hk hr2
    cases hs : tX o with
    | false =>
     unfold b1L at hvo
     rw [if_neg (by rw [hs]; simp)] at hvo
     obtain ⟨d, hd⟩ := s5 hs
     unfold a7I at hvo
     split at hvo
     ·rename_i c hop
      split at hvo
      ·rename_i f hc
       have hfe : ev ⟨eZ all listed st.t, st.h⟩ f = ev st f := evEq f (by rw [hop]; simp [Op.operands, Call.operands, hc])
       have hargs : c.args.toList.map (ev ⟨eZ all listed st.t, st.h⟩) = c.args.toList.map (ev st) := List.map_congr_left fun x hx => evEq x (by rw [hop]; simp only [Op.operands, Call.operands, Array.mem_append]; exact .inr (by simpa using hx))
       split at hvo
       ·rename_i fn caps hfn
        obtain ⟨h', s', hcall, hsd, hk⟩ := hvo
        rw [hd] at hsd
        have hsd : s' = nth st.t d := hsd
        subst hsd
        have h1 : cO E o.op ⟨eZ all listed st.t, st.h⟩ fun st2 s2 => st2 = ⟨eZ all listed st.t, h'⟩ ∧ s2 = nth st.t d := by
         rw [hop]
         simp only [cO, gY, hc, hfe, hfn, hargs]
         exact ⟨hcall _⟩
        refine lK hT hE h1 hr fun g' V' st' w' s y hr' hsy hk2 => ?_
        obtain ⟨rfl, rfl⟩ := hk2
        have hr2 := hr'.put o.dst hsy
        rw [putE d hd] at hr2
        exact rest h' g' V' _ _ hr2 hk
       ·exact hvo.elim
      ·exact hvo.elim
     ·exact hvo.elim
    | true =>
    unfold b1L at hvo
    rw [if_pos hs] at hvo
    have hd := s4 hs
    obtain ⟨t, x, v, hop⟩ : ∃ t x v, o.op = .store t x v := by
     unfold tX at hs
     split at hs
     ·rename_i t x v e; exact ⟨t, x, v, e⟩
     ·cases hs
    rw [hop] at hvo
    have h1 := a7J (T := eZ all listed st.t) hvo (evEq x (by rw [hop]; simp [Op.operands])) (evEq v (by rw [hop]; simp [Op.operands]))
    rw [← hop] at h1
    refine lK hT hE h1 hr fun g' V' st' w' s y hr' hsy hk => ?_
    obtain ⟨H, s', rfl, hk⟩ := hk
    have hr2 := hr'.put o.dst hsy
    rw [hd] at hr2 ⊢
    have em : eZ all (listed.setIfInBounds p true) st.t = eZ all listed st.t := by
     unfold eZ
     refine List.map_congr_left fun m _ => ?_
     have : jP all (listed.setIfInBounds p true) m = jP all listed m := by
      rw [Bool.eq_iff_iff, fE, fE]
      constructor
      ·rintro ⟨j, q, hj, hd2, hu⟩
       refine ⟨j, q, hj, hd2, ?_⟩
       by_cases e2 : j = p
       ·subst e2; rw [bV] at hu; cases hu
       ·rwa [keep j e2] at hu
      ·rintro ⟨j, q, hj, hd2, hu⟩
       refine ⟨j, q, hj, hd2, ?_⟩
       by_cases e2 : j = p
       ·subst e2; rw [ho] at hj; cases hj; rw [hd] at hd2; cases hd2
       ·rwa [keep j e2]
     rw [this]
    refine rest H g' V' _ _ ?_ hk
    rw [em]; exact hr2
theorem a4P : ∀ {l m : List SV}, l.length = m.length → (∀ d, d < m.length → nth m d = .o .u ∨ nth l d = nth m d) → leT l m
 | [], [], _, _ => trivial
 | [], _ :: _, h, _ => by simp at h
 | _ :: _, [], h, _ => by simp at h
 | x :: l, y :: m, h, k => ⟨k 0 (by simp), a4P (by simpa using h) fun d hd => k (d + 1) (by simpa using hd)⟩
theorem uF : ∀ h : List HB, leH h h
 | [] => trivial
 | _ :: l => ⟨.inr rfl, uF l⟩
theorem a4Q {st : St} {d n : Nat} {s : SV} (h : n ≠ d) : nth (st.put (some d) s).t n = nth st.t n := by
 have h' : d ≠ n := fun e => h e.symm
 simp only [St.put, lL, oW, List.getD_eq_getElem?_getD, List.getElem?_set, if_neg h']
def b3I (E : Env) (ds : List Nat) (all : List Oper) (o : Oper) (st : St) (k : St → Prop) : Prop := if b5n ds o then a7I E o st fun h' s => k ⟨(st.put o.dst s).t, h'⟩ else sop E all o st k
def vcGs (E : Env) (ds : List Nat) (all : List Oper) : List Oper → St → (St → Prop) → Prop
 | [], st, K => K st
 | o :: r, st, K => b3I E ds all o st fun st' => vcGs E ds all r st' K
theorem a6b {ds : List Nat} {all : List Oper} : ∀ {l : List Oper} {st : St} {K : St → Prop}, vcGs E ds all l st K → ∃ st1, K st1 ∧ st1.t.length = st.t.length ∧ ∀ d, (∀ o ∈ l, o.dst ≠ some d) → nth st1.t d = nth st.t d
 | [], st, K, h => ⟨st, h, rfl, fun _ _ => rfl⟩
 | o :: l, st, K, h => by
  have key : ∃ s H, vcGs E ds all l ⟨(st.put o.dst s).t, H⟩ K := by
   unfold vcGs b3I at h
   split at h
   ·unfold a7I at h
    split at h
    ·split at h
     ·split at h
      ·obtain ⟨h', s, _, hk⟩ := h; exact ⟨s, h', hk⟩
      ·exact h.elim
     ·exact h.elim
    ·exact h.elim
   ·obtain ⟨s, h1, _⟩ := a4v h; exact ⟨s, (st.put o.dst s).h, h1⟩
  obtain ⟨s, H, h1⟩ := key
  obtain ⟨st1, k1, k3, k4⟩ := a6b h1
  refine ⟨st1, k1, by rw [k3]; exact a1i .., fun d hd => ?_⟩
  rw [k4 d fun p hp => hd p (List.mem_cons_of_mem _ hp)]
  cases ho : o.dst with
  | none => rfl
  | some e => exact a4Q fun e2 => hd o (by simp) (by rw [ho, e2])
theorem a1U : ∀ {l : List Oper} {o : Oper}, o ∈ a4N l → o ∈ l
 | [], o, h => by simp [a4N] at h
 | x :: l, o, h => by
  unfold a4N at h
  split at h
  ·exact List.mem_cons_of_mem _ (a1U h)
  ·rcases List.mem_cons.1 h with rfl | h
   ·simp
   ·exact List.mem_cons_of_mem _ (a1U h)
theorem b0o (hT : TyOK E.P E.T) (hE : ∀ t, E.eqk t ≠ [] → EqT E.P t (E.eqk t)) (hm : E.P.follows .mixedOrders = true) {id : Nat} {ops : List Oper} {F : Ex → St → Prop} {st : St} (ps ds : List Nat) (hok : a8N ops ps ds = true) (hup : b0l ps ops = true) (hlt : (ps.all fun i => decide (i < ops.length)) = true) (hb : st.okB = true)
    (h : vcGs E ds ops (a4N ops) st fun st1 => yN E ops ds ps ⟨st1.t, st.h⟩ (F .normal)) : WP E.P E.C (.region id ops.toArray true) F st := fun g V a w hr => by
 refine wp_region_any hm ?_
 obtain ⟨st1, k1, k3, k4⟩ := a6b h
 have hf : ∀ j : Nat, j < ops.length → (Array.replicate ops.toArray.size false).getD j true = false := fun j hj => by simp [hj]
 have hle : st.le ⟨eZ ops (Array.replicate ops.toArray.size false) st1.t, st.h⟩ := by
  refine ⟨a4P (by rw [dC, k3]) fun d _ => ?_, uF _⟩
  rw [gH]
  cases hh : jP ops (Array.replicate ops.toArray.size false) d with
  | true => exact .inl rfl
  | false =>
   right
   simp only [Bool.false_eq_true, if_false]
   refine (k4 d fun o ho hd => ?_).symm
   obtain ⟨j, hj⟩ := List.mem_iff_getElem?.1 (a1U ho)
   have := (fE ops (Array.replicate ops.toArray.size false) d).2 ⟨j, o, hj, hd, hf j (List.getElem?_eq_some_iff.1 hj).1⟩
   rw [hh] at this; cases this
 have hbt : ((eZ ops (Array.replicate ops.toArray.size false) st1.t).all (·.below st.h.length) && st.h.all (·.below st.h.length)) = true := by
  unfold St.okB at hb
  rw [Bool.and_eq_true] at hb ⊢
  refine ⟨List.all_eq_true.2 fun s hs => ?_, hb.2⟩
  obtain ⟨d, hd⟩ := List.mem_iff_getElem?.1 hs
  rcases (hle.1.get).2 d s hd with e | e
  ·subst e; rfl
  ·exact List.all_eq_true.1 hb.1 s (List.mem_of_getElem? e)
 have := b0n hT hE hok (Q := fun e a w => Post E.C F e a w) (fun g V st _ _ hr h => ⟨g, V, st, hr, h⟩) ops.toArray.size (Array.replicate ops.toArray.size false) ps ⟨st1.t, st.h⟩ _ V a { w with drawn := w.drawn + 1 } (by simp)
  (by unfold a0W; exact Nat.le_trans (List.length_filter_le _ _) (by simp)) hup (fun i hi => hi) (fun i _ hi _ => hi) (fun i hi => hf i (of_decide_eq_true (List.all_eq_true.1 hlt i hi))) k1 ((hr.drawn).forget hle hbt)
 exact this
end
structure vcStT (E : Env) (all l : List Oper) (ds ps : List Nat) (st : St) (K : St → Prop) (t : Tie (all, l, K)) : Prop where
 out : rdX ds all = l → yN E all ds ps st K
structure vcGRun (E : Env) (ds : List Nat) (all l : List Oper) (st : St) (K : St → Prop) (t : Tie (all, l, K)) : Prop where
 out : vcGs E ds all l st K
def a4R (E : Env) (ds : List Nat) (all : List Oper) (o : Oper) (st : St) (k : St → Prop) (_ : Tie k) : Prop := b3I E ds all o st k
def b1M (E : Env) (all : List Oper) (i : Nat) (st : St) (k : St → Prop) (_ : Tie k) : Prop := match a4p all i with
 | some o => b1L E o st k
 | none => False
section
variable {E : Env}
theorem b0p {ds : List Nat} {all r : List Oper} {o : Oper} {st : St} {K : St → Prop} (h : a4R E ds all o st (fun st' => vcGRun E ds all r st' K ⟨⟩) ⟨⟩) : vcGRun E ds all (o :: r) st K ⟨⟩ := by
 have e : (fun st' => vcGRun E ds all r st' K ⟨⟩) = (fun st' => vcGs E ds all r st' K) := funext fun s => propext ⟨fun h => h.out, fun h => ⟨h⟩⟩
 rw [e] at h
 exact ⟨h⟩
theorem b1N {ds : List Nat} {all : List Oper} {st : St} {K : St → Prop} (h : K st) : vcGRun E ds all [] st K ⟨⟩ := ⟨h⟩
theorem fA {ds : List Nat} {all l : List Oper} {st : St} {K : St → Prop} (hc : a5Y E all st l) (h : K st) : vcStT E all l ds [] st K ⟨⟩ := ⟨fun e => ⟨e ▸ hc, h⟩⟩
theorem dP {ds : List Nat} {all l : List Oper} {p : Nat} {r : List Nat} {st : St} {K : St → Prop} (hc : a5Y E all st l) (h : b1M E all p st (fun st' => vcStT E all l ds r st' K ⟨⟩) ⟨⟩) : vcStT E all l ds (p :: r) st K ⟨⟩ := ⟨fun e => by
 refine ⟨e ▸ hc, ?_⟩
 have e2 : (fun st' => vcStT E all l ds r st' K ⟨⟩) = (fun st' => yN E all ds r st' K) := funext fun s => propext ⟨fun h => h.out e, fun h => ⟨fun _ => h⟩⟩
 rw [e2] at h
 unfold b1M at h
 rw [uU] at h
 split at h
 ·rename_i o ho; exact ⟨o, ho, h⟩
 ·exact h.elim⟩
end
attribute [go_sem] sP b3H a5Y b1M rdX a4N a4M b5n b1L a7I a4R b3I
end Go.Sx
end
section
set_option linter.all false
namespace Go.Sx
open Go Go.RowKit
def b0q (G : St) (F : Ex → St → Prop) : Ex → St → Prop
 | .normal, s => s.le G ∧ G.okB = true
 | .exit j, s => F (.exit j) s
 | .ret, s => F .ret s
def b1O (c : Code) (st : St) (M : List (Nat × SV)) (H : List (Nat × HB)) : St := ⟨mds (fgt st.t (a4r c)) M, mhs st.h H⟩
section
variable {P : Program} {C : Ctx} {ks : List Kn} {F : Ex → St → Prop} {st : St}
theorem a7K {c c2 : Code} (M : List (Nat × SV)) (H : List (Nat × HB)) (h1 : WP P C c (bN P C [] (b0q (b1O c st M H) (bN P C (.code c2 :: ks) F))) st) (h2 : WP P C c2 (bN P C ks F) (b1O c st M H)) : WP P C c (bN P C (.code c2 :: ks) F) st := fun g V a w hr =>
 wp_mono (h1 g V a w hr) fun e a w q => by
  cases e with
  | normal =>
   obtain ⟨g, V, s, hs, hle, hok⟩ := q
   exact ⟨_, V, _, hs.forget hle hok, h2⟩
  | exit j => obtain ⟨g, V, s, hs, q⟩ := q; exact ⟨g, V, s, hs, q⟩
  | ret => obtain ⟨g, V, s, hs, q⟩ := q; exact ⟨g, V, s, hs, q⟩
  | goto l => exact q.elim
  | panic ch => exact q.elim
  | outgrown => exact q.elim
theorem a1V {G s : St} (h : s.le G) (hb : G.okB = true) : b0q G F .normal s := ⟨h, hb⟩
theorem b3J {G s : St} (h : F .ret s) : b0q G F .ret s := h
theorem b1P {G s : St} {j : Nat} (h : F (.exit j) s) : b0q G F (.exit j) s := h
end
attribute [go_sem] b1O
end Go.Sx
end
section
set_option linter.all false
namespace Go.Sx
open Go Go.RowKit
def Nm (P : Prop) : Prop := P
theorem mX {P : Prop} (h : P) : Nm P := h
theorem uX {P : Prop} (h : Nm P) : P := h
def Ar (P : Prop) : Prop := P
theorem aX {P : Prop} (h : Ar P) : P := h
theorem uA {P : Prop} (h : P) : Ar P := h
theorem uB {P : Prop} (h : P := by (simp only [go_sem, qH]; (repeat' first | omega | refine And.intro ?_ ?_)) <;> fail) : Ar P := h
theorem aO {P Q : Prop} (h : Q) (p : P := by omega) : P ∧ Q := ⟨p, h⟩
theorem aI {A B : Prop} (a : A) (b : B) : A ∧ B := ⟨a, b⟩
theorem gI {α β : Type} (f : α → β) (l : List α) : (l.map f).length = l.length := List.length_map ..
theorem yO {α : Type} (n : Nat) (l : List α) : (l.take n).length = min n l.length := List.length_take
theorem yP {α : Type} (n : Nat) (l : List α) : (l.drop n).length = l.length - n := List.length_drop
theorem a2J {α : Type} (l m : List α) : (l ++ m).length = l.length + m.length := List.length_append
theorem b4z {α : Type} (x : α) (l : List α) : (x :: l).length = l.length + 1 := List.length_cons
theorem b6F {α : Type} : ([] : List α).length = 0 := List.length_nil
class Nx (P : Prop) (Q : outParam Prop) : Prop where
 nx : Q → P
theorem nX {P Q : Prop} [i : Nx P Q] (h : Q) : P := i.nx h
class Ny (P : Prop) (Q : outParam Prop) : Prop where
 ny : Q → P
instance {P Q : Prop} [i : Nx P Q] : Ny P Q := ⟨i.nx⟩
theorem nY {P Q : Prop} [i : Ny P Q] (h : Q) : P := i.ny h
structure cndK (s : SV) (A B : Prop) (t : Tie (A, B)) : Prop where
 out : ∃ b, s = .o (.d (.v (.bool b))) ∧ (b = true → A) ∧ (b = false → B)
theorem cnd {s : SV} {A B : Prop} {b : Bool} (hs : s = .o (.d (.v (.bool b)))) (h1 : b = true → A) (h2 : b = false → B) : cndK s A B ⟨⟩ := ⟨b, hs, h1, h2⟩
instance nCt {A B : Prop} : Nx (cndK (.o (.d (.v (.bool true)))) A B ⟨⟩) A := ⟨fun h => ⟨true, rfl, fun _ => h, fun h => by cases h⟩⟩
instance nCf {A B : Prop} : Nx (cndK (.o (.d (.v (.bool false)))) A B ⟨⟩) B := ⟨fun h => ⟨false, rfl, (fun h => by cases h), fun _ => h⟩⟩
class Cy (P : Program) (f : Nat) (args' : List SV) (res : SV) (G : Prop) (O K : outParam Prop) : Prop where
 cl : FnC P f args' res → O → K → G
theorem cP {P : Program} {f : Nat} {args' : List SV} {res : SV} {G O K : Prop} [i : Cy P f args' res G O K] (h : FnC P f args' res) (k : K) (o : O := by simp only [go_sem, and_self] <;> fail) : G := i.cl h o k
section
variable {P : Program} {C : Ctx} {F : Ex → St → Prop} {st : St} {ks : List Kn}
instance nRet : Nx (WP P C .ret (bN P C ks F) st) (bN P C ks F .ret st) := ⟨b5f⟩
instance nSkip : Nx (WP P C .skip (bN P C ks F) st) (bN P C ks F .normal st) := ⟨b3x⟩
instance nExit {id : Nat} : Nx (WP P C (.exit id) (bN P C ks F) st) (bN P C ks F (.exit id) st) := ⟨b3y⟩
instance nSeq {x y : Code} : Nx (WP P C (.seq x y) (bN P C ks F) st) (WP P C x (bN P C (.code y :: ks) F) st) := ⟨b5e⟩
instance nBlock {id : Nat} {c : Code} : Nx (WP P C (.block id c) (bN P C ks F) st) (WP P C c (bN P C (.blk id :: ks) F) st) := ⟨b1C⟩
instance nCode {c : Code} : Nx (bN P C (.code c :: ks) F .normal st) (WP P C c (bN P C ks F) st) := ⟨b5g⟩
instance nBlk {id : Nat} : Nx (bN P C (.blk id :: ks) F .normal st) (bN P C ks F .normal st) := ⟨b6A⟩
instance nCodeRet {c : Code} : Nx (bN P C (.code c :: ks) F .ret st) (bN P C ks F .ret st) := ⟨a7x⟩
instance nBlkRet {id : Nat} : Nx (bN P C (.blk id :: ks) F .ret st) (bN P C ks F .ret st) := ⟨b0i⟩
instance nCodeExit {c : Code} {j : Nat} : Nx (bN P C (.code c :: ks) F (.exit j) st) (bN P C ks F (.exit j) st) := ⟨a5R⟩
instance nBlkExit {id : Nat} : Nx (bN P C (.blk id :: ks) F (.exit id) st) (bN P C ks F .normal st) := ⟨a0V⟩
theorem kO {id j : Nat} (h : bN P C ks F (.exit j) st) (hn : j ≠ id) : bN P C (.blk id :: ks) F (.exit j) st := pM hn h
theorem kD {id j : Nat} (h : bN P C ks F (.exit j) st) (hn : j ≠ id := by decide) : bN P C (.blk id :: ks) F (.exit j) st := pM hn h
instance nNil {e : Ex} : Nx (bN P C [] F e st) (F e st) := ⟨b6B⟩
instance nLRet {α : Type} {I : α → St} {Q : α → Prop} {μ : α → Nat} {x : α} : Nx (yJ I Q μ x F .ret st) (F .ret st) := ⟨b6w⟩
instance nLExit {α : Type} {I : α → St} {Q : α → Prop} {μ : α → Nat} {x : α} {j : Nat} : Nx (yJ I Q μ x F (.exit j) st) (F (.exit j) st) := ⟨b4V⟩
instance nCRet {G s : St} : Nx (b0q G F .ret s) (F .ret s) := ⟨b3J⟩
instance nCExit {G s : St} {j : Nat} : Nx (b0q G F (.exit j) s) (F (.exit j) s) := ⟨b1P⟩
end
section
variable {E : Env} {all r : List Oper} {o : Oper} {st : St} {K : St → Prop}
instance nRun : Nx (vcRun E all (o :: r) st K ⟨⟩) (Nm (a1K E all o st (fun st' => vcRun E all r st' K ⟨⟩) ⟨⟩)) := ⟨b1q⟩
instance nRun0 : Nx (vcRun E all [] st K ⟨⟩) (K st) := ⟨b3o⟩
instance nDrun : Nx (vcDRun E all (o :: r) st K ⟨⟩) (Nm (a4z E all o st (fun st' => vcDRun E all r st' K ⟨⟩) ⟨⟩)) := ⟨a9W⟩
instance nDrun0 : Nx (vcDRun E all [] st K ⟨⟩) (K st) := ⟨b1r⟩
instance nGrun {ds : List Nat} : Nx (vcGRun E ds all (o :: r) st K ⟨⟩) (Nm (a4R E ds all o st (fun st' => vcGRun E ds all r st' K ⟨⟩) ⟨⟩)) := ⟨b0p⟩
instance nGrun0 {ds : List Nat} : Nx (vcGRun E ds all [] st K ⟨⟩) (K st) := ⟨b1N⟩
end
end Go.Sx
end
section
set_option linter.all false
namespace Go.Sx
open Go Go.RowKit
theorem CallS.lendW {E : Env} {f : Nat} {args args' : List SV} {res : SV} {st : St} {K : St → SV → Prop} (h : FnC E.P f args' res) (he : args.map (dY st.h) = args') (hfree : args'.all bX = true) (hres : res.all.all lS = true)
    (k : K ⟨st.t, st.h ++ adH res.all⟩ (adS st.h.length res)) : CallS E f args st K := by
 refine ⟨h.enters, fun g V a w vs hr hlen hargs => ?_⟩
 subst he
 have hc : lY (kL V w) (args.map (dY st.h)) vs := by
  refine ⟨by simp [hlen], fun i s y h1 h2 => ?_⟩
  have hs := List.all_eq_true.1 hfree s (List.mem_of_getElem? h1)
  rw [List.getElem?_map] at h1
  cases hk : args[i]? with
  | none => rw [hk] at h1; cases h1
  | some s0 =>
   rw [hk] at h1
   cases h1
   exact kJ (zZ hr (hargs i s0 y hk h2)) hs
 refine (h.calls (kL V w) w vs hr.tab (pJ hr.mod) hc).mono ?_
 rintro e w' ⟨y, rfl, ⟨V1, S, hv, hm, hnew, ⟨l, hshape, Ss, r1, r2, r3, r4⟩, hnd, hblk⟩, hbelow⟩
 have hVV' : V.le V1 := (nC V w).trans hv
 subst r3
 have hm0 : Mod V w' := hm.of_le hVV'
 obtain ⟨V', hV'⟩ : ∃ V' : View, V' = fun b => if b < w.heap.size then V b else V1 b := ⟨_, rfl⟩
 have ge : ∀ b, w.heap.size ≤ b → V' b = V1 b := fun b hb => by rw [hV']; exact if_neg (by omega)
 have hle : V.le V' := fun b cs hb => ⟨cs, by rw [hV']; simp only [if_pos (hr.mod.lt hb), hb], List.prefix_refl _⟩
 have hnone : ∀ b, w.heap.size ≤ b → kL V w b = none := fun b hb => (pJ hr.mod).fresh hb
 have hr1 : Rel E.C g V' st a w' := hr.later hle (fun b cs hb => by
  rw [hV'] at hb
  simp only at hb
  split at hb
  ·exact hm0 b cs hb
  ·exact hm b cs hb) hbelow (fun b cs hb hn => by
  rcases Nat.lt_or_ge b w.heap.size with hlt | hge
  ·rw [hV'] at hb
   simp only [if_pos hlt] at hb
   rw [hb] at hn; cases hn
  ·rw [ge b hge] at hb
   exact hnew b cs hb (hnone b hge))
 have r5 : ∀ (k : Nat) (x : At) (y : Value) (s : List Nat), res.all[k]? = some x → l[k]? = some y → Ss[k]? = some s → rAt V' w' x y s := fun k x y s e1 e2 e3 => by
  have hr4 := r4 k x y s e1 e2 e3
  have hw := List.all_eq_true.1 hres x (List.mem_of_getElem? e1)
  have hin : ∀ b ∈ s, w.heap.size ≤ b := fun b hb => (hblk b (List.mem_flatten.2 ⟨s, List.mem_of_getElem? e3, hb⟩)).1
  cases x with
  | d x => cases x with
   | v x =>
    obtain ⟨q1, T, hT⟩ := hr4
    cases hT with
    | v _ hsc => exact ⟨q1, _, .v _ hsc⟩
   | sl r => simp [lS] at hw
  | w ty sz rows =>
   obtain ⟨p0, ys, Ts, p1, p2⟩ := hr4
   have lay : (∀ b ∈ Ts.flatten, b ∈ s) → LayL V' rows.flatten ys Ts := fun hsub => ⟨p1.1, p1.2.1, fun j d z T h1 h2 h3 => (p1.2.2 j d z T h1 h2 h3).restrict fun b hb cs hcs => ⟨cs, by rw [ge b (hin b (hsub b (List.mem_flatten.2 ⟨T, List.mem_of_getElem? h3, hb⟩)))]; exact hcs, List.prefix_refl _⟩⟩
   rcases p2 with ⟨q1, rfl, q3⟩ | ⟨b, cap, c, q1, q2, q3, q4, q5, q6, q7, q8⟩
   ·have hT : Ts = [] := by have := p1.2.1; simpa using this
    subst hT
    exact ⟨p0, ys, [], lay (fun b hb => by simp at hb), .inl ⟨q1, rfl, q3⟩⟩
   ·exact ⟨p0, ys, Ts, lay (fun b' hb' => by rw [q8]; exact List.mem_cons_of_mem _ hb'), .inr ⟨b, cap, c, q1, q2, q3, q4, q5, q6, by rw [ge b (hin b (by rw [q8]; simp))]; exact q7, q8⟩⟩
  | _ => simp [lS] at hw
 obtain ⟨g', h1, h2, h3⟩ := tN (cs := res.all) hr1 r1 r2 r5 hnd (fun b hb => ⟨.inl (Nat.le_trans hr.fr.size (hblk b hb).1), (hblk b hb).2, fun i hb' x e1 e2 hm' => by
  have := (hr.hp.lo i hb' x e1 e2 b hm').2
  have := (hblk b hb).1
  omega⟩)
 refine ⟨y, g', V', _, _, rfl, h1, ?_, k⟩
 cases res with
 | o x =>
  have hl : l = [y] := hshape
  subst hl
  simp only [SV.all] at h3
  simp only [adS]
  have hlen1 : (adA st.h.length [x]).length = 1 := mE _ _
  match he' : adA st.h.length [x], hlen1 with
  | [z], _ =>
   rw [he'] at h3
   exact h3.2 0 z y rfl rfl
 | g cs => exact ⟨l, hshape, h3⟩
 | t cs =>
  obtain ⟨ls, e1, e2, e3, ys, e4, e5, e6⟩ := hshape
  subst e2
  refine ⟨ys, e4, by rw [e5, kK], fun i b c v hi hv' => ?_⟩
  have hlt : i < ls.length := by rw [e1, ← kK st.h.length cs]; exact (List.getElem?_eq_some_iff.1 hi).1
  have hm' : ls[i]? = some ls[i] := List.getElem?_eq_getElem hlt
  obtain ⟨⟨c0, hc0⟩, hcc⟩ := uW st.h.length cs ls e1 e3 h3 i b c _ hi hm'
  have := e6 i b c0 _ v hc0 hm' hv'
  cases b with
  | true => simp only [if_true] at this ⊢; exact ⟨_, this, hcc⟩
  | false => simp only [Bool.false_eq_true, if_false] at this ⊢; rw [← this]; exact hcc
theorem CallG.lendW {E : Env} {f : Nat} {args args' : List SV} {res : SV} {h : List HB} {k : List HB → SV → Prop} (hf : FnC E.P f args' res) (he : args.map (dY h) = args') (hfree : args'.all bX = true) (hres : res.all.all lS = true) (hk : k (h ++ adH res.all) (adS h.length res)) : CallG E f args h k ⟨⟩ :=
 ⟨_, _, fun T => CallS.lendW (st := ⟨T, h⟩) hf he hfree hres ⟨rfl, rfl⟩, hk⟩
end Go.Sx
end
section
set_option linter.all false
namespace Go.Sx
open Go Go.RowKit
section
variable {C : Ctx} {st : St}
def b8K (V : View) (items : List (Value × List (List Value))) : View := fun k => match items.find? fun p => p.1.ownBlock == some k with
 | some p => some p.2.flatten
 | none => V k
def b8i (p : List Value × Value × List (List Value)) : List D := p.1.map D.v ++ [.v p.2.1]
def b8j (p : List Value × Value × List (List Value)) : List D := p.1.map D.v ++ [.sl (p.2.2.map fun r => r.map D.v)]
def b8L (p : List Value × Value × List (List Value)) : List (List Nat) := List.replicate p.1.length [] ++ [if p.2.2.isEmpty then [] else p.2.1.ownBlock.toList]
end
end Go.Sx
end
section
set_option linter.all false
namespace Go.Sx
open Go Go.RowKit
theorem a4S {V : View} {ds : List D} {ys : List Value} {Ss : List (List Nat)} (h : LayL V ds ys Ss) (hf : ds.all isV = true) : Ss.flatten = [] ∧ ∀ V', LayL V' ds ys Ss := by
 obtain ⟨h1, h2, h3⟩ := h
 have key : ∀ (k : Nat) (d : D) (y : Value) (S : List Nat), ds[k]? = some d → ys[k]? = some y → Ss[k]? = some S → S = [] ∧ ∀ V', Lay V' d y S := fun k d y S e1 e2 e3 => by
  have h4 := h3 k d y S e1 e2 e3
  have h5 := List.all_eq_true.1 hf d (List.mem_of_getElem? e1)
  cases h4 with
  | v _ hx => exact ⟨rfl, fun V' => .v _ hx⟩
  | nil => simp [isV] at h5
  | sl => simp [isV] at h5
 refine ⟨?_, fun V' => ⟨h1, h2, fun k d y S e1 e2 e3 => (key k d y S e1 e2 e3).2 V'⟩⟩
 rw [List.flatten_eq_nil_iff]
 intro S hS
 obtain ⟨k, hk, rfl⟩ := List.getElem_of_mem hS
 exact (key k ds[k] ys[k] Ss[k] (List.getElem?_eq_getElem (by omega)) (List.getElem?_eq_getElem (by omega)) (List.getElem?_eq_getElem hk)).1
theorem a0g {rows : List (List D)} (h : iL rows = true) : rows.flatten.all isV = true := by
 unfold iL at h
 simpa [List.all_flatten] using h
def stI (ty sz : Nat) (rows : List (List D)) (y : Value) (args : List SV) (n : Nat) : St := ⟨.o (.s 0) :: (args ++ List.replicate (n - 1 - args.length) (.t [])), [.row ty sz rows true, .isv 0 y]⟩
def b8k (ty sz : Nat) (rows' : List (List D)) (y : Value) : Ex → St → Prop
 | .exit _, _ => False
 | _, st => bK st.h 0 = .row ty sz rows' true ∧ bK st.h 1 = .isv 0 y
theorem a7L {V : View} {w w' : World} {y : Value} (h : Done V w (.t []) y w') : y = .tuple #[] := by
 obtain ⟨_, _, _, _, _, ⟨l, hs, _⟩, _⟩ := h.out
 obtain ⟨ls, h1, h2, h3, ys, h4, h5, _⟩ := hs
 have : ys = [] := List.eq_nil_of_length_eq_zero (by simpa using h5)
 subst this
 exact h4
theorem FnI.of_wp {P : Program} {T : Nat → Ty} {eqk : Nat → List Nat} (hT : TyOK P T) {f : Nat} {fn : Func} {c : Code} {ty sz : Nat} {rows rows' : List (List D)} {args : List SV}
    (hf : P.funcs[f]? = some fn) (hb : fn.body = some c) (hcall : ∀ as w, (callFunc f as).run P w = .ok (.enter f as) w) (hres : fn.results = #[])
    (hfl : iL rows = true) (hfl' : iL rows' = true) (hlen : rows'.length = rows.length) (h0 : rows = [] → FnC P f (.o (.d (.sl [])) :: args) (.t []))
    (h : rows ≠ [] → ∀ (C : Ctx) (y : Value), WP P C c (bN P C [] (b8k ty sz rows' y)) (stI ty sz rows y args fn.ntmps)) : FnI P f ty sz rows args true rows' := by
 refine ⟨hcall, fun V w y S vs htab hm hrow hnd hlt ha => ?_⟩
 by_cases hr0 : rows = []
 ·subst hr0
  have hr' : rows' = [] := List.eq_nil_of_length_eq_zero (by simpa using hlen)
  subst hr'
  have hL : ∃ T, Lay V (.sl []) y T := by
   obtain ⟨_, ys, Ss, _, ⟨⟨ao, rfl⟩, _, _⟩ | ⟨b, cap, cc, rfl, _, e4, _⟩⟩ := hrow
   ·cases ao with
    | none => exact ⟨_, .nil⟩
    | some a => exact ⟨_, .sl [] a 0 0 [] [] (by simp) (by simp) (by simp [maxLen]) rfl rfl (fun k y h => by simp at h) (fun k d y S h => by simp at h)⟩
   ·exact ⟨_, .sl [] ⟨b, 0, none⟩ cap 0 [] [] (by simp) (by simp) e4 rfl rfl (fun k y h => by simp at h) (fun k d y S h => by simp at h)⟩
  refine ((h0 rfl).calls V w (y :: vs) htab.nil hm ⟨by simp [ha.1], fun k s z e1 e2 => ?_⟩).mono ?_
  ·cases k with
   | zero => simp at e1 e2; subst e1; subst e2; exact hL
   | succ k => exact ha.2 k s z (by simpa using e1) (by simpa using e2)
  ·rintro e w' ⟨y', rfl, hd⟩
   have e0 := a7L hd
   subst e0
   refine ⟨y, rfl, fun _ => rfl, ⟨hd.below.os, hd.below.tape, hd.below.output, hd.below.size, fun k hk _ => hd.below.block k hk⟩, S, ?_, hnd, fun b hb => .inl hb, fun _ => rfl⟩
   obtain ⟨g0, ys, Ss, g1, g2⟩ := hrow
   refine ⟨g0, ys, Ss, g1, ?_⟩
   rcases g2 with g2 | ⟨b, cap, cc, e1, e2, e3, e4, e5, e6, e7, e8⟩
   ·exact .inl g2
   ·exact .inr ⟨b, cap, cc, e1, e2, e3, by rw [hd.below.block b (hlt b (by rw [e8]; simp))]; exact e4, e5, e6, e7, e8⟩
 ·let C : Ctx := ⟨w, S, V, htab⟩
  refine calls_of_wp hf hb ?_
  have hrow0 := hrow
  obtain ⟨x2, e1, _, e3, e4, e5, e6, e7⟩ := yD hrow []
  let xi : Gh := ⟨none, undef, [], []⟩
  have hSV : ∀ n ∈ S, V n = none := by
   obtain ⟨_, ys, Ss, g1, ⟨_, _, h⟩ | ⟨b, cap, cc, _, _, _, _, _, _, g8, hS⟩⟩ := hrow0
   ·rw [h]; intro n hn; cases hn
   ·rw [hS, (a4S g1 (a0g hfl)).1]
    intro n hn
    rw [List.mem_singleton.1 hn]; exact g8
  have hr : Rel C [x2, xi] V (stI ty sz rows y args fn.ntmps) { tmps := (y :: vs).toArray ++ Array.replicate (fn.ntmps - (y :: vs).toArray.size) undef, defers := [] } w := by
   refine ⟨⟨by simp [stI, ha.1]; omega, fun i s y0 h1 h2 => ?_, rfl⟩, ⟨rfl, ?_, ?_, ?_, ?_, ?_⟩, hm,
    ⟨rfl, rfl, rfl, Nat.le_refl _, fun _ _ _ => rfl⟩, Vw.init hm hSV⟩
   ·match i with
    | 0 =>
     simp [stI] at h1
     rw [Array.getElem?_append_left (by simp)] at h2
     simp at h2
     subst h1; subst h2
     exact ⟨x2, rfl, e1.symm, e6⟩
    | i + 1 =>
     simp only [stI, List.getElem?_cons_succ] at h1
     have h2' : (vs.toArray ++ Array.replicate (fn.ntmps - (vs.length + 1)) undef)[i]? = some y0 := by
      simp only [List.size_toArray, List.length_cons] at h2
      rw [← h2]
      rw [Array.getElem?_append, Array.getElem?_append]
      simp
     rw [List.getElem?_append] at h1
     rw [Array.getElem?_append] at h2'
     simp only [List.size_toArray, ha.1] at h2'
     split at h1
     ·rw [if_pos ‹_›] at h2'
      exact (ha.2 i s y0 h1 (by simpa using h2')).mono (fun j z hz => by simp at hz) (View.le.refl V)
     ·rw [if_neg ‹_›] at h2'
      rw [List.getElem?_replicate] at h1
      rw [Array.getElem?_replicate] at h2'
      split at h1
      ·split at h2'
       ·cases h1; cases h2'; exact gG _ _
       ·cases h2'
      ·cases h1
   all_goals
    have key : ∀ (i : Nat) (c : HB) (z : Gh), (stI ty sz rows y args fn.ntmps).h[i]? = some c → [x2, xi][i]? = some z → (i = 0 ∧ c = .row ty sz rows true ∧ z = x2) ∨ (i = 1 ∧ c = .isv 0 y ∧ z = xi) := fun i c z h1 h2 => by
     match i with
     | 0 => simp [stI] at h1 h2; exact .inl ⟨rfl, h1.symm, h2.symm⟩
     | 1 => simp [stI] at h1 h2; exact .inr ⟨rfl, h1.symm, h2.symm⟩
     | i + 2 => simp at h2
   ·intro i c z h1 h2
    rcases key i c z h1 h2 with ⟨rfl, rfl, rfl⟩ | ⟨rfl, rfl, rfl⟩
    ·exact e7 _
    ·exact ⟨x2, rfl, by obtain ⟨_, _, _, _, ⟨⟨ao, rfl⟩, _⟩ | ⟨_, _, _, rfl, _⟩⟩ := hrow0 <;> exact e1⟩
   ·intro i c z h1 h2
    rcases key i c z h1 h2 with ⟨rfl, rfl, rfl⟩ | ⟨rfl, rfl, rfl⟩
    ·rw [e4]; exact hnd
    ·simp [ownB]
   ·intro i j c c' z z' hij h1 h2 h3 h4 n hn hn'
    rcases key i c z h1 h2 with ⟨rfl, rfl, rfl⟩ | ⟨rfl, rfl, rfl⟩
    ·rcases key j c' z' h3 h4 with ⟨rfl, rfl, rfl⟩ | ⟨rfl, rfl, rfl⟩
     ·exact hij rfl
     ·simp [ownB] at hn'
    ·simp [ownB] at hn
   ·intro i c z h1 h2 n hn
    rcases key i c z h1 h2 with ⟨rfl, rfl, rfl⟩ | ⟨rfl, rfl, rfl⟩
    ·rw [e4] at hn
     exact ⟨.inr hn, hlt n hn⟩
    ·simp [ownB] at hn
   ·intro i c z h1 h2 n hn
    rcases key i c z h1 h2 with ⟨rfl, rfl, rfl⟩ | ⟨rfl, rfl, rfl⟩
    ·exact e5 n hn
    ·simp [aY] at hn
  obtain ⟨_, ys, Ss, g1, ⟨_, g2, _⟩ | ⟨b, cap, cc, rfl, g3, g4, g5, g6, g7, g8, hS⟩⟩ := hrow0
  ·exact (hr0 g2).elim
  have hS0 : S = [b] := by rw [hS, (a4S g1 (a0g hfl)).1]
  refine wp_mono (h hr0 C _ [x2, xi] V _ w hr) fun e a' w' q => ?_
  have fin : ∀ (g : List Gh) (V' : View) (st : St), Rel C g V' st a' w' → bK st.h 0 = .row ty sz rows' true ∧ bK st.h 1 = .isv 0 (.slice (some ⟨b, 0, none⟩) rows.length cap) →
      ∃ y', (results fn a'.tmps).run P w' = .ok y' w' ∧ ∃ y'', Ending.returned y' = .returned (if true then .tuple #[] else y'') ∧ (true = true → y'' = .slice (some ⟨b, 0, none⟩) rows.length cap) ∧ Gave V w S ty sz true rows' y'' w' := by
   rintro g V' st hr' ⟨k1, k2⟩
   have hi := aF k1 (by simp)
   have hi1 := aF k2 (by simp)
   obtain ⟨z0, hz0⟩ : ∃ z0, g[0]? = some z0 := ⟨_, List.getElem?_eq_getElem (by rw [hr'.hp.glen]; exact (List.getElem?_eq_some_iff.1 hi).1)⟩
   obtain ⟨z1, hz1⟩ : ∃ z1, g[1]? = some z1 := ⟨_, List.getElem?_eq_getElem (by rw [hr'.hp.glen]; exact (List.getElem?_eq_some_iff.1 hi1).1)⟩
   obtain ⟨z, hz, hv⟩ := hr'.hp.hb 1 _ z1 hi1 hz1
   rw [hz0] at hz
   cases hz
   have hv : z0.val = .slice (some ⟨b, 0, none⟩) rows.length cap := hv
   have hok := hr'.hp.hb 0 _ z0 hi hz0
   obtain ⟨p0, ys', Ss', p1, p2, p3⟩ := hok
   obtain ⟨q1, q2⟩ := a4S p1 (a0g hfl')
   have hb' : z0.blk = some b ∧ ∃ cur, w'.heap[b]? = some (.cells cur ty (0, 0)) ∧ cur.size = cap * sz ∧ ys' <+: cur.toList := by
    rcases p3 with ⟨_, ⟨ao, e⟩, e'⟩ | ⟨b', cap', cur, f1, f2, f3, f4, f5, f6, f7⟩
    ·have : rows = [] := List.eq_nil_of_length_eq_zero (by rw [← hlen, e']; rfl)
     exact (hr0 this).elim
    ·rw [hv] at f2
     simp only [Value.slice.injEq, Option.some.injEq, Addr.mk.injEq] at f2
     obtain ⟨⟨rfl, _⟩, _, rfl⟩ := f2
     exact ⟨f1, cur, f5, f6, f7⟩
   obtain ⟨hblk, cur, f5, f6, f7⟩ := hb'
   refine ⟨.tuple #[], ?_, _, rfl, fun _ => rfl, ⟨hr'.fr.os, hr'.fr.tape, hr'.fr.output, hr'.fr.size, fun k hk hx => hr'.fr.block k hk (fun hm => hx ?_)⟩, [b], ⟨p0, ys', Ss', q2 V, .inr ⟨b, cap, cur, by rw [hlen], by rw [hlen]; exact g3, g4, f5, f6, f7, g8, by rw [q1]⟩⟩, by simp, fun n hn => .inl (by rw [hS0]; exact hn), fun _ => by rw [hS0]⟩
   ·have := jV (a := a') (rs := []) hres (P := P) (vs := []) (w := w') rfl
    exact this
   ·have hm : k ∈ S := hm
    rw [hS0] at hm ⊢
    simp at hm
    simp [hm]
  cases e with
  | normal =>
   obtain ⟨g, V', st', hr', hret⟩ := q
   obtain ⟨y, hy, hd⟩ := fin g V' st' hr' hret
   exact ⟨hr'.sl.defers, y, hy, hd⟩
  | ret =>
   obtain ⟨g, V', st', hr', hret⟩ := q
   obtain ⟨y, hy, hd⟩ := fin g V' st' hr' hret
   exact ⟨hr'.sl.defers, y, hy, hd⟩
  | exit id => obtain ⟨g, V', st', hr', q⟩ := q; exact q.elim
  | goto l => exact q.elim
  | panic ch => exact q.elim
  | outgrown => exact q.elim
end Go.Sx
end
end
section
namespace Go.Sx
open Go Go.RowKit
structure Hd (Q : Prop) : Prop where
 out : Q
theorem aD {P Q : Prop} (h : Q) (t : Hd Q → P := by intro h; (repeat' (with_reducible first | refine nY ?_ | (refine mX ?_; try simp only [go_sem]) | refine kD ?_ | refine rD ?_ | refine aO ?_ | fail)); exact h.out) : P := t ⟨h⟩
theorem kS {C0 : Prop} (c0 : C0) {P Q : Prop} (h : Q) (t : C0 → Hd Q → P := by intro c0 h; (repeat' (with_reducible first | refine nY ?_ | (refine mX ?_; try simp only [go_sem]) | refine kD ?_ | refine rD ?_ | refine cP c0 ?_ | refine aO ?_ | fail)); exact h.out) : P := t c0 ⟨h⟩
theorem b8l {C0 : Prop} (c0 : C0) {C1 : Prop} (c1 : C1) {P Q : Prop} (h : Q) (t : C0 → C1 → Hd Q → P := by intro c0 c1 h; (repeat' (with_reducible first | refine nY ?_ | (refine mX ?_; try simp only [go_sem]) | refine kD ?_ | refine rD ?_ | refine cP c0 ?_ | refine cP c1 ?_ | refine aO ?_ | fail)); exact h.out) : P := t c0 c1 ⟨h⟩
theorem iW {P Q : Prop} (h : Q) (t : Hd Q → P := by intro h; (repeat' (with_reducible first | refine nY ?_ | (refine mX ?_; try simp only [go_sem, q0]) | refine kD ?_ | refine rD ?_ | refine aO ?_ | fail)); exact h.out) : P := t ⟨h⟩
theorem qY {C0 : Prop} (c0 : C0) {P Q : Prop} (h : Q) (t : C0 → Hd Q → P := by intro c0 h; (repeat' (with_reducible first | refine nY ?_ | (refine mX ?_; try simp only [go_sem, q0]) | refine kD ?_ | refine rD ?_ | refine cP c0 ?_ | refine aO ?_ | fail)); exact h.out) : P := t c0 ⟨h⟩
theorem b0r {C0 : Prop} (c0 : C0) {C1 : Prop} (c1 : C1) {P Q : Prop} (h : Q) (t : C0 → C1 → Hd Q → P := by intro c0 c1 h; (repeat' (with_reducible first | refine nY ?_ | (refine mX ?_; try simp only [go_sem, q0]) | refine kD ?_ | refine rD ?_ | refine cP c0 ?_ | refine cP c1 ?_ | refine aO ?_ | fail)); exact h.out) : P := t c0 c1 ⟨h⟩
theorem b6G {C0 : Prop} (c0 : C0) {C1 : Prop} (c1 : C1) {C2 : Prop} (c2 : C2) {P Q : Prop} (h : Q) (t : C0 → C1 → C2 → Hd Q → P := by intro c0 c1 c2 h; (repeat' (with_reducible first | refine nY ?_ | (refine mX ?_; try simp only [go_sem, q0]) | refine kD ?_ | refine rD ?_ | refine cP c0 ?_ | refine cP c1 ?_ | refine cP c2 ?_ | refine aO ?_ | fail)); exact h.out) : P := t c0 c1 c2 ⟨h⟩
theorem jM {P Q : Prop} (h : Q) (t : Hd Q → P := by intro h; (repeat' (with_reducible first | refine nY ?_ | (refine mX ?_; try simp only [go_sem, q0, q1]) | refine kD ?_ | refine rD ?_ | refine aO ?_ | fail)); exact h.out) : P := t ⟨h⟩
theorem b3K {C0 : Prop} (c0 : C0) {P Q : Prop} (h : Q) (t : C0 → Hd Q → P := by intro c0 h; (repeat' (with_reducible first | refine nY ?_ | (refine mX ?_; try simp only [go_sem, q0, q1]) | refine kD ?_ | refine rD ?_ | refine cP c0 ?_ | refine aO ?_ | fail)); exact h.out) : P := t c0 ⟨h⟩
theorem b0s {C0 : Prop} (c0 : C0) {C1 : Prop} (c1 : C1) {P Q : Prop} (h : Q) (t : C0 → C1 → Hd Q → P := by intro c0 c1 h; (repeat' (with_reducible first | refine nY ?_ | (refine mX ?_; try simp only [go_sem, q0, q1]) | refine kD ?_ | refine rD ?_ | refine cP c0 ?_ | refine cP c1 ?_ | refine aO ?_ | fail)); exact h.out) : P := t c0 c1 ⟨h⟩
theorem b6H {C0 : Prop} (c0 : C0) {C1 : Prop} (c1 : C1) {C2 : Prop} (c2 : C2) {C3 : Prop} (c3 : C3) {P Q : Prop} (h : Q) (t : C0 → C1 → C2 → C3 → Hd Q → P := by intro c0 c1 c2 c3 h; (repeat' (with_reducible first | refine nY ?_ | (refine mX ?_; try simp only [go_sem, q0, q1]) | refine kD ?_ | refine rD ?_ | refine cP c0 ?_ | refine cP c1 ?_ | refine cP c2 ?_ | refine cP c3 ?_ | refine aO ?_ | fail)); exact h.out) : P := t c0 c1 c2 c3 ⟨h⟩
theorem kI {P Q : Prop} (h : Q) (t : Hd Q → P := by intro h; (repeat' (with_reducible first | refine nY ?_ | (refine mX ?_; try simp only [go_sem, q0, q1, q2]) | refine kD ?_ | refine rD ?_ | refine aO ?_ | fail)); exact h.out) : P := t ⟨h⟩
theorem pX {C0 : Prop} (c0 : C0) {P Q : Prop} (h : Q) (t : C0 → Hd Q → P := by intro c0 h; (repeat' (with_reducible first | refine nY ?_ | (refine mX ?_; try simp only [go_sem, q0, q1, q2]) | refine kD ?_ | refine rD ?_ | refine cP c0 ?_ | refine aO ?_ | fail)); exact h.out) : P := t c0 ⟨h⟩
theorem a6c {C0 : Prop} (c0 : C0) {C1 : Prop} (c1 : C1) {P Q : Prop} (h : Q) (t : C0 → C1 → Hd Q → P := by intro c0 c1 h; (repeat' (with_reducible first | refine nY ?_ | (refine mX ?_; try simp only [go_sem, q0, q1, q2]) | refine kD ?_ | refine rD ?_ | refine cP c0 ?_ | refine cP c1 ?_ | refine aO ?_ | fail)); exact h.out) : P := t c0 c1 ⟨h⟩
theorem b6I {C0 : Prop} (c0 : C0) {C1 : Prop} (c1 : C1) {C2 : Prop} (c2 : C2) {C3 : Prop} (c3 : C3) {P Q : Prop} (h : Q) (t : C0 → C1 → C2 → C3 → Hd Q → P := by intro c0 c1 c2 c3 h; (repeat' (with_reducible first | refine nY ?_ | (refine mX ?_; try simp only [go_sem, q0, q1, q2]) | refine kD ?_ | refine rD ?_ | refine cP c0 ?_ | refine cP c1 ?_ | refine cP c2 ?_ | refine cP c3 ?_ | refine aO ?_ | fail)); exact h.out) : P := t c0 c1 c2 c3 ⟨h⟩
theorem jQ {P Q : Prop} (h : Q) (t : Hd Q → P := by intro h; (repeat' (with_reducible first | refine nY ?_ | (refine mX ?_; try simp only [go_sem, q0, q1, q2, q3]) | refine kD ?_ | refine rD ?_ | refine aO ?_ | fail)); exact h.out) : P := t ⟨h⟩
theorem a0X {C0 : Prop} (c0 : C0) {P Q : Prop} (h : Q) (t : C0 → Hd Q → P := by intro c0 h; (repeat' (with_reducible first | refine nY ?_ | (refine mX ?_; try simp only [go_sem, q0, q1, q2, q3]) | refine kD ?_ | refine rD ?_ | refine cP c0 ?_ | refine aO ?_ | fail)); exact h.out) : P := t c0 ⟨h⟩
theorem a1W {C0 : Prop} (c0 : C0) {C1 : Prop} (c1 : C1) {P Q : Prop} (h : Q) (t : C0 → C1 → Hd Q → P := by intro c0 c1 h; (repeat' (with_reducible first | refine nY ?_ | (refine mX ?_; try simp only [go_sem, q0, q1, q2, q3]) | refine kD ?_ | refine rD ?_ | refine cP c0 ?_ | refine cP c1 ?_ | refine aO ?_ | fail)); exact h.out) : P := t c0 c1 ⟨h⟩
theorem b6J {C0 : Prop} (c0 : C0) {C1 : Prop} (c1 : C1) {C2 : Prop} (c2 : C2) {P Q : Prop} (h : Q) (t : C0 → C1 → C2 → Hd Q → P := by intro c0 c1 c2 h; (repeat' (with_reducible first | refine nY ?_ | (refine mX ?_; try simp only [go_sem, q0, q1, q2, q3]) | refine kD ?_ | refine rD ?_ | refine cP c0 ?_ | refine cP c1 ?_ | refine cP c2 ?_ | refine aO ?_ | fail)); exact h.out) : P := t c0 c1 c2 ⟨h⟩
theorem b6K {C0 : Prop} (c0 : C0) {C1 : Prop} (c1 : C1) {C2 : Prop} (c2 : C2) {C3 : Prop} (c3 : C3) {P Q : Prop} (h : Q) (t : C0 → C1 → C2 → C3 → Hd Q → P := by intro c0 c1 c2 c3 h; (repeat' (with_reducible first | refine nY ?_ | (refine mX ?_; try simp only [go_sem, q0, q1, q2, q3]) | refine kD ?_ | refine rD ?_ | refine cP c0 ?_ | refine cP c1 ?_ | refine cP c2 ?_ | refine cP c3 ?_ | refine aO ?_ | fail)); exact h.out) : P := t c0 c1 c2 c3 ⟨h⟩
theorem vW {P Q : Prop} (h : Q) (t : Hd Q → P := by intro h; (repeat' (with_reducible first | refine nY ?_ | (refine mX ?_; try simp only [go_sem, q0, q1, q2, q3, q4]) | refine kD ?_ | refine rD ?_ | refine aO ?_ | fail)); exact h.out) : P := t ⟨h⟩
theorem a0h {C0 : Prop} (c0 : C0) {P Q : Prop} (h : Q) (t : C0 → Hd Q → P := by intro c0 h; (repeat' (with_reducible first | refine nY ?_ | (refine mX ?_; try simp only [go_sem, q0, q1, q2, q3, q4]) | refine kD ?_ | refine rD ?_ | refine cP c0 ?_ | refine aO ?_ | fail)); exact h.out) : P := t c0 ⟨h⟩
theorem b0t {C0 : Prop} (c0 : C0) {C1 : Prop} (c1 : C1) {P Q : Prop} (h : Q) (t : C0 → C1 → Hd Q → P := by intro c0 c1 h; (repeat' (with_reducible first | refine nY ?_ | (refine mX ?_; try simp only [go_sem, q0, q1, q2, q3, q4]) | refine kD ?_ | refine rD ?_ | refine cP c0 ?_ | refine cP c1 ?_ | refine aO ?_ | fail)); exact h.out) : P := t c0 c1 ⟨h⟩
theorem b8m {C0 : Prop} (c0 : C0) {C1 : Prop} (c1 : C1) {C2 : Prop} (c2 : C2) {P Q : Prop} (h : Q) (t : C0 → C1 → C2 → Hd Q → P := by intro c0 c1 c2 h; (repeat' (with_reducible first | refine nY ?_ | (refine mX ?_; try simp only [go_sem, q0, q1, q2, q3, q4]) | refine kD ?_ | refine rD ?_ | refine cP c0 ?_ | refine cP c1 ?_ | refine cP c2 ?_ | refine aO ?_ | fail)); exact h.out) : P := t c0 c1 c2 ⟨h⟩
theorem b6L {C0 : Prop} (c0 : C0) {C1 : Prop} (c1 : C1) {C2 : Prop} (c2 : C2) {C3 : Prop} (c3 : C3) {P Q : Prop} (h : Q) (t : C0 → C1 → C2 → C3 → Hd Q → P := by intro c0 c1 c2 c3 h; (repeat' (with_reducible first | refine nY ?_ | (refine mX ?_; try simp only [go_sem, q0, q1, q2, q3, q4]) | refine kD ?_ | refine rD ?_ | refine cP c0 ?_ | refine cP c1 ?_ | refine cP c2 ?_ | refine cP c3 ?_ | refine aO ?_ | fail)); exact h.out) : P := t c0 c1 c2 c3 ⟨h⟩
theorem b1Q {P Q : Prop} (h : Q) (t : Hd Q → P := by intro h; (repeat' (with_reducible first | refine nY ?_ | (refine mX ?_; try simp only [go_sem, q0, q1, q2, q3, q4, q5]) | refine kD ?_ | refine rD ?_ | refine aO ?_ | fail)); exact h.out) : P := t ⟨h⟩
theorem a0Y {C0 : Prop} (c0 : C0) {P Q : Prop} (h : Q) (t : C0 → Hd Q → P := by intro c0 h; (repeat' (with_reducible first | refine nY ?_ | (refine mX ?_; try simp only [go_sem, q0, q1, q2, q3, q4, q5]) | refine kD ?_ | refine rD ?_ | refine cP c0 ?_ | refine aO ?_ | fail)); exact h.out) : P := t c0 ⟨h⟩
theorem a1X {C0 : Prop} (c0 : C0) {C1 : Prop} (c1 : C1) {P Q : Prop} (h : Q) (t : C0 → C1 → Hd Q → P := by intro c0 c1 h; (repeat' (with_reducible first | refine nY ?_ | (refine mX ?_; try simp only [go_sem, q0, q1, q2, q3, q4, q5]) | refine kD ?_ | refine rD ?_ | refine cP c0 ?_ | refine cP c1 ?_ | refine aO ?_ | fail)); exact h.out) : P := t c0 c1 ⟨h⟩
theorem b0u {P Q : Prop} (h : Q) (t : Hd Q → P := by intro h; (repeat' (with_reducible first | refine nY ?_ | (refine mX ?_; try simp only [go_sem, q0, q1, q2, q3, q4, q5, q6]) | refine kD ?_ | refine rD ?_ | refine aO ?_ | fail)); exact h.out) : P := t ⟨h⟩
theorem a6d {C0 : Prop} (c0 : C0) {P Q : Prop} (h : Q) (t : C0 → Hd Q → P := by intro c0 h; (repeat' (with_reducible first | refine nY ?_ | (refine mX ?_; try simp only [go_sem, q0, q1, q2, q3, q4, q5, q6]) | refine kD ?_ | refine rD ?_ | refine cP c0 ?_ | refine aO ?_ | fail)); exact h.out) : P := t c0 ⟨h⟩
theorem b5o {C0 : Prop} (c0 : C0) {C1 : Prop} (c1 : C1) {P Q : Prop} (h : Q) (t : C0 → C1 → Hd Q → P := by intro c0 c1 h; (repeat' (with_reducible first | refine nY ?_ | (refine mX ?_; try simp only [go_sem, q0, q1, q2, q3, q4, q5, q6]) | refine kD ?_ | refine rD ?_ | refine cP c0 ?_ | refine cP c1 ?_ | refine aO ?_ | fail)); exact h.out) : P := t c0 c1 ⟨h⟩
theorem a1Y {P Q : Prop} (h : Q) (t : Hd Q → P := by intro h; (repeat' (with_reducible first | refine nY ?_ | (refine mX ?_; try simp only [go_sem, q0, q1, q2, q3, q4, q5, q6, q7]) | refine kD ?_ | refine rD ?_ | refine aO ?_ | fail)); exact h.out) : P := t ⟨h⟩
theorem a7M {C0 : Prop} (c0 : C0) {P Q : Prop} (h : Q) (t : C0 → Hd Q → P := by intro c0 h; (repeat' (with_reducible first | refine nY ?_ | (refine mX ?_; try simp only [go_sem, q0, q1, q2, q3, q4, q5, q6, q7]) | refine kD ?_ | refine rD ?_ | refine cP c0 ?_ | refine aO ?_ | fail)); exact h.out) : P := t c0 ⟨h⟩
theorem b1R {C0 : Prop} (c0 : C0) {C1 : Prop} (c1 : C1) {P Q : Prop} (h : Q) (t : C0 → C1 → Hd Q → P := by intro c0 c1 h; (repeat' (with_reducible first | refine nY ?_ | (refine mX ?_; try simp only [go_sem, q0, q1, q2, q3, q4, q5, q6, q7]) | refine kD ?_ | refine rD ?_ | refine cP c0 ?_ | refine cP c1 ?_ | refine aO ?_ | fail)); exact h.out) : P := t c0 c1 ⟨h⟩
theorem a0i {P Q : Prop} (h : Q) (t : Hd Q → P := by intro h; (repeat' (with_reducible first | refine nY ?_ | (refine mX ?_; try simp only [go_sem, q0, q1, q2, q3, q4, q5, q6, q7, q8]) | refine kD ?_ | refine rD ?_ | refine aO ?_ | fail)); exact h.out) : P := t ⟨h⟩
theorem b0v {C0 : Prop} (c0 : C0) {P Q : Prop} (h : Q) (t : C0 → Hd Q → P := by intro c0 h; (repeat' (with_reducible first | refine nY ?_ | (refine mX ?_; try simp only [go_sem, q0, q1, q2, q3, q4, q5, q6, q7, q8]) | refine kD ?_ | refine rD ?_ | refine cP c0 ?_ | refine aO ?_ | fail)); exact h.out) : P := t c0 ⟨h⟩
theorem a7N {C0 : Prop} (c0 : C0) {C1 : Prop} (c1 : C1) {P Q : Prop} (h : Q) (t : C0 → C1 → Hd Q → P := by intro c0 c1 h; (repeat' (with_reducible first | refine nY ?_ | (refine mX ?_; try simp only [go_sem, q0, q1, q2, q3, q4, q5, q6, q7, q8]) | refine kD ?_ | refine rD ?_ | refine cP c0 ?_ | refine cP c1 ?_ | refine aO ?_ | fail)); exact h.out) : P := t c0 c1 ⟨h⟩
theorem pY {P Q : Prop} (h : Q) (t : Hd Q → P := by intro h; (repeat' (with_reducible first | refine nY ?_ | (refine mX ?_; try simp only [go_sem, q0, q1, q2, q3, q4, q5, q6, q7, q8, q9]) | refine kD ?_ | refine rD ?_ | refine aO ?_ | fail)); exact h.out) : P := t ⟨h⟩
theorem a8O {C0 : Prop} (c0 : C0) {P Q : Prop} (h : Q) (t : C0 → Hd Q → P := by intro c0 h; (repeat' (with_reducible first | refine nY ?_ | (refine mX ?_; try simp only [go_sem, q0, q1, q2, q3, q4, q5, q6, q7, q8, q9]) | refine kD ?_ | refine rD ?_ | refine cP c0 ?_ | refine aO ?_ | fail)); exact h.out) : P := t c0 ⟨h⟩
theorem a6e {C0 : Prop} (c0 : C0) {C1 : Prop} (c1 : C1) {P Q : Prop} (h : Q) (t : C0 → C1 → Hd Q → P := by intro c0 c1 h; (repeat' (with_reducible first | refine nY ?_ | (refine mX ?_; try simp only [go_sem, q0, q1, q2, q3, q4, q5, q6, q7, q8, q9]) | refine kD ?_ | refine rD ?_ | refine cP c0 ?_ | refine cP c1 ?_ | refine aO ?_ | fail)); exact h.out) : P := t c0 c1 ⟨h⟩
end Go.Sx
end
