/- Joined texts. -/
import Derived.Test.YtddimbdeggomaaaGreatZ03
import Derived.KernelRfl
set_option linter.all false
section
section
set_option linter.all false
namespace Go.Sx
open Go Go.RowKit
inductive Plan where
 | node : List (Nat × Plan) → Plan
def planL (ops : List Oper) : Nat → Array Bool → List (Nat × Plan) → Bool
 | 0, listed, l => (Region.ready .any ops.toArray listed).isEmpty && l.isEmpty
 | n + 1, listed, l => decide (Region.ready .any ops.toArray listed = l.map (·.1)) && l.all fun p => match p.2 with
  | .node r => planL ops n (listed.setIfInBounds p.1 true) r
section
variable {E : Env}
def vcPlan (E : Env) (ops : List Oper) : Nat → List (Nat × Plan) → St → (St → Prop) → Prop
 | 0, _, st, K => K st
 | _ + 1, [], st, K => K st
 | n + 1, l, st, K => ∀ p ∈ l, match p.2 with
  | .node r => match ops[p.1]? with
   | some o => vcOps E ops [o] st fun st' => vcPlan E ops n r st' K
   | none => False
end
structure vcPT (E : Env) (all : List Oper) (n : Nat) (l : List (Nat × Plan)) (st : St) (K : St → Prop) (t : Tie (all, l, K)) : Prop where
 out : vcPlan E all n l st K
structure vcPL (E : Env) (all : List Oper) (n : Nat) (l : List (Nat × Plan)) (st : St) (K : St → Prop) (t : Tie (all, l, K)) : Prop where
 out : ∀ p ∈ l, match p.2 with
  | .node r => match all[p.1]? with
   | some o => vcOps E all [o] st fun st' => vcPlan E all n r st' K
   | none => False
def vcAt (E : Env) (all : List Oper) (i : Nat) (st : St) (k : St → Prop) (_ : Tie k) : Prop := match nthO all i with
 | some o => vcStep E all o st k ⟨⟩
 | none => False
section
variable {E : Env}
end
attribute [go_sem] vcAt
end Go.Sx
end
section
set_option linter.all false
namespace Go.Sx
open Go Go.RowKit
def isCa (ds : List Nat) (o : Oper) : Bool := match o.op with
 | .call _ => (match o.dst with | some d => memN d ds | none => false)
 | _ => false
def isEf (ds : List Nat) (o : Oper) : Bool := isStX o || isCa ds o
def rdX (ds : List Nat) : List Oper → List Oper
 | [] => []
 | o :: r => if isEf ds o then rdX ds r else o :: rdX ds r
def noSt : List Oper → List Oper
 | [] => []
 | o :: r => if isStX o then noSt r else o :: noSt r
structure CallG (E : Env) (f : Nat) (args : List SV) (h : List HB) (k : List HB → SV → Prop) (t : Tie k) : Prop where
 out : ∃ h' s, (∀ T, CallS E f args ⟨T, h⟩ fun st2 s2 => st2 = ⟨T, h'⟩ ∧ s2 = s) ∧ k h' s
theorem CallG.frz {E : Env} {f : Nat} {args args' : List SV} {res : SV} {h : List HB} {k : List HB → SV → Prop} (hf : FnC E.P f args' res) (he : args.map (pureS (frzH h (idsS args))) = args') (hfree : args'.all freeS = true) (hk : k (frzH h (idsS args) ++ adH res.all) (adS (frzH h (idsS args)).length res)) : CallG E f args h k ⟨⟩ :=
 ⟨_, _, fun T => CallS.frz (st := ⟨T, h⟩) hf he hfree ⟨rfl, rfl⟩, hk⟩
theorem CallG.lend {E : Env} {f : Nat} {args args' : List SV} {res : SV} {h : List HB} {k : List HB → SV → Prop} (hf : FnC E.P f args' res) (he : args.map (pureOS h) = args') (hfree : args'.all freeS = true) (hres : res.all.all isWS = true) (hk : k (h ++ adG (fun _ => none) 0 res.all) (adS h.length res)) : CallG E f args h k ⟨⟩ :=
 ⟨_, _, fun T => CallS.lend (st := ⟨T, h⟩) hf he hfree hres ⟨rfl, rfl⟩, hk⟩
def vcCa (E : Env) (o : Oper) (st : St) (k : List HB → SV → Prop) : Prop := match o.op with
 | .call c => (match c.callee with
  | .value f => (match ev st f with
   | .o (.f fn caps) => CallG E fn (c.args.toList.map (ev st) ++ caps.map (fun cs => .o (.q cs))) st.h k ⟨⟩
   | _ => False)
  | _ => False)
 | _ => False
def opAt (all : List Oper) (i : Nat) (f : Oper → Bool) : Bool := match all[i]? with
 | some o => f o
 | none => true
def onE (o : Oper) (j : Nat) : Bool := o.after.any fun e => Region.binds .any e && e.on == j
def okStX (all : List Oper) (ps ds : List Nat) : Bool :=
 (List.range all.length).all fun i => opAt all i fun o =>
  (match o.guard with | none => true | some _ => false) && (o.after.all fun e => !Region.binds .any e || decide (e.on < i)) && (isEf ds o == ps.contains i) &&
  (match o.dst with | none => isStX o | some d => !isStX o) &&
  ((List.range all.length).all fun j => opAt all j fun p => match p.dst with
   | none => true
   | some d => ((slotsO (opL o.op)).all fun t => t != d || onE o j) && (j == i || o.dst != some d))
def upPs : List Nat → List Oper → Bool
 | [], _ => true
 | p :: r, all => (r.all fun q => decide (p < q) && opAt all q fun o => onE o p) && upPs r all
def hidX (all : List Oper) (listed : Array Bool) (d : Nat) : Bool := (List.range all.length).any fun j => !listed.getD j true && (match all[j]? with | some o => o.dst == some d | none => false)
def mskX (all : List Oper) (listed : Array Bool) (T : List SV) : List SV := (List.range T.length).map fun d => if hidX all listed d then .o .u else nth T d
section
variable {E : Env}
def chkR (E : Env) (st : St) : List Oper → Prop
 | [] => True
 | o :: r => (match o.dst with
  | some d => vcD E o.op (ev st) st.h fun s => s = nth st.t d
  | none => False) ∧ chkR E st r
def vcEf (E : Env) (o : Oper) (st : St) (k : St → Prop) : Prop := if isStX o then vcOp E o.op st fun st' _ => k st' else vcCa E o st fun h' s => (match o.dst with | some d => s = nth st.t d | none => False) ∧ k ⟨st.t, h'⟩
def vcStI (E : Env) (all : List Oper) (ds : List Nat) : List Nat → St → (St → Prop) → Prop
 | [], st, K => chkR E st (rdX ds all) ∧ K st
 | p :: r, st, K => chkR E st (rdX ds all) ∧ ∃ o, all[p]? = some o ∧ vcEf E o st fun st' => vcStI E all ds r st' K
theorem mskX_len (all : List Oper) (listed : Array Bool) (T : List SV) : (mskX all listed T).length = T.length := by simp [mskX]
theorem mskX_get (all : List Oper) (listed : Array Bool) (T : List SV) (d : Nat) : nth (mskX all listed T) d = if hidX all listed d then .o .u else nth T d := by
 rcases Nat.lt_or_ge d T.length with h | h
 ·rw [nth_eq, List.getD_eq_getElem?_getD]
  simp [mskX, h]
 ·rw [nth_none (by rw [mskX_len]; exact h), nth_none h]
  split <;> rfl
theorem hid_iff (all : List Oper) (listed : Array Bool) (d : Nat) : hidX all listed d = true ↔ ∃ j o, all[j]? = some o ∧ o.dst = some d ∧ listed.getD j true = false := by
 unfold hidX
 rw [List.any_eq_true]
 constructor
 ·rintro ⟨j, _, h⟩
  rw [Bool.and_eq_true] at h
  obtain ⟨h1, h2⟩ := h
  split at h2
  ·rename_i o ho
   exact ⟨j, o, ho, by simpa using h2, by simpa using h1⟩
  ·cases h2
 ·rintro ⟨j, o, ho, hd, hl⟩
  refine ⟨j, List.mem_range.2 (List.getElem?_eq_some_iff.1 ho).1, ?_⟩
  rw [hl, ho]; simp [hd]
theorem chkR_mem {st : St} : ∀ {l : List Oper} {o : Oper}, chkR E st l → o ∈ l → ∃ d, o.dst = some d ∧ vcD E o.op (ev st) st.h fun s => s = nth st.t d
 | [], o, _, h => by simp at h
 | x :: l, o, hc, h => by
  rcases List.mem_cons.1 h with rfl | h
  ·have h1 := hc.1
   split at h1
   ·rename_i d hd; exact ⟨d, hd, h1⟩
   ·exact h1.elim
  ·exact chkR_mem hc.2 h
theorem mem_rdX {ds : List Nat} : ∀ {l : List Oper} {o : Oper}, o ∈ l → isEf ds o = false → o ∈ rdX ds l
 | [], o, h, _ => by simp at h
 | x :: l, o, h, hs => by
  unfold rdX
  rcases List.mem_cons.1 h with rfl | h
  ·rw [hs]; simp
  ·split
   ·exact mem_rdX h hs
   ·exact List.mem_cons_of_mem _ (mem_rdX h hs)
theorem vcStI_chk {all : List Oper} {ds ps : List Nat} {st : St} {K : St → Prop} (h : vcStI E all ds ps st K) : chkR E st (rdX ds all) := by
 cases ps with
 | nil => exact h.1
 | cons p r => exact h.1
theorem store_swap {t : Nat} {x v : Operand} {st : St} {k : St → SV → Prop} {T : List SV} (h : vcOp E (.store t x v) st k) (hx : ev ⟨T, st.h⟩ x = ev st x) (hv : ev ⟨T, st.h⟩ v = ev st v) : vcOp E (.store t x v) ⟨T, st.h⟩ fun st2 _ => ∃ H s, st2 = ⟨T, H⟩ ∧ k ⟨st.t, H⟩ s := by
 simp only [vcOp, hx, hv] at h ⊢
 split at h
 ·unfold vcStoreRow at h ⊢
  dsimp only at h ⊢
  obtain ⟨h1, h2, h3, h4, h5, h⟩ := h
  refine ⟨h1, h2, h3, h4, h5, ?_⟩
  split at h
  ·rename_i e1 e2
   split at h
   ·rename_i e3
    try simp only [e3]
    exact ⟨h.1, h.2.1, _, _, rfl, h.2.2⟩
   ·exact h.elim
  ·exact h.elim
 ·unfold vcStoreOwn at h ⊢
  dsimp only at h ⊢
  split at h
  ·split at h
   ·rename_i e1
    try simp only [e1]
    split at h
    ·rename_i e2 e3
     try simp only [e2, e3]
     exact ⟨h.1, h.2.1, h.2.2.1, h.2.2.2.1, _, _, rfl, h.2.2.2.2⟩
    ·exact h.elim
   ·exact h.elim
  ·exact h.elim
 ·unfold vcStore at h ⊢
  dsimp only at h ⊢
  split at h
  ·split at h
   ·rename_i e1
    try simp only [e1]
    split at h
    ·rename_i e2
     try simp only [e2]
     exact ⟨h.1, h.2.1, h.2.2.1, h.2.2.2.1, _, _, rfl, h.2.2.2.2⟩
    ·exact h.elim
   ·exact h.elim
  ·exact h.elim
def unlX (all : List Oper) (listed : Array Bool) : Nat := ((List.range all.length).filter fun j => !listed.getD j true).length
theorem unlX_step {all : List Oper} {listed : Array Bool} {i : Nat} (hi : i < all.length) (hu : listed.getD i true = false) : unlX all (listed.setIfInBounds i true) < unlX all listed := by
 unfold unlX
 have key : ∀ l : List Nat, i ∈ l → ((l.filter fun j => !(listed.setIfInBounds i true).getD j true).length < (l.filter fun j => !listed.getD j true).length) ∧ True := by
  intro l hl
  refine ⟨?_, trivial⟩
  have le : ∀ l : List Nat, (l.filter fun j => !(listed.setIfInBounds i true).getD j true).length ≤ (l.filter fun j => !listed.getD j true).length := by
   intro l
   induction l with
   | nil => simp
   | cons x l ih =>
    simp only [List.filter_cons]
    by_cases e : i = x
    ·subst e; rw [getD_set_self]; simp only [Bool.not_true, Bool.false_eq_true, if_false]; split <;> (try simp only [List.length_cons]) <;> omega
    ·rw [getD_set_ne true e]; split <;> (try simp only [List.length_cons]) <;> omega
  induction l with
  | nil => simp at hl
  | cons x l ih =>
   simp only [List.filter_cons]
   by_cases e : i = x
   ·subst e
    rw [getD_set_self, hu]
    have := le l
    simp only [Bool.not_true, Bool.not_false, Bool.false_eq_true, if_false, if_true, List.length_cons]; omega
   ·rw [getD_set_ne true e]
    have := ih (by rcases List.mem_cons.1 hl with h | h; exact (e h).elim; exact h)
    split <;> (try simp only [List.length_cons]) <;> omega
 exact (key _ (List.mem_range.2 hi)).1
theorem stores_ok (hT : TyOK E.P E.T) (hE : ∀ t, E.eqk t ≠ [] → EqT E.P t (E.eqk t)) {all : List Oper} {ps0 ds : List Nat} (hok : okStX all ps0 ds = true) {Q : Exit → Act → World → Prop} {K : St → Prop} (hQ : ∀ g V st a w, Rel E.C g V st a w → K st → Q .normal a w) :
    ∀ (n : Nat) (listed : Array Bool) (ps : List Nat) (st : St) (g : List Gh) (V : View) (a : Act) (w : World), listed.size = all.length → unlX all listed ≤ n → upPs ps all = true → (∀ i ∈ ps, i ∈ ps0) → (∀ i, i < all.length → i ∈ ps0 → listed.getD i true = false → i ∈ ps) → (∀ i ∈ ps, listed.getD i true = false) →
     vcStI E all ds ps st K → Rel E.C g V ⟨mskX all listed st.t, st.h⟩ a w → wpAny E.P .any all.toArray Q n listed a w := by
 have spec : ∀ (i : Nat) (o : Oper), all[i]? = some o → o.guard = none ∧ (∀ e ∈ o.after, Region.binds .any e = true → e.on < i) ∧ (isEf ds o = true ↔ i ∈ ps0) ∧ (isStX o = true → o.dst = none) ∧ (isStX o = false → ∃ d, o.dst = some d) ∧
     (∀ (j : Nat) (p : Oper) (d : Nat), all[j]? = some p → p.dst = some d → (∀ t ∈ slotsO (opL o.op), t = d → onE o j = true) ∧ (j ≠ i → o.dst ≠ some d)) := fun i o ho => by
  have h := List.all_eq_true.1 hok i (List.mem_range.2 (List.getElem?_eq_some_iff.1 ho).1)
  unfold opAt at h
  rw [ho] at h
  simp only [Bool.and_eq_true] at h
  obtain ⟨⟨⟨⟨h1, h2⟩, h3⟩, h4⟩, h5⟩ := h
  refine ⟨?_, fun e he hb => ?_, ?_, fun hs => ?_, fun hs => ?_, fun j p d hj hd => ?_⟩
  ·cases hg : o.guard with
   | none => rfl
   | some x => rw [hg] at h1; cases h1
  ·have := (Array.all_eq_true_iff_forall_mem.1 h2) e he
   rw [hb] at this
   simpa using this
  ·have h3 := beq_iff_eq.1 h3
   rw [h3]; exact List.contains_iff_mem
  ·cases hd : o.dst with
   | none => rfl
   | some d => rw [hd, hs] at h4; cases h4
  ·cases hd : o.dst with
   | none => rw [hd, hs] at h4; cases h4
   | some d => exact ⟨d, rfl⟩
  ·have h := List.all_eq_true.1 h5 j (List.mem_range.2 (List.getElem?_eq_some_iff.1 hj).1)
   rw [hj] at h
   simp only [hd, Bool.and_eq_true] at h
   refine ⟨fun t ht e => ?_, fun hne => ?_⟩
   ·have := List.all_eq_true.1 h.1 t ht
    subst e
    simpa using this
   ·rcases Bool.or_eq_true_iff.1 h.2 with h | h
    ·exact (hne (beq_iff_eq.1 h)).elim
    ·simpa using h
 have toT : ∀ {listed : Array Bool} {j : Nat}, listed.getD j false = true → listed.getD j true = true := fun {listed j} h => by
  rcases Nat.lt_or_ge j listed.size with h' | h'
  ·simp [h'] at h ⊢; exact h
  ·simp [Array.getElem?_eq_none h'] at h
 have fin : ∀ (listed : Array Bool) (ps : List Nat) (st : St) (g : List Gh) (V : View) (a : Act) (w : World), (∀ j, j < all.length → listed.getD j true = true) → (∀ i ∈ ps, i ∈ ps0) → (∀ i ∈ ps, listed.getD i true = false) → (∀ i ∈ ps0, True) → vcStI E all ds ps st K → Rel E.C g V ⟨mskX all listed st.t, st.h⟩ a w → Q .normal a w := fun listed ps st g V a w hl h1 h2 _ hv hr => by
  have hm : mskX all listed st.t = st.t := by
   apply List.ext_getElem?
   intro d
   rcases Nat.lt_or_ge d st.t.length with h | h
   ·rw [nth_some (by rw [mskX_len]; exact h), nth_some h, mskX_get]
    have : hidX all listed d = false := by
     cases hh : hidX all listed d with
     | false => rfl
     | true =>
      obtain ⟨j, o, ho, _, hu⟩ := (hid_iff all listed d).1 hh
      rw [hl j (List.getElem?_eq_some_iff.1 ho).1] at hu; cases hu
    rw [this]; simp
   ·rw [List.getElem?_eq_none (by rw [mskX_len]; exact h), List.getElem?_eq_none h]
  rw [hm] at hr
  cases ps with
  | nil => exact hQ _ _ _ _ _ hr hv.2
  | cons p r =>
   obtain ⟨_, o, ho, _⟩ := hv
   have := h2 p (by simp)
   rw [hl p (List.getElem?_eq_some_iff.1 ho).1] at this; cases this
 have none_left : ∀ (listed : Array Bool), listed.size = all.length → Region.ready .any all.toArray listed = [] → ∀ j, j < all.length → listed.getD j true = true := fun listed hsz hr => by
  intro j
  induction j using Nat.strongRecOn with
  | _ j ih =>
   intro hj
   cases hq : listed.getD j true with
   | true => rfl
   | false =>
    have ho : all[j]? = some (all[j]'hj) := List.getElem?_eq_getElem hj
    have : j ∈ Region.ready .any all.toArray listed := mem_ready.2 ⟨hq, _, toA ho, fun e he hb => by
     have hlt := (spec j _ ho).2.1 e he hb
     have h1 := ih e.on hlt (by omega)
     have hes : e.on < listed.size := by omega
     simp [hes] at h1 ⊢; exact h1⟩
    rw [hr] at this; cases this
 intro n
 induction n with
 | zero =>
  intro listed ps st g V a w hsz hn hup hps0 hall hps hv hr
  have hl : ∀ j, j < all.length → listed.getD j true = true := fun j hj => by
   cases hq : listed.getD j true with
   | true => rfl
   | false =>
    have : j ∈ (List.range all.length).filter fun j => !listed.getD j true := List.mem_filter.2 ⟨List.mem_range.2 hj, by rw [hq]; rfl⟩
    have := List.length_pos_of_mem this
    unfold unlX at hn
    omega
  refine ⟨List.eq_nil_iff_forall_not_mem.2 fun i hi => ?_, fin listed ps st g V a w hl hps0 hps (fun _ _ => trivial) hv hr⟩
  obtain ⟨h1, o, h2, _⟩ := mem_ready.1 hi
  rw [hl i (by simpa using (Array.getElem?_eq_some_iff.1 h2).1)] at h1; cases h1
 | succ n ih =>
  intro listed ps st g V a w hsz hn hup hps0 hall hps hv hr
  refine ⟨fun he => fin listed ps st g V a w (none_left listed hsz he) hps0 hps (fun _ _ => trivial) hv hr, fun i hi => ?_⟩
  obtain ⟨hun, o, ho', haft⟩ := mem_ready.1 hi
  have ho : all[i]? = some o := by simpa using ho'
  have hil := (List.getElem?_eq_some_iff.1 ho).1
  obtain ⟨s1, s2, s3, s4, s5, s6⟩ := spec i o ho
  have hun' : unlX all (listed.setIfInBounds i true) ≤ n := by have := unlX_step hil hun; omega
  have evEq : ∀ x ∈ o.op.operands, ev ⟨mskX all listed st.t, st.h⟩ x = ev st x := fun x hx => by
   cases x with
   | tmp t =>
    show nth (mskX all listed st.t) t = nth st.t t
    rw [mskX_get]
    have : hidX all listed t = false := by
     cases hh : hidX all listed t with
     | false => rfl
     | true =>
      obtain ⟨j, p, hj, hd, hu⟩ := (hid_iff all listed t).1 hh
      have h1 := (s6 j p t hj hd).1 t (mem_slotsO.2 (by rw [opL_eq]; simpa using hx)) rfl
      obtain ⟨e, he, hb⟩ := Array.any_eq_true'.1 h1
      simp only [Bool.and_eq_true, beq_iff_eq] at hb
      have h2 := toT (haft e he hb.1)
      rw [hb.2, hu] at h2; cases h2
    rw [this]; simp
   | const v => rfl
   | func f => rfl
   | global m => rfl
  unfold wpOp
  rw [ho']
  simp only [Region.wanted, s1, if_true]
  refine .inl ?_
  have keep : ∀ j, j ≠ i → (listed.setIfInBounds i true).getD j true = listed.getD j true := fun j hj => getD_set_ne true (fun e => hj e.symm)
  have putE : ∀ d, o.dst = some d → ∀ H, (St.put ⟨mskX all listed st.t, H⟩ o.dst (nth st.t d)) = ⟨mskX all (listed.setIfInBounds i true) st.t, H⟩ := fun d hd H => by
      rw [hd]
      simp only [St.put, setN_eq]
      congr 1
      apply List.ext_getElem?
      intro m
      rw [List.getElem?_set]
      rcases Nat.lt_or_ge m st.t.length with hm | hm
      ·rw [nth_some (l := mskX all (listed.setIfInBounds i true) st.t) (by rw [mskX_len]; exact hm), mskX_get]
       by_cases e : d = m
       ·subst e
        rw [if_pos rfl, if_pos (by rw [mskX_len]; exact hm)]
        have : hidX all (listed.setIfInBounds i true) d = false := by
         cases hh : hidX all (listed.setIfInBounds i true) d with
         | false => rfl
         | true =>
          obtain ⟨j, p, hj, hd2, hu⟩ := (hid_iff _ _ d).1 hh
          by_cases e : j = i
          ·subst e; rw [getD_set_self] at hu; cases hu
          ·exact ((s6 j p d hj hd2).2 e hd).elim
        rw [this]; simp
       ·rw [if_neg e, nth_some (by rw [mskX_len]; exact hm), mskX_get]
        have : hidX all (listed.setIfInBounds i true) m = hidX all listed m := by
         rw [Bool.eq_iff_iff, hid_iff, hid_iff]
         constructor
         ·rintro ⟨j, p, hj, hd2, hu⟩
          refine ⟨j, p, hj, hd2, ?_⟩
          by_cases e2 : j = i
          ·subst e2; rw [getD_set_self] at hu; cases hu
          ·rwa [keep j e2] at hu
         ·rintro ⟨j, p, hj, hd2, hu⟩
          refine ⟨j, p, hj, hd2, ?_⟩
          by_cases e2 : j = i
          ·subst e2; rw [ho] at hj; cases hj; rw [hd] at hd2; cases hd2; exact (e rfl).elim
          ·rwa [keep j e2]
        rw [this]
      ·rw [List.getElem?_eq_none (l := mskX all (listed.setIfInBounds i true) st.t) (by rw [mskX_len]; exact hm)]
       split
       ·rename_i e; subst e
        rw [if_neg (by rw [mskX_len]; omega)]
       ·rw [List.getElem?_eq_none (l := mskX all listed st.t) (by rw [mskX_len]; exact hm)]
  cases hef : isEf ds o with
  | false =>
   have hs : isStX o = false := by unfold isEf at hef; exact (Bool.or_eq_false_iff.1 hef).1
   have hmem := mem_rdX (List.mem_of_getElem? ho) hef
   obtain ⟨d, hd, hvc⟩ := chkR_mem (vcStI_chk hv) hmem
   have h1 := vcD_vcOp (st := ⟨mskX all listed st.t, st.h⟩) (vcD_congr (fun x hx => (evEq x hx).symm) hvc)
   refine vcOp_ok hT hE h1 hr fun g' V' st' w' s y hr' hsy hk => ?_
   obtain ⟨rfl, rfl⟩ := hk
   have hnot : i ∉ ps := fun hm => by
    have := s3.2 (hps0 i hm)
    rw [hef] at this; cases this
   have hr2 := hr'.put o.dst hsy
   rw [putE d hd] at hr2
   exact ih _ ps st g' V' _ _ (by simp [hsz]) hun' hup hps0 (fun j hj hj0 hu => by
    by_cases e2 : j = i
    ·subst e2; rw [getD_set_self] at hu; cases hu
    ·rw [keep j e2] at hu; exact hall j hj hj0 hu) (fun j hj => by
    have e2 : j ≠ i := fun e => hnot (e ▸ hj)
    rw [keep j e2]; exact hps j hj) hv hr2
  | true =>
   have hip := hall i hil (s3.1 hef) hun
   cases ps with
   | nil => simp at hip
   | cons p r =>
    obtain ⟨hc, o2, ho2, hvo⟩ := hv
    unfold upPs at hup
    rw [Bool.and_eq_true] at hup
    have hpi : p = i := by
     rcases List.mem_cons.1 hip with e | hm
     ·exact e.symm
     ·have h1 := List.all_eq_true.1 hup.1 i hm
      unfold opAt at h1
      rw [ho] at h1
      simp only [Bool.and_eq_true] at h1
      obtain ⟨e, he, hb⟩ := Array.any_eq_true'.1 h1.2
      simp only [Bool.and_eq_true, beq_iff_eq] at hb
      have h2 := toT (haft e he hb.1)
      rw [hb.2, hps p (by simp)] at h2; cases h2
    subst hpi
    rw [ho] at ho2; cases ho2
    have hlt : ∀ q ∈ r, p < q := fun q hq => by
     have := List.all_eq_true.1 hup.1 q hq
     rw [Bool.and_eq_true] at this
     exact of_decide_eq_true this.1
    have rest : ∀ H g' V' a' w', Rel E.C g' V' ⟨mskX all (listed.setIfInBounds p true) st.t, H⟩ a' w' → vcStI E all ds r ⟨st.t, H⟩ K → wpAny E.P .any all.toArray Q n (listed.setIfInBounds p true) a' w' := fun H g' V' a' w' hr2 hk =>
     ih _ r ⟨st.t, H⟩ g' V' _ _ (by simp [hsz]) hun' hup.2 (fun j hj => hps0 j (List.mem_cons_of_mem _ hj)) (fun j hj hj0 hu => by
      by_cases e2 : j = p
      ·subst e2; rw [getD_set_self] at hu; cases hu
      ·rw [keep j e2] at hu
       rcases List.mem_cons.1 (hall j hj hj0 hu) with e | h
       ·exact (e2 e).elim
       ·exact h) (fun j hj => by
      have := hlt j hj
      rw [keep j (by omega)]; exact hps j (List.mem_cons_of_mem _ hj)) hk hr2
    cases hs : isStX o with
    | false =>
     unfold vcEf at hvo
     rw [if_neg (by rw [hs]; simp)] at hvo
     obtain ⟨d, hd⟩ := s5 hs
     unfold vcCa at hvo
     split at hvo
     ·rename_i c hop
      split at hvo
      ·rename_i f hc
       have hfe : ev ⟨mskX all listed st.t, st.h⟩ f = ev st f := evEq f (by rw [hop]; simp [Op.operands, Call.operands, hc])
       have hargs : c.args.toList.map (ev ⟨mskX all listed st.t, st.h⟩) = c.args.toList.map (ev st) := List.map_congr_left fun x hx => evEq x (by rw [hop]; simp only [Op.operands, Call.operands, Array.mem_append]; exact .inr (by simpa using hx))
       split at hvo
       ·rename_i fn caps hfn
        obtain ⟨h', s', hcall, hsd, hk⟩ := hvo
        rw [hd] at hsd
        have hsd : s' = nth st.t d := hsd
        subst hsd
        have h1 : vcOp E o.op ⟨mskX all listed st.t, st.h⟩ fun st2 s2 => st2 = ⟨mskX all listed st.t, h'⟩ ∧ s2 = nth st.t d := by
         rw [hop]
         simp only [vcOp, vcCall, hc, hfe, hfn, hargs]
         exact ⟨hcall _⟩
        refine vcOp_ok hT hE h1 hr fun g' V' st' w' s y hr' hsy hk2 => ?_
        obtain ⟨rfl, rfl⟩ := hk2
        have hr2 := hr'.put o.dst hsy
        rw [putE d hd] at hr2
        exact rest h' g' V' _ _ hr2 hk
       ·exact hvo.elim
      ·exact hvo.elim
     ·exact hvo.elim
    | true =>
    unfold vcEf at hvo
    rw [if_pos hs] at hvo
    have hd := s4 hs
    obtain ⟨t, x, v, hop⟩ : ∃ t x v, o.op = .store t x v := by
     unfold isStX at hs
     split at hs
     ·rename_i t x v e; exact ⟨t, x, v, e⟩
     ·cases hs
    rw [hop] at hvo
    have h1 := store_swap (T := mskX all listed st.t) hvo (evEq x (by rw [hop]; simp [Op.operands])) (evEq v (by rw [hop]; simp [Op.operands]))
    rw [← hop] at h1
    refine vcOp_ok hT hE h1 hr fun g' V' st' w' s y hr' hsy hk => ?_
    obtain ⟨H, s', rfl, hk⟩ := hk
    have hr2 := hr'.put o.dst hsy
    rw [hd] at hr2 ⊢
    have em : mskX all (listed.setIfInBounds p true) st.t = mskX all listed st.t := by
     unfold mskX
     refine List.map_congr_left fun m _ => ?_
     have : hidX all (listed.setIfInBounds p true) m = hidX all listed m := by
      rw [Bool.eq_iff_iff, hid_iff, hid_iff]
      constructor
      ·rintro ⟨j, q, hj, hd2, hu⟩
       refine ⟨j, q, hj, hd2, ?_⟩
       by_cases e2 : j = p
       ·subst e2; rw [getD_set_self] at hu; cases hu
       ·rwa [keep j e2] at hu
      ·rintro ⟨j, q, hj, hd2, hu⟩
       refine ⟨j, q, hj, hd2, ?_⟩
       by_cases e2 : j = p
       ·subst e2; rw [ho] at hj; cases hj; rw [hd] at hd2; cases hd2
       ·rwa [keep j e2]
     rw [this]
    refine rest H g' V' _ _ ?_ hk
    rw [em]; exact hr2
theorem leT_of : ∀ {l m : List SV}, l.length = m.length → (∀ d, d < m.length → nth m d = .o .u ∨ nth l d = nth m d) → leT l m
 | [], [], _, _ => trivial
 | [], _ :: _, h, _ => by simp at h
 | _ :: _, [], h, _ => by simp at h
 | x :: l, y :: m, h, k => ⟨k 0 (by simp), leT_of (by simpa using h) fun d hd => k (d + 1) (by simpa using hd)⟩
theorem leH_same : ∀ h : List HB, leH h h
 | [] => trivial
 | _ :: l => ⟨.inr rfl, leH_same l⟩
theorem nth_put {st : St} {d n : Nat} {s : SV} (h : n ≠ d) : nth (st.put (some d) s).t n = nth st.t n := by
 have h' : d ≠ n := fun e => h e.symm
 simp only [St.put, setN_eq, nth_eq, List.getD_eq_getElem?_getD, List.getElem?_set, if_neg h']
def vcGo (E : Env) (ds : List Nat) (all : List Oper) (o : Oper) (st : St) (k : St → Prop) : Prop := if isCa ds o then vcCa E o st fun h' s => k ⟨(st.put o.dst s).t, h'⟩ else sop E all o st k
def vcGs (E : Env) (ds : List Nat) (all : List Oper) : List Oper → St → (St → Prop) → Prop
 | [], st, K => K st
 | o :: r, st, K => vcGo E ds all o st fun st' => vcGs E ds all r st' K
theorem vcGs_end {ds : List Nat} {all : List Oper} : ∀ {l : List Oper} {st : St} {K : St → Prop}, vcGs E ds all l st K → ∃ st1, K st1 ∧ st1.t.length = st.t.length ∧ ∀ d, (∀ o ∈ l, o.dst ≠ some d) → nth st1.t d = nth st.t d
 | [], st, K, h => ⟨st, h, rfl, fun _ _ => rfl⟩
 | o :: l, st, K, h => by
  have key : ∃ s H, vcGs E ds all l ⟨(st.put o.dst s).t, H⟩ K := by
   unfold vcGs vcGo at h
   split at h
   ·unfold vcCa at h
    split at h
    ·split at h
     ·split at h
      ·obtain ⟨h', s, _, hk⟩ := h; exact ⟨s, h', hk⟩
      ·exact h.elim
     ·exact h.elim
    ·exact h.elim
   ·obtain ⟨s, h1, _⟩ := sop_det h; exact ⟨s, (st.put o.dst s).h, h1⟩
  obtain ⟨s, H, h1⟩ := key
  obtain ⟨st1, k1, k3, k4⟩ := vcGs_end h1
  refine ⟨st1, k1, by rw [k3]; exact put_len .., fun d hd => ?_⟩
  rw [k4 d fun p hp => hd p (List.mem_cons_of_mem _ hp)]
  cases ho : o.dst with
  | none => rfl
  | some e => exact nth_put fun e2 => hd o (by simp) (by rw [ho, e2])
theorem noSt_sub : ∀ {l : List Oper} {o : Oper}, o ∈ noSt l → o ∈ l
 | [], o, h => by simp [noSt] at h
 | x :: l, o, h => by
  unfold noSt at h
  split at h
  ·exact List.mem_cons_of_mem _ (noSt_sub h)
  ·rcases List.mem_cons.1 h with rfl | h
   ·simp
   ·exact List.mem_cons_of_mem _ (noSt_sub h)
theorem WP_stores (hT : TyOK E.P E.T) (hE : ∀ t, E.eqk t ≠ [] → EqT E.P t (E.eqk t)) (hm : E.P.follows .mixedOrders = true) {id : Nat} {ops : List Oper} {F : Ex → St → Prop} {st : St} (ps ds : List Nat) (hok : okStX ops ps ds = true) (hup : upPs ps ops = true) (hlt : (ps.all fun i => decide (i < ops.length)) = true) (hb : st.okB = true)
    (h : vcGs E ds ops (noSt ops) st fun st1 => vcStI E ops ds ps ⟨st1.t, st.h⟩ (F .normal)) : WP E.P E.C (.region id ops.toArray true) F st := fun g V a w hr => by
 refine wp_region_any hm ?_
 obtain ⟨st1, k1, k3, k4⟩ := vcGs_end h
 have hf : ∀ j : Nat, j < ops.length → (Array.replicate ops.toArray.size false).getD j true = false := fun j hj => by simp [hj]
 have hle : st.le ⟨mskX ops (Array.replicate ops.toArray.size false) st1.t, st.h⟩ := by
  refine ⟨leT_of (by rw [mskX_len, k3]) fun d _ => ?_, leH_same _⟩
  rw [mskX_get]
  cases hh : hidX ops (Array.replicate ops.toArray.size false) d with
  | true => exact .inl rfl
  | false =>
   right
   simp only [Bool.false_eq_true, if_false]
   refine (k4 d fun o ho hd => ?_).symm
   obtain ⟨j, hj⟩ := List.mem_iff_getElem?.1 (noSt_sub ho)
   have := (hid_iff ops (Array.replicate ops.toArray.size false) d).2 ⟨j, o, hj, hd, hf j (List.getElem?_eq_some_iff.1 hj).1⟩
   rw [hh] at this; cases this
 have hbt : ((mskX ops (Array.replicate ops.toArray.size false) st1.t).all (·.below st.h.length) && st.h.all (·.below st.h.length)) = true := by
  unfold St.okB at hb
  rw [Bool.and_eq_true] at hb ⊢
  refine ⟨List.all_eq_true.2 fun s hs => ?_, hb.2⟩
  obtain ⟨d, hd⟩ := List.mem_iff_getElem?.1 hs
  rcases (hle.1.get).2 d s hd with e | e
  ·subst e; rfl
  ·exact List.all_eq_true.1 hb.1 s (List.mem_of_getElem? e)
 have := stores_ok hT hE hok (Q := fun e a w => Post E.C F e a w) (fun g V st _ _ hr h => ⟨g, V, st, hr, h⟩) ops.toArray.size (Array.replicate ops.toArray.size false) ps ⟨st1.t, st.h⟩ _ V a { w with drawn := w.drawn + 1 } (by simp)
  (by unfold unlX; exact Nat.le_trans (List.length_filter_le _ _) (by simp)) hup (fun i hi => hi) (fun i _ hi _ => hi) (fun i hi => hf i (of_decide_eq_true (List.all_eq_true.1 hlt i hi))) k1 ((hr.drawn).forget hle hbt)
 exact this
end
structure vcStT (E : Env) (all l : List Oper) (ds ps : List Nat) (st : St) (K : St → Prop) (t : Tie (all, l, K)) : Prop where
 out : rdX ds all = l → vcStI E all ds ps st K
structure vcGRun (E : Env) (ds : List Nat) (all l : List Oper) (st : St) (K : St → Prop) (t : Tie (all, l, K)) : Prop where
 out : vcGs E ds all l st K
def vcGStep (E : Env) (ds : List Nat) (all : List Oper) (o : Oper) (st : St) (k : St → Prop) (_ : Tie k) : Prop := vcGo E ds all o st k
def vcAtS (E : Env) (all : List Oper) (i : Nat) (st : St) (k : St → Prop) (_ : Tie k) : Prop := match nthO all i with
 | some o => vcEf E o st k
 | none => False
section
variable {E : Env}
theorem grun_cons {ds : List Nat} {all r : List Oper} {o : Oper} {st : St} {K : St → Prop} (h : vcGStep E ds all o st (fun st' => vcGRun E ds all r st' K ⟨⟩) ⟨⟩) : vcGRun E ds all (o :: r) st K ⟨⟩ := by
 have e : (fun st' => vcGRun E ds all r st' K ⟨⟩) = (fun st' => vcGs E ds all r st' K) := funext fun s => propext ⟨fun h => h.out, fun h => ⟨h⟩⟩
 rw [e] at h
 exact ⟨h⟩
theorem grun_nil {ds : List Nat} {all : List Oper} {st : St} {K : St → Prop} (h : K st) : vcGRun E ds all [] st K ⟨⟩ := ⟨h⟩
theorem st_nil {ds : List Nat} {all l : List Oper} {st : St} {K : St → Prop} (hc : chkR E st l) (h : K st) : vcStT E all l ds [] st K ⟨⟩ := ⟨fun e => ⟨e ▸ hc, h⟩⟩
theorem st_cons {ds : List Nat} {all l : List Oper} {p : Nat} {r : List Nat} {st : St} {K : St → Prop} (hc : chkR E st l) (h : vcAtS E all p st (fun st' => vcStT E all l ds r st' K ⟨⟩) ⟨⟩) : vcStT E all l ds (p :: r) st K ⟨⟩ := ⟨fun e => by
 refine ⟨e ▸ hc, ?_⟩
 have e2 : (fun st' => vcStT E all l ds r st' K ⟨⟩) = (fun st' => vcStI E all ds r st' K) := funext fun s => propext ⟨fun h => h.out e, fun h => ⟨fun _ => h⟩⟩
 rw [e2] at h
 unfold vcAtS at h
 rw [nthO_eq] at h
 split at h
 ·rename_i o ho; exact ⟨o, ho, h⟩
 ·exact h.elim⟩
end
attribute [go_sem] chkR vcAtS rdX noSt isEf isCa vcEf vcCa vcGStep vcGo
end Go.Sx
end
section
set_option linter.all false
namespace Go.Sx
open Go Go.RowKit
def cutK (G : St) (F : Ex → St → Prop) : Ex → St → Prop
 | .normal, s => s.le G ∧ G.okB = true
 | .exit j, s => F (.exit j) s
 | .ret, s => F .ret s
def cutG (c : Code) (st : St) (M : List (Nat × SV)) (H : List (Nat × HB)) : St := ⟨mds (fgt st.t (dsts c)) M, mhs st.h H⟩
section
variable {P : Program} {C : Ctx} {ks : List Kn} {F : Ex → St → Prop} {st : St}
theorem WP_cut {c c2 : Code} (M : List (Nat × SV)) (H : List (Nat × HB)) (h1 : WP P C c (kont P C [] (cutK (cutG c st M H) (kont P C (.code c2 :: ks) F))) st) (h2 : WP P C c2 (kont P C ks F) (cutG c st M H)) : WP P C c (kont P C (.code c2 :: ks) F) st := fun g V a w hr =>
 wp_mono (h1 g V a w hr) fun e a w q => by
  cases e with
  | normal =>
   obtain ⟨g, V, s, hs, hle, hok⟩ := q
   exact ⟨_, V, _, hs.forget hle hok, h2⟩
  | exit j => obtain ⟨g, V, s, hs, q⟩ := q; exact ⟨g, V, s, hs, q⟩
  | ret => obtain ⟨g, V, s, hs, q⟩ := q; exact ⟨g, V, s, hs, q⟩
  | goto l => exact q.elim
  | panic ch => exact q.elim
  | outgrown => exact q.elim
theorem cut_done {G s : St} (h : s.le G) (hb : G.okB = true) : cutK G F .normal s := ⟨h, hb⟩
theorem cut_ret {G s : St} (h : F .ret s) : cutK G F .ret s := h
theorem cut_exit {G s : St} {j : Nat} (h : F (.exit j) s) : cutK G F (.exit j) s := h
end
attribute [go_sem] cutG
end Go.Sx
end
section
set_option linter.all false
namespace Go.Sx
open Go Go.RowKit
def Nm (P : Prop) : Prop := P
theorem mX {P : Prop} (h : P) : Nm P := h
theorem uX {P : Prop} (h : Nm P) : P := h
def Ar (P : Prop) : Prop := P
theorem aX {P : Prop} (h : Ar P) : P := h
theorem uA {P : Prop} (h : P) : Ar P := h
class Nx (P : Prop) (Q : outParam Prop) : Prop where
 nx : Q → P
theorem nX {P Q : Prop} [i : Nx P Q] (h : Q) : P := i.nx h
class Ny (P : Prop) (Q : outParam Prop) : Prop where
 ny : Q → P
instance {P Q : Prop} [i : Nx P Q] : Ny P Q := ⟨i.nx⟩
theorem nY {P Q : Prop} [i : Ny P Q] (h : Q) : P := i.ny h
structure cndK (s : SV) (A B : Prop) (t : Tie (A, B)) : Prop where
 out : ∃ b, s = .o (.d (.v (.bool b))) ∧ (b = true → A) ∧ (b = false → B)
theorem cnd {s : SV} {A B : Prop} {b : Bool} (hs : s = .o (.d (.v (.bool b)))) (h1 : b = true → A) (h2 : b = false → B) : cndK s A B ⟨⟩ := ⟨b, hs, h1, h2⟩
instance nCt {A B : Prop} : Nx (cndK (.o (.d (.v (.bool true)))) A B ⟨⟩) A := ⟨fun h => ⟨true, rfl, fun _ => h, fun h => by cases h⟩⟩
instance nCf {A B : Prop} : Nx (cndK (.o (.d (.v (.bool false)))) A B ⟨⟩) B := ⟨fun h => ⟨false, rfl, (fun h => by cases h), fun _ => h⟩⟩
class Cy (P : Program) (f : Nat) (args' : List SV) (res : SV) (G : Prop) (O K : outParam Prop) : Prop where
 cl : FnC P f args' res → O → K → G
theorem cC {P : Program} {f : Nat} {args' : List SV} {res : SV} {G O K : Prop} [i : Cy P f args' res G O K] (h : FnC P f args' res) (o : O) (k : K) : G := i.cl h o k
theorem liftS_isD {s : SV} (h : s.all.all isD = true) : liftS s = s := by
 have key : ∀ cs : List At, cs.all isD = true → liftC cs = cs := by
  intro cs
  induction cs with
  | nil => intro _; rfl
  | cons a r ih =>
   intro h
   rw [List.all_cons, Bool.and_eq_true] at h
   cases a <;> first | (simp only [liftC, ih h.2]; done) | simp [isD] at h
 cases s with
 | o a => cases a <;> first | rfl | simp [SV.all, isD] at h
 | g cs => exact congrArg SV.g (key cs h)
 | t l => rfl
section
variable {P : Program} {C : Ctx} {F : Ex → St → Prop} {st : St} {ks : List Kn}
instance nRet : Nx (WP P C .ret (kont P C ks F) st) (kont P C ks F .ret st) := ⟨WP_ret⟩
instance nSkip : Nx (WP P C .skip (kont P C ks F) st) (kont P C ks F .normal st) := ⟨WP_skip⟩
instance nExit {id : Nat} : Nx (WP P C (.exit id) (kont P C ks F) st) (kont P C ks F (.exit id) st) := ⟨WP_exit⟩
instance nSeq {x y : Code} : Nx (WP P C (.seq x y) (kont P C ks F) st) (WP P C x (kont P C (.code y :: ks) F) st) := ⟨WP_seq⟩
instance nBlock {id : Nat} {c : Code} : Nx (WP P C (.block id c) (kont P C ks F) st) (WP P C c (kont P C (.blk id :: ks) F) st) := ⟨WP_block⟩
instance nCode {c : Code} : Nx (kont P C (.code c :: ks) F .normal st) (WP P C c (kont P C ks F) st) := ⟨K_code⟩
instance nBlk {id : Nat} : Nx (kont P C (.blk id :: ks) F .normal st) (kont P C ks F .normal st) := ⟨K_blk⟩
instance nCodeRet {c : Code} : Nx (kont P C (.code c :: ks) F .ret st) (kont P C ks F .ret st) := ⟨K_code_ret⟩
instance nBlkRet {id : Nat} : Nx (kont P C (.blk id :: ks) F .ret st) (kont P C ks F .ret st) := ⟨K_blk_ret⟩
instance nCodeExit {c : Code} {j : Nat} : Nx (kont P C (.code c :: ks) F (.exit j) st) (kont P C ks F (.exit j) st) := ⟨K_code_exit⟩
instance nBlkExit {id : Nat} : Nx (kont P C (.blk id :: ks) F (.exit id) st) (kont P C ks F .normal st) := ⟨K_blk_exit_same⟩
theorem kO {id j : Nat} (h : kont P C ks F (.exit j) st) (hn : j ≠ id) : kont P C (.blk id :: ks) F (.exit j) st := K_blk_exit_other hn h
instance nNil {e : Ex} : Nx (kont P C [] F e st) (F e st) := ⟨K_nil⟩
instance nLRet {α : Type} {I : α → St} {Q : α → Prop} {μ : α → Nat} {x : α} : Nx (loopK I Q μ x F .ret st) (F .ret st) := ⟨L_ret⟩
instance nLExit {α : Type} {I : α → St} {Q : α → Prop} {μ : α → Nat} {x : α} {j : Nat} : Nx (loopK I Q μ x F (.exit j) st) (F (.exit j) st) := ⟨L_exit⟩
instance nCRet {G s : St} : Nx (cutK G F .ret s) (F .ret s) := ⟨cut_ret⟩
instance nCExit {G s : St} {j : Nat} : Nx (cutK G F (.exit j) s) (F (.exit j) s) := ⟨cut_exit⟩
end
section
variable {E : Env} {all r : List Oper} {o : Oper} {st : St} {K : St → Prop}
instance nRun : Nx (vcRun E all (o :: r) st K ⟨⟩) (Nm (vcStep E all o st (fun st' => vcRun E all r st' K ⟨⟩) ⟨⟩)) := ⟨run_cons⟩
instance nRun0 : Nx (vcRun E all [] st K ⟨⟩) (K st) := ⟨run_nil⟩
instance nDrun : Nx (vcDRun E all (o :: r) st K ⟨⟩) (Nm (vcDStep E all o st (fun st' => vcDRun E all r st' K ⟨⟩) ⟨⟩)) := ⟨drun_cons⟩
instance nDrun0 : Nx (vcDRun E all [] st K ⟨⟩) (K st) := ⟨drun_nil⟩
instance nGrun {ds : List Nat} : Nx (vcGRun E ds all (o :: r) st K ⟨⟩) (Nm (vcGStep E ds all o st (fun st' => vcGRun E ds all r st' K ⟨⟩) ⟨⟩)) := ⟨grun_cons⟩
instance nGrun0 {ds : List Nat} : Nx (vcGRun E ds all [] st K ⟨⟩) (K st) := ⟨grun_nil⟩
instance nXrun : Nx (vcXRun E all (o :: r) st K ⟨⟩) (Nm (vcXStep E all o st (fun st' => vcXRun E all r st' K ⟨⟩) ⟨⟩)) := ⟨xrun_cons⟩
instance nXrun0 : Nx (vcXRun E all [] st K ⟨⟩) (K st) := ⟨xrun_nil⟩
theorem xE {l : List Oper} {s : St} (h : vcRun E all l s K ⟨⟩) (hl : tailX all = l) (hs : finX E all st = s) : vcXEnd E all st K ⟨⟩ := xend hl hs h
end
end Go.Sx
end
section
set_option linter.all false
namespace Go.Sx
open Go Go.RowKit
theorem CallS.lendW {E : Env} {f : Nat} {args args' : List SV} {res : SV} {st : St} {K : St → SV → Prop} (h : FnC E.P f args' res) (he : args.map (pureOS st.h) = args') (hfree : args'.all freeS = true) (hres : res.all.all isWS = true)
    (k : K ⟨st.t, st.h ++ adH res.all⟩ (adS st.h.length res)) : CallS E f args st K := by
 refine ⟨h.enters, fun g V a w vs hr hlen hargs => ?_⟩
 subst he
 have hc : cArgs (lendV V w) (args.map (pureOS st.h)) vs := by
  refine ⟨by simp [hlen], fun i s y h1 h2 => ?_⟩
  have hs := List.all_eq_true.1 hfree s (List.mem_of_getElem? h1)
  rw [List.getElem?_map] at h1
  cases hk : args[i]? with
  | none => rw [hk] at h1; cases h1
  | some s0 =>
   rw [hk] at h1
   cases h1
   exact freeS_ok (pureOS_ok hr (hargs i s0 y hk h2)) hs
 refine (h.calls (lendV V w) w vs (lendV_mod hr.mod) hc).mono ?_
 rintro e w' ⟨y, rfl, ⟨V1, S, hv, hm, hnew, ⟨l, hshape, Ss, r1, r2, r3, r4⟩, hnd, hblk⟩, hbelow⟩
 have hVV' : V.le V1 := (lendV_le V w).trans hv
 subst r3
 have hm0 : Mod V w' := hm.of_le hVV'
 obtain ⟨V', hV'⟩ : ∃ V' : View, V' = fun b => if b < w.heap.size then V b else V1 b := ⟨_, rfl⟩
 have ge : ∀ b, w.heap.size ≤ b → V' b = V1 b := fun b hb => by rw [hV']; exact if_neg (by omega)
 have hle : V.le V' := fun b cs hb => ⟨cs, by rw [hV']; simp only [if_pos (hr.mod.lt hb), hb], List.prefix_refl _⟩
 have hnone : ∀ b, w.heap.size ≤ b → lendV V w b = none := fun b hb => (lendV_mod hr.mod).fresh hb
 have hr1 : Rel E.C g V' st a w' := hr.later hle (fun b cs hb => by
  rw [hV'] at hb
  simp only at hb
  split at hb
  ·exact hm0 b cs hb
  ·exact hm b cs hb) hbelow (fun b cs hb hn => by
  rcases Nat.lt_or_ge b w.heap.size with hlt | hge
  ·rw [hV'] at hb
   simp only [if_pos hlt] at hb
   rw [hb] at hn; cases hn
  ·rw [ge b hge] at hb
   exact hnew b cs hb (hnone b hge))
 have r5 : ∀ (k : Nat) (x : At) (y : Value) (s : List Nat), res.all[k]? = some x → l[k]? = some y → Ss[k]? = some s → rAt V' w' x y s := fun k x y s e1 e2 e3 => by
  have hr4 := r4 k x y s e1 e2 e3
  have hw := List.all_eq_true.1 hres x (List.mem_of_getElem? e1)
  have hin : ∀ b ∈ s, w.heap.size ≤ b := fun b hb => (hblk b (List.mem_flatten.2 ⟨s, List.mem_of_getElem? e3, hb⟩)).1
  cases x with
  | d x => cases x with
   | v x =>
    obtain ⟨q1, T, hT⟩ := hr4
    cases hT with
    | v _ hsc => exact ⟨q1, _, .v _ hsc⟩
   | sl r => simp [isWS] at hw
  | w ty sz rows =>
   obtain ⟨p0, ys, Ts, p1, p2⟩ := hr4
   have lay : (∀ b ∈ Ts.flatten, b ∈ s) → LayL V' rows.flatten ys Ts := fun hsub => ⟨p1.1, p1.2.1, fun j d z T h1 h2 h3 => (p1.2.2 j d z T h1 h2 h3).restrict fun b hb cs hcs => ⟨cs, by rw [ge b (hin b (hsub b (List.mem_flatten.2 ⟨T, List.mem_of_getElem? h3, hb⟩)))]; exact hcs, List.prefix_refl _⟩⟩
   rcases p2 with ⟨q1, rfl, q3⟩ | ⟨b, cap, c, q1, q2, q3, q4, q5, q6, q7, q8⟩
   ·have hT : Ts = [] := by have := p1.2.1; simpa using this
    subst hT
    exact ⟨p0, ys, [], lay (fun b hb => by simp at hb), .inl ⟨q1, rfl, q3⟩⟩
   ·exact ⟨p0, ys, Ts, lay (fun b' hb' => by rw [q8]; exact List.mem_cons_of_mem _ hb'), .inr ⟨b, cap, c, q1, q2, q3, q4, q5, q6, by rw [ge b (hin b (by rw [q8]; simp))]; exact q7, q8⟩⟩
  | _ => simp [isWS] at hw
 obtain ⟨g', h1, h2, h3⟩ := adopt_ok (cs := res.all) hr1 r1 r2 r5 hnd (fun b hb => ⟨.inl (Nat.le_trans hr.fr.size (hblk b hb).1), (hblk b hb).2, fun i hb' x e1 e2 hm' => by
  have := (hr.hp.lo i hb' x e1 e2 b hm').2
  have := (hblk b hb).1
  omega⟩)
 refine ⟨y, g', V', _, _, rfl, h1, ?_, k⟩
 cases res with
 | o x =>
  have hl : l = [y] := hshape
  subst hl
  simp only [SV.all] at h3
  simp only [adS]
  have hlen1 : (adA st.h.length [x]).length = 1 := adA_len _ _
  match he' : adA st.h.length [x], hlen1 with
  | [z], _ =>
   rw [he'] at h3
   exact h3.2 0 z y rfl rfl
 | g cs => exact ⟨l, hshape, h3⟩
 | t cs =>
  obtain ⟨ls, e1, e2, e3, ys, e4, e5, e6⟩ := hshape
  subst e2
  refine ⟨ys, e4, by rw [e5, adT_len], fun i b c v hi hv' => ?_⟩
  have hlt : i < ls.length := by rw [e1, ← adT_len st.h.length cs]; exact (List.getElem?_eq_some_iff.1 hi).1
  have hm' : ls[i]? = some ls[i] := List.getElem?_eq_getElem hlt
  obtain ⟨⟨c0, hc0⟩, hcc⟩ := adT_get st.h.length cs ls e1 e3 h3 i b c _ hi hm'
  have := e6 i b c0 _ v hc0 hm' hv'
  cases b with
  | true => simp only [if_true] at this ⊢; exact ⟨_, this, hcc⟩
  | false => simp only [Bool.false_eq_true, if_false] at this ⊢; rw [← this]; exact hcc
theorem CallG.lendW {E : Env} {f : Nat} {args args' : List SV} {res : SV} {h : List HB} {k : List HB → SV → Prop} (hf : FnC E.P f args' res) (he : args.map (pureOS h) = args') (hfree : args'.all freeS = true) (hres : res.all.all isWS = true) (hk : k (h ++ adH res.all) (adS h.length res)) : CallG E f args h k ⟨⟩ :=
 ⟨_, _, fun T => CallS.lendW (st := ⟨T, h⟩) hf he hfree hres ⟨rfl, rfl⟩, hk⟩
theorem WP_dim {P : Program} {C : Ctx} {c : Code} {F : Ex → St → Prop} {st : St} (id : Nat) {ty sz : Nat} {rows : List (List D)} (h : nthH st.h id = .row ty sz rows true) (k : WP P C c F ⟨st.t, setH st.h id (.row ty sz rows false)⟩) : WP P C c F st := fun g V a w hr => by
 have h1 := nthH_some h (by simp)
 obtain ⟨x, h2⟩ : ∃ x, g[id]? = some x := ⟨_, List.getElem?_eq_getElem (by rw [hr.hp.glen]; exact (List.getElem?_eq_some_iff.1 h1).1)⟩
 refine k g V a w ⟨hr.sl, ?_, hr.mod, hr.fr, hr.vw⟩
 rw [setH_eq]
 obtain ⟨q0, ys, Ss, q1, _, q3⟩ := hr.hp.hb id _ x h1 h2
 have hnd := hr.hp.nd id _ x h1 h2
 refine hr.hp.set id h1 h2 (fun n hn => ?_) ?_ (fun n hn => hn) ⟨q0, ys, Ss, q1, (fun h => by cases h), q3⟩ (fun _ _ => rfl) rfl
 ·simp only [ownB] at hn ⊢
  simp only [Bool.false_eq_true, if_false, List.append_nil] at hn
  exact List.mem_append.2 (.inl hn)
 ·simp only [ownB, Bool.false_eq_true, if_false, List.append_nil] at hnd ⊢
  exact (List.nodup_append.1 hnd).1
end Go.Sx
end
end
section
namespace Go.Sx
open Go Go.RowKit
structure Hd (Q : Prop) : Prop where
 out : Q
theorem w0_0 {P Q : Prop} (h : Q) (t : Hd Q → P := by intro h; (repeat' (with_reducible first | refine nY ?_ | (refine mX ?_; try simp only [go_sem]) | refine kO ?_ (by decide) | refine regd (by kernel_rfl) ?_ | (refine And.intro ?_ ?_; focus omega))); exact h.out) : P := t ⟨h⟩
theorem w0_1 {C0 : Prop} (c0 : C0) {P Q : Prop} (h : Q) (t : C0 → Hd Q → P := by intro c0 h; (repeat' (with_reducible first | refine nY ?_ | (refine mX ?_; try simp only [go_sem]) | refine kO ?_ (by decide) | refine regd (by kernel_rfl) ?_ | (refine cC c0 ?_ ?_; focus simp only [go_sem, and_self]; done) | (refine And.intro ?_ ?_; focus omega))); exact h.out) : P := t c0 ⟨h⟩
theorem w0_2 {C0 : Prop} (c0 : C0) {C1 : Prop} (c1 : C1) {P Q : Prop} (h : Q) (t : C0 → C1 → Hd Q → P := by intro c0 c1 h; (repeat' (with_reducible first | refine nY ?_ | (refine mX ?_; try simp only [go_sem]) | refine kO ?_ (by decide) | refine regd (by kernel_rfl) ?_ | (refine cC c0 ?_ ?_; focus simp only [go_sem, and_self]; done) | (refine cC c1 ?_ ?_; focus simp only [go_sem, and_self]; done) | (refine And.intro ?_ ?_; focus omega))); exact h.out) : P := t c0 c1 ⟨h⟩
theorem w0_3 {C0 : Prop} (c0 : C0) {C1 : Prop} (c1 : C1) {C2 : Prop} (c2 : C2) {P Q : Prop} (h : Q) (t : C0 → C1 → C2 → Hd Q → P := by intro c0 c1 c2 h; (repeat' (with_reducible first | refine nY ?_ | (refine mX ?_; try simp only [go_sem]) | refine kO ?_ (by decide) | refine regd (by kernel_rfl) ?_ | (refine cC c0 ?_ ?_; focus simp only [go_sem, and_self]; done) | (refine cC c1 ?_ ?_; focus simp only [go_sem, and_self]; done) | (refine cC c2 ?_ ?_; focus simp only [go_sem, and_self]; done) | (refine And.intro ?_ ?_; focus omega))); exact h.out) : P := t c0 c1 c2 ⟨h⟩
theorem w1_0 {P Q : Prop} (h : Q) (t : Hd Q → P := by intro h; (repeat' (with_reducible first | refine nY ?_ | (refine mX ?_; try simp only [go_sem, q0]) | refine kO ?_ (by decide) | refine regd (by kernel_rfl) ?_ | (refine And.intro ?_ ?_; focus omega))); exact h.out) : P := t ⟨h⟩
theorem w1_1 {C0 : Prop} (c0 : C0) {P Q : Prop} (h : Q) (t : C0 → Hd Q → P := by intro c0 h; (repeat' (with_reducible first | refine nY ?_ | (refine mX ?_; try simp only [go_sem, q0]) | refine kO ?_ (by decide) | refine regd (by kernel_rfl) ?_ | (refine cC c0 ?_ ?_; focus simp only [go_sem, and_self]; done) | (refine And.intro ?_ ?_; focus omega))); exact h.out) : P := t c0 ⟨h⟩
theorem w1_2 {C0 : Prop} (c0 : C0) {C1 : Prop} (c1 : C1) {P Q : Prop} (h : Q) (t : C0 → C1 → Hd Q → P := by intro c0 c1 h; (repeat' (with_reducible first | refine nY ?_ | (refine mX ?_; try simp only [go_sem, q0]) | refine kO ?_ (by decide) | refine regd (by kernel_rfl) ?_ | (refine cC c0 ?_ ?_; focus simp only [go_sem, and_self]; done) | (refine cC c1 ?_ ?_; focus simp only [go_sem, and_self]; done) | (refine And.intro ?_ ?_; focus omega))); exact h.out) : P := t c0 c1 ⟨h⟩
theorem w1_3 {C0 : Prop} (c0 : C0) {C1 : Prop} (c1 : C1) {C2 : Prop} (c2 : C2) {P Q : Prop} (h : Q) (t : C0 → C1 → C2 → Hd Q → P := by intro c0 c1 c2 h; (repeat' (with_reducible first | refine nY ?_ | (refine mX ?_; try simp only [go_sem, q0]) | refine kO ?_ (by decide) | refine regd (by kernel_rfl) ?_ | (refine cC c0 ?_ ?_; focus simp only [go_sem, and_self]; done) | (refine cC c1 ?_ ?_; focus simp only [go_sem, and_self]; done) | (refine cC c2 ?_ ?_; focus simp only [go_sem, and_self]; done) | (refine And.intro ?_ ?_; focus omega))); exact h.out) : P := t c0 c1 c2 ⟨h⟩
theorem w1_4 {C0 : Prop} (c0 : C0) {C1 : Prop} (c1 : C1) {C2 : Prop} (c2 : C2) {C3 : Prop} (c3 : C3) {P Q : Prop} (h : Q) (t : C0 → C1 → C2 → C3 → Hd Q → P := by intro c0 c1 c2 c3 h; (repeat' (with_reducible first | refine nY ?_ | (refine mX ?_; try simp only [go_sem, q0]) | refine kO ?_ (by decide) | refine regd (by kernel_rfl) ?_ | (refine cC c0 ?_ ?_; focus simp only [go_sem, and_self]; done) | (refine cC c1 ?_ ?_; focus simp only [go_sem, and_self]; done) | (refine cC c2 ?_ ?_; focus simp only [go_sem, and_self]; done) | (refine cC c3 ?_ ?_; focus simp only [go_sem, and_self]; done) | (refine And.intro ?_ ?_; focus omega))); exact h.out) : P := t c0 c1 c2 c3 ⟨h⟩
theorem w2_0 {P Q : Prop} (h : Q) (t : Hd Q → P := by intro h; (repeat' (with_reducible first | refine nY ?_ | (refine mX ?_; try simp only [go_sem, q0, q1]) | refine kO ?_ (by decide) | refine regd (by kernel_rfl) ?_ | (refine And.intro ?_ ?_; focus omega))); exact h.out) : P := t ⟨h⟩
theorem w2_1 {C0 : Prop} (c0 : C0) {P Q : Prop} (h : Q) (t : C0 → Hd Q → P := by intro c0 h; (repeat' (with_reducible first | refine nY ?_ | (refine mX ?_; try simp only [go_sem, q0, q1]) | refine kO ?_ (by decide) | refine regd (by kernel_rfl) ?_ | (refine cC c0 ?_ ?_; focus simp only [go_sem, and_self]; done) | (refine And.intro ?_ ?_; focus omega))); exact h.out) : P := t c0 ⟨h⟩
theorem w2_2 {C0 : Prop} (c0 : C0) {C1 : Prop} (c1 : C1) {P Q : Prop} (h : Q) (t : C0 → C1 → Hd Q → P := by intro c0 c1 h; (repeat' (with_reducible first | refine nY ?_ | (refine mX ?_; try simp only [go_sem, q0, q1]) | refine kO ?_ (by decide) | refine regd (by kernel_rfl) ?_ | (refine cC c0 ?_ ?_; focus simp only [go_sem, and_self]; done) | (refine cC c1 ?_ ?_; focus simp only [go_sem, and_self]; done) | (refine And.intro ?_ ?_; focus omega))); exact h.out) : P := t c0 c1 ⟨h⟩
theorem w2_3 {C0 : Prop} (c0 : C0) {C1 : Prop} (c1 : C1) {C2 : Prop} (c2 : C2) {P Q : Prop} (h : Q) (t : C0 → C1 → C2 → Hd Q → P := by intro c0 c1 c2 h; (repeat' (with_reducible first | refine nY ?_ | (refine mX ?_; try simp only [go_sem, q0, q1]) | refine kO ?_ (by decide) | refine regd (by kernel_rfl) ?_ | (refine cC c0 ?_ ?_; focus simp only [go_sem, and_self]; done) | (refine cC c1 ?_ ?_; focus simp only [go_sem, and_self]; done) | (refine cC c2 ?_ ?_; focus simp only [go_sem, and_self]; done) | (refine And.intro ?_ ?_; focus omega))); exact h.out) : P := t c0 c1 c2 ⟨h⟩
theorem w2_4 {C0 : Prop} (c0 : C0) {C1 : Prop} (c1 : C1) {C2 : Prop} (c2 : C2) {C3 : Prop} (c3 : C3) {P Q : Prop} (h : Q) (t : C0 → C1 → C2 → C3 → Hd Q → P := by intro c0 c1 c2 c3 h; (repeat' (with_reducible first | refine nY ?_ | (refine mX ?_; try simp only [go_sem, q0, q1]) | refine kO ?_ (by decide) | refine regd (by kernel_rfl) ?_ | (refine cC c0 ?_ ?_; focus simp only [go_sem, and_self]; done) | (refine cC c1 ?_ ?_; focus simp only [go_sem, and_self]; done) | (refine cC c2 ?_ ?_; focus simp only [go_sem, and_self]; done) | (refine cC c3 ?_ ?_; focus simp only [go_sem, and_self]; done) | (refine And.intro ?_ ?_; focus omega))); exact h.out) : P := t c0 c1 c2 c3 ⟨h⟩
theorem w3_0 {P Q : Prop} (h : Q) (t : Hd Q → P := by intro h; (repeat' (with_reducible first | refine nY ?_ | (refine mX ?_; try simp only [go_sem, q0, q1, q2]) | refine kO ?_ (by decide) | refine regd (by kernel_rfl) ?_ | (refine And.intro ?_ ?_; focus omega))); exact h.out) : P := t ⟨h⟩
theorem w3_1 {C0 : Prop} (c0 : C0) {P Q : Prop} (h : Q) (t : C0 → Hd Q → P := by intro c0 h; (repeat' (with_reducible first | refine nY ?_ | (refine mX ?_; try simp only [go_sem, q0, q1, q2]) | refine kO ?_ (by decide) | refine regd (by kernel_rfl) ?_ | (refine cC c0 ?_ ?_; focus simp only [go_sem, and_self]; done) | (refine And.intro ?_ ?_; focus omega))); exact h.out) : P := t c0 ⟨h⟩
theorem w3_2 {C0 : Prop} (c0 : C0) {C1 : Prop} (c1 : C1) {P Q : Prop} (h : Q) (t : C0 → C1 → Hd Q → P := by intro c0 c1 h; (repeat' (with_reducible first | refine nY ?_ | (refine mX ?_; try simp only [go_sem, q0, q1, q2]) | refine kO ?_ (by decide) | refine regd (by kernel_rfl) ?_ | (refine cC c0 ?_ ?_; focus simp only [go_sem, and_self]; done) | (refine cC c1 ?_ ?_; focus simp only [go_sem, and_self]; done) | (refine And.intro ?_ ?_; focus omega))); exact h.out) : P := t c0 c1 ⟨h⟩
theorem w3_3 {C0 : Prop} (c0 : C0) {C1 : Prop} (c1 : C1) {C2 : Prop} (c2 : C2) {P Q : Prop} (h : Q) (t : C0 → C1 → C2 → Hd Q → P := by intro c0 c1 c2 h; (repeat' (with_reducible first | refine nY ?_ | (refine mX ?_; try simp only [go_sem, q0, q1, q2]) | refine kO ?_ (by decide) | refine regd (by kernel_rfl) ?_ | (refine cC c0 ?_ ?_; focus simp only [go_sem, and_self]; done) | (refine cC c1 ?_ ?_; focus simp only [go_sem, and_self]; done) | (refine cC c2 ?_ ?_; focus simp only [go_sem, and_self]; done) | (refine And.intro ?_ ?_; focus omega))); exact h.out) : P := t c0 c1 c2 ⟨h⟩
theorem w3_4 {C0 : Prop} (c0 : C0) {C1 : Prop} (c1 : C1) {C2 : Prop} (c2 : C2) {C3 : Prop} (c3 : C3) {P Q : Prop} (h : Q) (t : C0 → C1 → C2 → C3 → Hd Q → P := by intro c0 c1 c2 c3 h; (repeat' (with_reducible first | refine nY ?_ | (refine mX ?_; try simp only [go_sem, q0, q1, q2]) | refine kO ?_ (by decide) | refine regd (by kernel_rfl) ?_ | (refine cC c0 ?_ ?_; focus simp only [go_sem, and_self]; done) | (refine cC c1 ?_ ?_; focus simp only [go_sem, and_self]; done) | (refine cC c2 ?_ ?_; focus simp only [go_sem, and_self]; done) | (refine cC c3 ?_ ?_; focus simp only [go_sem, and_self]; done) | (refine And.intro ?_ ?_; focus omega))); exact h.out) : P := t c0 c1 c2 c3 ⟨h⟩
theorem w4_0 {P Q : Prop} (h : Q) (t : Hd Q → P := by intro h; (repeat' (with_reducible first | refine nY ?_ | (refine mX ?_; try simp only [go_sem, q0, q1, q2, q3]) | refine kO ?_ (by decide) | refine regd (by kernel_rfl) ?_ | (refine And.intro ?_ ?_; focus omega))); exact h.out) : P := t ⟨h⟩
theorem w4_1 {C0 : Prop} (c0 : C0) {P Q : Prop} (h : Q) (t : C0 → Hd Q → P := by intro c0 h; (repeat' (with_reducible first | refine nY ?_ | (refine mX ?_; try simp only [go_sem, q0, q1, q2, q3]) | refine kO ?_ (by decide) | refine regd (by kernel_rfl) ?_ | (refine cC c0 ?_ ?_; focus simp only [go_sem, and_self]; done) | (refine And.intro ?_ ?_; focus omega))); exact h.out) : P := t c0 ⟨h⟩
theorem w4_2 {C0 : Prop} (c0 : C0) {C1 : Prop} (c1 : C1) {P Q : Prop} (h : Q) (t : C0 → C1 → Hd Q → P := by intro c0 c1 h; (repeat' (with_reducible first | refine nY ?_ | (refine mX ?_; try simp only [go_sem, q0, q1, q2, q3]) | refine kO ?_ (by decide) | refine regd (by kernel_rfl) ?_ | (refine cC c0 ?_ ?_; focus simp only [go_sem, and_self]; done) | (refine cC c1 ?_ ?_; focus simp only [go_sem, and_self]; done) | (refine And.intro ?_ ?_; focus omega))); exact h.out) : P := t c0 c1 ⟨h⟩
theorem w4_3 {C0 : Prop} (c0 : C0) {C1 : Prop} (c1 : C1) {C2 : Prop} (c2 : C2) {P Q : Prop} (h : Q) (t : C0 → C1 → C2 → Hd Q → P := by intro c0 c1 c2 h; (repeat' (with_reducible first | refine nY ?_ | (refine mX ?_; try simp only [go_sem, q0, q1, q2, q3]) | refine kO ?_ (by decide) | refine regd (by kernel_rfl) ?_ | (refine cC c0 ?_ ?_; focus simp only [go_sem, and_self]; done) | (refine cC c1 ?_ ?_; focus simp only [go_sem, and_self]; done) | (refine cC c2 ?_ ?_; focus simp only [go_sem, and_self]; done) | (refine And.intro ?_ ?_; focus omega))); exact h.out) : P := t c0 c1 c2 ⟨h⟩
theorem w4_4 {C0 : Prop} (c0 : C0) {C1 : Prop} (c1 : C1) {C2 : Prop} (c2 : C2) {C3 : Prop} (c3 : C3) {P Q : Prop} (h : Q) (t : C0 → C1 → C2 → C3 → Hd Q → P := by intro c0 c1 c2 c3 h; (repeat' (with_reducible first | refine nY ?_ | (refine mX ?_; try simp only [go_sem, q0, q1, q2, q3]) | refine kO ?_ (by decide) | refine regd (by kernel_rfl) ?_ | (refine cC c0 ?_ ?_; focus simp only [go_sem, and_self]; done) | (refine cC c1 ?_ ?_; focus simp only [go_sem, and_self]; done) | (refine cC c2 ?_ ?_; focus simp only [go_sem, and_self]; done) | (refine cC c3 ?_ ?_; focus simp only [go_sem, and_self]; done) | (refine And.intro ?_ ?_; focus omega))); exact h.out) : P := t c0 c1 c2 c3 ⟨h⟩
theorem w5_0 {P Q : Prop} (h : Q) (t : Hd Q → P := by intro h; (repeat' (with_reducible first | refine nY ?_ | (refine mX ?_; try simp only [go_sem, q0, q1, q2, q3, q4]) | refine kO ?_ (by decide) | refine regd (by kernel_rfl) ?_ | (refine And.intro ?_ ?_; focus omega))); exact h.out) : P := t ⟨h⟩
theorem w5_1 {C0 : Prop} (c0 : C0) {P Q : Prop} (h : Q) (t : C0 → Hd Q → P := by intro c0 h; (repeat' (with_reducible first | refine nY ?_ | (refine mX ?_; try simp only [go_sem, q0, q1, q2, q3, q4]) | refine kO ?_ (by decide) | refine regd (by kernel_rfl) ?_ | (refine cC c0 ?_ ?_; focus simp only [go_sem, and_self]; done) | (refine And.intro ?_ ?_; focus omega))); exact h.out) : P := t c0 ⟨h⟩
theorem w5_2 {C0 : Prop} (c0 : C0) {C1 : Prop} (c1 : C1) {P Q : Prop} (h : Q) (t : C0 → C1 → Hd Q → P := by intro c0 c1 h; (repeat' (with_reducible first | refine nY ?_ | (refine mX ?_; try simp only [go_sem, q0, q1, q2, q3, q4]) | refine kO ?_ (by decide) | refine regd (by kernel_rfl) ?_ | (refine cC c0 ?_ ?_; focus simp only [go_sem, and_self]; done) | (refine cC c1 ?_ ?_; focus simp only [go_sem, and_self]; done) | (refine And.intro ?_ ?_; focus omega))); exact h.out) : P := t c0 c1 ⟨h⟩
theorem w5_4 {C0 : Prop} (c0 : C0) {C1 : Prop} (c1 : C1) {C2 : Prop} (c2 : C2) {C3 : Prop} (c3 : C3) {P Q : Prop} (h : Q) (t : C0 → C1 → C2 → C3 → Hd Q → P := by intro c0 c1 c2 c3 h; (repeat' (with_reducible first | refine nY ?_ | (refine mX ?_; try simp only [go_sem, q0, q1, q2, q3, q4]) | refine kO ?_ (by decide) | refine regd (by kernel_rfl) ?_ | (refine cC c0 ?_ ?_; focus simp only [go_sem, and_self]; done) | (refine cC c1 ?_ ?_; focus simp only [go_sem, and_self]; done) | (refine cC c2 ?_ ?_; focus simp only [go_sem, and_self]; done) | (refine cC c3 ?_ ?_; focus simp only [go_sem, and_self]; done) | (refine And.intro ?_ ?_; focus omega))); exact h.out) : P := t c0 c1 c2 c3 ⟨h⟩
theorem w6_0 {P Q : Prop} (h : Q) (t : Hd Q → P := by intro h; (repeat' (with_reducible first | refine nY ?_ | (refine mX ?_; try simp only [go_sem, q0, q1, q2, q3, q4, q5]) | refine kO ?_ (by decide) | refine regd (by kernel_rfl) ?_ | (refine And.intro ?_ ?_; focus omega))); exact h.out) : P := t ⟨h⟩
theorem w6_1 {C0 : Prop} (c0 : C0) {P Q : Prop} (h : Q) (t : C0 → Hd Q → P := by intro c0 h; (repeat' (with_reducible first | refine nY ?_ | (refine mX ?_; try simp only [go_sem, q0, q1, q2, q3, q4, q5]) | refine kO ?_ (by decide) | refine regd (by kernel_rfl) ?_ | (refine cC c0 ?_ ?_; focus simp only [go_sem, and_self]; done) | (refine And.intro ?_ ?_; focus omega))); exact h.out) : P := t c0 ⟨h⟩
theorem w6_2 {C0 : Prop} (c0 : C0) {C1 : Prop} (c1 : C1) {P Q : Prop} (h : Q) (t : C0 → C1 → Hd Q → P := by intro c0 c1 h; (repeat' (with_reducible first | refine nY ?_ | (refine mX ?_; try simp only [go_sem, q0, q1, q2, q3, q4, q5]) | refine kO ?_ (by decide) | refine regd (by kernel_rfl) ?_ | (refine cC c0 ?_ ?_; focus simp only [go_sem, and_self]; done) | (refine cC c1 ?_ ?_; focus simp only [go_sem, and_self]; done) | (refine And.intro ?_ ?_; focus omega))); exact h.out) : P := t c0 c1 ⟨h⟩
theorem w6_3 {C0 : Prop} (c0 : C0) {C1 : Prop} (c1 : C1) {C2 : Prop} (c2 : C2) {P Q : Prop} (h : Q) (t : C0 → C1 → C2 → Hd Q → P := by intro c0 c1 c2 h; (repeat' (with_reducible first | refine nY ?_ | (refine mX ?_; try simp only [go_sem, q0, q1, q2, q3, q4, q5]) | refine kO ?_ (by decide) | refine regd (by kernel_rfl) ?_ | (refine cC c0 ?_ ?_; focus simp only [go_sem, and_self]; done) | (refine cC c1 ?_ ?_; focus simp only [go_sem, and_self]; done) | (refine cC c2 ?_ ?_; focus simp only [go_sem, and_self]; done) | (refine And.intro ?_ ?_; focus omega))); exact h.out) : P := t c0 c1 c2 ⟨h⟩
theorem w7_0 {P Q : Prop} (h : Q) (t : Hd Q → P := by intro h; (repeat' (with_reducible first | refine nY ?_ | (refine mX ?_; try simp only [go_sem, q0, q1, q2, q3, q4, q5, q6]) | refine kO ?_ (by decide) | refine regd (by kernel_rfl) ?_ | (refine And.intro ?_ ?_; focus omega))); exact h.out) : P := t ⟨h⟩
theorem w7_1 {C0 : Prop} (c0 : C0) {P Q : Prop} (h : Q) (t : C0 → Hd Q → P := by intro c0 h; (repeat' (with_reducible first | refine nY ?_ | (refine mX ?_; try simp only [go_sem, q0, q1, q2, q3, q4, q5, q6]) | refine kO ?_ (by decide) | refine regd (by kernel_rfl) ?_ | (refine cC c0 ?_ ?_; focus simp only [go_sem, and_self]; done) | (refine And.intro ?_ ?_; focus omega))); exact h.out) : P := t c0 ⟨h⟩
theorem w7_2 {C0 : Prop} (c0 : C0) {C1 : Prop} (c1 : C1) {P Q : Prop} (h : Q) (t : C0 → C1 → Hd Q → P := by intro c0 c1 h; (repeat' (with_reducible first | refine nY ?_ | (refine mX ?_; try simp only [go_sem, q0, q1, q2, q3, q4, q5, q6]) | refine kO ?_ (by decide) | refine regd (by kernel_rfl) ?_ | (refine cC c0 ?_ ?_; focus simp only [go_sem, and_self]; done) | (refine cC c1 ?_ ?_; focus simp only [go_sem, and_self]; done) | (refine And.intro ?_ ?_; focus omega))); exact h.out) : P := t c0 c1 ⟨h⟩
theorem w8_0 {P Q : Prop} (h : Q) (t : Hd Q → P := by intro h; (repeat' (with_reducible first | refine nY ?_ | (refine mX ?_; try simp only [go_sem, q0, q1, q2, q3, q4, q5, q6, q7]) | refine kO ?_ (by decide) | refine regd (by kernel_rfl) ?_ | (refine And.intro ?_ ?_; focus omega))); exact h.out) : P := t ⟨h⟩
theorem w8_1 {C0 : Prop} (c0 : C0) {P Q : Prop} (h : Q) (t : C0 → Hd Q → P := by intro c0 h; (repeat' (with_reducible first | refine nY ?_ | (refine mX ?_; try simp only [go_sem, q0, q1, q2, q3, q4, q5, q6, q7]) | refine kO ?_ (by decide) | refine regd (by kernel_rfl) ?_ | (refine cC c0 ?_ ?_; focus simp only [go_sem, and_self]; done) | (refine And.intro ?_ ?_; focus omega))); exact h.out) : P := t c0 ⟨h⟩
theorem w8_2 {C0 : Prop} (c0 : C0) {C1 : Prop} (c1 : C1) {P Q : Prop} (h : Q) (t : C0 → C1 → Hd Q → P := by intro c0 c1 h; (repeat' (with_reducible first | refine nY ?_ | (refine mX ?_; try simp only [go_sem, q0, q1, q2, q3, q4, q5, q6, q7]) | refine kO ?_ (by decide) | refine regd (by kernel_rfl) ?_ | (refine cC c0 ?_ ?_; focus simp only [go_sem, and_self]; done) | (refine cC c1 ?_ ?_; focus simp only [go_sem, and_self]; done) | (refine And.intro ?_ ?_; focus omega))); exact h.out) : P := t c0 c1 ⟨h⟩
theorem w9_0 {P Q : Prop} (h : Q) (t : Hd Q → P := by intro h; (repeat' (with_reducible first | refine nY ?_ | (refine mX ?_; try simp only [go_sem, q0, q1, q2, q3, q4, q5, q6, q7, q8]) | refine kO ?_ (by decide) | refine regd (by kernel_rfl) ?_ | (refine And.intro ?_ ?_; focus omega))); exact h.out) : P := t ⟨h⟩
theorem w9_1 {C0 : Prop} (c0 : C0) {P Q : Prop} (h : Q) (t : C0 → Hd Q → P := by intro c0 h; (repeat' (with_reducible first | refine nY ?_ | (refine mX ?_; try simp only [go_sem, q0, q1, q2, q3, q4, q5, q6, q7, q8]) | refine kO ?_ (by decide) | refine regd (by kernel_rfl) ?_ | (refine cC c0 ?_ ?_; focus simp only [go_sem, and_self]; done) | (refine And.intro ?_ ?_; focus omega))); exact h.out) : P := t c0 ⟨h⟩
theorem w9_2 {C0 : Prop} (c0 : C0) {C1 : Prop} (c1 : C1) {P Q : Prop} (h : Q) (t : C0 → C1 → Hd Q → P := by intro c0 c1 h; (repeat' (with_reducible first | refine nY ?_ | (refine mX ?_; try simp only [go_sem, q0, q1, q2, q3, q4, q5, q6, q7, q8]) | refine kO ?_ (by decide) | refine regd (by kernel_rfl) ?_ | (refine cC c0 ?_ ?_; focus simp only [go_sem, and_self]; done) | (refine cC c1 ?_ ?_; focus simp only [go_sem, and_self]; done) | (refine And.intro ?_ ?_; focus omega))); exact h.out) : P := t c0 c1 ⟨h⟩
theorem w10_0 {P Q : Prop} (h : Q) (t : Hd Q → P := by intro h; (repeat' (with_reducible first | refine nY ?_ | (refine mX ?_; try simp only [go_sem, q0, q1, q2, q3, q4, q5, q6, q7, q8, q9]) | refine kO ?_ (by decide) | refine regd (by kernel_rfl) ?_ | (refine And.intro ?_ ?_; focus omega))); exact h.out) : P := t ⟨h⟩
theorem w10_1 {C0 : Prop} (c0 : C0) {P Q : Prop} (h : Q) (t : C0 → Hd Q → P := by intro c0 h; (repeat' (with_reducible first | refine nY ?_ | (refine mX ?_; try simp only [go_sem, q0, q1, q2, q3, q4, q5, q6, q7, q8, q9]) | refine kO ?_ (by decide) | refine regd (by kernel_rfl) ?_ | (refine cC c0 ?_ ?_; focus simp only [go_sem, and_self]; done) | (refine And.intro ?_ ?_; focus omega))); exact h.out) : P := t c0 ⟨h⟩
theorem w10_2 {C0 : Prop} (c0 : C0) {C1 : Prop} (c1 : C1) {P Q : Prop} (h : Q) (t : C0 → C1 → Hd Q → P := by intro c0 c1 h; (repeat' (with_reducible first | refine nY ?_ | (refine mX ?_; try simp only [go_sem, q0, q1, q2, q3, q4, q5, q6, q7, q8, q9]) | refine kO ?_ (by decide) | refine regd (by kernel_rfl) ?_ | (refine cC c0 ?_ ?_; focus simp only [go_sem, and_self]; done) | (refine cC c1 ?_ ?_; focus simp only [go_sem, and_self]; done) | (refine And.intro ?_ ?_; focus omega))); exact h.out) : P := t c0 c1 ⟨h⟩
end Go.Sx
end
