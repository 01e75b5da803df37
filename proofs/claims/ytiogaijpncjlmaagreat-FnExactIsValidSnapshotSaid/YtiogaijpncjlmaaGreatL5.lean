/-
  Small regions that draw their order: every order is walked, as a given plan says.
  Regions that draw their order, of readings and a few stores: the readings are told once, and again behind every store; the stores keep their order.
  A cut: what a piece of code has done is told once, in the words given; all branches of the piece meet there.
-/
import Derived.Test.YtiogaijpncjlmaaGreatL3
set_option linter.all false
section
set_option linter.all false
namespace Go.Sx
open Go Go.RowKit

inductive Plan where
  | node : List (Nat × Plan) → Plan
/-- The plan names, at every point, the operations that are ready. -/
def planL (ops : List Oper) : Nat → Array Bool → List (Nat × Plan) → Bool
  | 0, listed, l => (Region.ready .any ops.toArray listed).isEmpty && l.isEmpty
  | n + 1, listed, l => decide (Region.ready .any ops.toArray listed = l.map (·.1)) && l.all fun p => match p.2 with
    | .node r => planL ops n (listed.setIfInBounds p.1 true) r
section
variable {E : Env}
def vcPlan (E : Env) (ops : List Oper) : Nat → List (Nat × Plan) → St → (St → Prop) → Prop
  | 0, _, st, K => K st
  | _ + 1, [], st, K => K st
  | n + 1, l, st, K => ∀ p ∈ l, match p.2 with
    | .node r => match ops[p.1]? with
      | some o => vcOps E ops [o] st fun st' => vcPlan E ops n r st' K
      | none => False
/-! Walking a plan one operation at a time. -/
end
structure vcPT (E : Env) (all : List Oper) (n : Nat) (l : List (Nat × Plan)) (st : St) (K : St → Prop) (t : Tie (all, l, K)) : Prop where
  out : vcPlan E all n l st K
structure vcPL (E : Env) (all : List Oper) (n : Nat) (l : List (Nat × Plan)) (st : St) (K : St → Prop) (t : Tie (all, l, K)) : Prop where
  out : ∀ p ∈ l, match p.2 with
    | .node r => match all[p.1]? with
      | some o => vcOps E all [o] st fun st' => vcPlan E all n r st' K
      | none => False
def vcAt (E : Env) (all : List Oper) (i : Nat) (st : St) (k : St → Prop) (_ : Tie k) : Prop := match nthO all i with
  | some o => vcStep E all o st k ⟨⟩
  | none => False
section
variable {E : Env}
end
attribute [go_sem] vcAt
end Go.Sx
end

section
set_option linter.all false
namespace Go.Sx
open Go Go.RowKit

def rdX : List Oper → List Oper
  | [] => []
  | o :: r => if isStX o then rdX r else o :: rdX r
def opAt (all : List Oper) (i : Nat) (f : Oper → Bool) : Bool := match all[i]? with
  | some o => f o
  | none => true
def onE (o : Oper) (j : Nat) : Bool := o.after.any fun e => Region.binds .any e && e.on == j
/-- What such a region is: no guards; slots written once; operands wait for what writes them; the stores (at ps) wait for one another. -/
def okStX (all : List Oper) (ps : List Nat) : Bool :=
  (List.range all.length).all fun i => opAt all i fun o =>
    (match o.guard with | none => true | some _ => false) && (o.after.all fun e => !Region.binds .any e || decide (e.on < i)) && (isStX o == ps.contains i) &&
    (match o.dst with | none => isStX o | some d => !isStX o) &&
    ((List.range all.length).all fun j => opAt all j fun p => match p.dst with
      | none => true
      | some d => ((slotsO (opL o.op)).all fun t => t != d || onE o j) && (j == i || o.dst != some d))
def upPs : List Nat → List Oper → Bool
  | [], _ => true
  | p :: r, all => (r.all fun q => decide (p < q) && opAt all q fun o => onE o p) && upPs r all
def hidX (all : List Oper) (listed : Array Bool) (d : Nat) : Bool := (List.range all.length).any fun j => !listed.getD j true && (match all[j]? with | some o => o.dst == some d | none => false)
def mskX (all : List Oper) (listed : Array Bool) (T : List SV) : List SV := (List.range T.length).map fun d => if hidX all listed d then .o .u else nth T d
section
variable {E : Env}
def chkR (E : Env) (st : St) : List Oper → Prop
  | [] => True
  | o :: r => (match o.dst with
    | some d => vcD E o.op (ev st) st.h fun s => s = nth st.t d
    | none => False) ∧ chkR E st r
def vcStI (E : Env) (all : List Oper) : List Nat → St → (St → Prop) → Prop
  | [], st, K => chkR E st (rdX all) ∧ K st
  | p :: r, st, K => chkR E st (rdX all) ∧ ∃ o, all[p]? = some o ∧ vcOp E o.op st fun st' _ => vcStI E all r st' K
theorem mskX_len (all : List Oper) (listed : Array Bool) (T : List SV) : (mskX all listed T).length = T.length := by simp [mskX]
theorem mskX_get (all : List Oper) (listed : Array Bool) (T : List SV) (d : Nat) : nth (mskX all listed T) d = if hidX all listed d then .o .u else nth T d := by
  rcases Nat.lt_or_ge d T.length with h | h
  · rw [nth_eq, List.getD_eq_getElem?_getD]
    simp [mskX, h]
  · rw [nth_none (by rw [mskX_len]; exact h), nth_none h]
    split <;> rfl
theorem hid_iff (all : List Oper) (listed : Array Bool) (d : Nat) : hidX all listed d = true ↔ ∃ j o, all[j]? = some o ∧ o.dst = some d ∧ listed.getD j true = false := by
  unfold hidX
  rw [List.any_eq_true]
  constructor
  · rintro ⟨j, _, h⟩
    rw [Bool.and_eq_true] at h
    obtain ⟨h1, h2⟩ := h
    split at h2
    · rename_i o ho
      exact ⟨j, o, ho, by simpa using h2, by simpa using h1⟩
    · cases h2
  · rintro ⟨j, o, ho, hd, hl⟩
    refine ⟨j, List.mem_range.2 (List.getElem?_eq_some_iff.1 ho).1, ?_⟩
    rw [hl, ho]; simp [hd]
theorem chkR_mem {st : St} : ∀ {l : List Oper} {o : Oper}, chkR E st l → o ∈ l → ∃ d, o.dst = some d ∧ vcD E o.op (ev st) st.h fun s => s = nth st.t d
  | [], o, _, h => by simp at h
  | x :: l, o, hc, h => by
    rcases List.mem_cons.1 h with rfl | h
    · have h1 := hc.1
      split at h1
      · rename_i d hd; exact ⟨d, hd, h1⟩
      · exact h1.elim
    · exact chkR_mem hc.2 h
theorem mem_rdX : ∀ {l : List Oper} {o : Oper}, o ∈ l → isStX o = false → o ∈ rdX l
  | [], o, h, _ => by simp at h
  | x :: l, o, h, hs => by
    unfold rdX
    rcases List.mem_cons.1 h with rfl | h
    · rw [hs]; simp
    · split
      · exact mem_rdX h hs
      · exact List.mem_cons_of_mem _ (mem_rdX h hs)
theorem vcStI_chk {all : List Oper} {ps : List Nat} {st : St} {K : St → Prop} (h : vcStI E all ps st K) : chkR E st (rdX all) := by
  cases ps with
  | nil => exact h.1
  | cons p r => exact h.1
/-- A store looks at its operands alone. -/
theorem store_swap {t : Nat} {x v : Operand} {st : St} {k : St → SV → Prop} {T : List SV} (h : vcOp E (.store t x v) st k) (hx : ev ⟨T, st.h⟩ x = ev st x) (hv : ev ⟨T, st.h⟩ v = ev st v) : vcOp E (.store t x v) ⟨T, st.h⟩ fun st2 _ => ∃ H s, st2 = ⟨T, H⟩ ∧ k ⟨st.t, H⟩ s := by
  simp only [vcOp, hx, hv] at h ⊢
  split at h
  · unfold vcStoreRow at h ⊢
    dsimp only at h ⊢
    obtain ⟨h1, h2, h3, h4, h5, h⟩ := h
    refine ⟨h1, h2, h3, h4, h5, ?_⟩
    split at h
    · rename_i e1 e2
      split at h
      · rename_i e3
        try simp only [e3]
        exact ⟨h.1, h.2.1, _, _, rfl, h.2.2⟩
      · exact h.elim
    · exact h.elim
  · unfold vcStoreOwn at h ⊢
    dsimp only at h ⊢
    split at h
    · split at h
      · rename_i e1
        try simp only [e1]
        split at h
        · rename_i e2 e3
          try simp only [e2, e3]
          exact ⟨h.1, h.2.1, h.2.2.1, h.2.2.2.1, _, _, rfl, h.2.2.2.2⟩
        · exact h.elim
      · exact h.elim
    · exact h.elim
  · unfold vcStore at h ⊢
    dsimp only at h ⊢
    split at h
    · split at h
      · rename_i e1
        try simp only [e1]
        split at h
        · rename_i e2
          try simp only [e2]
          exact ⟨h.1, h.2.1, h.2.2.1, h.2.2.2.1, _, _, rfl, h.2.2.2.2⟩
        · exact h.elim
      · exact h.elim
    · exact h.elim
def unlX (all : List Oper) (listed : Array Bool) : Nat := ((List.range all.length).filter fun j => !listed.getD j true).length
theorem unlX_step {all : List Oper} {listed : Array Bool} {i : Nat} (hi : i < all.length) (hu : listed.getD i true = false) : unlX all (listed.setIfInBounds i true) < unlX all listed := by
  unfold unlX
  have key : ∀ l : List Nat, i ∈ l → ((l.filter fun j => !(listed.setIfInBounds i true).getD j true).length < (l.filter fun j => !listed.getD j true).length) ∧ True := by
    intro l hl
    refine ⟨?_, trivial⟩
    have le : ∀ l : List Nat, (l.filter fun j => !(listed.setIfInBounds i true).getD j true).length ≤ (l.filter fun j => !listed.getD j true).length := by
      intro l
      induction l with
      | nil => simp
      | cons x l ih =>
        simp only [List.filter_cons]
        by_cases e : i = x
        · subst e; rw [getD_set_self]; simp only [Bool.not_true, Bool.false_eq_true, if_false]; split <;> (try simp only [List.length_cons]) <;> omega
        · rw [getD_set_ne true e]; split <;> (try simp only [List.length_cons]) <;> omega
    induction l with
    | nil => simp at hl
    | cons x l ih =>
      simp only [List.filter_cons]
      by_cases e : i = x
      · subst e
        rw [getD_set_self, hu]
        have := le l
        simp only [Bool.not_true, Bool.not_false, Bool.false_eq_true, if_false, if_true, List.length_cons]; omega
      · rw [getD_set_ne true e]
        have := ih (by rcases List.mem_cons.1 hl with h | h; exact (e h).elim; exact h)
        split <;> (try simp only [List.length_cons]) <;> omega
  exact (key _ (List.mem_range.2 hi)).1
theorem stores_ok (hT : TyOK E.P E.T) (hE : ∀ t, E.eqk t ≠ [] → EqT E.P t (E.eqk t)) {all : List Oper} {ps0 : List Nat} (hok : okStX all ps0 = true) {Q : Exit → Act → World → Prop} {K : St → Prop} (hQ : ∀ g V st a w, Rel E.C g V st a w → K st → Q .normal a w) :
    ∀ (n : Nat) (listed : Array Bool) (ps : List Nat) (st : St) (g : List Gh) (V : View) (a : Act) (w : World), listed.size = all.length → unlX all listed ≤ n → upPs ps all = true → (∀ i ∈ ps, i ∈ ps0) → (∀ i, i < all.length → i ∈ ps0 → listed.getD i true = false → i ∈ ps) → (∀ i ∈ ps, listed.getD i true = false) →
      vcStI E all ps st K → Rel E.C g V ⟨mskX all listed st.t, st.h⟩ a w → wpAny E.P .any all.toArray Q n listed a w := by
  have spec : ∀ (i : Nat) (o : Oper), all[i]? = some o → o.guard = none ∧ (∀ e ∈ o.after, Region.binds .any e = true → e.on < i) ∧ (isStX o = true ↔ i ∈ ps0) ∧ (isStX o = true → o.dst = none) ∧ (isStX o = false → ∃ d, o.dst = some d) ∧
      (∀ (j : Nat) (p : Oper) (d : Nat), all[j]? = some p → p.dst = some d → (∀ t ∈ slotsO (opL o.op), t = d → onE o j = true) ∧ (j ≠ i → o.dst ≠ some d)) := fun i o ho => by
    have h := List.all_eq_true.1 hok i (List.mem_range.2 (List.getElem?_eq_some_iff.1 ho).1)
    unfold opAt at h
    rw [ho] at h
    simp only [Bool.and_eq_true] at h
    obtain ⟨⟨⟨⟨h1, h2⟩, h3⟩, h4⟩, h5⟩ := h
    refine ⟨?_, fun e he hb => ?_, ?_, fun hs => ?_, fun hs => ?_, fun j p d hj hd => ?_⟩
    · cases hg : o.guard with
      | none => rfl
      | some x => rw [hg] at h1; cases h1
    · have := (Array.all_eq_true_iff_forall_mem.1 h2) e he
      rw [hb] at this
      simpa using this
    · have h3 := beq_iff_eq.1 h3
      rw [h3]; exact List.contains_iff_mem
    · cases hd : o.dst with
      | none => rfl
      | some d => rw [hd, hs] at h4; cases h4
    · cases hd : o.dst with
      | none => rw [hd, hs] at h4; cases h4
      | some d => exact ⟨d, rfl⟩
    · have h := List.all_eq_true.1 h5 j (List.mem_range.2 (List.getElem?_eq_some_iff.1 hj).1)
      rw [hj] at h
      simp only [hd, Bool.and_eq_true] at h
      refine ⟨fun t ht e => ?_, fun hne => ?_⟩
      · have := List.all_eq_true.1 h.1 t ht
        subst e
        simpa using this
      · rcases Bool.or_eq_true_iff.1 h.2 with h | h
        · exact (hne (beq_iff_eq.1 h)).elim
        · simpa using h
  have toT : ∀ {listed : Array Bool} {j : Nat}, listed.getD j false = true → listed.getD j true = true := fun {listed j} h => by
    rcases Nat.lt_or_ge j listed.size with h' | h'
    · simp [h'] at h ⊢; exact h
    · simp [Array.getElem?_eq_none h'] at h
  have fin : ∀ (listed : Array Bool) (ps : List Nat) (st : St) (g : List Gh) (V : View) (a : Act) (w : World), (∀ j, j < all.length → listed.getD j true = true) → (∀ i ∈ ps, i ∈ ps0) → (∀ i ∈ ps, listed.getD i true = false) → (∀ i ∈ ps0, True) → vcStI E all ps st K → Rel E.C g V ⟨mskX all listed st.t, st.h⟩ a w → Q .normal a w := fun listed ps st g V a w hl h1 h2 _ hv hr => by
    have hm : mskX all listed st.t = st.t := by
      apply List.ext_getElem? 
      intro d
      rcases Nat.lt_or_ge d st.t.length with h | h
      · rw [nth_some (by rw [mskX_len]; exact h), nth_some h, mskX_get]
        have : hidX all listed d = false := by
          cases hh : hidX all listed d with
          | false => rfl
          | true =>
            obtain ⟨j, o, ho, _, hu⟩ := (hid_iff all listed d).1 hh
            rw [hl j (List.getElem?_eq_some_iff.1 ho).1] at hu; cases hu
        rw [this]; simp
      · rw [List.getElem?_eq_none (by rw [mskX_len]; exact h), List.getElem?_eq_none h]
    rw [hm] at hr
    cases ps with
    | nil => exact hQ _ _ _ _ _ hr hv.2
    | cons p r =>
      obtain ⟨_, o, ho, _⟩ := hv
      have := h2 p (by simp)
      rw [hl p (List.getElem?_eq_some_iff.1 ho).1] at this; cases this
  have none_left : ∀ (listed : Array Bool), listed.size = all.length → Region.ready .any all.toArray listed = [] → ∀ j, j < all.length → listed.getD j true = true := fun listed hsz hr => by
    intro j
    induction j using Nat.strongRecOn with
    | _ j ih =>
      intro hj
      cases hq : listed.getD j true with
      | true => rfl
      | false =>
        have ho : all[j]? = some (all[j]'hj) := List.getElem?_eq_getElem hj
        have : j ∈ Region.ready .any all.toArray listed := mem_ready.2 ⟨hq, _, toA ho, fun e he hb => by
          have hlt := (spec j _ ho).2.1 e he hb
          have h1 := ih e.on hlt (by omega)
          have hes : e.on < listed.size := by omega
          simp [hes] at h1 ⊢; exact h1⟩
        rw [hr] at this; cases this
  intro n
  induction n with
  | zero =>
    intro listed ps st g V a w hsz hn hup hps0 hall hps hv hr
    have hl : ∀ j, j < all.length → listed.getD j true = true := fun j hj => by
      cases hq : listed.getD j true with
      | true => rfl
      | false =>
        have : j ∈ (List.range all.length).filter fun j => !listed.getD j true := List.mem_filter.2 ⟨List.mem_range.2 hj, by rw [hq]; rfl⟩
        have := List.length_pos_of_mem this
        unfold unlX at hn
        omega
    refine ⟨List.eq_nil_iff_forall_not_mem.2 fun i hi => ?_, fin listed ps st g V a w hl hps0 hps (fun _ _ => trivial) hv hr⟩
    obtain ⟨h1, o, h2, _⟩ := mem_ready.1 hi
    rw [hl i (by simpa using (Array.getElem?_eq_some_iff.1 h2).1)] at h1; cases h1
  | succ n ih =>
    intro listed ps st g V a w hsz hn hup hps0 hall hps hv hr
    refine ⟨fun he => fin listed ps st g V a w (none_left listed hsz he) hps0 hps (fun _ _ => trivial) hv hr, fun i hi => ?_⟩
    obtain ⟨hun, o, ho', haft⟩ := mem_ready.1 hi
    have ho : all[i]? = some o := by simpa using ho'
    have hil := (List.getElem?_eq_some_iff.1 ho).1
    obtain ⟨s1, s2, s3, s4, s5, s6⟩ := spec i o ho
    have hun' : unlX all (listed.setIfInBounds i true) ≤ n := by have := unlX_step hil hun; omega
    have evEq : ∀ x ∈ o.op.operands, ev ⟨mskX all listed st.t, st.h⟩ x = ev st x := fun x hx => by
      cases x with
      | tmp t =>
        show nth (mskX all listed st.t) t = nth st.t t
        rw [mskX_get]
        have : hidX all listed t = false := by
          cases hh : hidX all listed t with
          | false => rfl
          | true =>
            obtain ⟨j, p, hj, hd, hu⟩ := (hid_iff all listed t).1 hh
            have h1 := (s6 j p t hj hd).1 t (mem_slotsO.2 (by rw [opL_eq]; simpa using hx)) rfl
            obtain ⟨e, he, hb⟩ := Array.any_eq_true'.1 h1
            simp only [Bool.and_eq_true, beq_iff_eq] at hb
            have h2 := toT (haft e he hb.1)
            rw [hb.2, hu] at h2; cases h2
        rw [this]; simp
      | const v => rfl
      | func f => rfl
      | global m => rfl
    unfold wpOp
    rw [ho']
    simp only [Region.wanted, s1, if_true]
    refine .inl ?_
    have keep : ∀ j, j ≠ i → (listed.setIfInBounds i true).getD j true = listed.getD j true := fun j hj => getD_set_ne true (fun e => hj e.symm)
    cases hs : isStX o with
    | false =>
      have hmem := mem_rdX (List.mem_of_getElem? ho) hs
      obtain ⟨d, hd, hvc⟩ := chkR_mem (vcStI_chk hv) hmem
      have h1 := vcD_vcOp (st := ⟨mskX all listed st.t, st.h⟩) (vcD_congr (fun x hx => (evEq x hx).symm) hvc)
      refine vcOp_ok hT hE h1 hr fun g' V' st' w' s y hr' hsy hk => ?_
      obtain ⟨rfl, rfl⟩ := hk
      have hnot : i ∉ ps := fun hm => by
        have := s3.2 (hps0 i hm)
        rw [hs] at this; cases this
      have hr2 := hr'.put o.dst hsy
      have e : (St.put ⟨mskX all listed st.t, st.h⟩ o.dst (nth st.t d)) = ⟨mskX all (listed.setIfInBounds i true) st.t, st.h⟩ := by
        rw [hd]
        simp only [St.put, setN_eq]
        congr 1
        apply List.ext_getElem?
        intro m
        rw [List.getElem?_set]
        rcases Nat.lt_or_ge m st.t.length with hm | hm
        · rw [nth_some (l := mskX all (listed.setIfInBounds i true) st.t) (by rw [mskX_len]; exact hm), mskX_get]
          by_cases e : d = m
          · subst e
            rw [if_pos rfl, if_pos (by rw [mskX_len]; exact hm)]
            have : hidX all (listed.setIfInBounds i true) d = false := by
              cases hh : hidX all (listed.setIfInBounds i true) d with
              | false => rfl
              | true =>
                obtain ⟨j, p, hj, hd2, hu⟩ := (hid_iff _ _ d).1 hh
                by_cases e : j = i
                · subst e; rw [getD_set_self] at hu; cases hu
                · exact ((s6 j p d hj hd2).2 e hd).elim
            rw [this]; simp
          · rw [if_neg e, nth_some (by rw [mskX_len]; exact hm), mskX_get]
            have : hidX all (listed.setIfInBounds i true) m = hidX all listed m := by
              rw [Bool.eq_iff_iff, hid_iff, hid_iff]
              constructor
              · rintro ⟨j, p, hj, hd2, hu⟩
                refine ⟨j, p, hj, hd2, ?_⟩
                by_cases e2 : j = i
                · subst e2; rw [getD_set_self] at hu; cases hu
                · rwa [keep j e2] at hu
              · rintro ⟨j, p, hj, hd2, hu⟩
                refine ⟨j, p, hj, hd2, ?_⟩
                by_cases e2 : j = i
                · subst e2; rw [ho] at hj; cases hj; rw [hd] at hd2; cases hd2; exact (e rfl).elim
                · rwa [keep j e2]
            rw [this]
        · rw [List.getElem?_eq_none (l := mskX all (listed.setIfInBounds i true) st.t) (by rw [mskX_len]; exact hm)]
          split
          · rename_i e; subst e
            rw [if_neg (by rw [mskX_len]; omega)]
          · rw [List.getElem?_eq_none (l := mskX all listed st.t) (by rw [mskX_len]; exact hm)]
      rw [e] at hr2
      exact ih _ ps st g' V' _ _ (by simp [hsz]) hun' hup hps0 (fun j hj hj0 hu => by
        by_cases e2 : j = i
        · subst e2; rw [getD_set_self] at hu; cases hu
        · rw [keep j e2] at hu; exact hall j hj hj0 hu) (fun j hj => by
        have e2 : j ≠ i := fun e => hnot (e ▸ hj)
        rw [keep j e2]; exact hps j hj) hv hr2
    | true =>
      have hip := hall i hil (s3.1 hs) hun
      cases ps with
      | nil => simp at hip
      | cons p r =>
        obtain ⟨hc, o2, ho2, hvo⟩ := hv
        unfold upPs at hup
        rw [Bool.and_eq_true] at hup
        have hpi : p = i := by
          rcases List.mem_cons.1 hip with e | hm
          · exact e.symm
          · have h1 := List.all_eq_true.1 hup.1 i hm
            unfold opAt at h1
            rw [ho] at h1
            simp only [Bool.and_eq_true] at h1
            obtain ⟨e, he, hb⟩ := Array.any_eq_true'.1 h1.2
            simp only [Bool.and_eq_true, beq_iff_eq] at hb
            have h2 := toT (haft e he hb.1)
            rw [hb.2, hps p (by simp)] at h2; cases h2
        subst hpi
        rw [ho] at ho2; cases ho2
        have hd := s4 hs
        obtain ⟨t, x, v, hop⟩ : ∃ t x v, o.op = .store t x v := by
          unfold isStX at hs
          split at hs
          · rename_i t x v e; exact ⟨t, x, v, e⟩
          · cases hs
        rw [hop] at hvo
        have h1 := store_swap (T := mskX all listed st.t) hvo (evEq x (by rw [hop]; simp [Op.operands])) (evEq v (by rw [hop]; simp [Op.operands]))
        rw [← hop] at h1
        refine vcOp_ok hT hE h1 hr fun g' V' st' w' s y hr' hsy hk => ?_
        obtain ⟨H, s', rfl, hk⟩ := hk
        have hr2 := hr'.put o.dst hsy
        rw [hd] at hr2 ⊢
        have em : mskX all (listed.setIfInBounds p true) st.t = mskX all listed st.t := by
          unfold mskX
          refine List.map_congr_left fun m _ => ?_
          have : hidX all (listed.setIfInBounds p true) m = hidX all listed m := by
            rw [Bool.eq_iff_iff, hid_iff, hid_iff]
            constructor
            · rintro ⟨j, q, hj, hd2, hu⟩
              refine ⟨j, q, hj, hd2, ?_⟩
              by_cases e2 : j = p
              · subst e2; rw [getD_set_self] at hu; cases hu
              · rwa [keep j e2] at hu
            · rintro ⟨j, q, hj, hd2, hu⟩
              refine ⟨j, q, hj, hd2, ?_⟩
              by_cases e2 : j = p
              · subst e2; rw [ho] at hj; cases hj; rw [hd] at hd2; cases hd2
              · rwa [keep j e2]
          rw [this]
        have hlt : ∀ q ∈ r, p < q := fun q hq => by
          have := List.all_eq_true.1 hup.1 q hq
          rw [Bool.and_eq_true] at this
          exact of_decide_eq_true this.1
        refine ih _ r ⟨st.t, H⟩ g' V' _ _ (by simp [hsz]) hun' hup.2 (fun j hj => hps0 j (List.mem_cons_of_mem _ hj)) (fun j hj hj0 hu => by
          by_cases e2 : j = p
          · subst e2; rw [getD_set_self] at hu; cases hu
          · rw [keep j e2] at hu
            rcases List.mem_cons.1 (hall j hj hj0 hu) with e | h
            · exact (e2 e).elim
            · exact h) (fun j hj => by
          have := hlt j hj
          rw [keep j (by omega)]; exact hps j (List.mem_cons_of_mem _ hj)) hk ?_
        show Rel E.C g' V' ⟨mskX all (listed.setIfInBounds p true) st.t, H⟩ _ _
        rw [em]; exact hr2
theorem leT_of : ∀ {l m : List SV}, l.length = m.length → (∀ d, d < m.length → nth m d = .o .u ∨ nth l d = nth m d) → leT l m
  | [], [], _, _ => trivial
  | [], _ :: _, h, _ => by simp at h
  | _ :: _, [], h, _ => by simp at h
  | x :: l, y :: m, h, k => ⟨k 0 (by simp), leT_of (by simpa using h) fun d hd => k (d + 1) (by simpa using hd)⟩
theorem leH_same : ∀ h : List HB, leH h h
  | [] => trivial
  | _ :: l => ⟨.inr rfl, leH_same l⟩
theorem nth_put {st : St} {d n : Nat} {s : SV} (h : n ≠ d) : nth (st.put (some d) s).t n = nth st.t n := by
  have h' : d ≠ n := fun e => h e.symm
  simp only [St.put, setN_eq, nth_eq, List.getD_eq_getElem?_getD, List.getElem?_set, if_neg h']
theorem vcDs_end {all : List Oper} : ∀ {l : List Oper} {st : St} {K : St → Prop}, vcDs E all l st K → ∃ st1, K st1 ∧ st1.h = st.h ∧ st1.t.length = st.t.length ∧ ∀ d, (∀ o ∈ l, o.dst ≠ some d) → nth st1.t d = nth st.t d
  | [], st, K, h => ⟨st, h, rfl, rfl, fun _ _ => rfl⟩
  | o :: l, st, K, h => by
    obtain ⟨s, h1, _⟩ := sop_det h
    obtain ⟨st1, k1, k2, k3, k4⟩ := vcDs_end h1
    refine ⟨st1, k1, by rw [k2, h_put], by rw [k3, put_len], fun d hd => ?_⟩
    rw [k4 d fun p hp => hd p (List.mem_cons_of_mem _ hp)]
    cases ho : o.dst with
    | none => rfl
    | some e => exact nth_put fun e2 => hd o (by simp) (by rw [ho, e2])
theorem rdX_sub : ∀ {l : List Oper} {o : Oper}, o ∈ rdX l → o ∈ l
  | [], o, h => by simp [rdX] at h
  | x :: l, o, h => by
    unfold rdX at h
    split at h
    · exact List.mem_cons_of_mem _ (rdX_sub h)
    · rcases List.mem_cons.1 h with rfl | h
      · simp
      · exact List.mem_cons_of_mem _ (rdX_sub h)
theorem WP_stores (hT : TyOK E.P E.T) (hE : ∀ t, E.eqk t ≠ [] → EqT E.P t (E.eqk t)) (hm : E.P.follows .mixedOrders = true) {id : Nat} {ops : List Oper} {F : Ex → St → Prop} {st : St} (ps : List Nat) (hok : okStX ops ps = true) (hup : upPs ps ops = true) (hlt : (ps.all fun i => decide (i < ops.length)) = true) (hb : st.okB = true)
    (h : vcDs E ops (rdX ops) st fun st1 => vcStI E ops ps st1 (F .normal)) : WP E.P E.C (.region id ops.toArray true) F st := fun g V a w hr => by
  refine wp_region_any hm ?_
  obtain ⟨st1, k1, k2, k3, k4⟩ := vcDs_end h
  have hf : ∀ j : Nat, j < ops.length → (Array.replicate ops.toArray.size false).getD j true = false := fun j hj => by simp [hj]
  have hle : st.le ⟨mskX ops (Array.replicate ops.toArray.size false) st1.t, st1.h⟩ := by
    refine ⟨leT_of (by rw [mskX_len, k3]) fun d _ => ?_, by show leH st.h st1.h; rw [k2]; exact leH_same _⟩
    rw [mskX_get]
    cases hh : hidX ops (Array.replicate ops.toArray.size false) d with
    | true => exact .inl rfl
    | false =>
      right
      simp only [Bool.false_eq_true, if_false]
      refine (k4 d fun o ho hd => ?_).symm
      obtain ⟨j, hj⟩ := List.mem_iff_getElem?.1 (rdX_sub ho)
      have := (hid_iff ops (Array.replicate ops.toArray.size false) d).2 ⟨j, o, hj, hd, hf j (List.getElem?_eq_some_iff.1 hj).1⟩
      rw [hh] at this; cases this
  have hbt : ((mskX ops (Array.replicate ops.toArray.size false) st1.t).all (·.below st1.h.length) && st1.h.all (·.below st1.h.length)) = true := by
    unfold St.okB at hb
    rw [Bool.and_eq_true] at hb ⊢
    rw [k2]
    refine ⟨List.all_eq_true.2 fun s hs => ?_, hb.2⟩
    obtain ⟨d, hd⟩ := List.mem_iff_getElem?.1 hs
    rcases (hle.1.get).2 d s hd with e | e
    · subst e; rfl
    · exact List.all_eq_true.1 hb.1 s (List.mem_of_getElem? e)
  have := stores_ok hT hE hok (Q := fun e a w => Post E.C F e a w) (fun g V st _ _ hr h => ⟨g, V, st, hr, h⟩) ops.toArray.size (Array.replicate ops.toArray.size false) ps st1 _ V a { w with drawn := w.drawn + 1 } (by simp)
    (by unfold unlX; exact Nat.le_trans (List.length_filter_le _ _) (by simp)) hup (fun i hi => hi) (fun i _ hi _ => hi) (fun i hi => hf i (of_decide_eq_true (List.all_eq_true.1 hlt i hi))) k1 ((hr.drawn).forget hle hbt)
  exact this
end
structure vcStT (E : Env) (all l : List Oper) (ps : List Nat) (st : St) (K : St → Prop) (t : Tie (all, l, K)) : Prop where
  out : rdX all = l → vcStI E all ps st K
def vcAtS (E : Env) (all : List Oper) (i : Nat) (st : St) (k : St → Prop) (_ : Tie k) : Prop := match nthO all i with
  | some o => vcOp E o.op st fun st' _ => k st'
  | none => False
section
variable {E : Env}
theorem st_nil {all l : List Oper} {st : St} {K : St → Prop} (hc : chkR E st l) (h : K st) : vcStT E all l [] st K ⟨⟩ := ⟨fun e => ⟨e ▸ hc, h⟩⟩
theorem st_cons {all l : List Oper} {p : Nat} {r : List Nat} {st : St} {K : St → Prop} (hc : chkR E st l) (h : vcAtS E all p st (fun st' => vcStT E all l r st' K ⟨⟩) ⟨⟩) : vcStT E all l (p :: r) st K ⟨⟩ := ⟨fun e => by
  refine ⟨e ▸ hc, ?_⟩
  have e2 : (fun st' => vcStT E all l r st' K ⟨⟩) = (fun st' => vcStI E all r st' K) := funext fun s => propext ⟨fun h => h.out e, fun h => ⟨fun _ => h⟩⟩
  rw [e2] at h
  unfold vcAtS at h
  rw [nthO_eq] at h
  split at h
  · rename_i o ho; exact ⟨o, ho, h⟩
  · exact h.elim⟩
end
attribute [go_sem] chkR vcAtS rdX
end Go.Sx
end

section
set_option linter.all false
namespace Go.Sx
open Go Go.RowKit
def cutK (G : St) (F : Ex → St → Prop) : Ex → St → Prop
  | .normal, s => s.le G ∧ G.okB = true
  | .exit j, s => F (.exit j) s
  | .ret, s => F .ret s
def cutG (c : Code) (st : St) (M : List (Nat × SV)) (H : List (Nat × HB)) : St := ⟨mds (fgt st.t (dsts c)) M, mhs st.h H⟩
section
variable {P : Program} {C : Ctx} {ks : List Kn} {F : Ex → St → Prop} {st : St}
theorem WP_cut {c c2 : Code} (M : List (Nat × SV)) (H : List (Nat × HB)) (h1 : WP P C c (kont P C [] (cutK (cutG c st M H) (kont P C (.code c2 :: ks) F))) st) (h2 : WP P C c2 (kont P C ks F) (cutG c st M H)) : WP P C c (kont P C (.code c2 :: ks) F) st := fun g V a w hr =>
  wp_mono (h1 g V a w hr) fun e a w q => by
    cases e with
    | normal =>
      obtain ⟨g, V, s, hs, hle, hok⟩ := q
      exact ⟨_, V, _, hs.forget hle hok, h2⟩
    | exit j => obtain ⟨g, V, s, hs, q⟩ := q; exact ⟨g, V, s, hs, q⟩
    | ret => obtain ⟨g, V, s, hs, q⟩ := q; exact ⟨g, V, s, hs, q⟩
    | goto l => exact q.elim
    | panic ch => exact q.elim
    | outgrown => exact q.elim
theorem cut_done {G s : St} (h : s.le G) (hb : G.okB = true) : cutK G F .normal s := ⟨h, hb⟩
theorem cut_ret {G s : St} (h : F .ret s) : cutK G F .ret s := h
theorem cut_exit {G s : St} {j : Nat} (h : F (.exit j) s) : cutK G F (.exit j) s := h
end
attribute [go_sem] cutG
end Go.Sx
end
