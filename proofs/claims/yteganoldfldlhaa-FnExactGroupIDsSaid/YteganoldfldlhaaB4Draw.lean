/-
  Regions that draw their order: operations that leave the function's own memory alone, and calls whose results are plain data: one walk, in the order of the text, serves every order.
-/
import Derived.Test.YteganoldfldlhaaB4Alend
import Derived.Deep.Quiet
set_option linter.all false
namespace Go.Sx
open Go Go.RowKit

def isD : At → Bool
  | .d _ => true
  | _ => false
/-- A call that hands back plain data. -/
structure CallD (E : Env) (f : Nat) (args : List SV) (h : List HB) (k : SV → Prop) (t : Tie k) : Prop where
  out : ∃ args' res, FnC E.P f args' res ∧ (args.map (pureS h) = args' ∨ (args.map (pureOS h) = args' ∧ res.all.all isWS = true)) ∧ args'.all freeS = true ∧ res.all.all isD = true ∧ k res

/-- An operation of such a region. -/
def vcD (E : Env) (op : Op) (ρ : Operand → SV) (h : List HB) (k : SV → Prop) : Prop :=
  match op with
  | .move x => k (ρ x)
  | .assign x => k (ρ x)
  | .pick c x y => vcPick (ρ c) (k (ρ x)) (k (ρ y)) ⟨⟩ ⟨⟩
  | .load t x => vcLoad E t (ρ x) ⟨[], h⟩ fun _ s => k s
  | .fieldAddr t x f => vcFieldAddr E t (ρ x) f ⟨[], h⟩ fun _ s => k s
  | .field t x f => vcField E t (ρ x) f ⟨[], h⟩ fun _ s => k s
  | .indexAddr t x i => vcIndexAddr E t (ρ x) (ρ i) ⟨[], h⟩ fun _ s => k s
  | .index t x i => vcIndex E t (ρ x) (ρ i) ⟨[], h⟩ fun _ s => k s
  | .binOp op t x y _ => vcBinN E op t (ρ x) (ρ y) ⟨[], h⟩ fun _ s => k s
  | .unOp op _ x => vcUn op (ρ x) ⟨[], h⟩ fun _ s => k s
  | .convert s d x => vcConv E s d (ρ x) ⟨[], h⟩ fun _ s => k s
  | .extract x i => vcExtract (ρ x) i ⟨[], h⟩ fun _ s => k s
  | .call c => match c.callee with
    | .value f => match ρ f with
      | .o (.f fn caps) => CallD E fn (c.args.toList.map ρ ++ caps.map (fun cs => .o (.q cs))) h k ⟨⟩
      | _ => False
    | .builtin .len => match c.args.toList, c.argTypes.toList with
      | [x], [t] => vcLen E t (ρ x) ⟨[], h⟩ fun _ s => k s
      | _, _ => False
    | _ => False
  | _ => False

theorem CallD.of_fn {E : Env} {f : Nat} {args args' : List SV} {res : SV} {h : List HB} {k : SV → Prop} (hf : FnC E.P f args' res) (h1 : args.map (pureS h) = args') (h2 : args'.all freeS = true) (h3 : res.all.all isD = true) (hk : k res) : CallD E f args h k ⟨⟩ :=
  ⟨args', res, hf, .inl h1, h2, h3, hk⟩
theorem CallD.of_own {E : Env} {f : Nat} {args args' : List SV} {res : SV} {h : List HB} {k : SV → Prop} (hf : FnC E.P f args' res) (h1 : args.map (pureOS h) = args') (h2 : args'.all freeS = true) (h3 : res.all.all isD = true) (h4 : res.all.all isWS = true) (hk : k res) : CallD E f args h k ⟨⟩ :=
  ⟨args', res, hf, .inr ⟨h1, h4⟩, h2, h3, hk⟩

theorem adA_isD : ∀ (n : Nat) (cs : List At), cs.all isD = true → adA n cs = cs ∧ adH cs = []
  | _, [], _ => ⟨rfl, rfl⟩
  | n, c :: cs, h => by
    simp only [List.all_cons, Bool.and_eq_true] at h
    obtain ⟨e1, e2⟩ := adA_isD n cs h.2
    cases c <;> simp_all [isD, adA, adH]
theorem adT_isD : ∀ (n : Nat) (l : List (Bool × List At)), (l.flatMap (·.2)).all isD = true → adT n l = l
  | _, [], _ => rfl
  | n, (b, cs) :: l, h => by
    simp only [List.flatMap_cons, List.all_append, Bool.and_eq_true] at h
    obtain ⟨e1, e2⟩ := adA_isD n cs h.1
    simp only [adT, e1, e2, List.length_nil, Nat.add_zero, adT_isD n l h.2]
theorem adS_isD (n : Nat) (s : SV) (h : s.all.all isD = true) : adS n s = s ∧ adH s.all = [] := by
  refine ⟨?_, (adA_isD n s.all h).2⟩
  cases s with
  | o a =>
    have := (adA_isD n [a] h).1
    cases a <;> simp_all [SV.all, isD, adS, adA]
  | g cs => simp only [adS, (adA_isD n cs h).1]
  | t l => simp only [adS, adT_isD n l h]

section
variable {E : Env}

theorem vcD_vcOp {op : Op} {st : St} {k : SV → Prop} (h : vcD E op (ev st) st.h k) : vcOp E op st fun st' s => st' = st ∧ k s := by
  unfold vcD at h
  split at h
  · exact ⟨rfl, h⟩
  · exact ⟨rfl, h⟩
  · simp only [vcOp]
    unfold vcPick at h ⊢
    split at h
    · exact ⟨fun hb => ⟨rfl, h.1 hb⟩, fun hb => ⟨rfl, h.2 hb⟩⟩
    · exact h.elim
  · simp only [vcOp]
    unfold vcLoad at h ⊢
    (repeat' split at h) <;> simp_all
  · simp only [vcOp]
    unfold vcFieldAddr at h ⊢
    (repeat' split at h) <;> simp_all
  · simp only [vcOp]
    unfold vcField at h ⊢
    (repeat' split at h) <;> simp_all
  · simp only [vcOp]
    unfold vcIndexAddr at h ⊢
    obtain ⟨h1, h2, h⟩ := h
    refine ⟨h1, h2, ?_⟩
    (repeat' split at h) <;> simp_all
    all_goals
      obtain ⟨_, _, rfl, h4⟩ := h
      exact h4
  · simp only [vcOp]
    unfold vcIndex at h ⊢
    (repeat' split at h) <;> simp_all
  · rename_i op t x y _
    simp only [vcOp]
    have hne : ∀ {y' : SV}, vcBinN E op t (ev st x) y' ⟨[], st.h⟩ (fun _ s => k s) → y' ≠ .o .z := fun h e => by
      subst e
      unfold vcBinN at h
      split at h <;> first | (rename_i e1 e2; cases e2) | exact h
    unfold vcBin
    split
    · rename_i e
      exact (hne h e).elim
    unfold vcBinN at h ⊢
    split at h
    · rename_i e1 e2
      refine ⟨h.1, ?_⟩
      have := h.2
      unfold binI at this ⊢
      cases op <;> first | exact ⟨this.1, rfl, this.2⟩ | exact this.elim
    · rename_i e1 e2
      unfold binSt at h ⊢
      cases op <;> first | exact ⟨h.1, rfl, h.2⟩ | exact h.elim
    · rename_i e1 e2
      refine ⟨h.1, ?_⟩
      have := h.2
      unfold binB at this ⊢
      cases op <;> first | exact ⟨this.1, rfl, this.2⟩ | exact this.elim
    · rename_i e1 e2
      refine ⟨h.1, h.2.1, h.2.2.1, ?_⟩
      have := h.2.2.2
      split at this <;> first | exact ⟨rfl, this⟩ | exact this.elim
    · exact h.elim
  · simp only [vcOp]
    unfold vcUn at h ⊢
    (repeat' split at h) <;> simp_all
  · simp only [vcOp]
    unfold vcConv at h ⊢
    (repeat' split at h) <;> simp_all
  · simp only [vcOp]
    unfold vcExtract at h ⊢
    (repeat' split at h) <;> simp_all
  · rename_i c
    split at h
    · rename_i f hc
      simp only [vcOp, vcCall, hc]
      split at h
      · rename_i fn caps e
        obtain ⟨args', res, c1, c2, c3, c4, c5⟩ := h
        rw [e]
        obtain ⟨e1, e2⟩ := adS_isD st.h.length res c4
        rcases c2 with c2 | ⟨c2, c6⟩
        · refine ⟨CallS.of_fn c1 c2 c3 ?_⟩
          rw [e1, e2, List.append_nil]
          exact ⟨rfl, c5⟩
        · refine ⟨CallS.lend c1 c2 c3 c6 ?_⟩
          have e3 : adG (fun _ => none) 0 res.all = [] := List.eq_nil_of_length_eq_zero (by rw [adG_len, e2]; rfl)
          rw [e1, e3, List.append_nil]
          exact ⟨rfl, c5⟩
      · exact h.elim
    · rename_i hc
      simp only [vcOp, vcCall, hc]
      split at h
      · rename_i x t e1 e2
        rw [e1, e2]
        unfold vcLen at h ⊢
        (repeat' split at h) <;> simp_all
      · exact h.elim
    · exact h.elim
  · exact h.elim

theorem bnot {c b : Bool} (h : ¬ c = b) : c = !b := by revert h; cases c <;> cases b <;> simp
theorem bnot2 {c b : Bool} (h : c = b) (k : c = !b) : False := by subst h; cases c <;> simp at k

/-- One value: whatever is asked of it. -/
theorem vcD_det {op : Op} {ρ : Operand → SV} {hh : List HB} {k : SV → Prop} (h : vcD E op ρ hh k) : ∃ s, k s ∧ ∀ k' : SV → Prop, k' s → vcD E op ρ hh k' := by
  unfold vcD at h ⊢
  split at h
  · exact ⟨_, h, fun k' h => h⟩
  · exact ⟨_, h, fun k' h => h⟩
  · unfold vcPick at h ⊢
    split at h
    · rename_i b e
      cases b with
      | true => exact ⟨_, h.1 rfl, fun k' hk => by simp [hk]⟩
      | false => exact ⟨_, h.2 rfl, fun k' hk => by simp [hk]⟩
    · exact h.elim
  · unfold vcLoad at h ⊢
    (repeat' split at h) <;> first | exact h.elim | exact ⟨_, h.2, fun k' hk => ⟨h.1, hk⟩⟩ | exact ⟨_, h.2.2.2, fun k' hk => ⟨h.1, h.2.1, h.2.2.1, hk⟩⟩
  · unfold vcFieldAddr at h ⊢
    split at h
    · obtain ⟨h1, h2, h⟩ := h
      split at h <;> first | exact h.elim | exact ⟨_, h, fun k' hk => ⟨h1, h2, hk⟩⟩
    · exact h.elim
  · unfold vcField at h ⊢
    (repeat' split at h) <;> first | exact h.elim | exact ⟨_, h.2.2, fun k' hk => ⟨h.1, h.2.1, hk⟩⟩
  · unfold vcIndexAddr at h ⊢
    obtain ⟨h1, h2, h⟩ := h
    (repeat' split at h) <;> first | exact h.elim | exact ⟨_, h.2.2.2, fun k' hk => ⟨h1, h2, h.1, h.2.1, h.2.2.1, hk⟩⟩
  · unfold vcIndex at h ⊢
    (repeat' split at h) <;> first | exact h.elim | exact ⟨_, h.2.2.2, fun k' hk => ⟨h.1, h.2.1, h.2.2.1, hk⟩⟩
  · rename_i op t x y _
    unfold vcBinN at h ⊢
    split at h
    · obtain ⟨h1, h⟩ := h
      unfold binI at h ⊢
      cases op <;> first | exact h.elim | exact ⟨_, h.2, fun k' hk => ⟨h1, h.1, hk⟩⟩
    · unfold binSt at h ⊢
      cases op <;> first | exact h.elim | exact ⟨_, h.2, fun k' hk => ⟨h.1, hk⟩⟩
    · obtain ⟨h1, h⟩ := h
      unfold binB at h ⊢
      cases op <;> first | exact h.elim | exact ⟨_, h.2, fun k' hk => ⟨h1, h.1, hk⟩⟩
    · obtain ⟨h1, h2, h3, h⟩ := h
      cases op <;> first | exact h.elim | exact ⟨_, h, fun k' hk => ⟨h1, h2, h3, hk⟩⟩
    · exact h.elim
  · unfold vcUn at h ⊢
    (repeat' split at h) <;> first | exact h.elim | exact ⟨_, h, fun k' hk => hk⟩ | exact ⟨_, h.2, fun k' hk => ⟨h.1, hk⟩⟩
  · unfold vcConv at h ⊢
    (repeat' split at h) <;> first | exact h.elim | exact ⟨_, h.2.2.2, fun k' hk => ⟨h.1, h.2.1, h.2.2.1, hk⟩⟩
  · unfold vcExtract at h ⊢
    split at h
    · split at h
      · exact ⟨_, h, fun k' hk => hk⟩
      · exact h.elim
    · exact h.elim
  · rename_i c
    split at h
    · rename_i f hc
      split at h
      · obtain ⟨args', res, c1, c2, c3, c4, c5⟩ := h
        exact ⟨res, c5, fun k' hk => ⟨args', res, c1, c2, c3, c4, hk⟩⟩
      · exact h.elim
    · rename_i hc
      split at h
      · unfold vcLen at h ⊢
        (repeat' split at h) <;> first | exact h.elim | exact h.2.elim | exact ⟨_, h.2, fun k' hk => ⟨h.1, hk⟩⟩
      · exact h.elim
    · exact h.elim
  · exact h.elim

theorem vcD_congr {op : Op} {ρ ρ' : Operand → SV} {hh : List HB} {k : SV → Prop} (he : ∀ x ∈ op.operands, ρ x = ρ' x) (h : vcD E op ρ hh k) : vcD E op ρ' hh k := by
  unfold vcD at h ⊢
  split at h <;> simp only [Op.operands] at he
  case h_3 c x y =>
    have e1 : ρ c = ρ' c := he c (by simp)
    have e2 : ρ x = ρ' x := he x (by simp)
    have e3 : ρ y = ρ' y := he y (by simp)
    rw [e1, e2, e3] at h
    exact h
  case h_13 c =>
    have hargs : c.args.toList.map ρ = c.args.toList.map ρ' := List.map_congr_left fun x hx => he x (by simp only [Call.operands, Array.mem_append]; exact .inr (by simpa using hx))
    split at h
    · rename_i f hc
      have hf : ρ f = ρ' f := he f (by simp [Call.operands, hc])
      rwa [hf, hargs] at h
    · rename_i hc
      split at h
      · rename_i x t e1 e2
        have hx : ρ x = ρ' x := he x (by
          have : x ∈ c.args := by rw [← Array.mem_toList_iff, e1]; simp
          simp [Call.operands, this])
        rwa [hx] at h
      · exact h.elim
    · exact h.elim
  all_goals first
    | exact h.elim
    | (simp only [List.mem_toArray, List.mem_cons, List.not_mem_nil, or_false, forall_eq_or_imp, forall_eq] at he; simp_all)

/-- An operation with its guard. -/
def sop (E : Env) (all : List Oper) (o : Oper) (st : St) (K : St → Prop) : Prop :=
  match o.guard with
  | none => vcD E o.op (ev st) st.h fun s => K (st.put o.dst s)
  | some (j, b) => vcGuard (dstOf all j st) b (vcD E o.op (ev st) st.h fun s => K (st.put o.dst s)) (K (st.put o.dst (.t []))) ⟨⟩ ⟨⟩
def vcDs (E : Env) (all : List Oper) : List Oper → St → (St → Prop) → Prop
  | [], st, K => K st
  | o :: r, st, K => sop E all o st fun st' => vcDs E all r st' K

theorem sop_det {all : List Oper} {o : Oper} {st : St} {K : St → Prop} (h : sop E all o st K) : ∃ s, K (st.put o.dst s) ∧ ∀ K' : St → Prop, K' (st.put o.dst s) → sop E all o st K' := by
  unfold sop at h ⊢
  split at h
  · rename_i hg
    obtain ⟨s, h1, h2⟩ := vcD_det h
    exact ⟨s, h1, fun K' hk => h2 (fun s => K' (st.put o.dst s)) hk⟩
  · rename_i j b hg
    unfold vcGuard at h ⊢
    split at h
    · rename_i c e
      by_cases hcb : c = b
      · obtain ⟨s, h1, h2⟩ := vcD_det (h.1 hcb)
        exact ⟨s, h1, fun K' hk => ⟨fun _ => h2 (fun s => K' (st.put o.dst s)) hk, fun hn => (bnot2 hcb hn).elim⟩⟩
      · exact ⟨_, h.2 (bnot hcb), fun K' hk => ⟨fun e => (hcb e).elim, fun _ => hk⟩⟩
    · exact ⟨_, h, fun K' hk => hk⟩
    · exact h.elim

theorem ev_put {st : St} {d : Option Nat} {s : SV} {x : Operand} (h : ∀ e, d = some e → x ≠ .tmp e) : ev (st.put d s) x = ev st x := by
  cases d with
  | none => rfl
  | some d =>
    cases x with
    | tmp t =>
      have hne : d ≠ t := fun e => h d rfl (e ▸ rfl)
      simp only [ev, St.put, nth_eq, setN_eq, List.getD_eq_getElem?_getD, List.getElem?_set, if_neg hne]
    | _ => rfl
theorem h_put (st : St) (d : Option Nat) (s : SV) : (st.put d s).h = st.h := by cases d <;> rfl
theorem put_put (st : St) {x y : Option Nat} (v u : SV) (h : ∀ d, x = some d → y ≠ some d) : (st.put x v).put y u = (st.put y u).put x v := by
  cases x with
  | none => rfl
  | some d => cases y with
    | none => rfl
    | some e =>
      have hne : d ≠ e := fun he => h d rfl (he ▸ rfl)
      simp only [St.put, setN_eq]
      rw [List.set_comm _ _ hne]
theorem dstOf_put {all : List Oper} {o : Oper} {j : Nat} {b : Bool} (hg : o.guard = some (j, b)) {st : St} {d : Option Nat} {s : SV} (h : ∀ e, d = some e → e ∉ o.looksAt all.toArray) : dstOf all j (st.put d s) = dstOf all j st := by
  unfold dstOf
  rw [nthO_eq]
  cases ho : all[j]? with
  | none => rfl
  | some o' =>
    simp only []
    cases hd : o'.dst with
    | none => rfl
    | some d' =>
      simp only []
      have : ev (st.put d s) (.tmp d') = ev st (.tmp d') := ev_put fun e he hx => by
        cases hx
        exact h d' he (by simp [Oper.looksAt, hg, ho, hd])
      exact this

/-- Operation oj, apart from oi: it does the same before as behind it. -/
theorem sop_put {all : List Oper} {oi oj : Oper} {v : SV} {st : St} (hap : oi.apart all.toArray oj = true) {K : St → Prop} (h : sop E all oj (st.put oi.dst v) K) :
    ∃ u, K ((st.put oj.dst u).put oi.dst v) ∧ ∀ K' : St → Prop, K' (st.put oj.dst u) → sop E all oj st K' := by
  obtain ⟨h1, h2, h3⟩ := Oper.apart_spec hap
  have he : ∀ x ∈ oj.op.operands, ev (st.put oi.dst v) x = ev st x := fun x hx => ev_put fun e he hxe => by
    subst hxe
    exact h1 e he (List.mem_append_left _ (List.mem_filterMap.2 ⟨.tmp e, by simpa using hx, rfl⟩))
  have step : vcD E oj.op (ev (st.put oi.dst v)) (st.put oi.dst v).h (fun s => K ((st.put oi.dst v).put oj.dst s)) → ∃ u, K ((st.put oj.dst u).put oi.dst v) ∧ ∀ K' : St → Prop, K' (st.put oj.dst u) → vcD E oj.op (ev st) st.h fun s => K' (st.put oj.dst s) := fun h => by
    obtain ⟨u, k1, k2⟩ := vcD_det h
    refine ⟨u, by rw [← put_put st v u h2]; exact k1, fun K' hk => ?_⟩
    have := k2 (fun s => K' (st.put oj.dst s)) hk
    rw [h_put] at this
    exact vcD_congr he this
  unfold sop at h ⊢
  split at h
  · rename_i hg
    exact step h
  · rename_i j b hg
    rw [dstOf_put hg h1] at h
    unfold vcGuard at h ⊢
    split at h
    · rename_i c e
      by_cases hcb : c = b
      · obtain ⟨u, k1, k2⟩ := step (h.1 hcb)
        exact ⟨u, k1, fun K' hk => ⟨fun _ => k2 K' hk, fun hn => (bnot2 hcb hn).elim⟩⟩
      · exact ⟨.t [], by rw [← put_put st v _ h2]; exact h.2 (bnot hcb), fun K' hk => ⟨fun e => (hcb e).elim, fun _ => hk⟩⟩
    · exact ⟨.t [], by rw [← put_put st v _ h2]; exact h, fun K' hk => hk⟩
    · exact h.elim

/-- oi: its value is s, whatever is asked of it; and this stays so when operations apart from it have come up. -/
def YieldsS (E : Env) (all : List Oper) (o : Oper) (s : SV) (st : St) : Prop := ∀ K : St → Prop, K (st.put o.dst s) → sop E all o st K
theorem YieldsS.keep {all : List Oper} {oi oj : Oper} {v u : SV} {st : St} (hap : oi.apart all.toArray oj = true) (h : YieldsS E all oi v st) : YieldsS E all oi v (st.put oj.dst u) := by
  obtain ⟨h1, h2, h3⟩ := Oper.apart_spec hap
  have he : ∀ x ∈ oi.op.operands, ev st x = ev (st.put oj.dst u) x := fun x hx => (ev_put fun e he hxe => by
    subst hxe
    exact h3 e he (List.mem_append_left _ (List.mem_filterMap.2 ⟨.tmp e, by simpa using hx, rfl⟩))).symm
  intro K hk
  have h0 := h (fun s => K (s.put oj.dst u)) (by rw [put_put st v u h2]; exact hk)
  have step : (vcD E oi.op (ev st) st.h fun s => K ((st.put oi.dst s).put oj.dst u)) → vcD E oi.op (ev (st.put oj.dst u)) (st.put oj.dst u).h fun s => K ((st.put oj.dst u).put oi.dst s) := fun h => by
    rw [h_put]
    refine vcD_congr he ?_
    have e : (fun s => K ((st.put oj.dst u).put oi.dst s)) = fun s => K ((st.put oi.dst s).put oj.dst u) := funext fun s => by rw [put_put st s u h2]
    rw [e]; exact h
  unfold sop at h0 ⊢
  split at h0
  · exact step h0
  · rename_i j b hg
    rw [dstOf_put hg h3]
    unfold vcGuard at h0 ⊢
    split at h0
    · rename_i c e
      exact ⟨fun hc => step (h0.1 hc), fun hc => by rw [← put_put st _ u h2]; exact h0.2 hc⟩
    · rw [← put_put st _ u h2]; exact h0
    · exact h0.elim

/-- Whatever order is picked from here on. -/
def wpAnyT (E : Env) (md : Region.Mode) (all : List Oper) (K : St → Prop) : Nat → Array Bool → St → Prop
  | 0, listed, st => Region.ready md all.toArray listed = [] ∧ K st
  | fuel + 1, listed, st =>
    (Region.ready md all.toArray listed = [] → K st) ∧
    ∀ i ∈ Region.ready md all.toArray listed, ∀ o, all.toArray[i]? = some o → sop E all o st (wpAnyT E md all K fuel (listed.setIfInBounds i true))

theorem sop_mono {all : List Oper} {o : Oper} {st : St} {K K' : St → Prop} (hm : ∀ s, K s → K' s) (h : sop E all o st K) : sop E all o st K' := by
  obtain ⟨s, h1, h2⟩ := sop_det h
  exact h2 K' (hm _ h1)

theorem wpAnyT_first {md : Region.Mode} {all : List Oper} {K : St → Prop} {i : Nat} {oi : Oper} {v : SV} (hi : all.toArray[i]? = some oi) :
    ∀ (fuel : Nat) (listed : Array Bool) (st : St),
      (∀ j oj, all.toArray[j]? = some oj → j ≠ i → listed.getD j true = false → (∀ e ∈ oj.after, Region.binds md e = true → e.on ≠ i) → oi.apart all.toArray oj = true) →
      i ∈ Region.ready md all.toArray listed → YieldsS E all oi v st →
      wpAnyT E md all K fuel (listed.setIfInBounds i true) (st.put oi.dst v) → wpAnyT E md all K (fuel + 1) listed st := by
  intro fuel
  induction fuel with
  | zero =>
    intro listed st _ hr hy H
    refine ⟨fun h => (by rw [h] at hr; cases hr), fun j hj o ho => ?_⟩
    by_cases hji : j = i
    · subst hji; rw [hi] at ho; cases ho; exact hy _ H
    · have := ready_mono hj hji
      rw [H.1] at this
      cases this
  | succ fuel ih =>
    intro listed st hfree hr hy H
    refine ⟨fun h => (by rw [h] at hr; cases hr), fun j hj oj hoj => ?_⟩
    by_cases hji : j = i
    · subst hji; rw [hi] at hoj; cases hoj; exact hy _ H
    · have h1 := H.2 j (ready_mono hj hji) oj hoj
      obtain ⟨hjun, oj', hoj', hall⟩ := mem_ready.1 hj
      rw [hoj] at hoj'; cases hoj'
      have hnot : ∀ e ∈ oj.after, Region.binds md e = true → e.on ≠ i := fun e he hb heq => by
        have h1 := hall e he hb
        have h0 := (mem_ready.1 hr).1
        rw [heq] at h1
        rcases Nat.lt_or_ge i listed.size with h' | h'
        · simp [h'] at h0 h1; rw [h0] at h1; cases h1
        · simp [Array.getElem?_eq_none h'] at h1
      have hap := hfree j oj hoj hji hjun hnot
      obtain ⟨u, k1, k2⟩ := sop_put hap h1
      have hfree' : ∀ k ok, all.toArray[k]? = some ok → k ≠ i → (listed.setIfInBounds j true).getD k true = false →
          (∀ e ∈ ok.after, Region.binds md e = true → e.on ≠ i) → oi.apart all.toArray ok = true := fun k ok hk hki hun hno => by
        refine hfree k ok hk hki ?_ hno
        by_cases hjk : j = k
        · subst hjk; exact hjun
        · rw [getD_set_ne true hjk] at hun; exact hun
      refine k2 _ (ih (listed.setIfInBounds j true) _ hfree' (ready_mono hr (Ne.symm hji)) (hy.keep hap) ?_)
      rw [Array.setIfInBounds_comm _ _ hji]
      exact k1

theorem wpAnyT_lex {md : Region.Mode} {all : List Oper} {K : St → Prop} : ∀ (l : List Oper) (k : Nat) (listed : Array Bool) (st : St), (∀ j : Nat, l[j]? = all.toArray[k + j]?) →
    Region.lexFrom md all.toArray l.length k listed = true → vcDs E all l st K → wpAnyT E md all K l.length listed st
  | [], _, _, _, _, hB, h => ⟨by simpa [Region.lexFrom] using hB, h⟩
  | o :: l, k, listed, st, hl, hB, h => by
    have h0 : all.toArray[k]? = some o := by simpa using (hl 0).symm
    simp only [List.length_cons, Region.lexFrom, Bool.and_eq_true] at hB
    obtain ⟨⟨hr, hf⟩, hB'⟩ := hB
    obtain ⟨s, h1, h2⟩ := sop_det h
    exact wpAnyT_first h0 l.length listed st (Region.free_spec h0 hf) (by simpa using hr) h2
      (wpAnyT_lex l (k + 1) _ _ (fun j => by have := hl (j + 1); simpa [Nat.add_assoc, Nat.add_comm 1 j] using this) hB' h1)

theorem sop_ok (hT : TyOK E.P E.T) (hE : ∀ t, E.eqk t ≠ [] → EqT E.P t (E.eqk t)) {all : List Oper} {o : Oper} {K : St → Prop} {K' : Act → World → Prop} {Q : Exit → Act → World → Prop} {i : Nat} (hi : all.toArray[i]? = some o)
    {st : St} {g : List Gh} {V : View} {a : Act} {w : World} (hr : Rel E.C g V st a w) (hK : ∀ g V st a w, Rel E.C g V st a w → K st → K' a w) (h : sop E all o st K) : wpOp E.P all.toArray Q i K' a w := by
  unfold wpOp
  simp only [hi]
  have hyes : (vcD E o.op (ev st) st.h fun s => K (st.put o.dst s)) → o.wp E.P a w K' Q := fun hk =>
    vcOp_ok hT hE (vcD_vcOp hk) hr fun g' V' st' w' s y hr' hs hk => by
      obtain ⟨rfl, hk⟩ := hk
      exact hK _ _ _ _ _ (hr'.put o.dst hs) hk
  have hno : K (st.put o.dst (.t [])) → K' (a.put o.dst undef) w := fun hk => hK _ _ _ _ _ (hr.put o.dst (undef_ok g V)) hk
  unfold sop at h
  split at h
  · rename_i hgd
    simp only [Region.wanted, hgd, if_true]
    exact .inl (hyes h)
  · rename_i j b hgd
    unfold vcGuard at h
    split at h
    · rename_i c e
      have hy := (yielded_ok hr.sl all j c).1 e
      simp only [Region.wanted, hgd, hy]
      by_cases hcb : c = b
      · subst hcb
        simp only [beq_self_eq_true, if_true]
        exact .inl (hyes (h.1 rfl))
      · have hne : (some c == some b) = false := by simpa using hcb
        rw [hne]
        simp only [Bool.false_eq_true, if_false]
        exact hno (h.2 (bnot hcb))
    · rename_i e
      have hy := (yielded_ok hr.sl all j true).2 e
      simp only [Region.wanted, hgd, hy]
      have hne : ((none : Option Bool) == some b) = false := rfl
      rw [hne]
      simp only [Bool.false_eq_true, if_false]
      exact hno h
    · exact h.elim

theorem wpAny_of_T (hT : TyOK E.P E.T) (hE : ∀ t, E.eqk t ≠ [] → EqT E.P t (E.eqk t)) {md : Region.Mode} {all : List Oper} {K : St → Prop} {Q : Exit → Act → World → Prop} (hQ : ∀ g V st a w, Rel E.C g V st a w → K st → Q .normal a w) :
    ∀ (fuel : Nat) (listed : Array Bool) (st : St) (g : List Gh) (V : View) (a : Act) (w : World), Rel E.C g V st a w → wpAnyT E md all K fuel listed st → wpAny E.P md all.toArray Q fuel listed a w
  | 0, _, _, _, _, _, _, hr, h => ⟨h.1, hQ _ _ _ _ _ hr h.2⟩
  | fuel + 1, listed, st, g, V, a, w, hr, h => ⟨fun h0 => hQ _ _ _ _ _ hr (h.1 h0), fun i hi => by
      obtain ⟨_, o, ho, _⟩ := mem_ready.1 hi
      exact sop_ok hT hE ho hr (fun g V st a w hr h => wpAny_of_T hT hE hQ fuel _ st g V a w hr h) (h.2 i hi o ho)⟩

theorem Rel.drawn {C : Ctx} {g : List Gh} {V : View} {st : St} {a : Act} {w : World} (h : Rel C g V st a w) : Rel C g V st a { w with drawn := w.drawn + 1 } :=
  ⟨h.sl, ⟨h.hp.1, h.hp.2, h.hp.3, h.hp.4, h.hp.5, h.hp.6⟩, h.mod, ⟨h.fr.os, h.fr.tape, h.fr.output, h.fr.size, h.fr.block⟩, h.vw.move fun _ _ _ => rfl⟩

theorem WP_draw (hT : TyOK E.P E.T) (hE : ∀ t, E.eqk t ≠ [] → EqT E.P t (E.eqk t)) (hm : E.P.follows .mixedOrders = true) {id : Nat} {ops : List Oper} {F : Ex → St → Prop} {st : St} (hB : Region.lexB .any ops.toArray = true) (h : vcDs E ops ops st (F .normal)) :
    WP E.P E.C (.region id ops.toArray true) F st := fun g V a w hr => by
  simp only [Region.lexB, Bool.and_eq_true] at hB
  refine wp_region_any hm ?_
  have := wpAnyT_lex (E := E) (md := .any) (K := F .normal) ops 0 (Array.replicate ops.length false) st (by simp) (by simpa using hB.2) h
  exact wpAny_of_T hT hE (fun g V st _ _ hr h => ⟨g, V, st, hr, h⟩) _ _ st g V a _ hr.drawn (by simpa using this)
end
end Go.Sx
