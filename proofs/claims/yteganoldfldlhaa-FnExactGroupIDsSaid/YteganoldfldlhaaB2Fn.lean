/-
  Regions, a function's entry and its returns, calls by contract.
-/
import Derived.Test.YteganoldfldlhaaB1Zall
set_option linter.all false
namespace Go.Sx
open Go Go.RowKit

def nthO : List Oper → Nat → Option Oper
  | [], _ => none
  | x :: _, 0 => some x
  | _ :: xs, n + 1 => nthO xs n
theorem nthO_eq (l : List Oper) (n : Nat) : nthO l n = l[n]? := by
  induction l generalizing n with
  | nil => rfl
  | cons x xs ih => cases n with
    | zero => rfl
    | succ n => simpa [nthO] using ih n
/-- What the operation j of a region has put into its slot. -/
def dstOf (all : List Oper) (j : Nat) (st : St) : SV :=
  match nthO all j with
  | some o => match o.dst with
    | some d => nth st.t d
    | none => .o .u
  | none => .o .u
/-- A guard: it asks for the Bool b. -/
def vcGuard (s : SV) (b : Bool) (yes no : Prop) (_ : Tie yes) (_ : Tie no) : Prop :=
  match s with
  | .o (.d (.v (.bool c))) => (c = b → yes) ∧ (c = !b → no)
  | .t [] => no
  | _ => False
/-- The operations of a region, one behind the other. -/
def vcOps (E : Env) (all : List Oper) : List Oper → St → (St → Prop) → Prop
  | [], st, K => K st
  | o :: r, st, K => match o.guard with
    | none => vcOp E o.op st fun st' s => vcOps E all r (st'.put o.dst s) K
    | some (j, b) => vcGuard (dstOf all j st) b (vcOp E o.op st fun st' s => vcOps E all r (st'.put o.dst s) K) (vcOps E all r (st.put o.dst (.t [])) K) ⟨⟩ ⟨⟩

section
variable {E : Env}

theorem yielded_ok {g : List Gh} {V : View} {st : St} {a : Act} (h : Sl g V st.t a) (all : List Oper) (j : Nat) (c : Bool) : 
    (dstOf all j st = .o (.d (.v (.bool c))) → yielded all.toArray a.tmps j = some c) ∧ (dstOf all j st = .t [] → yielded all.toArray a.tmps j = none) := by
  unfold dstOf yielded
  rw [nthO_eq]
  cases ho : all[j]? with
  | none => simp
  | some o =>
    have h1 : all.toArray[j]? = some o := by simpa using ho
    simp only [h1, Option.bind_some]
    cases hd : o.dst with
    | none => simp
    | some d =>
      simp only [Option.bind_some]
      have hev := ev_ok h (.tmp d)
      simp only [ev, Act.eval] at hev
      constructor
      · intro e
        rw [e] at hev
        obtain ⟨hv, _⟩ := cSV_scalar hev
        rcases Nat.lt_or_ge d a.tmps.size with hl | hl
        · have e1 : a.tmps.getD d undef = a.tmps[d] := by simp [Array.getD, hl]
          rw [Array.getElem?_eq_getElem hl, ← e1, hv]
        · have e1 : a.tmps.getD d undef = undef := by simp [Array.getD, Nat.not_lt.2 hl]
          rw [e1] at hv; cases hv
      · intro e
        rw [e] at hev
        obtain ⟨ys, hv, hl0, _⟩ := hev
        rcases Nat.lt_or_ge d a.tmps.size with hl | hl
        · have e1 : a.tmps.getD d undef = a.tmps[d] := by simp [Array.getD, hl]
          rw [Array.getElem?_eq_getElem hl, ← e1, hv]
        · rw [Array.getElem?_eq_none hl]

theorem vcOps_ok (hT : TyOK E.P E.T) (hE : ∀ t, E.eqk t ≠ [] → EqT E.P t (E.eqk t)) {all : List Oper} {Q : Exit → Act → World → Prop} {K : St → Prop} (hQ : ∀ g V st a w, Rel E.C g V st a w → K st → Q .normal a w) :
    ∀ {l : List Oper} {st : St} {g : List Gh} {V : View} {a : Act} {w : World}, vcOps E all l st K → Rel E.C g V st a w → wpList E.P all.toArray Q l a w := by
  intro l
  induction l with
  | nil => intro st g V a w h hr; exact hQ g V st a w hr h
  | cons o r ih =>
    intro st g V a w h hr
    simp only [vcOps] at h
    cases hgd : o.guard with
    | none =>
      rw [hgd] at h
      refine wpList_plain hgd fun K' hK' => ?_
      exact vcOp_ok hT hE h hr fun g' V' st' w' s y hr' hs hk => hK' _ _ (ih hk (hr'.put o.dst hs))
    | some jb =>
      obtain ⟨j, b⟩ := jb
      rw [hgd] at h
      simp only [vcGuard] at h
      refine wpList_step fun K' hK' => ?_
      have hno : vcOps E all r (st.put o.dst (.t [])) K → K' (a.put o.dst undef) w := fun hk => hK' _ _ (ih hk (hr.put o.dst (undef_ok g V)))
      have hyes : vcOp E o.op st (fun st' s => vcOps E all r (st'.put o.dst s) K) → o.wp E.P a w K' Q := fun hk =>
        vcOp_ok hT hE hk hr fun g' V' st' w' s y hr' hs hk => hK' _ _ (ih hk (hr'.put o.dst hs))
      split at h
      · rename_i c e
        have hy := (yielded_ok hr.sl all j c).1 e
        simp only [Region.wanted, hgd, hy]
        by_cases hcb : c = b
        · subst hcb
          simp only [beq_self_eq_true, if_true]
          exact hyes (h.1 rfl)
        · have hne : (some c == some b) = false := by simpa using hcb
          rw [hne]
          simp only [Bool.false_eq_true, if_false]
          exact hno (h.2 (by cases c <;> cases b <;> simp_all))
      · rename_i e
        have hy := (yielded_ok hr.sl all j true).2 e
        simp only [Region.wanted, hgd, hy]
        have hne : ((none : Option Bool) == some b) = false := rfl
        rw [hne]
        simp only [Bool.false_eq_true, if_false]
        exact hno h
      · exact h.elim

theorem WP_region (hT : TyOK E.P E.T) (hE : ∀ t, E.eqk t ≠ [] → EqT E.P t (E.eqk t)) {id : Nat} {ops : List Oper} {F : Ex → St → Prop} {st : St} (h : vcOps E ops ops st (F .normal)) : WP E.P E.C (.region id ops.toArray false) F st :=
  fun _ _ _ _ hr => wp_region_lit (vcOps_ok hT hE (fun g V st _ _ hr h => ⟨g, V, st, hr, h⟩) h hr)

theorem WP_cond {c : Operand} {x y : Code} {F : Ex → St → Prop} {st : St} {b : Bool} (hc : ev st c = .o (.d (.v (.bool b)))) (h1 : b = true → WP E.P E.C x F st) (h2 : b = false → WP E.P E.C y F st) : WP E.P E.C (.cond c x y) F st := by
  intro g V a w hr
  have := ev_ok hr.sl c
  rw [hc] at this
  obtain ⟨hv, _⟩ := cSV_scalar this
  exact wp_cond_split hv (fun e => h1 e g V a w hr) (fun e => h2 e g V a w hr)

end

/-- What is described by st may be described by st'. -/
def Sees (C : Ctx) (st st' : St) : Prop := ∀ g V a w, Rel C g V st a w → ∃ g' V', Rel C g' V' st' a w
theorem Sees.refl (C : Ctx) (st : St) : Sees C st st := fun g V _ _ h => ⟨g, V, h⟩
theorem Sees.trans {C : Ctx} {s t u : St} (h : Sees C s t) (k : Sees C t u) : Sees C s u := fun g V a w hr => by
  obtain ⟨g', V', h'⟩ := h g V a w hr
  exact k g' V' a w h'
theorem Sees.forget {C : Ctx} {s t : St} (h : s.le t) (hb : t.okB = true) : Sees C s t := fun g V _ _ hr => ⟨_, V, hr.forget h hb⟩
theorem Sees.frz {C : Ctx} {st : St} (id : Nat) {ty sz : Nat} {rows : List (List D)} {lin : Bool} (h : nthH st.h id = .row ty sz rows lin) : Sees C st ⟨st.t, setH st.h id (.frz rows lin)⟩ := fun g V a w hr => by
  obtain ⟨g', V', h1, h2, h3, h4, h5⟩ := hr.hp.frz hr.mod hr.fr.size (nthH_some h (by simp))
  refine ⟨g', V', hr.sl.mono h1 h2, by rw [setH_eq]; exact h4, h3, hr.fr, hr.vw.grow h2 h5⟩
theorem WP.sees {P : Program} {C : Ctx} {c : Code} {F : Ex → St → Prop} {st st' : St} (h : Sees C st st') (k : WP P C c F st') : WP P C c F st := fun g V a w hr => by
  obtain ⟨g', V', hr'⟩ := h g V a w hr
  exact k g' V' a w hr'

/-! ### Returns -/

def retV (E : Env) (st : St) : ResultVar → Option (Bool × List At)
  | .tmp t => match nth st.t t with
    | .o a => some (false, [a])
    | .g cs => some (true, cs)
    | .t _ => none
  | .cell t ty => match nth st.t t with
    | .o (.p id off) => match nthH st.h id with
      | .box _ cs => if (E.T ty).tag = 0 then none else (sub cs off (E.T ty).size).map fun r => ((E.T ty).agg, r)
      | _ => none
    | _ => none
def retVs (E : Env) (st : St) : List ResultVar → Option (List (Bool × List At))
  | [] => some []
  | r :: rs => (retV E st r).bind fun x => (retVs E st rs).map fun xs => x :: xs
/-- A cell that comes back against what the contract says of it. -/
def retA (h : List HB) : At → At → Prop
  | .d x, .d y => x = y
  | .z, .d y => y = .sl []
  | .z, .w _ _ rows => rows = []
  | .s id, .d y => match nthH h id with
    | .frz rows _ => y = .sl rows
    | _ => False
  | .s id, .w ty sz rows => match nthH h id with
    | .row ty' sz' rows' lin => ty' = ty ∧ sz' = sz ∧ rows' = rows ∧ lin = true
    | _ => False
  | _, _ => False
def retAs (h : List HB) : List At → List At → Prop
  | [], [] => True
  | [a], [b] => retA h a b
  | a :: as, b :: bs => retA h a b ∧ retAs h as bs
  | _, _ => False
def wIds : List At → List At → List Nat
  | .s id :: as, .w _ _ _ :: bs => id :: wIds as bs
  | _ :: as, _ :: bs => wIds as bs
  | _, _ => []
def resL : SV → List (Bool × List At)
  | .o a => [(false, [a])]
  | .g cs => [(true, cs)]
  | .t l => l
def notOne : SV → Prop
  | .t l => l.length ≠ 1
  | _ => True
/-- The results are what the contract says. -/
structure RetOK (E : Env) (st : St) (rs : List ResultVar) (res : SV) : Prop where
  ok : ∃ l, retVs E st rs = some l ∧ l.map (fun x => (x.1, x.2.length)) = (resL res).map (fun x => (x.1, x.2.length)) ∧ retAs st.h (l.flatMap (·.2)) ((resL res).flatMap (·.2)) ∧ (wIds (l.flatMap (·.2)) ((resL res).flatMap (·.2))).Nodup
  one : notOne res

theorem retAs_get {h : List HB} : ∀ {as bs : List At}, retAs h as bs → as.length = bs.length ∧ ∀ (k : Nat) (a b : At), as[k]? = some a → bs[k]? = some b → retA h a b
  | [], [], _ => ⟨rfl, fun k a b h => by simp at h⟩
  | [a], [b], hr => ⟨rfl, fun k a' b' h1 h2 => by
    cases k with
    | zero => simp at h1 h2; subst h1; subst h2; exact hr
    | succ k => simp at h1⟩
  | a :: a2 :: as, b :: b2 :: bs, hr => by
    obtain ⟨e, k⟩ := retAs_get (as := a2 :: as) (bs := b2 :: bs) hr.2
    refine ⟨by simpa using e, fun i x y h1 h2 => ?_⟩
    cases i with
    | zero => simp at h1 h2; subst h1; subst h2; exact hr.1
    | succ i => exact k i x y (by simpa using h1) (by simpa using h2)
  | [_], _ :: _ :: _, hr => by simp [retAs] at hr
  | _ :: _ :: _, [_], hr => by simp [retAs] at hr
  | [], _ :: _, hr => by simp [retAs] at hr
  | _ :: _, [], hr => by simp [retAs] at hr

section
variable {E : Env} {C : Ctx} {g : List Gh} {V : View} {st : St} {a : Act} {w : World}

/-- The blocks that go to the caller with a cell. -/
def goS (g : List Gh) : At → At → List Nat
  | .s id, .w _ _ _ => match g[id]? with
    | some x => x.blk.toList ++ x.tr
    | none => []
  | _, _ => []
def goSs (g : List Gh) : List At → List At → List (List Nat)
  | a :: as, b :: bs => goS g a b :: goSs g as bs
  | _, _ => []
theorem goSs_len (g : List Gh) : ∀ {as bs : List At}, as.length = bs.length → (goSs g as bs).length = as.length
  | [], [], _ => rfl
  | a :: as, b :: bs, h => by simp [goSs, goSs_len g (as := as) (bs := bs) (by simpa using h)]
  | [], _ :: _, h => by simp at h
  | _ :: _, [], h => by simp at h
theorem goSs_get (g : List Gh) : ∀ {as bs : List At} {k : Nat} {a b : At}, as[k]? = some a → bs[k]? = some b → (goSs g as bs)[k]? = some (goS g a b)
  | [], _, _, _, _, h, _ => by simp at h
  | _ :: _, [], _, _, _, _, h => by simp at h
  | a :: as, b :: bs, 0, x, y, h1, h2 => by simp at h1 h2; subst h1; subst h2; rfl
  | a :: as, b :: bs, k + 1, x, y, h1, h2 => by simpa [goSs] using goSs_get g (as := as) (bs := bs) (k := k) (by simpa using h1) (by simpa using h2)

theorem retA_ok (hr : Rel C g V st a w) {x r : At} {y : Value} (h : retA st.h x r) (hy : cAt g V x y) : rAt V w r y (goS g x r) := by
  cases x with
  | d x => cases r with
    | d z => have h : x = z := h; subst h; exact ⟨rfl, hy⟩
    | _ => exact h.elim
  | z => cases r with
    | d z => have h : z = .sl [] := h; subst h; have hy : y = _ := hy; subst hy; exact ⟨rfl, [], .nil⟩
    | w ty sz rows => have h : rows = [] := h; subst h; have hy : y = _ := hy; subst hy; exact ⟨by simp, [], [], LayL.nil _, .inl ⟨⟨none, rfl⟩, rfl, rfl⟩⟩
    | _ => exact h.elim
  | s id =>
    obtain ⟨gh, hg, hv, _⟩ := hy
    cases r with
    | d z =>
      simp only [retA] at h
      split at h
      · rename_i rows lin e
        subst h
        obtain ⟨_, S, hl, _⟩ := hr.hp.hb id _ gh (nthH_some e (by simp)) hg
        exact ⟨rfl, S, by rw [hv]; exact hl⟩
      · exact h.elim
    | w ty sz rows =>
      simp only [retA] at h
      split at h
      · rename_i ty' sz' rows' lin e
        obtain ⟨rfl, rfl, rfl, rfl⟩ := h
        have hi := nthH_some e (by simp)
        obtain ⟨h0, ys, Ss, q1, q2, q3⟩ := hr.hp.hb id _ gh hi hg
        refine ⟨h0, ys, Ss, q1, ?_⟩
        simp only [goS, hg]
        rcases q3 with ⟨e1, e2, e3⟩ | ⟨b, cap, c, e1, e2, e3, e4, e5, e6, e7⟩
        · subst e3
          have hss : Ss = [] := by have := q1.2.1; simpa using this
          subst hss
          obtain ⟨ao, e2⟩ := e2
          exact .inl ⟨⟨ao, by rw [hv, e2]⟩, rfl, by rw [e1, q2 rfl]; rfl⟩
        · exact .inr ⟨b, cap, c, by rw [hv, e2], e3, e4, e5, e6, e7, hr.hp.rt id _ gh hi hg b (by simp [rootB, e1]), by rw [e1, q2 rfl]; rfl⟩
      · exact h.elim
    | _ => exact h.elim
  | _ => cases r <;> exact h.elim

theorem goS_mem (hr : Rel C g V st a w) : ∀ {as bs : List At}, retAs st.h as bs → ∀ b ∈ (goSs g as bs).flatten, ∃ id ∈ wIds as bs, ∃ (x : Gh) (hb : HB), st.h[id]? = some hb ∧ g[id]? = some x ∧ b ∈ ownB x hb ∧ ownB x hb = x.blk.toList ++ x.tr
  | [], [], _, b, hb => by simp [goSs] at hb
  | [], _ :: _, h, _, _ => by simp [retAs] at h
  | _ :: _, [], h, _, _ => by simp [retAs] at h
  | x :: as, r :: bs, h, b, hb => by
    have hx : retA st.h x r := (retAs_get h).2 0 x r rfl rfl
    have ht : retAs st.h as bs := by
      cases as with
      | nil => cases bs with
        | nil => trivial
        | cons => simp [retAs] at h
      | cons a2 as => cases bs with
        | nil => simp [retAs] at h
        | cons b2 bs => exact h.2
    simp only [goSs, List.flatten_cons, List.mem_append] at hb
    rcases hb with hb | hb
    · cases x with
      | s id => cases r with
        | w ty sz rows =>
          simp only [goS] at hb
          cases hg : g[id]? with
          | none => simp [hg] at hb
          | some gx =>
            simp only [hg] at hb
            simp only [retA] at hx
            split at hx
            · rename_i ty' sz' rows' lin e
              obtain ⟨rfl, rfl, rfl, rfl⟩ := hx
              exact ⟨id, by simp [wIds], gx, _, nthH_some e (by simp), hg, by simpa [ownB] using hb, by simp [ownB]⟩
            · exact hx.elim
        | _ => simp [goS] at hb
      | _ => simp [goS] at hb
    · obtain ⟨id, h1, h2⟩ := goS_mem hr ht b hb
      refine ⟨id, ?_, h2⟩
      cases x <;> cases r <;> simp [wIds, h1]

theorem goS_nodup (hr : Rel C g V st a w) : ∀ {as bs : List At}, retAs st.h as bs → (wIds as bs).Nodup → (goSs g as bs).flatten.Nodup
  | [], [], _, _ => by simp [goSs]
  | [], _ :: _, h, _ => by simp [retAs] at h
  | _ :: _, [], h, _ => by simp [retAs] at h
  | x :: as, r :: bs, h, hn => by
    have hx : retA st.h x r := (retAs_get h).2 0 x r rfl rfl
    have ht : retAs st.h as bs := by
      cases as with
      | nil => cases bs with
        | nil => trivial
        | cons => simp [retAs] at h
      | cons a2 as => cases bs with
        | nil => simp [retAs] at h
        | cons b2 bs => exact h.2
    have plain : goS g x r = [] → (wIds as bs).Nodup → (goSs g (x :: as) (r :: bs)).flatten.Nodup := fun e hn' => by
      simp only [goSs, List.flatten_cons, e, List.nil_append]
      exact goS_nodup hr ht hn'
    cases x with
    | s id => cases r with
      | w ty sz rows =>
        simp only [wIds, List.nodup_cons] at hn
        simp only [retA] at hx
        split at hx
        · rename_i ty' sz' rows' lin e
          obtain ⟨rfl, rfl, rfl, rfl⟩ := hx
          have hi := nthH_some e (by simp)
          obtain ⟨gx, hg, _⟩ := hr.ghost hi
          simp only [goSs, List.flatten_cons, goS, hg]
          have hown : ownB gx (.row ty' sz' rows' true) = gx.blk.toList ++ gx.tr := by simp [ownB]
          refine List.nodup_append.2 ⟨by rw [← hown]; exact hr.hp.nd id _ gx hi hg, goS_nodup hr ht hn.2, fun b hb c hc => ?_⟩
          rintro rfl
          obtain ⟨id', h1, x', hb', e1, e2, e3, _⟩ := goS_mem hr ht b hc
          exact hr.hp.dj id id' _ hb' gx x' (fun e => hn.1 (e ▸ h1)) hi hg e1 e2 b (by rw [hown]; exact hb) e3
        · exact hx.elim
      | _ => exact plain rfl (by simpa [wIds] using hn)
    | _ => cases r <;> exact plain rfl (by simpa [wIds] using hn)

theorem retV_ok (hT : TyOK E.P E.T) (hr : Rel C g V st a w) {r : ResultVar} {b : Bool} {cs : List At} (h : retV E st r = some (b, cs)) :
    ∃ v l, ((match r with | .tmp t => pure (a.tmps.getD t undef) | .cell x t => do loadVar t (← asAddr (a.tmps.getD x undef))) : Sem Value).run E.P w = .ok v w ∧ (if b then v = .agg (List.toArray l) else l = [v]) ∧ cL g V cs l := by
  cases r with
  | tmp t =>
    simp only [retV] at h
    have hx := ev_ok hr.sl (.tmp t)
    simp only [ev, Act.eval] at hx
    split at h
    · rename_i x e
      cases h
      rw [e] at hx
      exact ⟨_, [a.tmps.getD t undef], rfl, by simp, cL.cons hx (cL.nil g V)⟩
    · rename_i x e
      cases h
      rw [e] at hx
      obtain ⟨l, hl, hc⟩ := hx
      exact ⟨_, l, rfl, by simpa using hl, hc⟩
    · cases h
  | cell t ty =>
    simp only [retV] at h
    have hx := ev_ok hr.sl (.tmp t)
    simp only [ev, Act.eval] at hx
    split at h
    · rename_i id off e
      rw [e] at hx
      obtain ⟨gh, bk, hg, hb, hp⟩ := hx
      split at h
      · rename_i ty' cs' hbox
        split at h
        · cases h
        · rename_i htag
          simp only [Option.map_eq_some_iff] at h
          obtain ⟨r, hsub, h⟩ := h
          cases h
          obtain ⟨i, z, u, hgood⟩ := hT.good htag
          obtain ⟨b', l, e1, e2, e3⟩ := hr.hp.hb id _ gh (nthH_some hbox (by simp)) hg
          rw [hb] at e1
          cases e1
          obtain ⟨c1, c2, c3⟩ := sub_c hsub e3
          have hrun := run_loadAt hgood w ⟨bk, off, none⟩ ((l.drop off).take (E.T ty).size) c3 (fun j y hj => by
            rw [List.getElem?_take] at hj
            split at hj
            · rw [List.getElem?_drop] at hj
              rw [Addr.add_lit, cell_of_row w bk _ _ ty' (0, 0) e2]
              simpa using hj
            · cases hj)
          refine ⟨if (E.T ty).agg then .agg ((l.drop off).take (E.T ty).size).toArray else ((l.drop off).take (E.T ty).size).headD undef, (l.drop off).take (E.T ty).size, ?_, ?_, c1⟩
          · simp only [hp, asAddr, Sem.run_bind, Sem.run_pure, Result.andThen_ok]
            simpa [Instr.loadAt, Instr.sureAddr] using hrun
          · cases ha : (E.T ty).agg with
            | true => simp
            | false =>
              have h1 := hgood.agg_size ha
              rw [h1] at c3 ⊢
              match (l.drop off).take 1, c3 with
              | [y], _ => rfl
      · cases h
    · cases h

theorem retVs_ok (hT : TyOK E.P E.T) (hr : Rel C g V st a w) : ∀ {rs : List ResultVar} {l : List (Bool × List At)}, retVs E st rs = some l →
    ∃ (vs : List Value) (ls : List (List Value)), (rs.mapM fun r => ((match r with | .tmp t => pure (a.tmps.getD t undef) | .cell x t => do loadVar t (← asAddr (a.tmps.getD x undef))) : Sem Value)).run E.P w = .ok vs w ∧
      vs.length = l.length ∧ ls.length = l.length ∧ (∀ (k : Nat) (b : Bool) (c : List At) (m : List Value) (v : Value), l[k]? = some (b, c) → ls[k]? = some m → vs[k]? = some v → (if b then v = .agg m.toArray else m = [v]) ∧ cL g V c m) ∧ cL g V (l.flatMap (·.2)) ls.flatten
  | [], l, h => by
    simp only [retVs, Option.some.injEq] at h
    subst h
    exact ⟨[], [], rfl, rfl, rfl, fun k b c m v h => by simp at h, cL.nil g V⟩
  | r :: rs, l, h => by
    simp only [retVs, Option.bind_eq_some_iff, Option.map_eq_some_iff] at h
    obtain ⟨⟨b, cs⟩, h1, l', h2, rfl⟩ := h
    obtain ⟨v, m, e1, e2, e3⟩ := retV_ok hT hr h1
    obtain ⟨vs, ls, f1, f2, f3, f4, f5⟩ := retVs_ok hT hr h2
    refine ⟨v :: vs, m :: ls, ?_, by simp [f2], by simp [f3], fun k b' c m' v' q1 q2 q3 => ?_, ?_⟩
    · rw [List.mapM_cons]
      simp only [Sem.run_bind, e1, Result.andThen_ok, f1, Sem.run_pure]
    · cases k with
      | zero => simp at q1 q2 q3; obtain ⟨rfl, rfl⟩ := q1; subst q2; subst q3; exact ⟨e2, e3⟩
      | succ k => exact f4 k b' c m' v' (by simpa using q1) (by simpa using q2) (by simpa using q3)
    · simpa using e3.append f5
end

end Go.Sx
