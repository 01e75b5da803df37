/-
  A contract from a walk of the body; a call by contract.
-/
import Derived.Test.YteganoldfldlhaaB2Fn
set_option linter.all false
namespace Go.Sx
open Go Go.RowKit

section
variable {E : Env} {C : Ctx} {g : List Gh} {V : View} {st : St} {a : Act} {w : World}

def rvM (a : Act) : ResultVar → Sem Value
  | .tmp t => pure (a.tmps.getD t undef)
  | .cell x t => do loadVar t (← asAddr (a.tmps.getD x undef))

theorem results_ok {fn : Func} {rs : List ResultVar} (hf : fn.results = rs.toArray) {P : Program} {vs : List Value} (h : (rs.mapM (rvM a)).run P w = .ok vs w) :
    (results fn a.tmps).run P w = .ok (match vs with | [v] => v | _ => .tuple vs.toArray) w := by
  unfold results
  rw [hf]
  have : (rs.toArray.mapM (rvM a)).run P w = .ok vs.toArray w := by
    rw [List.mapM_toArray]
    simp [h]
  show (Sem.run P (do
    let vs ← rs.toArray.mapM (rvM a)
    pure (if h : vs.size = 1 then vs[0] else .tuple vs)) w) = _
  simp only [Sem.run_bind, this, Result.andThen_ok, Sem.run_pure]
  match vs with
  | [] => rfl
  | [v] => rfl
  | v :: v' :: r => simp

theorem all_resL (res : SV) : res.all = (resL res).flatMap (·.2) := by
  cases res <;> simp [SV.all, resL]

/-- Behind the body: the results are what the contract says. -/
theorem ret_done (hT : TyOK E.P E.T) (hX : C.X = []) (hr : Rel C g V st a w) {fn : Func} {rs : List ResultVar} (hf : fn.results = rs.toArray) {res : SV} (h : RetOK E st rs res) :
    ∃ y, (results fn a.tmps).run E.P w = .ok y w ∧ Done C.V0 C.w0 res y w := by
  obtain ⟨⟨l, h1, h2, h3, h4⟩, hone⟩ := h
  obtain ⟨vs, ls, f1, f2, f3, f4, f5⟩ := retVs_ok hT hr h1
  have f1' : (rs.mapM (rvM a)).run E.P w = .ok vs w := by
    rw [← f1]
    congr 2
  refine ⟨_, results_ok hf f1', ⟨V, (goSs g (l.flatMap (·.2)) ((resL res).flatMap (·.2))).flatten, hr.vw.le, hr.mod, fun b cs q1 q2 => ?_, ⟨ls.flatten, ?_, ?_⟩, goS_nodup hr h3 h4, fun b hb => ?_⟩, ?_⟩
  · have := hr.vw.fresh b cs q1 q2
    rw [hX] at this
    exact ⟨by simpa using this, hr.vw.unf b cs q1 q2⟩
  · -- the shape
    have hlen : l.length = (resL res).length := by simpa using congrArg List.length h2
    have hget : ∀ (k : Nat) (b : Bool) (c : List At), (resL res)[k]? = some (b, c) → ∃ c', l[k]? = some (b, c') ∧ c'.length = c.length := fun k b c hk => by
      have := congrArg (fun z => z[k]?) h2
      simp only [List.getElem?_map, hk, Option.map_some] at this
      cases hl : l[k]? with
      | none => rw [hl] at this; cases this
      | some x =>
        rw [hl] at this
        simp only [Option.map_some, Option.some.injEq, Prod.mk.injEq] at this
        exact ⟨x.2, by rw [← this.1], this.2⟩
    have one : ∀ (b : Bool) (c : List At), resL res = [(b, c)] → ∃ v m, vs = [v] ∧ ls = [m] ∧ (if b then v = .agg m.toArray else m = [v]) := fun b c e => by
      obtain ⟨c', hc', _⟩ := hget 0 b c (by rw [e]; rfl)
      rw [e] at hlen
      match vs, f2.trans hlen, ls, f3.trans hlen with
      | [v], _, [m], _ => exact ⟨v, m, rfl, rfl, (f4 0 b c' m v hc' rfl rfl).1⟩
    cases res with
    | o x =>
      obtain ⟨v, m, rfl, rfl, e⟩ := one false [x] rfl
      simpa [shapeOf] using e
    | g cs =>
      obtain ⟨v, m, rfl, rfl, e⟩ := one true cs rfl
      simpa [shapeOf] using e
    | t cs =>
      refine ⟨ls, f3.trans hlen, rfl, fun k b c m hk hm => ?_, vs, ?_, f2.trans hlen, fun k b c m v hk hm hv => ?_⟩
      · obtain ⟨c', hc', e⟩ := hget k b c hk
        have hv : k < vs.length := by rw [f2, ← f3]; exact (List.getElem?_eq_some_iff.1 hm).1
        have := (f4 k b c' m _ hc' hm (List.getElem?_eq_getElem hv)).2.1
        omega
      · have hne : vs.length ≠ 1 := by rw [f2, hlen]; exact hone
        match vs, hne with
        | [], _ => rfl
        | v :: v' :: r, _ => rfl
      · obtain ⟨c', hc', e⟩ := hget k b c hk
        exact (f4 k b c' m v hc' hm hv).1
  · have hl := retAs_get h3
    refine ⟨goSs g (l.flatMap (·.2)) ((resL res).flatMap (·.2)), ?_, ?_, rfl, fun k x y s e1 e2 e3 => ?_⟩
    · rw [f5.1, hl.1, all_resL]
    · rw [goSs_len g hl.1, hl.1, all_resL]
    · rw [all_resL] at e1
      have hk : k < (l.flatMap (·.2)).length := by rw [hl.1]; exact (List.getElem?_eq_some_iff.1 e1).1
      have e0 : (l.flatMap (·.2))[k]? = some ((l.flatMap (·.2))[k]) := List.getElem?_eq_getElem hk
      rw [goSs_get g e0 e1] at e3
      cases e3
      exact retA_ok hr (hl.2 k _ x e0 e1) (f5.2 k _ y e0 e2)
  · obtain ⟨id, _, x, hb', e1, e2, e3, _⟩ := goS_mem hr h3 b hb
    have := hr.hp.lo id hb' x e1 e2 b e3
    rw [hX] at this
    exact ⟨by simpa using this.1, this.2⟩
  · exact ⟨hr.fr.os, hr.fr.tape, hr.fr.output, hr.fr.size, fun k hk => hr.fr.block k hk (by rw [hX]; simp)⟩

/-- Where a body ends. -/
def retK (E : Env) (rs : List ResultVar) (res : SV) : Ex → St → Prop
  | .ret, st => ∃ st', Sees E.C st st' ∧ RetOK E st' rs res
  | .normal, st => ∃ st', Sees E.C st st' ∧ RetOK E st' rs res
  | .exit _, _ => False

theorem retK_ret {E : Env} {rs : List ResultVar} {res : SV} {st : St} (h : RetOK E st rs res) : retK E rs res .ret st := ⟨st, Sees.refl _ _, h⟩
theorem retK_normal {E : Env} {rs : List ResultVar} {res : SV} {st : St} (h : RetOK E st rs res) : retK E rs res .normal st := ⟨st, Sees.refl _ _, h⟩
theorem retK_sees {E : Env} {rs : List ResultVar} {res : SV} {st st' : St} {e : Ex} (h : Sees E.C st st') (k : retK E rs res e st') : retK E rs res e st := by
  cases e with
  | ret => obtain ⟨s, h1, h2⟩ := k; exact ⟨s, h.trans h1, h2⟩
  | normal => obtain ⟨s, h1, h2⟩ := k; exact ⟨s, h.trans h1, h2⟩
  | exit j => exact k.elim

/-- A body-less start: the arguments, then slots that hold nothing. -/
def st0 (args : List SV) (n : Nat) : St := ⟨args ++ List.replicate (n - args.length) (.t []), []⟩

theorem FnC.of_wp {P : Program} {T : Nat → Ty} {eqk : Nat → List Nat} (hT : TyOK P T) {f : Nat} {fn : Func} {c : Code} {rs : List ResultVar} {args : List SV} {res : SV}
    (hf : P.funcs[f]? = some fn) (hb : fn.body = some c) (hcall : ∀ as w, (callFunc f as).run P w = .ok (.enter f as) w) (hres : fn.results = rs.toArray)
    (h : ∀ C : Ctx, C.X = [] → WP P C c (kont P C [] (retK ⟨P, T, C, eqk⟩ rs res)) (st0 args fn.ntmps)) : FnC P f args res := by
  refine ⟨hcall, fun V w vs hm ha => ?_⟩
  let C : Ctx := ⟨w, [], V⟩
  refine calls_of_wp hf hb ?_
  have hr : Rel C [] V (st0 args fn.ntmps) { tmps := vs.toArray ++ Array.replicate (fn.ntmps - vs.toArray.size) undef, defers := [] } w := by
    refine ⟨⟨by simp [st0, ha.1], fun i s y h1 h2 => ?_, rfl⟩, ⟨rfl, fun i b x h => by simp [st0] at h, fun i b x h => by simp [st0] at h, fun i j b b' x x' _ h => by simp [st0] at h, fun i b x h => by simp [st0] at h, fun i b x h => by simp [st0] at h⟩, hm,
      ⟨rfl, rfl, rfl, Nat.le_refl _, fun _ _ _ => rfl⟩, ⟨View.le.refl V, (fun b cs h1 h2 => by have h2' : V b = none := h2; rw [h1] at h2'; cases h2'), (fun b cs h1 h2 => by have h2' : V b = none := h2; rw [h1] at h2'; cases h2')⟩⟩
    simp only [st0] at h1
    rw [List.getElem?_append] at h1
    rw [Array.getElem?_append] at h2
    simp only [List.size_toArray, ha.1] at h2
    split at h1
    · rw [if_pos ‹_›] at h2
      exact ha.2 i s y h1 (by simpa using h2)
    · rw [if_neg ‹_›] at h2
      rw [List.getElem?_replicate] at h1
      rw [Array.getElem?_replicate] at h2
      split at h1
      · rw [if_pos ‹_›] at h2
        cases h1; cases h2; exact undef_ok _ _
      · cases h1
  refine wp_mono (h C rfl [] V _ w hr) fun e a' w' q => ?_
  cases e with
  | normal =>
    obtain ⟨g, V', st', hr', s, hs, hret⟩ := q
    obtain ⟨g2, V2, hr2⟩ := hs g V' a' w' hr'
    obtain ⟨y, hy, hd⟩ := ret_done (E := ⟨P, T, C, eqk⟩) hT rfl hr2 hres hret
    exact ⟨hr'.sl.defers, y, hy, y, rfl, hd⟩
  | ret =>
    obtain ⟨g, V', st', hr', s, hs, hret⟩ := q
    obtain ⟨g2, V2, hr2⟩ := hs g V' a' w' hr'
    obtain ⟨y, hy, hd⟩ := ret_done (E := ⟨P, T, C, eqk⟩) hT rfl hr2 hres hret
    exact ⟨hr'.sl.defers, y, hy, y, rfl, hd⟩
  | exit id => obtain ⟨g, V', st', hr', q⟩ := q; exact q.elim
  | goto l => exact q.elim
  | panic ch => exact q.elim
  | outgrown => exact q.elim
end

/-! ### Calls by contract -/

/-- An argument as data: rows that nobody writes any more read as their data, a nil slice as no elements. -/
def pureA (h : List HB) : At → At
  | .s id => match nthH h id with
    | .frz rows _ => .d (.sl rows)
    | _ => .u
  | .z => .d (.sl [])
  | a => a
def pureS (h : List HB) : SV → SV
  | .o a => .o (pureA h a)
  | .g cs => .g (cs.map (pureA h))
  | .t l => .t l
/-- No cell leans on a block of the function's own. -/
def freeA : At → Bool
  | .u => false
  | .p .. | .r .. | .s _ | .w .. | .e .. | .n .. => false
  | _ => true
def freeS : SV → Bool
  | .o a => freeA a
  | .g cs => cs.all freeA
  | .t l => l.isEmpty

theorem pureA_ok {C : Ctx} {g : List Gh} {V : View} {st : St} {a : Act} {w : World} (hr : Rel C g V st a w) {x : At} {y : Value} (h : cAt g V x y) : cAt g V (pureA st.h x) y := by
  cases x with
  | s id =>
    simp only [pureA]
    split
    · rename_i rows lin e
      obtain ⟨gh, hg, hv, _⟩ := h
      obtain ⟨_, S, hl, _⟩ := hr.hp.hb id _ gh (nthH_some e (by simp)) hg
      exact ⟨S, by rw [hv]; exact hl⟩
    · trivial
  | z => have h : y = _ := h; subst h; exact ⟨[], .nil⟩
  | _ => exact h
theorem pureS_ok {C : Ctx} {g : List Gh} {V : View} {st : St} {a : Act} {w : World} (hr : Rel C g V st a w) {s : SV} {y : Value} (h : cSV g V s y) : cSV g V (pureS st.h s) y := by
  cases s with
  | o x => exact pureA_ok hr h
  | g cs =>
    obtain ⟨l, hl, hc⟩ := h
    refine ⟨l, hl, by simp [hc.1], fun k x z h1 h2 => ?_⟩
    rw [List.getElem?_map] at h1
    cases hk : cs[k]? with
    | none => rw [hk] at h1; cases h1
    | some c => rw [hk] at h1; cases h1; exact pureA_ok hr (hc.2 k c z hk h2)
  | t l => exact h
theorem freeA_ok {g : List Gh} {V : View} {x : At} {y : Value} (h : cAt g V x y) (hf : freeA x = true) : cAt [] V x y := by
  cases x <;> first | exact h | simp [freeA] at hf
theorem freeS_ok {g : List Gh} {V : View} {s : SV} {y : Value} (h : cSV g V s y) (hf : freeS s = true) : cSV [] V s y := by
  cases s with
  | o x => exact freeA_ok h hf
  | g cs => obtain ⟨l, hl, hc⟩ := h; exact ⟨l, hl, hc.1, fun k x z h1 h2 => freeA_ok (hc.2 k x z h1 h2) (List.all_eq_true.1 hf x (List.mem_of_getElem? h1))⟩
  | t l =>
    obtain ⟨ys, h1, h2, h3⟩ := h
    have : l = [] := by simpa [freeS] using hf
    subst this
    exact ⟨ys, h1, h2, fun k b cs v h => by simp at h⟩

/-- What comes back: a slice in new memory is a row of the caller's own from now on. -/
def adA : Nat → List At → List At
  | _, [] => []
  | n, .w _ _ _ :: cs => .s n :: adA (n + 1) cs
  | n, a :: cs => a :: adA n cs
def adH : List At → List HB
  | [] => []
  | .w ty sz rows :: cs => .row ty sz rows true :: adH cs
  | _ :: cs => adH cs
def adT : Nat → List (Bool × List At) → List (Bool × List At)
  | _, [] => []
  | n, (b, cs) :: l => (b, adA n cs) :: adT (n + (adH cs).length) l
def adS (n : Nat) : SV → SV
  | .o a => match adA n [a] with
    | [x] => .o x
    | _ => .o .u
  | .g cs => .g (adA n cs)
  | .t l => .t (adT n l)

theorem adA_len : ∀ (n : Nat) (cs : List At), (adA n cs).length = cs.length
  | _, [] => rfl
  | n, a :: cs => by cases a <;> simp [adA, adA_len]

theorem adA_app : ∀ (n : Nat) (cs ds : List At), adA n (cs ++ ds) = adA n cs ++ adA (n + (adH cs).length) ds
  | n, [], ds => by simp [adA, adH]
  | n, a :: cs, ds => by
    cases a <;> simp [adA, adH, adA_app]
    all_goals (congr 1; omega)

theorem adopt_ok {C : Ctx} {V : View} {a : Act} {w : World} : ∀ {cs : List At} {st : St} {g : List Gh} {l : List Value} {Ss : List (List Nat)}, Rel C g V st a w → l.length = cs.length → Ss.length = cs.length →
    (∀ (k : Nat) (x : At) (y : Value) (s : List Nat), cs[k]? = some x → l[k]? = some y → Ss[k]? = some s → rAt V w x y s) → Ss.flatten.Nodup →
    (∀ b ∈ Ss.flatten, (C.w0.heap.size ≤ b ∨ b ∈ C.X) ∧ b < w.heap.size ∧ ∀ (i : Nat) (hb : HB) (x : Gh), st.h[i]? = some hb → g[i]? = some x → b ∉ ownB x hb) →
    ∃ g', Rel C g' V ⟨st.t, st.h ++ adH cs⟩ a w ∧ GLe g g' ∧ cL g' V (adA st.h.length cs) l := by
  intro cs
  induction cs with
  | nil =>
    intro st g l Ss hr hl hS hk hn hb
    have : l = [] := List.eq_nil_of_length_eq_zero hl
    subst this
    exact ⟨g, by simpa [adH] using hr, GLe.refl g, cL.nil g V⟩
  | cons c cs ih =>
    intro st g l Ss hr hl hS hk hn hb
    obtain ⟨y, l', rfl⟩ : ∃ y l', l = y :: l' := by cases l with
      | nil => simp at hl
      | cons y l' => exact ⟨y, l', rfl⟩
    obtain ⟨S, Ss', rfl⟩ : ∃ S Ss', Ss = S :: Ss' := by cases Ss with
      | nil => simp at hS
      | cons S Ss' => exact ⟨S, Ss', rfl⟩
    generalize l' = l at *
    generalize Ss' = Ss at *
    · skip
      have hy := hk 0 c y S rfl rfl rfl
      have hl2 : l.length = cs.length := by simpa using hl
      have hS2 : Ss.length = cs.length := by simpa using hS
      simp only [List.flatten_cons] at hn hb
      have hn2 := (List.nodup_append.1 hn).2.1
      have hk' : ∀ (k : Nat) (x : At) (y : Value) (s : List Nat), cs[k]? = some x → l[k]? = some y → Ss[k]? = some s → rAt V w x y s := fun k x y s e1 e2 e3 => hk (k + 1) x y s (by simpa using e1) (by simpa using e2) (by simpa using e3)
      cases c with
      | d x =>
        obtain ⟨rfl, T, hT⟩ := hy
        obtain ⟨g', h1, h2, h3⟩ := ih hr hl2 hS2 hk' hn2 (fun b hb' => hb b (List.mem_append.2 (.inr hb')))
        exact ⟨g', h1, h2, cL.cons ⟨T, hT⟩ h3⟩
      | w ty sz rows =>
        obtain ⟨h0, ys, Ts, q1, q2⟩ := hy
        have push : ∀ (x : Gh), x.val = y → ownB x (.row ty sz rows true) = S → (∀ n ∈ rootB x (.row ty sz rows true), V n = none) → HBok (g ++ [x]) V w x (.row ty sz rows true) → y.oneCell' = true →
            ∃ g', Rel C g' V ⟨st.t, st.h ++ adH (.w ty sz rows :: cs)⟩ a w ∧ GLe g g' ∧ cL g' V (adA st.h.length (.w ty sz rows :: cs)) (y :: l) := by
          intro x hxv hown hroot hok hone
          have hr1 : Rel C (g ++ [x]) V (st.push (.row ty sz rows true)) a w := ⟨hr.sl.mono (GLe.push _ _) (View.le.refl V), hr.hp.push hok (by rw [hown]; exact (List.nodup_append.1 hn).1)
            (fun n hn' => by rw [hown] at hn'; exact ⟨(hb n (List.mem_append.2 (.inl hn'))).1, (hb n (List.mem_append.2 (.inl hn'))).2.1⟩)
            (fun i b' x' e1 e2 n hn' hm => by rw [hown] at hm; exact (hb n (List.mem_append.2 (.inl hm))).2.2 i b' x' e1 e2 hn') hroot, hr.mod, hr.fr, hr.vw⟩
          obtain ⟨g', h1, h2, h3⟩ := ih hr1 hl2 hS2 hk' hn2 (fun b hb' => by
            obtain ⟨p1, p2, p3⟩ := hb b (List.mem_append.2 (.inr hb'))
            refine ⟨p1, p2, fun i hb2 x2 e1 e2 => ?_⟩
            rcases Nat.lt_trichotomy i st.h.length with hi | hi | hi
            · simp only [St.push] at e1
              rw [List.getElem?_append_left hi] at e1
              rw [List.getElem?_append_left (by rw [hr.hp.glen]; exact hi)] at e2
              exact p3 i hb2 x2 e1 e2
            · simp only [St.push] at e1
              subst hi
              rw [List.getElem?_append_right (Nat.le_refl _)] at e1
              rw [List.getElem?_append_right (by rw [hr.hp.glen]; exact Nat.le_refl _)] at e2
              simp [hr.hp.glen] at e1 e2
              subst e1; subst e2
              rw [hown]
              exact fun hm => (List.nodup_append.1 hn).2.2 b hm b hb' rfl
            · simp only [St.push] at e1
              rw [List.getElem?_eq_none (by simp; omega)] at e1
              cases e1)
          have hlen : g.length = st.h.length := hr.hp.glen
          refine ⟨g', by simpa [St.push, adH] using h1, (GLe.push g [x]).trans h2, cL.cons ?_ (by simpa [St.push] using h3)⟩
          obtain ⟨x', e1, e2, e3, _⟩ := h2 st.h.length x (by rw [List.getElem?_append_right (by omega)]; simp [hlen])
          exact ⟨x', e1, by rw [e3, hxv], hone⟩
        rcases q2 with ⟨⟨ao, e1⟩, e2, e3⟩ | ⟨b, cap, c, e1, e2, e3, e4, e5, e6, e7, e8⟩
        · subst e2
          have hTs : Ts = [] := by have := q1.2.1; simpa using this
          subst hTs
          refine push ⟨none, y, [], []⟩ rfl (by simp [ownB, e3]) (fun n hn' => by simp [rootB] at hn') ⟨h0, ys, [], q1, fun _ => rfl, .inl ⟨rfl, ⟨ao, e1⟩, rfl⟩⟩ (by rw [e1]; rfl)
        · refine push ⟨some b, y, Ts.flatten, []⟩ rfl (by simp [ownB, e8]) (fun n hn' => by simp [rootB] at hn'; subst hn'; exact e7) ⟨h0, ys, Ts, q1, fun _ => rfl, .inr ⟨b, cap, c, rfl, e1, e2, e3, e4, e5, e6⟩⟩ (by rw [e1]; rfl)
      | _ => exact hy.elim

theorem adT_get : ∀ (n : Nat) (l : List (Bool × List At)) (ls : List (List Value)) {g : List Gh} {V : View}, ls.length = l.length →
    (∀ (k : Nat) (b : Bool) (c : List At) (m : List Value), l[k]? = some (b, c) → ls[k]? = some m → m.length = c.length) → cL g V (adA n (l.flatMap (·.2))) ls.flatten →
    ∀ (k : Nat) (b : Bool) (c : List At) (m : List Value), (adT n l)[k]? = some (b, c) → ls[k]? = some m → (∃ c0, l[k]? = some (b, c0)) ∧ cL g V c m
  | n, [], ls, g, V, hl, hlen, hc, k, b, c, m, h1, h2 => by simp [adT] at h1
  | n, (b0, c0) :: l, [], g, V, hl, hlen, hc, k, b, c, m, h1, h2 => by simp at hl
  | n, (b0, c0) :: l, m0 :: ls, g, V, hl, hlen, hc, k, b, c, m, h1, h2 => by
    have hm0 := hlen 0 b0 c0 m0 rfl rfl
    simp only [List.flatMap_cons, List.flatten_cons, adA_app] at hc
    have hA : (adA n c0).length = c0.length := adA_len n c0
    cases k with
    | zero =>
      simp only [adT, List.getElem?_cons_zero, Option.some.injEq, Prod.mk.injEq] at h1 h2
      obtain ⟨rfl, rfl⟩ := h1
      subst h2
      refine ⟨⟨c0, rfl⟩, ?_⟩
      have := hc.take c0.length
      rw [List.take_append_of_le_length (by omega), List.take_of_length_le (by omega), List.take_append_of_le_length (by omega), List.take_of_length_le (by omega)] at this
      exact this
    | succ k =>
      simp only [adT, List.getElem?_cons_succ] at h1 h2 ⊢
      have hd := hc.drop c0.length
      rw [List.drop_append_of_le_length (by omega), List.drop_of_length_le (by omega), List.drop_append_of_le_length (by omega), List.drop_of_length_le (by omega)] at hd
      exact adT_get _ l ls (by simpa using hl) (fun k b c m e1 e2 => hlen (k + 1) b c m (by simpa using e1) (by simpa using e2)) (by simpa using hd) k b c m h1 h2
theorem adT_len : ∀ (n : Nat) (l : List (Bool × List At)), (adT n l).length = l.length
  | _, [] => rfl
  | n, (b, c) :: l => by simp [adT, adT_len]

theorem CallS.of_fn {E : Env} {f : Nat} {args args' : List SV} {res : SV} {st : St} {K : St → SV → Prop} (h : FnC E.P f args' res) (he : args.map (pureS st.h) = args') (hfree : args'.all freeS = true)
    (k : K ⟨st.t, st.h ++ adH res.all⟩ (adS st.h.length res)) : CallS E f args st K := by
  refine ⟨h.enters, fun g V a w vs hr hlen hargs => ?_⟩
  subst he
  have hc : cArgs V (args.map (pureS st.h)) vs := by
    refine ⟨by simp [hlen], fun i s y h1 h2 => ?_⟩
    have hs := List.all_eq_true.1 hfree s (List.mem_of_getElem? h1)
    rw [List.getElem?_map] at h1
    cases hk : args[i]? with
    | none => rw [hk] at h1; cases h1
    | some s0 =>
      rw [hk] at h1
      cases h1
      exact freeS_ok (pureS_ok hr (hargs i s0 y hk h2)) hs
  refine (h.calls V w vs hr.mod hc).mono ?_
  rintro e w' ⟨y, rfl, ⟨V', S, hv, hm, hnew, ⟨l, hshape, Ss, r1, r2, r3, r4⟩, hnd, hblk⟩, hbelow⟩
  have hr1 := hr.later hv hm hbelow hnew
  subst r3
  obtain ⟨g', h1, h2, h3⟩ := adopt_ok (cs := res.all) hr1 r1 r2 r4 hnd (fun b hb => ⟨.inl (Nat.le_trans hr.fr.size (hblk b hb).1), (hblk b hb).2, fun i hb' x e1 e2 hm' => by
    have := (hr.hp.lo i hb' x e1 e2 b hm').2
    have := (hblk b hb).1
    omega⟩)
  refine ⟨y, g', V', _, _, rfl, h1, ?_, k⟩
  cases res with
  | o x =>
    have hl : l = [y] := hshape
    subst hl
    simp only [SV.all] at h3
    simp only [adS]
    have hlen1 : (adA st.h.length [x]).length = 1 := adA_len _ _
    match he' : adA st.h.length [x], hlen1 with
    | [z], _ =>
      rw [he'] at h3
      exact h3.2 0 z y rfl rfl
  | g cs => exact ⟨l, hshape, h3⟩
  | t cs =>
    obtain ⟨ls, e1, e2, e3, ys, e4, e5, e6⟩ := hshape
    subst e2
    refine ⟨ys, e4, by rw [e5, adT_len], fun i b c v hi hv' => ?_⟩
    have hlt : i < ls.length := by rw [e1, ← adT_len st.h.length cs]; exact (List.getElem?_eq_some_iff.1 hi).1
    have hm' : ls[i]? = some ls[i] := List.getElem?_eq_getElem hlt
    obtain ⟨⟨c0, hc0⟩, hcc⟩ := adT_get st.h.length cs ls e1 e3 h3 i b c _ hi hm'
    have := e6 i b c0 _ v hc0 hm' hv'
    cases b with
    | true => simp only [if_true] at this ⊢; exact ⟨_, this, hcc⟩
    | false => simp only [Bool.false_eq_true, if_false] at this ⊢; rw [← this]; exact hcc

/-- Before a call: rows that the callee is to read are not written any more. -/
theorem CallS.sees {E : Env} {f : Nat} {args : List SV} {st st' : St} {K : St → SV → Prop} (h : Sees E.C st st') (hext : ∀ g V a w, Rel E.C g V st a w → ∃ g' V', Rel E.C g' V' st' a w ∧ GLe g g' ∧ V.le V') (k : CallS E f args st' K) : CallS E f args st K := by
  refine ⟨k.1, fun g V a w vs hr hlen hargs => ?_⟩
  obtain ⟨g', V', hr', hg, hv⟩ := hext g V a w hr
  exact k.2 g' V' a w vs hr' hlen fun i s y h1 h2 => (hargs i s y h1 h2).mono hg hv
end Go.Sx
