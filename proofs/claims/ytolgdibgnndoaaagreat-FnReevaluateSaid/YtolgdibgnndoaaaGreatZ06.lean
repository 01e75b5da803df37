/- Joined texts. -/
import Derived.Test.YtolgdibgnndoaaaGreatZ04
import Derived.Test.YtolgdibgnndoaaaGreatZ05
set_option linter.all false
section
namespace Go.Sx
open Go Go.RowKit
structure DoneB (V : View) (w : World) (b ty : Nat) (res : SV) (ds' : List D) (y : Value) (w' : World) : Prop where
 grown : w.grownBy w' (some b)
 out : ∃ V' S l', V.le V' ∧ Mod V' w' ∧ (∀ n cs, V' n = some cs → V n = none → w.heap.size ≤ n ∧ Unf w' n) ∧ rSV V' w' res y S ∧ S.Nodup ∧ (∀ n ∈ S, w.heap.size ≤ n ∧ n < w'.heap.size) ∧ w'.heap[b]? = some (.cells (List.toArray l') ty (0, 0)) ∧ cL [] V' (ds'.map At.d) l'
structure FnB (P : Program) (f ty : Nat) (ds : List D) (args : List SV) {α : Type} (Q : α → Prop) (res : α → SV) (ds' : α → List D) : Prop where
 enters : ∀ aS w, (callFunc f aS).run P w = .ok (.enter f aS) w
 calls : ∀ V w b l vs, tabOK w [b] → Mod V w → V b = none → b < w.heap.size → w.heap[b]? = some (.cells (List.toArray l) ty (0, 0)) → cL [] V (ds.map At.d) l → lY V args vs →
  Calls P f (Value.pointer (some ⟨b, 0, none⟩) :: vs).toArray w fun e w' => ∃ y a, e = .returned y ∧ Q a ∧ DoneB V w b ty (res a) (ds' a) y w'
section
variable {E : Env} {C : Ctx} {g : List Gh} {V : View} {st : St} {a : Act} {w : World}
theorem a6Z (hr : Rel C g V st a w) : ∀ {aS bs : List At}, gK st.h aS bs → ∀ b ∈ (mQ g aS bs).flatten, ∃ (id : Nat) (x : Gh) (ty sz : Nat) (rows : List (List D)) (lin : Bool), st.h[id]? = some (.row ty sz rows lin) ∧ g[id]? = some x ∧ b ∈ ownB x (.row ty sz rows lin)
 | [], [], _, b, hb => by simp [mQ] at hb
 | [], _ :: _, h, _, _ => by simp [gK] at h
 | _ :: _, [], h, _, _ => by simp [gK] at h
 | x :: aS, r :: bs, h, b, hb => by
  have hx : rU st.h x r := (kR h).2 0 x r rfl rfl
  have ht : gK st.h aS bs := by
   cases aS with
   | nil => cases bs with
    | nil => trivial
    | cons => simp [gK] at h
   | cons a2 aS => cases bs with
    | nil => simp [gK] at h
    | cons b2 bs => exact h.2
  simp only [mQ, List.flatten_cons, List.mem_append] at hb
  rcases hb with hb | hb
  ·cases x with
   | s id => cases r with
    | w ty sz rows =>
     simp only [goS] at hb
     cases hg : g[id]? with
     | none => simp [hg] at hb
     | some gx =>
      simp only [hg] at hb
      simp only [rU] at hx
      split at hx
      ·rename_i ty' sz' rows' lin e
       obtain ⟨rfl, rfl, rfl, rfl⟩ := hx
       exact ⟨id, gx, _, _, _, _, aJ e (by simp), hg, by simpa [ownB] using hb⟩
      ·exact hx.elim
    | m ty sz rows =>
     simp only [goS] at hb
     cases hg : g[id]? with
     | none => simp [hg] at hb
     | some gx =>
      simp only [hg] at hb
      simp only [rU] at hx
      split at hx
      ·rename_i ty' sz' rows' lin e
       obtain ⟨rfl, rfl, rfl⟩ := hx
       exact ⟨id, gx, _, _, _, _, aJ e (by simp), hg, by simp only [ownB]; exact List.mem_append.2 (.inl hb)⟩
      ·exact hx.elim
    | _ => simp [goS] at hb
   | _ => simp [goS] at hb
  ·exact a6Z hr ht b hb
theorem a2w (hT : TyOK E.P E.T) {pb ty : Nat} {ds' : List D} (hX : C.X = [pb]) (hr : Rel C g V st a w) {fn : Func} {rs : List ResultVar} (hf : fn.results = rs.toArray) {res : SV} (h : RetOK E st rs res) (h0 : bP st.h 0 = .pin pb ty ds') :
    ∃ y, (results fn a.tmps).run E.P w = .ok y w ∧ DoneB C.V0 C.w0 pb ty res ds' y w := by
 have hi0 := aJ h0 (by simp)
 obtain ⟨x0, hx0⟩ : ∃ x0, g[0]? = some x0 := ⟨_, List.getElem?_eq_getElem (by rw [hr.hp.glen]; exact (List.getElem?_eq_some_iff.1 hi0).1)⟩
 obtain ⟨p1, l', p2, p3⟩ := hr.hp.hb 0 _ x0 hi0 hx0
 have pr : V pb = none := hr.hp.rt 0 _ x0 hi0 hx0 pb (by simp [aZ, p1])
 obtain ⟨⟨l, h1, h2, h3, h4⟩, hone⟩ := h
 obtain ⟨vs, ls, f1, f2, f3, f4, f5⟩ := oQ hT hr h1
 have f1' : (rs.mapM (rvM a)).run E.P w = .ok vs w := by
  rw [← f1]
  congr 2
 refine ⟨_, mR hf f1', ⟨hr.fr.os, hr.fr.tape, hr.fr.output, hr.fr.size, fun k hk hne => hr.fr.block k hk (by rw [hX]; simpa using fun e => hne (by rw [e]))⟩, V, (mQ g (l.flatMap (·.2)) ((resL res).flatMap (·.2))).flatten, l', hr.vw.le, hr.mod, fun b cs q1 q2 => ?_, ⟨ls.flatten, ?_, ?_⟩, mG hr h3 h4, fun b hb => ?_, p2, p3⟩
 ·have := hr.vw.fresh b cs q1 q2
  rw [hX] at this
  refine ⟨?_, hr.vw.unf b cs q1 q2⟩
  rcases this with h | h
  ·exact h
  ·simp only [List.mem_singleton] at h
   subst h
   rw [pr] at q1; cases q1
 ·
  have hlen : l.length = (resL res).length := by simpa using congrArg List.length h2
  have hget : ∀ (k : Nat) (b : Bool) (c : List At), (resL res)[k]? = some (b, c) → ∃ c', l[k]? = some (b, c') ∧ c'.length = c.length := fun k b c hk => by
   have := congrArg (fun z => z[k]?) h2
   simp only [List.getElem?_map, hk, Option.map_some] at this
   cases hl : l[k]? with
   | none => rw [hl] at this; cases this
   | some x =>
    rw [hl] at this
    simp only [Option.map_some, Option.some.injEq, Prod.mk.injEq] at this
    exact ⟨x.2, by rw [← this.1], this.2⟩
  have one : ∀ (b : Bool) (c : List At), resL res = [(b, c)] → ∃ v m, vs = [v] ∧ ls = [m] ∧ (if b then v = .agg m.toArray else m = [v]) := fun b c e => by
   obtain ⟨c', hc', _⟩ := hget 0 b c (by rw [e]; rfl)
   rw [e] at hlen
   match vs, f2.trans hlen, ls, f3.trans hlen with
   | [v], _, [m], _ => exact ⟨v, m, rfl, rfl, (f4 0 b c' m v hc' rfl rfl).1⟩
  cases res with
  | o x =>
   obtain ⟨v, m, rfl, rfl, e⟩ := one false [x] rfl
   simpa [shapeOf] using e
  | g cs =>
   obtain ⟨v, m, rfl, rfl, e⟩ := one true cs rfl
   simpa [shapeOf] using e
  | t cs =>
   refine ⟨ls, f3.trans hlen, rfl, fun k b c m hk hm => ?_, vs, ?_, f2.trans hlen, fun k b c m v hk hm hv => ?_⟩
   ·obtain ⟨c', hc', e⟩ := hget k b c hk
    have hv : k < vs.length := by rw [f2, ← f3]; exact (List.getElem?_eq_some_iff.1 hm).1
    have := (f4 k b c' m _ hc' hm (List.getElem?_eq_getElem hv)).2.1
    omega
   ·have hne : vs.length ≠ 1 := by rw [f2, hlen]; exact hone
    match vs, hne with
    | [], _ => rfl
    | v :: v' :: r, _ => rfl
   ·obtain ⟨c', hc', e⟩ := hget k b c hk
    exact (f4 k b c' m v hc' hm hv).1
 ·have hl := kR h3
  refine ⟨mQ g (l.flatMap (·.2)) ((resL res).flatMap (·.2)), ?_, ?_, rfl, fun k x y s e1 e2 e3 => ?_⟩
  ·rw [f5.1, hl.1, oU]
  ·rw [wT g hl.1, hl.1, oU]
  ·rw [oU] at e1
   have hk : k < (l.flatMap (·.2)).length := by rw [hl.1]; exact (List.getElem?_eq_some_iff.1 e1).1
   have e0 : (l.flatMap (·.2))[k]? = some ((l.flatMap (·.2))[k]) := List.getElem?_eq_getElem hk
   rw [wU g e0 e1] at e3
   cases e3
   exact a2Y hr (hl.2 k _ x e0 e1) (f5.2 k _ y e0 e2)
 ·obtain ⟨id, x, rty, rsz, rr, rl, e1, e2, e3⟩ := a6Z hr h3 b hb
  have := hr.hp.lo id _ x e1 e2 b e3
  refine ⟨?_, this.2⟩
  rw [hX] at this
  rcases this.1 with h | h
  ·exact h
  ·simp only [List.mem_singleton] at h
   subst h
   have hne : id ≠ 0 := fun e => by rw [e, hi0] at e1; cases e1
   exact (hr.hp.dj id 0 _ _ x x0 hne e1 e2 hi0 hx0 b e3 (by simp [ownB, p1])).elim
end
def a9y (E : Env) (rs : List ResultVar) (b ty : Nat) {α : Type} (Q : α → Prop) (res : α → SV) (ds' : α → List D) : Ex → St → Prop
 | .exit _, _ => False
 | _, st => ∃ st' a, Sees E.C st st' ∧ RetOK E st' rs (res a) ∧ Q a ∧ bP st'.h 0 = .pin b ty (ds' a)
theorem aH {E : Env} {rs : List ResultVar} {b ty : Nat} {α : Type} {Q : α → Prop} {res : α → SV} {ds' : α → List D} {st : St} (a : α) (h : RetOK E st rs (res a)) (hq : Q a) (hp : bP st.h 0 = .pin b ty (ds' a)) : a9y E rs b ty Q res ds' .ret st := ⟨st, a, Sees.refl _ _, h, hq, hp⟩
def stB (b ty : Nat) (ds : List D) (args : List SV) (n : Nat) : St := ⟨.o (.p 0 0) :: (args ++ List.replicate (n - 1 - args.length) (.t [])), [.pin b ty ds]⟩
theorem FnB.of_wp {P : Program} {T : Nat → Ty} {eqk : Nat → List Nat} (hT : TyOK P T) {f : Nat} {fn : Func} {c : Code} {rs : List ResultVar} {ty : Nat} {ds : List D} {args : List SV} {α : Type} {Q : α → Prop} {res : α → SV} {ds' : α → List D}
    (hf : P.funcs[f]? = some fn) (hb : fn.body = some c) (hcall : ∀ aS w, (callFunc f aS).run P w = .ok (.enter f aS) w) (hres : fn.results = rs.toArray)
    (h : ∀ (C : Ctx) (b : Nat), C.X = [b] → WP P C c (bN P C [] (a9y ⟨P, T, C, eqk⟩ rs b ty Q res ds')) (stB b ty ds args fn.ntmps)) : FnB P f ty ds args Q res ds' := by
 refine ⟨hcall, fun V w b l vs htab hm hVb hlt hheap hcl ha => ?_⟩
 let C : Ctx := ⟨w, [b], V, htab⟩
 refine calls_of_wp hf hb ?_
 let x : Gh := ⟨some b, undef, [], []⟩
 have hr : Rel C [x] V (stB b ty ds args fn.ntmps) { tmps := (Value.pointer (some ⟨b, 0, none⟩) :: vs).toArray ++ Array.replicate (fn.ntmps - (Value.pointer (some ⟨b, 0, none⟩) :: vs).toArray.size) undef, defers := [] } w := by
  refine ⟨⟨by simp [stB, ha.1]; omega, fun i s y h1 h2 => ?_, rfl⟩, ⟨rfl, ?_, ?_, ?_, ?_, ?_⟩, hm,
   ⟨rfl, rfl, rfl, Nat.le_refl _, fun _ _ _ => rfl⟩, ⟨View.le.refl V, (fun b cs h1 h2 => by have h2' : V b = none := h2; rw [h1] at h2'; cases h2'), (fun b cs h1 h2 => by have h2' : V b = none := h2; rw [h1] at h2'; cases h2')⟩⟩
  ·match i with
   | 0 =>
    simp [stB] at h1
    rw [Array.getElem?_append_left (by simp)] at h2
    simp at h2
    subst h1; subst h2
    exact ⟨x, b, rfl, rfl, rfl⟩
   | i + 1 =>
    simp only [stB, List.getElem?_cons_succ] at h1
    have h2' : (vs.toArray ++ Array.replicate (fn.ntmps - (vs.length + 1)) undef)[i]? = some y := by
     simp only [List.size_toArray, List.length_cons] at h2
     rw [← h2]
     rw [Array.getElem?_append, Array.getElem?_append]
     simp
    rw [List.getElem?_append] at h1
    rw [Array.getElem?_append] at h2'
    simp only [List.size_toArray, ha.1] at h2'
    split at h1
    ·rw [if_pos ‹_›] at h2'
     exact (ha.2 i s y h1 (by simpa using h2')).mono (fun j z hz => by simp at hz) (View.le.refl V)
    ·rw [if_neg ‹_›] at h2'
     rw [List.getElem?_replicate] at h1
     rw [Array.getElem?_replicate] at h2'
     split at h1
     ·split at h2'
      ·cases h1; cases h2'; exact iG _ _
      ·cases h2'
     ·cases h1
  all_goals
   have key : ∀ (i : Nat) (c : HB) (z : Gh), (stB b ty ds args fn.ntmps).h[i]? = some c → [x][i]? = some z → i = 0 ∧ c = .pin b ty ds ∧ z = x := fun i c z h1 h2 => by
    match i with
    | 0 => simp [stB] at h1 h2; exact ⟨rfl, h1.symm, h2.symm⟩
    | i + 1 => simp at h2
  ·intro i c z h1 h2
   obtain ⟨rfl, rfl, rfl⟩ := key i c z h1 h2
   exact ⟨rfl, l, hheap, hcl⟩
  ·intro i c z h1 h2
   obtain ⟨rfl, rfl, rfl⟩ := key i c z h1 h2
   simp [ownB, x]
  ·intro i j c c' z z' hij h1 h2 h3 h4
   obtain ⟨rfl, _, _⟩ := key i c z h1 h2
   obtain ⟨rfl, _, _⟩ := key j c' z' h3 h4
   exact absurd rfl hij
  ·intro i c z h1 h2 n hn
   obtain ⟨rfl, rfl, rfl⟩ := key i c z h1 h2
   simp [ownB, x] at hn
   subst hn
   exact ⟨.inr (by simp [C]), hlt⟩
  ·intro i c z h1 h2 n hn
   obtain ⟨rfl, rfl, rfl⟩ := key i c z h1 h2
   simp [aZ, x] at hn
   subst hn
   exact hVb
 refine wp_mono (h C b rfl [x] V _ w hr) fun e a' w' q => ?_
 cases e with
 | normal =>
  obtain ⟨g, V', st', hr', s, a0, hs, hret, hq, hp⟩ := q
  obtain ⟨g2, V2, hr2⟩ := hs g V' a' w' hr'
  obtain ⟨y, hy, hd⟩ := a2w (E := ⟨P, T, C, eqk⟩) hT rfl hr2 hres hret hp
  exact ⟨hr'.sl.defers, y, hy, y, a0, rfl, hq, hd⟩
 | ret =>
  obtain ⟨g, V', st', hr', s, a0, hs, hret, hq, hp⟩ := q
  obtain ⟨g2, V2, hr2⟩ := hs g V' a' w' hr'
  obtain ⟨y, hy, hd⟩ := a2w (E := ⟨P, T, C, eqk⟩) hT rfl hr2 hres hret hp
  exact ⟨hr'.sl.defers, y, hy, y, a0, rfl, hq, hd⟩
 | exit id => obtain ⟨g, V', st', hr', q⟩ := q; exact q.elim
 | goto l => exact q.elim
 | panic ch => exact q.elim
 | outgrown => exact q.elim
def a3F (ty : Nat) (ds : List D) : HB → Prop
 | .box ty' cs => ty' = ty ∧ cs = ds.map At.d
 | .pin _ ty' ds0 => ty' = ty ∧ ds0 = ds
 | _ => False
def reD (ds' : List D) : HB → HB
 | .box ty _ => .box ty (ds'.map At.d)
 | .pin b ty _ => .pin b ty ds'
 | b => b
theorem a7a {g : List Gh} {V : View} {w : World} {x : Gh} {B : HB} {ty : Nat} {ds : List D} (h : HBok g V w x B) (hB : a3F ty ds B) : ∃ b l, x.blk = some b ∧ ownB x B = [b] ∧ aZ x B = [b] ∧ w.heap[b]? = some (.cells (List.toArray l) ty (0, 0)) ∧ cL [] V (ds.map At.d) l ∧
    ∀ (V' : View) (w' : World) (ds' : List D) (l' : List Value), w'.heap[b]? = some (.cells (List.toArray l') ty (0, 0)) → cL [] V' (ds'.map At.d) l' → (∀ g', HBok g' V' w' x (reD ds' B)) ∧ ownB x (reD ds' B) = [b] ∧ aZ x (reD ds' B) = [b] := by
 cases B with
 | box ty' cs =>
  obtain ⟨rfl, rfl⟩ := hB
  obtain ⟨b, l, h1, h2, h3⟩ := h
  exact ⟨b, l, h1, by simp [ownB, h1], by simp [aZ, h1], h2, cLd h3, fun V' w' ds' l' e1 e2 => ⟨fun g' => ⟨b, l', h1, e1, cLd e2⟩, by simp [reD, ownB, h1], by simp [reD, aZ, h1]⟩⟩
 | pin pb ty' ds0 =>
  obtain ⟨rfl, rfl⟩ := hB
  obtain ⟨h1, l, h2, h3⟩ := h
  exact ⟨pb, l, h1, by simp [ownB, h1], by simp [aZ, h1], h2, h3, fun V' w' ds' l' e1 e2 => ⟨fun g' => ⟨h1, l', e1, e2⟩, by simp [reD, ownB, h1], by simp [reD, aZ, h1]⟩⟩
 | _ => exact hB.elim
theorem CallS.block {E : Env} {f ty id : Nat} {ds : List D} {args' rest : List SV} {α : Type} {Q : α → Prop} {res : α → SV} {ds' : α → List D} {st : St} {K : St → SV → Prop} (h : FnB E.P f ty ds args' Q res ds')
    (hid : a3F ty ds (bP st.h id)) (he : rest.map (eU st.h) = args') (hfree : args'.all bY = true)
    (k : ∀ a, Q a → K ⟨st.t, setH st.h id (reD (ds' a) (bP st.h id)) ++ adH (res a).all⟩ (adS (setH st.h id (reD (ds' a) (bP st.h id))).length (res a))) :
    CallS E f (.o (.p id 0) :: rest) st K := by
 refine ⟨h.enters, fun g V a w vs hr hlen hargs => ?_⟩
 have hi : st.h[id]? = some (bP st.h id) := aJ rfl (fun e => by rw [e] at hid; exact hid)
 match vs, hlen, hargs with
 | y :: vs, hlen, hargs =>
  obtain ⟨x, b0, hx, hxb, rfl⟩ := hargs 0 _ y rfl rfl
  have hok := hr.hp.hb id _ x hi hx
  obtain ⟨b, l, q1, q2, q3, q4, q5, q6⟩ := a7a hok hid
  have e0 : b0 = b := by rw [hxb] at q1; exact Option.some.inj q1
  subst e0
  have hVb : V b0 = none := hr.hp.rt id _ x hi hx b0 (by rw [q3]; simp)
  have hlo := hr.hp.lo id _ x hi hx b0 (by rw [q2]; simp)
  have hc : lY V args' vs := by
   subst he
   refine ⟨by simpa using hlen, fun i s y h1 h2 => ?_⟩
   have hs := List.all_eq_true.1 hfree s (List.mem_of_getElem? h1)
   rw [List.getElem?_map] at h1
   cases hk : rest[i]? with
   | none => rw [hk] at h1; cases h1
   | some s0 =>
    rw [hk] at h1
    cases h1
    exact kG (lI hr (hargs (i + 1) s0 y (by simpa using hk) (by simpa using h2))) hs
  refine (h.calls V w b0 l vs (hr.fr.tab fun k hk => by rw [List.mem_singleton.1 hk]; exact hlo.1) hr.mod hVb hlo.2 q4 q5 hc).mono ?_
  rintro e w' ⟨y, a0, rfl, hQ, hgrown, V', S, l', hv, hm, hnew, ⟨lr, hshape, Ss, r1, r2, r3, r4⟩, hnd, hblk, hheap, hcl'⟩
  have hV'b : V' b0 = none := by
   cases hc : V' b0 with
   | none => rfl
   | some cs => have := (hnew b0 cs hc hVb).1; omega
  have hsz1 : (w'.setRow b0 l.toArray).heap.size = w'.heap.size := by simp [World.setRow]
  have hbel : Below w.heap.size w (w'.setRow b0 l.toArray) := ⟨hgrown.os, hgrown.tape, hgrown.output, by rw [hsz1]; exact hgrown.size, fun n hn => by
   by_cases e : n = b0
   ·subst e
    rw [setRow_heap w' n l'.toArray l.toArray ty (0, 0) hheap, q4]
   ·rw [setRow_other w' b0 n _ e]
    exact hgrown.block n hn fun h => e (Option.some.inj h)⟩
  have hm1 : Mod V' (w'.setRow b0 l.toArray) := fun n cs hn => by
   obtain ⟨c, ty', fz, e1, e2⟩ := hm n cs hn
   have hne : n ≠ b0 := fun e => by rw [e, hV'b] at hn; cases hn
   exact ⟨c, ty', fz, by rw [setRow_other w' b0 n _ hne]; exact e1, e2⟩
  have hr1 : Rel E.C g V' st a (w'.setRow b0 l.toArray) := hr.later hv hm1 hbel (fun n cs h1 h2 => by
   have := hnew n cs h1 h2
   have hne : n ≠ b0 := fun e => by rw [e, hV'b] at h1; cases h1
   obtain ⟨c, ty', e⟩ := this.2
   exact ⟨this.1, c, ty', by rw [setRow_other w' b0 n _ hne]; exact e⟩)
  obtain ⟨u1, u2, u3⟩ := q6 V' w' (ds' a0) l' hheap hcl'
  have hr2 := hr1.turnRow id (b' := reD (ds' a0) (bP st.h id)) (x' := x) hi hx (w' := w') rfl rfl rfl u1 (by rw [u2]; simp) (fun n hn => .inl (by rw [u2] at hn; rw [q2]; exact hn))
   (fun n hn => by rw [u3] at hn; simp only [List.mem_singleton] at hn; subst hn; exact hV'b)
   ⟨rfl, rfl, rfl, by rw [hsz1]; exact Nat.le_refl _, fun n hn hne => (setRow_other w' b0 n _ (fun e => hne (by rw [hxb, e]))).symm⟩ (fun n hn => by rw [q3]; rw [hxb] at hn; cases hn; simp)
  rw [← bV] at hr2
  have hgx : g.set id x = g := by
   apply List.ext_getElem?
   intro i
   rw [List.getElem?_set]
   split
   ·rename_i e
    subst e
    split
    ·exact hx.symm
    ·rename_i hn
     rw [List.getElem?_eq_none (by omega)]
   ·rfl
  rw [hgx] at hr2
  subst r3
  obtain ⟨g', h1, h2, h3⟩ := rZ (cs := (res a0).all) hr2 r1 r2 r4 hnd (fun n hn => ⟨.inl (Nat.le_trans hr.fr.size (hblk n hn).1), (hblk n hn).2, fun i hb' z e1 e2 hm' => by
   have hlt : n < w.heap.size := by
    simp only [bV, List.getElem?_set] at e1
    split at e1
    ·rename_i e
     subst e
     split at e1
     ·cases e1
      rw [hx] at e2
      cases e2
      rw [u2] at hm'
      simp only [List.mem_singleton] at hm'
      subst hm'
      exact hlo.2
     ·cases e1
    ·exact (hr.hp.lo i hb' z e1 e2 n hm').2
   have := (hblk n hn).1
   omega⟩)
  refine ⟨y, g', V', _, _, rfl, h1, ?_, k a0 hQ⟩
  generalize setH st.h id (reD (ds' a0) (bP st.h id)) = hh at *
  generalize res a0 = res at *
  cases res with
  | o x =>
   have hl : lr = [y] := hshape
   subst hl
   simp only [SV.all] at h3
   simp only [adS]
   have hlen1 : (adA hh.length [x]).length = 1 := mD _ _
   match he' : adA hh.length [x], hlen1 with
   | [z], _ =>
    rw [he'] at h3
    exact h3.2 0 z y rfl rfl
  | g cs => exact ⟨lr, hshape, h3⟩
  | t cs =>
   obtain ⟨ls, e1, e2, e3, ys, e4, e5, e6⟩ := hshape
   subst e2
   refine ⟨ys, e4, by rw [e5, kH], fun i b c v hi hv' => ?_⟩
   have hlt : i < ls.length := by rw [e1, ← kH hh.length cs]; exact (List.getElem?_eq_some_iff.1 hi).1
   have hm' : ls[i]? = some ls[i] := List.getElem?_eq_getElem hlt
   obtain ⟨⟨c0, hc0⟩, hcc⟩ := tY hh.length cs ls e1 e3 h3 i b c _ hi hm'
   have := e6 i b c0 _ v hc0 hm' hv'
   cases b with
   | true => simp only [if_true] at this ⊢; exact ⟨_, this, hcc⟩
   | false => simp only [Bool.false_eq_true, if_false] at this ⊢; rw [← this]; exact hcc
structure FnN (P : Program) (f ty : Nat) (args : List SV) {α : Type} (Q : α → Prop) (ds' : α → List D) : Prop where
 enters : ∀ aS w, (callFunc f aS).run P w = .ok (.enter f aS) w
 calls : ∀ V w vs, tabOK w [] → Mod V w → lY V args vs → Calls P f vs.toArray w fun e w' => ∃ a b l V', e = .returned (.pointer (some ⟨b, 0, none⟩)) ∧ Q a ∧ V.le V' ∧ Mod V' w' ∧ (∀ n cs, V' n = some cs → V n = none → w.heap.size ≤ n ∧ Unf w' n) ∧ w.heap.size ≤ b ∧ b < w'.heap.size ∧ V' b = none ∧ w'.heap[b]? = some (.cells (List.toArray l) ty (0, 0)) ∧ cL [] V' ((ds' a).map At.d) l ∧ Below w.heap.size w w'
def b2C (E : Env) (rs : List ResultVar) (ty : Nat) {α : Type} (Q : α → Prop) (ds' : α → List D) : Ex → St → Prop
 | .exit _, _ => False
 | _, st => ∃ a id, Q a ∧ retVs E st rs = some [(false, [.p id 0])] ∧ bP st.h id = .box ty ((ds' a).map At.d)
theorem FnN.of_wp {P : Program} {T : Nat → Ty} {eqk : Nat → List Nat} (hT : TyOK P T) {f : Nat} {fn : Func} {c : Code} {rs : List ResultVar} {ty : Nat} {args : List SV} {α : Type} {Q : α → Prop} {ds' : α → List D}
    (hf : P.funcs[f]? = some fn) (hb : fn.body = some c) (hcall : ∀ aS w, (callFunc f aS).run P w = .ok (.enter f aS) w) (hres : fn.results = rs.toArray)
    (h : ∀ C : Ctx, C.X = [] → WP P C c (bN P C [] (b2C ⟨P, T, C, eqk⟩ rs ty Q ds')) (st0 args fn.ntmps)) : FnN P f ty args Q ds' := by
 refine ⟨hcall, fun V w vs htab hm ha => ?_⟩
 let C : Ctx := ⟨w, [], V, htab⟩
 refine calls_of_wp hf hb ?_
 have hr : Rel C [] V (st0 args fn.ntmps) { tmps := vs.toArray ++ Array.replicate (fn.ntmps - vs.toArray.size) undef, defers := [] } w := by
  refine ⟨⟨by simp [st0, ha.1], fun i s y h1 h2 => ?_, rfl⟩, ⟨rfl, fun i b x h => by simp [st0] at h, fun i b x h => by simp [st0] at h, fun i j b b' x x' _ h => by simp [st0] at h, fun i b x h => by simp [st0] at h, fun i b x h => by simp [st0] at h⟩, hm,
   ⟨rfl, rfl, rfl, Nat.le_refl _, fun _ _ _ => rfl⟩, ⟨View.le.refl V, (fun b cs h1 h2 => by have h2' : V b = none := h2; rw [h1] at h2'; cases h2'), (fun b cs h1 h2 => by have h2' : V b = none := h2; rw [h1] at h2'; cases h2')⟩⟩
  simp only [st0] at h1
  rw [List.getElem?_append] at h1
  rw [Array.getElem?_append] at h2
  simp only [List.size_toArray, ha.1] at h2
  split at h1
  ·rw [if_pos ‹_›] at h2
   exact ha.2 i s y h1 (by simpa using h2)
  ·rw [if_neg ‹_›] at h2
   rw [List.getElem?_replicate] at h1
   rw [Array.getElem?_replicate] at h2
   split at h1
   ·rw [if_pos ‹_›] at h2
    cases h1; cases h2; exact iG _ _
   ·cases h1
 refine wp_mono (h C rfl [] V _ w hr) fun e a' w' q => ?_
 have fin : ∀ (g : List Gh) (V' : View) (st : St), Rel C g V' st a' w' → (∃ a id, Q a ∧ retVs ⟨P, T, C, eqk⟩ st rs = some [(false, [.p id 0])] ∧ bP st.h id = .box ty ((ds' a).map At.d)) →
     ∃ y, (results fn a'.tmps).run P w' = .ok y w' ∧ ∃ a b l V', Ending.returned y = .returned (.pointer (some ⟨b, 0, none⟩)) ∧ Q a ∧ V.le V' ∧ Mod V' w' ∧ (∀ n cs, V' n = some cs → V n = none → w.heap.size ≤ n ∧ Unf w' n) ∧ w.heap.size ≤ b ∧ b < w'.heap.size ∧ V' b = none ∧ w'.heap[b]? = some (.cells (List.toArray l) ty (0, 0)) ∧ cL [] V' ((ds' a).map At.d) l ∧ Below w.heap.size w w' := by
  rintro g V' st hr' ⟨a, id, hq, h1, h2⟩
  obtain ⟨vs', ls, f1, f2, f3, f4, f5⟩ := oQ (E := ⟨P, T, C, eqk⟩) hT hr' h1
  have f1' : (rs.mapM (rvM a')).run P w' = .ok vs' w' := by
   rw [← f1]
   congr 2
  match vs', ls, f2, f3 with
  | [v], [m], _, _ =>
   have hv := f4 0 false [.p id 0] m v rfl rfl rfl
   simp only [Bool.false_eq_true, if_false] at hv
   obtain ⟨hv1, hv2⟩ := hv
   have hv2 := hv2
   subst hv1
   have hp := f5.2 0 (.p id 0) v rfl rfl
   obtain ⟨x, b, hx, hxb, rfl⟩ := hp
   have hi := aJ h2 (by simp)
   obtain ⟨b', l, e1, e2, e3⟩ := hr'.hp.hb id _ x hi hx
   have e0 : b = b' := by rw [hxb] at e1; exact Option.some.inj e1
   subst e0
   have hlo := hr'.hp.lo id _ x hi hx b (by simp [ownB, hxb])
   have hrt := hr'.hp.rt id _ x hi hx b (by simp [aZ, hxb])
   refine ⟨_, mR hres f1', a, b, l, V', rfl, hq, hr'.vw.le, hr'.mod, fun n cs q1 q2 => ⟨by have := hr'.vw.fresh n cs q1 q2; simpa [C] using this, hr'.vw.unf n cs q1 q2⟩, by have := hlo.1; simpa [C] using this, hlo.2, hrt, e2, cLd e3, ⟨hr'.fr.os, hr'.fr.tape, hr'.fr.output, hr'.fr.size, fun k hk => hr'.fr.block k hk (by simp [C])⟩⟩
 cases e with
 | normal =>
  obtain ⟨g, V', st', hr', hret⟩ := q
  obtain ⟨y, hy, hd⟩ := fin g V' st' hr' hret
  exact ⟨hr'.sl.defers, y, hy, hd⟩
 | ret =>
  obtain ⟨g, V', st', hr', hret⟩ := q
  obtain ⟨y, hy, hd⟩ := fin g V' st' hr' hret
  exact ⟨hr'.sl.defers, y, hy, hd⟩
 | exit id => obtain ⟨g, V', st', hr', q⟩ := q; exact q.elim
 | goto l => exact q.elim
 | panic ch => exact q.elim
 | outgrown => exact q.elim
theorem CallS.newBlk {E : Env} {f ty : Nat} {args args' : List SV} {α : Type} {Q : α → Prop} {ds' : α → List D} {st : St} {K : St → SV → Prop} (h : FnN E.P f ty args' Q ds') (he : args.map (eU st.h) = args') (hfree : args'.all bY = true)
    (k : ∀ a, Q a → K ⟨st.t, st.h ++ [.box ty ((ds' a).map At.d)]⟩ (.o (.p st.h.length 0))) : CallS E f args st K := by
 refine ⟨h.enters, fun g V a w vs hr hlen hargs => ?_⟩
 subst he
 have hc : lY V (args.map (eU st.h)) vs := by
  refine ⟨by simp [hlen], fun i s y h1 h2 => ?_⟩
  have hs := List.all_eq_true.1 hfree s (List.mem_of_getElem? h1)
  rw [List.getElem?_map] at h1
  cases hk : args[i]? with
  | none => rw [hk] at h1; cases h1
  | some s0 =>
   rw [hk] at h1
   cases h1
   exact kG (lI hr (hargs i s0 y hk h2)) hs
 refine (h.calls V w vs hr.tab hr.mod hc).mono ?_
 rintro e w' ⟨a0, b, l, V', rfl, hQ, hv, hm, hnew, hge, hlt, hVb, hheap, hcl, hbel⟩
 have hr1 := hr.later hv hm hbel hnew
 let x : Gh := ⟨some b, undef, [], []⟩
 refine ⟨_, g ++ [x], V', ⟨st.t, st.h ++ [.box ty ((ds' a0).map At.d)]⟩, .o (.p st.h.length 0), rfl, ⟨hr1.sl.mono (GLe.push _ _) (View.le.refl V'), hr1.hp.push (b := .box ty ((ds' a0).map At.d)) (x := x) ⟨b, l, rfl, hheap, cLd hcl⟩ ?_ ?_ ?_ ?_, hr1.mod, hr1.fr, hr1.vw⟩, ⟨x, b, ?_, rfl, rfl⟩, k a0 hQ⟩
 ·simp [ownB, x]
 ·intro n hn
  simp [ownB, x] at hn
  subst hn
  exact ⟨.inl (Nat.le_trans hr.fr.size hge), hlt⟩
 ·intro i b' x' h1 h2 n hn hm'
  simp [ownB, x] at hm'
  subst hm'
  have := (hr.hp.lo i b' x' h1 h2 n hn).2
  omega
 ·intro n hn
  simp [aZ, x] at hn
  subst hn
  exact hVb
 ·rw [List.getElem?_append_right (by rw [hr.hp.glen]; exact Nat.le_refl _), hr.hp.glen]; simp
theorem a4V {E : Env} {rs : List ResultVar} {ty : Nat} {α : Type} {Q : α → Prop} {ds' : α → List D} {st : St} (a : α) (id : Nat) (hq : Q a) (h1 : retVs E st rs = some [(false, [.p id 0])]) (h2 : bP st.h id = .box ty ((ds' a).map At.d)) : b2C E rs ty Q ds' .ret st := ⟨a, id, hq, h1, h2⟩
structure FnX (P : Program) (f : Nat) (args : List SV) {α : Type} (Q : α → Prop) (res : α → SV) : Prop where
 enters : ∀ aS w, (callFunc f aS).run P w = .ok (.enter f aS) w
 calls : ∀ V w vs, tabOK w [] → Mod V w → lY V args vs → Calls P f vs.toArray w fun e w' => ∃ y a, e = .returned y ∧ Q a ∧ Done V w (res a) y w'
def b2D (E : Env) (rs : List ResultVar) {α : Type} (Q : α → Prop) (res : α → SV) : Ex → St → Prop
 | .exit _, _ => False
 | _, st => ∃ st' a, Sees E.C st st' ∧ RetOK E st' rs (res a) ∧ Q a
theorem a1i {E : Env} {rs : List ResultVar} {α : Type} {Q : α → Prop} {res : α → SV} {st : St} (a : α) (h : RetOK E st rs (res a)) (hq : Q a) : b2D E rs Q res .ret st := ⟨st, a, Sees.refl _ _, h, hq⟩
theorem FnX.of_wp {P : Program} {T : Nat → Ty} {eqk : Nat → List Nat} (hT : TyOK P T) {f : Nat} {fn : Func} {c : Code} {rs : List ResultVar} {args : List SV} {α : Type} {Q : α → Prop} {res : α → SV}
    (hf : P.funcs[f]? = some fn) (hb : fn.body = some c) (hcall : ∀ aS w, (callFunc f aS).run P w = .ok (.enter f aS) w) (hres : fn.results = rs.toArray)
    (h : ∀ C : Ctx, C.X = [] → WP P C c (bN P C [] (b2D ⟨P, T, C, eqk⟩ rs Q res)) (st0 args fn.ntmps)) : FnX P f args Q res := by
 refine ⟨hcall, fun V w vs htab hm ha => ?_⟩
 let C : Ctx := ⟨w, [], V, htab⟩
 refine calls_of_wp hf hb ?_
 have hr : Rel C [] V (st0 args fn.ntmps) { tmps := vs.toArray ++ Array.replicate (fn.ntmps - vs.toArray.size) undef, defers := [] } w := by
  refine ⟨⟨by simp [st0, ha.1], fun i s y h1 h2 => ?_, rfl⟩, ⟨rfl, fun i b x h => by simp [st0] at h, fun i b x h => by simp [st0] at h, fun i j b b' x x' _ h => by simp [st0] at h, fun i b x h => by simp [st0] at h, fun i b x h => by simp [st0] at h⟩, hm,
   ⟨rfl, rfl, rfl, Nat.le_refl _, fun _ _ _ => rfl⟩, ⟨View.le.refl V, (fun b cs h1 h2 => by have h2' : V b = none := h2; rw [h1] at h2'; cases h2'), (fun b cs h1 h2 => by have h2' : V b = none := h2; rw [h1] at h2'; cases h2')⟩⟩
  simp only [st0] at h1
  rw [List.getElem?_append] at h1
  rw [Array.getElem?_append] at h2
  simp only [List.size_toArray, ha.1] at h2
  split at h1
  ·rw [if_pos ‹_›] at h2
   exact ha.2 i s y h1 (by simpa using h2)
  ·rw [if_neg ‹_›] at h2
   rw [List.getElem?_replicate] at h1
   rw [Array.getElem?_replicate] at h2
   split at h1
   ·rw [if_pos ‹_›] at h2
    cases h1; cases h2; exact iG _ _
   ·cases h1
 refine wp_mono (h C rfl [] V _ w hr) fun e a' w' q => ?_
 cases e with
 | normal =>
  obtain ⟨g, V', st', hr', s, a0, hs, hret, hq⟩ := q
  obtain ⟨g2, V2, hr2⟩ := hs g V' a' w' hr'
  obtain ⟨y, hy, hd⟩ := wW (E := ⟨P, T, C, eqk⟩) hT rfl hr2 hres hret
  exact ⟨hr'.sl.defers, y, hy, y, a0, rfl, hq, hd⟩
 | ret =>
  obtain ⟨g, V', st', hr', s, a0, hs, hret, hq⟩ := q
  obtain ⟨g2, V2, hr2⟩ := hs g V' a' w' hr'
  obtain ⟨y, hy, hd⟩ := wW (E := ⟨P, T, C, eqk⟩) hT rfl hr2 hres hret
  exact ⟨hr'.sl.defers, y, hy, y, a0, rfl, hq, hd⟩
 | exit id => obtain ⟨g, V', st', hr', q⟩ := q; exact q.elim
 | goto l => exact q.elim
 | panic ch => exact q.elim
 | outgrown => exact q.elim
theorem CallS.someX {E : Env} {f : Nat} {args args' : List SV} {α : Type} {Q : α → Prop} {res : α → SV} {st : St} {K : St → SV → Prop} (h : FnX E.P f args' Q res) (he : args.map (eU st.h) = args') (hfree : args'.all bY = true)
    (k : ∀ a, Q a → K ⟨st.t, st.h ++ adH (res a).all⟩ (adS st.h.length (res a))) : CallS E f args st K := by
 refine ⟨h.enters, fun g V a w vs hr hlen hargs => ?_⟩
 subst he
 have hc : lY V (args.map (eU st.h)) vs := by
  refine ⟨by simp [hlen], fun i s y h1 h2 => ?_⟩
  have hs := List.all_eq_true.1 hfree s (List.mem_of_getElem? h1)
  rw [List.getElem?_map] at h1
  cases hk : args[i]? with
  | none => rw [hk] at h1; cases h1
  | some s0 =>
   rw [hk] at h1
   cases h1
   exact kG (lI hr (hargs i s0 y hk h2)) hs
 refine (h.calls V w vs hr.tab hr.mod hc).mono ?_
 rintro e w' ⟨y, a0, rfl, hQ, ⟨V', S, hv, hm, hnew, ⟨l, hshape, Ss, r1, r2, r3, r4⟩, hnd, hblk⟩, hbelow⟩
 have hr1 := hr.later hv hm hbelow hnew
 subst r3
 obtain ⟨g', h1, h2, h3⟩ := rZ (cs := (res a0).all) hr1 r1 r2 r4 hnd (fun b hb => ⟨.inl (Nat.le_trans hr.fr.size (hblk b hb).1), (hblk b hb).2, fun i hb' x e1 e2 hm' => by
  have := (hr.hp.lo i hb' x e1 e2 b hm').2
  have := (hblk b hb).1
  omega⟩)
 refine ⟨y, g', V', _, _, rfl, h1, ?_, k a0 hQ⟩
 generalize res a0 = res at *
 cases res with
 | o x =>
  have hl : l = [y] := hshape
  subst hl
  simp only [SV.all] at h3
  simp only [adS]
  have hlen1 : (adA st.h.length [x]).length = 1 := mD _ _
  match he' : adA st.h.length [x], hlen1 with
  | [z], _ =>
   rw [he'] at h3
   exact h3.2 0 z y rfl rfl
 | g cs => exact ⟨l, hshape, h3⟩
 | t cs =>
  obtain ⟨ls, e1, e2, e3, ys, e4, e5, e6⟩ := hshape
  subst e2
  refine ⟨ys, e4, by rw [e5, kH], fun i b c v hi hv' => ?_⟩
  have hlt : i < ls.length := by rw [e1, ← kH st.h.length cs]; exact (List.getElem?_eq_some_iff.1 hi).1
  have hm' : ls[i]? = some ls[i] := List.getElem?_eq_getElem hlt
  obtain ⟨⟨c0, hc0⟩, hcc⟩ := tY st.h.length cs ls e1 e3 h3 i b c _ hi hm'
  have := e6 i b c0 _ v hc0 hm' hv'
  cases b with
  | true => simp only [if_true] at this ⊢; exact ⟨_, this, hcc⟩
  | false => simp only [Bool.false_eq_true, if_false] at this ⊢; rw [← this]; exact hcc
end Go.Sx
end
section
namespace Go.Sx
open Go Go.RowKit
def a4W (op : BinOp) (k : IntKind) (a b : Int) : Int :=
 match op with
 | .add => k.wrap (a + b)
 | .sub => k.wrap (a - b)
 | .mul => k.wrap (a * b)
 | _ => 0
def a3G : BinOp → Bool
 | .add | .sub | .mul => true
 | _ => false
def a7b (E : Env) (op : Op) (st : St) (k : St → SV → Prop) : Prop :=
 match op with
 | .binOp bop t x y ty => match ev st x, ev st y with
  | .o (.d (.v (.int kx a))), .o (.d (.v (.int ky b))) => match a3G bop with
   | true => kx = ky ∧ k st (.o (.d (.v (.int kx (a4W bop kx a b)))))
   | false => dH E op st k
  | _, _ => dH E op st k
 | _ => dH E op st k
def zA (E : Env) : List Oper → St → (St → Prop) → Prop
 | [], st, K => K st
 | o :: r, st, K => match o.guard with
  | none => a7b E o.op st fun st' s => zA E r (st'.put o.dst s) K
  | some _ => False
theorem a8d {op : BinOp} {t : Nat} {k : IntKind} {a b : Int} (h : a3G op = true) (P : Program) (w : World) : (binOp op t (.int k a) (.int k b)).run P w = .ok (.int k (a4W op k a b)) w := by
 cases op <;> simp only [a3G, Bool.false_eq_true] at h
 all_goals simp [binOp, Op.intArith, a4W]
section
variable {E : Env} {g : List Gh} {V : View} {st : St} {a : Act} {w : World} {o : Oper} {k : St → SV → Prop} {K : Act → World → Prop} {Q : Exit → Act → World → Prop}
theorem a9z (hT : TyOK E.P E.T) (hE : ∀ t, E.eqk t ≠ [] → EqT E.P t (E.eqk t)) (h : a7b E o.op st k) (hr : Rel E.C g V st a w) (hK : gP E o a k K) : o.wp E.P a w K Q := by
 unfold a7b at h
 split at h
 ·rename_i bop t x y ty ho
  split at h
  ·rename_i kx m ky n e1 e2
   split at h
   ·rename_i hw
    obtain ⟨rfl, hk⟩ := h
    have hx := dB hr.sl x
    have hy := dB hr.sl y
    rw [e1] at hx
    rw [e2] at hy
    obtain ⟨hx, _⟩ := bE hx
    obtain ⟨hy, _⟩ := bE hy
    exact aM (jL ho _ (by rw [hx, hy]; exact yV ..) (by rw [hx, hy]; exact a8d hw E.P w)) (hK g V st w _ _ hr (bQ g V _ rfl) hk)
   ·exact lD hT hE h hr hK
  ·exact lD hT hE h hr hK
 ·exact lD hT hE h hr hK
theorem a8e (hT : TyOK E.P E.T) (hE : ∀ t, E.eqk t ≠ [] → EqT E.P t (E.eqk t)) {all : List Oper} {Q : Exit → Act → World → Prop} {K : St → Prop} (hQ : ∀ g V st a w, Rel E.C g V st a w → K st → Q .normal a w) :
    ∀ {l : List Oper} {st : St} {g : List Gh} {V : View} {a : Act} {w : World}, zA E l st K → Rel E.C g V st a w → wpList E.P all.toArray Q l a w := by
 intro l
 induction l with
 | nil => intro st g V a w h hr; exact hQ g V st a w hr h
 | cons o r ih =>
  intro st g V a w h hr
  simp only [zA] at h
  cases hgd : o.guard with
  | none =>
   rw [hgd] at h
   refine wpList_plain hgd fun K' hK' => ?_
   exact a9z hT hE h hr fun g' V' st' w' s y hr' hs hk => hK' _ _ (ih hk (hr'.put o.dst hs))
  | some jb => rw [hgd] at h; exact h.elim
theorem a6i (hT : TyOK E.P E.T) (hE : ∀ t, E.eqk t ≠ [] → EqT E.P t (E.eqk t)) {id : Nat} {ops : List Oper} {F : Ex → St → Prop} {st : St} (h : zA E ops st (F .normal)) : WP E.P E.C (.region id ops.toArray false) F st :=
 fun _ _ _ _ hr => wp_region_lit (a8e hT hE (fun g V st _ _ hr h => ⟨g, V, st, hr, h⟩) h hr)
end
theorem a8f (n : Int) : inR .i64 (IntKind.i64.wrap n) := by
 have e : IntKind.i64.wrap n = if n % 18446744073709551616 ≥ 9223372036854775808 then n % 18446744073709551616 - 18446744073709551616 else n % 18446744073709551616 := by
  unfold IntKind.wrap
  simp [IntKind.bits, IntKind.signed]
 rw [e]
 simp only [inR]
 split <;> omega
theorem a1j (a : Int) (M : Nat) (hM : M < 9223372036854775808) : 0 ≤ nO .and .i64 a (M : Int) ∧ nO .and .i64 a (M : Int) ≤ (M : Int) := by
 have hb : (BitVec.ofInt 64 (M : Int)).toNat = M := by
  rw [BitVec.ofInt_natCast, BitVec.toNat_ofNat]
  exact Nat.mod_eq_of_lt (by omega)
 have hle : (BitVec.ofInt 64 a &&& BitVec.ofInt 64 (M : Int)).toNat ≤ M := by
  rw [BitVec.toNat_and, hb]
  exact Nat.and_le_right
 have hid : IntKind.i64.wrap ((BitVec.ofInt 64 a &&& BitVec.ofInt 64 (M : Int)).toNat : Int) = ((BitVec.ofInt 64 a &&& BitVec.ofInt 64 (M : Int)).toNat : Int) := nC (by simp only [inR]; omega)
 show 0 ≤ IntKind.i64.wrap ((BitVec.ofInt 64 a &&& BitVec.ofInt 64 (M : Int)).toNat : Int) ∧ IntKind.i64.wrap ((BitVec.ofInt 64 a &&& BitVec.ofInt 64 (M : Int)).toNat : Int) ≤ (M : Int)
 rw [hid]
 omega
end Go.Sx
end
section
namespace Go.Proofs.YtolgdibgnndoaaaGreat
open Go Go.Sx Go.RowKit Go.Proofs
attribute [go_sem] a3F reD stB a7b zA a3G
theorem nQ {f ty : Nat} {fn : Func} {c : Code} {rs : List ResultVar} {ds : List D} {args : List SV} {α : Type} {Q : α → Prop} {res : α → SV} {ds' : α → List D} (hf : Tryz.prog.funcs[f]? = some fn) (hb : fn.body = some c) (hcall : ∀ x w, (callFunc f x).run Tryz.prog w = .ok (.enter f x) w) (hres : fn.results = rs.toArray)
    (h : ∀ (C : Ctx) (b : Nat), WP Tryz.prog C c (bN Tryz.prog C [] (a9y (EV C) rs b ty Q res ds')) (stB b ty ds args fn.ntmps)) : FnB Tryz.prog f ty ds args Q res ds' := FnB.of_wp (eqk := eqk) a0n hf hb hcall hres fun C b _ => h C b
theorem b5b {f ty : Nat} {fn : Func} {c : Code} {rs : List ResultVar} {args : List SV} {α : Type} {Q : α → Prop} {ds' : α → List D} (hf : Tryz.prog.funcs[f]? = some fn) (hb : fn.body = some c) (hcall : ∀ x w, (callFunc f x).run Tryz.prog w = .ok (.enter f x) w) (hres : fn.results = rs.toArray)
    (h : ∀ C : Ctx, WP Tryz.prog C c (bN Tryz.prog C [] (b2C (EV C) rs ty Q ds')) (st0 args fn.ntmps)) : FnN Tryz.prog f ty args Q ds' := FnN.of_wp (eqk := eqk) a0n hf hb hcall hres fun C _ => h C
theorem vE {C : Ctx} {f ty id : Nat} {ds : List D} {args' rest : List SV} {α : Type} {Q : α → Prop} {res : α → SV} {ds' : α → List D} {st : St} {K : St → SV → Prop} (h : FnB Tryz.prog f ty ds args' Q res ds') (hid : a3F ty ds (bP st.h id)) (he : rest.map (eU st.h) = args') (hfree : args'.all bY = true)
    (k : ∀ a, Q a → K ⟨st.t, setH st.h id (reD (ds' a) (bP st.h id)) ++ adH (res a).all⟩ (adS (setH st.h id (reD (ds' a) (bP st.h id))).length (res a))) : CallT (EV C) f (.o (.p id 0) :: rest) st K ⟨⟩ := ⟨CallS.block (E := EV C) h hid he hfree k⟩
theorem b1L {C : Ctx} {f ty : Nat} {args args' : List SV} {α : Type} {Q : α → Prop} {ds' : α → List D} {st : St} {K : St → SV → Prop} (h : FnN Tryz.prog f ty args' Q ds') (he : args.map (eU st.h) = args') (hfree : args'.all bY = true)
    (k : ∀ a, Q a → K ⟨st.t, st.h ++ [.box ty ((ds' a).map At.d)]⟩ (.o (.p st.h.length 0))) : CallT (EV C) f args st K ⟨⟩ := ⟨CallS.newBlk (E := EV C) h he hfree k⟩
theorem b3P {f : Nat} {fn : Func} {c : Code} {rs : List ResultVar} {args : List SV} {α : Type} {Q : α → Prop} {res : α → SV} (hf : Tryz.prog.funcs[f]? = some fn) (hb : fn.body = some c) (hcall : ∀ x w, (callFunc f x).run Tryz.prog w = .ok (.enter f x) w) (hres : fn.results = rs.toArray)
    (h : ∀ C : Ctx, WP Tryz.prog C c (bN Tryz.prog C [] (b2D (EV C) rs Q res)) (st0 args fn.ntmps)) : FnX Tryz.prog f args Q res := FnX.of_wp (eqk := eqk) a0n hf hb hcall hres fun C _ => h C
theorem b3Q {C : Ctx} {f : Nat} {args args' : List SV} {α : Type} {Q : α → Prop} {res : α → SV} {st : St} {K : St → SV → Prop} (h : FnX Tryz.prog f args' Q res) (he : args.map (eU st.h) = args') (hfree : args'.all bY = true)
    (k : ∀ a, Q a → K ⟨st.t, st.h ++ adH (res a).all⟩ (adS st.h.length (res a))) : CallT (EV C) f args st K ⟨⟩ := ⟨CallS.someX (E := EV C) h he hfree k⟩
theorem b3R {C : Ctx} {f : Nat} {args : List SV} {st : St} {K : St → SV → Prop} (ids : List Nat) (k : CallT (EV C) f args ⟨st.t, bI st.h ids⟩ K ⟨⟩) : CallT (EV C) f args st K ⟨⟩ :=
 ⟨CallS.sees (E := EV C) (fun g V a w hr => by obtain ⟨g', V', h, _⟩ := gN ids hr; exact ⟨g', V', h⟩) (fun g V a w hr => by obtain ⟨g', V', h, h1, h2, _⟩ := gN ids hr; exact ⟨g', V', h, h1, h2⟩) k.out⟩
theorem b5c {C : Ctx} {id : Nat} {ops : List Oper} {F : Ex → St → Prop} {st : St} (h : zA (EV C) ops st (F .normal)) : WP Tryz.prog C (.region id ops.toArray false) F st := a6i (E := EV C) a0n a7U h
end Go.Proofs.YtolgdibgnndoaaaGreat
end
section
section
set_option linter.all false
namespace Go.Proofs.YtolgdibgnndoaaaGreat
open Go Go.Sx Go.RowKit Go.Proofs
def b5x (n : Int) (w : Nat) : Int := if n - w < 0 then -1 else n - w
def dN {α : Type} (w : α → Nat) : List α → Nat
 | [] => 0
 | x :: l => w x + dN w l
theorem dI {α : Type} (w : α → Nat) : ∀ (l : List α) {k : Nat} (h : k < l.length), w l[k] ≤ dN w l
 | [], _, h => by simp at h
 | x :: l, 0, _ => by simp [dN]
 | x :: l, k + 1, h => by
  have := dI w l (k := k) (by simpa using h)
  simp only [List.getElem_cons_succ, dN]; omega
@[go_sem] def iQ (n : Int) : List D := [iv n]
@[go_sem] def eT (s : ByteArray) : List D := [sv s]
abbrev slI (l : List Int) : D := .sl (l.map iQ)
abbrev slS (l : List ByteArray) : D := .sl (l.map eT)
def pK (l : List ByteArray) : Nat := l.length + dN ByteArray.size l
def a3H (l : List Int) : Prop := l.length ≤ 9223372036854775807 ∧ ∀ i ∈ l, inR .i64 i
def b3j (l : List ByteArray) : Prop := l.length ≤ 9223372036854775807 ∧ ∀ s ∈ l, s.size ≤ 9223372036854775807
end Go.Proofs.YtolgdibgnndoaaaGreat
end
section
set_option linter.all false
set_option maxHeartbeats 1000000
namespace Go.Proofs.YtolgdibgnndoaaaGreat
open Go Go.Sx Go.RowKit Go.Proofs
structure TValue where
 fKind : Int
 fInt : Int
 fStr : ByteArray
@[go_sem] def b3S (x : TValue) : List D := [iv x.fKind, iv x.fInt, sv x.fStr]
@[go_sem] def nE (x : TValue) : SV := .g [.d (iv x.fKind), .d (iv x.fInt), .d (sv x.fStr)]
def nG (x : TValue) : Nat := x.fStr.size
def a0H (x : TValue) : Prop := inR .i64 x.fKind ∧ inR .i64 x.fInt ∧ x.fStr.size ≤ 9223372036854775807
def b4s (l : List TValue) : Nat := l.length + dN nG l
def b3T (l : List TValue) : Prop := l.length ≤ 9223372036854775807 ∧ ∀ x ∈ l, a0H x
end Go.Proofs.YtolgdibgnndoaaaGreat
end
section
set_option linter.all false
set_option maxHeartbeats 1000000
namespace Go.Proofs.YtolgdibgnndoaaaGreat
open Go Go.Sx Go.RowKit Go.Proofs
structure TField where
 fName : ByteArray
 fKind : Int
@[go_sem] def cZ (x : TField) : List D := [sv x.fName, iv x.fKind]
@[go_sem] def b5d (x : TField) : SV := .g [.d (sv x.fName), .d (iv x.fKind)]
def qY (x : TField) : Nat := x.fName.size
def b1k (x : TField) : Prop := x.fName.size ≤ 9223372036854775807 ∧ inR .i64 x.fKind
def bG (l : List TField) : Nat := l.length + dN qY l
def a9A (l : List TField) : Prop := l.length ≤ 9223372036854775807 ∧ ∀ x ∈ l, b1k x
end Go.Proofs.YtolgdibgnndoaaaGreat
end
section
set_option linter.all false
set_option maxHeartbeats 1000000
namespace Go.Proofs.YtolgdibgnndoaaaGreat
open Go Go.Sx Go.RowKit Go.Proofs
structure TAttr where
 fName : ByteArray
 fValue : TValue
@[go_sem] def fP (x : TAttr) : List D := [sv x.fName, iv x.fValue.fKind, iv x.fValue.fInt, sv x.fValue.fStr]
@[go_sem] def b5y (x : TAttr) : SV := .g [.d (sv x.fName), .d (iv x.fValue.fKind), .d (iv x.fValue.fInt), .d (sv x.fValue.fStr)]
def jU (x : TAttr) : Nat := x.fName.size + nG x.fValue
def a6j (x : TAttr) : Prop := x.fName.size ≤ 9223372036854775807 ∧ a0H x.fValue
def gT (l : List TAttr) : Nat := l.length + dN jU l
def uG (l : List TAttr) : Prop := l.length ≤ 9223372036854775807 ∧ ∀ x ∈ l, a6j x
end Go.Proofs.YtolgdibgnndoaaaGreat
end
section
set_option linter.all false
set_option maxHeartbeats 1000000
namespace Go.Proofs.YtolgdibgnndoaaaGreat
open Go Go.Sx Go.RowKit Go.Proofs
structure TFile where
 fID : Int
 fOwner : Int
 fShared : Bool
 fLink : Int
 fAttrs : List TAttr
@[go_sem] def eP (x : TFile) : List D := [iv x.fID, iv x.fOwner, bv x.fShared, iv x.fLink, .sl (x.fAttrs.map fP)]
@[go_sem] def pM (x : TFile) : SV := .g [.d (iv x.fID), .d (iv x.fOwner), .d (bv x.fShared), .d (iv x.fLink), .d (.sl (x.fAttrs.map fP))]
@[go_sem] def a7c (x : TFile) : SV := .g [.d (iv x.fID), .d (iv x.fOwner), .d (bv x.fShared), .d (iv x.fLink), .w 173 4 (x.fAttrs.map fP)]
def eF (x : TFile) : Nat := gT x.fAttrs
def a6k (x : TFile) : Prop := inR .i64 x.fID ∧ inR .i64 x.fOwner ∧ True ∧ inR .i64 x.fLink ∧ uG x.fAttrs
def lU (l : List TFile) : Nat := l.length + dN eF l
def b1l (l : List TFile) : Prop := l.length ≤ 9223372036854775807 ∧ ∀ x ∈ l, a6k x
end Go.Proofs.YtolgdibgnndoaaaGreat
end
section
set_option linter.all false
set_option maxHeartbeats 1000000
namespace Go.Proofs.YtolgdibgnndoaaaGreat
open Go Go.Sx Go.RowKit Go.Proofs
structure TStore where
 fSchema : List TField
 fFiles : List TFile
 fNextID : Int
@[go_sem] def b3U (x : TStore) : List D := [.sl (x.fSchema.map cZ), .sl (x.fFiles.map eP), iv x.fNextID]
@[go_sem] def gZ (x : TStore) : SV := .g [.d (.sl (x.fSchema.map cZ)), .d (.sl (x.fFiles.map eP)), .d (iv x.fNextID)]
@[go_sem] def a6l (x : TStore) : SV := .g [.w 187 2 (x.fSchema.map cZ), .w 27 5 (x.fFiles.map eP), .d (iv x.fNextID)]
def dV (x : TStore) : Nat := bG x.fSchema + lU x.fFiles
def a3I (x : TStore) : Prop := a9A x.fSchema ∧ b1l x.fFiles ∧ inR .i64 x.fNextID
def b4t (l : List TStore) : Nat := l.length + dN dV l
def b3V (l : List TStore) : Prop := l.length ≤ 9223372036854775807 ∧ ∀ x ∈ l, a3I x
end Go.Proofs.YtolgdibgnndoaaaGreat
end
section
set_option linter.all false
set_option maxHeartbeats 1000000
namespace Go.Proofs.YtolgdibgnndoaaaGreat
open Go Go.Sx Go.RowKit Go.Proofs
structure TNode where
 fOp : Int
 fLeft : Int
 fRight : Int
 fName : ByteArray
 fValue : TValue
@[go_sem] def bH (x : TNode) : List D := [iv x.fOp, iv x.fLeft, iv x.fRight, sv x.fName, iv x.fValue.fKind, iv x.fValue.fInt, sv x.fValue.fStr]
@[go_sem] def a7d (x : TNode) : SV := .g [.d (iv x.fOp), .d (iv x.fLeft), .d (iv x.fRight), .d (sv x.fName), .d (iv x.fValue.fKind), .d (iv x.fValue.fInt), .d (sv x.fValue.fStr)]
def xW (x : TNode) : Nat := x.fName.size + nG x.fValue
def a9B (x : TNode) : Prop := inR .i64 x.fOp ∧ inR .i64 x.fLeft ∧ inR .i64 x.fRight ∧ x.fName.size ≤ 9223372036854775807 ∧ a0H x.fValue
def dR (l : List TNode) : Nat := l.length + dN xW l
def b1m (l : List TNode) : Prop := l.length ≤ 9223372036854775807 ∧ ∀ x ∈ l, a9B x
end Go.Proofs.YtolgdibgnndoaaaGreat
end
section
set_option linter.all false
set_option maxHeartbeats 1000000
namespace Go.Proofs.YtolgdibgnndoaaaGreat
open Go Go.Sx Go.RowKit Go.Proofs
structure TDir where
 fName : ByteArray
 fQuery : List TNode
@[go_sem] def cO (x : TDir) : List D := [sv x.fName, .sl (x.fQuery.map bH)]
@[go_sem] def b3W (x : TDir) : SV := .g [.d (sv x.fName), .d (.sl (x.fQuery.map bH))]
@[go_sem] def b5O (x : TDir) : SV := .g [.d (sv x.fName), .w 98 7 (x.fQuery.map bH)]
def iU (x : TDir) : Nat := x.fName.size + dR x.fQuery
def b1M (x : TDir) : Prop := x.fName.size ≤ 9223372036854775807 ∧ b1m x.fQuery
def gL (l : List TDir) : Nat := l.length + dN iU l
def a9C (l : List TDir) : Prop := l.length ≤ 9223372036854775807 ∧ ∀ x ∈ l, b1M x
end Go.Proofs.YtolgdibgnndoaaaGreat
end
end
section
set_option maxRecDepth 100000
set_option maxHeartbeats 4000000
namespace Go.Proofs.YtolgdibgnndoaaaGreat
open Go Go.Sx Go.RowKit Go.Proofs
@[go_sem] def oK (n : Int) : List D := [.v (.int .u8 n)]
def wfU (l : List Int) : Prop := l.length ≤ 9223372036854775807 ∧ ∀ i ∈ l, inR .u8 i
theorem b5a {n : Nat} {r : List D} (h : ShD tt n 5 r) : ∃ i, r = oK i ∧ inR .u8 i := by
 match n, h with
 | n + 1, ⟨i, h, hi⟩ => exact ⟨i, h, hi⟩
theorem b3O {n : Nat} {r : List D} (h : ShD tt n 22 r) : ∃ l : List Int, r = [.sl (l.map oK)] ∧ wfU l := by
 match n, h with
 | n + 1, ⟨rows, h, hm, hr⟩ =>
  obtain ⟨l, rfl, hl⟩ := a4e oK (inR .u8) (fun r h => b5a (hr r h))
  exact ⟨l, h, by unfold maxLen at hm; simpa using hm, hl⟩
@[go_sem] def a1h (l : List Int) (i h : Int) : List D := [.sl (l.map oK), iv i, iv h]
theorem a2v (l : List Int) (hl : l.length ≤ 1048576) (hw : ∀ i ∈ l, inR .u8 i) : FnN Tryz.prog 50 158 [.o (.d (.sl (l.map oK)))] (fun h : Int => inR .i64 h) (fun h => a1h l 0 h) := by
 refine b5b Tryz.func50 rfl Tryz.call50 rfl (fun C => ?_); simp only [go_sem, st0, Tryz.ntmps50]
 refine aD ?_
 refine bC (α := Nat × Int) (fun x => [(4, oi x.1), (3, oi x.2)]) (fun _ => []) (fun x => x.1 ≤ l.length ∧ (0 ≤ x.2 ∧ x.2 ≤ 1200000000)) (fun x => l.length - x.1) (0, 94701 + l.length) (fun _ => ?_) ?_ ?_ (fun x hx => ?_)
 ·simp only [go_sem]
 ·simp only [go_sem]; simp
 ·exact ⟨Nat.zero_le _, by simp only; omega⟩
 ·obtain ⟨k, h⟩ := x
  obtain ⟨h1, h2, h3⟩ := hx
  simp only at h1 h2 h3
  simp only [go_sem]
  by_cases g1 : k < l.length
  ·have g1' : ((k : Int) < (l.length : Int)) = True := by simp [g1]
   have hb := hw l[k] (List.getElem_mem g1)
   simp only [inR] at hb
   by_cases g2 : (k : Int) < 4000
   ·have g2' : ((k : Int) < 4000) = True := by simp [g2]
    have hm : 0 ≤ nO .and .i64 (h * 131 + l[k] + 7) 1073741823 ∧ nO .and .i64 (h * 131 + l[k] + 7) 1073741823 ≤ 1073741823 := a1j (h * 131 + l[k] + 7) 1073741823 (by decide)
    have q0 := @g1; have q1 := @g1'; have q2 := @g2'; have q3 := @decide_true; refine kF ?_
    refine aF (k + 1, nO .and .i64 (h * 131 + l[k] + 7) 1073741823) ?_ ?_ ?_
    ·simp only [go_sem]; simp
    ·exact ⟨by simp only; omega, by simp only; omega⟩
    ·simp only; omega
   ·have g2' : ((k : Int) < 4000) = False := by simp [g2]
    have q0 := @g1'; have q1 := @g2'; have q2 := @decide_true; have q3 := @decide_false; refine kF ?_
    exact a4V h 0 ⟨by omega, by omega⟩ (by simp only [go_sem]) (by simp only [go_sem])
  ·have g1' : ((k : Int) < (l.length : Int)) = False := by simp [g1]
   have q0 := @g1'; have q1 := @decide_false; refine gQ ?_
   exact a4V h 0 ⟨by omega, by omega⟩ (by simp only [go_sem]) (by simp only [go_sem])
theorem xV (l : List Int) (hl : l.length ≤ 1048576) (hw : ∀ i ∈ l, inR .u8 i) (i : Nat) (h : Int) (hi : i ≤ l.length) (hh : inR .i64 h) : FnB Tryz.prog 138 158 (a1h l i h) [] (fun x : Int × Nat × Int => (0 ≤ x.1 ∧ x.1 ≤ 255) ∧ (x.2.1 ≤ l.length ∧ inR .i64 x.2.2)) (fun x => oi x.1) (fun x => a1h l x.2.1 x.2.2) := by
 refine nQ Tryz.func138 rfl Tryz.call138 rfl (fun C b => ?_); simp only [go_sem, Tryz.ntmps138]
 repeat' (with_reducible first | refine nX ?_ | (refine mX ?_; try simp only [go_sem]) | refine kD ?_ | refine aO ?_ | fail)
 refine reg ?_
 repeat' (with_reducible first | refine nX ?_ | (refine mX ?_; try simp only [go_sem]) | refine kD ?_ | refine aO ?_ | fail)
 refine b5c ?_
 simp only [go_sem]
 obtain ⟨h', hh', e⟩ : ∃ h', inR .i64 h' ∧ a4W .add .i64 (a4W .mul .i64 h 6364136223846793005) 1442695040888963407 = h' := ⟨_, a8f _, rfl⟩
 rw [e]
 have hx : 0 ≤ nO .and .i64 (nO .xor .i64 (a1M .i64 h' 33) (a1M .i64 h' 45)) 255 ∧ nO .and .i64 (nO .xor .i64 (a1M .i64 h' 33) (a1M .i64 h' 45)) 255 ≤ 255 := a1j _ 255 (by decide)
 simp only [inR] at hh'
 by_cases g : i < l.length
 ·have g' : ((i : Int) < (l.length : Int)) = True := by simp [g]
  have hb := hw l[i] (List.getElem_mem g)
  simp only [inR] at hb
  have q0 := @g; have q1 := @g'; have q2 := @decide_true; refine kE ?_
  have hy : ∀ a : Int, 0 ≤ nO .and .i64 a 255 ∧ nO .and .i64 a 255 ≤ 255 := fun a => a1j a 255 (by decide)
  exact aH (nO .and .i64 (nO .and .i64 (nO .xor .i64 (a1M .i64 h' 33) (a1M .i64 h' 45)) 255 + l[i]) 255, i + 1, h') ⟨⟨_, rfl, by simp only [go_sem]⟩, trivial⟩ ⟨hy _, ⟨by simp only; omega, hh'⟩⟩ (by simp only [go_sem]; simp)
 ·have g' : ((i : Int) < (l.length : Int)) = False := by simp [g]
  have q0 := @g'; have q1 := @decide_false; refine gQ ?_
  exact aH (nO .and .i64 (nO .xor .i64 (a1M .i64 h' 33) (a1M .i64 h' 45)) 255, i, h') ⟨⟨_, rfl, by simp only [go_sem]⟩, trivial⟩ ⟨hx, ⟨hi, hh'⟩⟩ (by simp only [go_sem])
theorem sS (l : List Int) (hl : l.length ≤ 1048576) (hw : ∀ i ∈ l, inR .u8 i) (i : Nat) (h : Int) (hi : i ≤ l.length) (hh : inR .i64 h) (n : Int) (hn : 1 ≤ n) (hn2 : n ≤ 1000000000) : FnB Tryz.prog 71 158 (a1h l i h) [oi n] (fun x : Int × Nat × Int => (0 ≤ x.1 ∧ x.1 < n) ∧ (x.2.1 ≤ l.length ∧ inR .i64 x.2.2)) (fun x => oi x.1) (fun x => a1h l x.2.1 x.2.2) := by
 have hn0 : (n ≤ 0) = False := by simp; omega
 have hne : n ≠ 0 := by omega
 refine nQ Tryz.func71 rfl Tryz.call71 rfl (fun C b => ?_); simp only [go_sem, Tryz.ntmps71]
 by_cases g : n ≤ 256
 ·have g' : (n ≤ 256) = True := by simp [g]
  have q0 := @hn0; have q1 := @g'; have q2 := @hne; have q3 := @decide_true; have q4 := @decide_false; refine sN ?_
  refine vE (xV l hl hw i h hi hh) ⟨rfl, rfl⟩ rfl rfl ?_
  rintro ⟨x, i1, h1⟩ ⟨⟨b1, b2⟩, b3, b4⟩
  simp only at b1 b2 b3 b4
  simp only [go_sem]
  have q0 := @hne; refine iH ?_
  have q1 : 0 ≤ x.tmod n := Int.tmod_nonneg n b1
  have q2 : x.tmod n < n := Int.tmod_lt_of_pos x (by omega)
  exact aH (x.tmod n, i1, h1) ⟨⟨_, rfl, by simp only [go_sem]⟩, trivial⟩ ⟨⟨q1, q2⟩, ⟨b3, b4⟩⟩ (by simp only [go_sem])
 ·have g' : (n ≤ 256) = False := by simp [g]
  have q0 := @hn0; have q1 := @g'; have q2 := @hne; have q3 := @decide_true; have q4 := @decide_false; refine sN ?_
  refine vE (xV l hl hw i h hi hh) ⟨rfl, rfl⟩ rfl rfl ?_
  rintro ⟨x, i1, h1⟩ ⟨⟨b1, b2⟩, b3, b4⟩
  simp only at b1 b2 b3 b4
  simp only [go_sem]
  have q0 := @hne; refine iH ?_
  refine vE (xV l hl hw i1 h1 b3 b4) ⟨rfl, rfl⟩ rfl rfl ?_
  rintro ⟨y, i2, h2⟩ ⟨⟨c1, c2⟩, c3, c4⟩
  simp only at c1 c2 c3 c4
  simp only [go_sem]
  have q0 := @hne; refine iH ?_
  refine vE (xV l hl hw i2 h2 c3 c4) ⟨rfl, rfl⟩ rfl rfl ?_
  rintro ⟨z, i3, h3⟩ ⟨⟨d1, d2⟩, d3, d4⟩
  simp only at d1 d2 d3 d4
  simp only [go_sem]
  have q0 := @hne; refine iH ?_
  refine vE (xV l hl hw i3 h3 d3 d4) ⟨rfl, rfl⟩ rfl rfl ?_
  rintro ⟨v, i4, h4⟩ ⟨⟨e1, e2⟩, e3, e4⟩
  simp only at e1 e2 e3 e4
  simp only [go_sem]
  have q0 := @hne; refine iH ?_
  have q1 : 0 ≤ (x * 16777216 + y * 65536 + z * 256 + v).tmod n := Int.tmod_nonneg n (by omega)
  have q2 : (x * 16777216 + y * 65536 + z * 256 + v).tmod n < n := Int.tmod_lt_of_pos _ (by omega)
  exact aH ((x * 16777216 + y * 65536 + z * 256 + v).tmod n, i4, h4) ⟨⟨_, rfl, by simp only [go_sem]⟩, trivial⟩ ⟨⟨q1, q2⟩, ⟨e3, e4⟩⟩ (by simp only [go_sem])
theorem places_ok (l : List Int) (hl : l.length ≤ 1048576) (hw : ∀ i ∈ l, inR .u8 i) : FnX Tryz.prog 31 [.o (.d (.sl (l.map oK)))] (fun p : List Int => p.length = 12 ∧ ∀ x ∈ p, 0 ≤ x ∧ x < 10000) (fun p => .o (.w 3 1 (p.map iQ))) := by
 refine b3P Tryz.func31 rfl Tryz.call31 rfl (fun C => ?_); simp only [go_sem, st0, Tryz.ntmps31]
 refine aD ?_
 refine b1L (a2v l hl hw) rfl rfl ?_
 intro h0 q0
 simp only [go_sem]
 refine aD ?_
 refine bC (α := Nat × Int × List Int) (fun x => [(4, .o (.s 1)), (8, .o .u), (5, oi x.2.2.length)]) (fun x => [(0, .box 158 [.d (.sl (l.map oK)), .d (iv x.1), .d (iv x.2.1)]), (1, .row 3 1 (x.2.2.map iQ) true)]) (fun x => (x.1 ≤ l.length ∧ inR .i64 x.2.1) ∧ (x.2.2.length ≤ 12 ∧ ∀ y ∈ x.2.2, 0 ≤ y ∧ y < 10000)) (fun x => 12 - x.2.2.length) (0, h0, []) (fun _ => ?_) ?_ ?_ (fun x hx => ?_)
 ·simp only [go_sem]
 ·simp only [go_sem]; simp
 ·exact ⟨⟨Nat.zero_le _, q0⟩, by simp⟩
 ·obtain ⟨i, h, p⟩ := x
  obtain ⟨⟨r1, r2⟩, r3, r4⟩ := hx
  simp only at r1 r2 r3 r4
  simp only [go_sem]
  by_cases g : (p.length : Int) < 12
  ·have g' : ((p.length : Int) < 12) = True := by simp [g]
   have hl1 : p.length + 1 ≤ 140737488355328 := by omega
   have hl2 : (p.length + 1) * 8 ≤ 140737488355328 := by omega
   have q0 := @g'; have q1 := @decide_true; refine gQ ?_
   refine vE (sS l hl hw i h r1 r2 10000 (by omega) (by omega)) ⟨rfl, rfl⟩ rfl rfl ?_
   rintro ⟨x, i1, h1⟩ ⟨⟨b1, b2⟩, b3, b4⟩
   simp only at b1 b2 b3 b4
   simp only [go_sem]
   have q0 := @hl1; have q1 := @hl2; refine gQ ?_
   refine aF (i1, h1, p ++ [x]) ?_ ?_ ?_
   ·simp only [go_sem]; simp [iQ]
   ·refine ⟨⟨b3, b4⟩, by simp; omega, fun y hy => ?_⟩
    rcases List.mem_append.1 hy with hy | hy
    ·exact r4 y hy
    ·simp only [List.mem_singleton] at hy; subst hy; exact ⟨b1, b2⟩
   ·simp; omega
  ·have g' : ((p.length : Int) < 12) = False := by simp [g]
   have q0 := @g'; have q1 := @decide_false; refine gQ ?_
   exact a1i p ⟨⟨_, rfl, by simp only [go_sem]; try simp⟩, trivial⟩ ⟨by omega, r4⟩
end Go.Proofs.YtolgdibgnndoaaaGreat
end
