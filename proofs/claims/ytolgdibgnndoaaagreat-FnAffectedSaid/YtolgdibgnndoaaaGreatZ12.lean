/- Joined texts. -/
import Derived.Test.YtolgdibgnndoaaaGreatZ06
import Derived.Test.YtolgdibgnndoaaaGreatZ11
import Derived.Ground.NamesProg
import Derived.Ground.Names2Prog
import Derived.Shelf.Sort.Plain
import Derived.Shelf.Slices.In.SortNone
import Derived.Shelf.Slices.CompactI
import Derived.Shelf.Slices.CompactS
import Derived.Test.YtolgdibgnndoaaaGreatProg
import Derived.Shelf.SlGeneric
import Derived.Shelf.SlSortCmp.KitK
import Derived.Shelf.SlicesQ.IndexFunc
import Derived.Ground.SlsfProg
import Derived.Ground.SlgfProg
import Derived.Test.YtolgdibgnndoaaaGreatZ08
import Derived.Test.YtolgdibgnndoaaaGreatZ07
set_option linter.all false
section
namespace Go.Sx
open Go Go.RowKit
theorem LayL.flat0 {V : View} {ds : List D} {ys : List Value} {Ss : List (List Nat)} (h : LayL V ds ys Ss) (hf : ds.all isV = true) : Ss.flatten = [] := by
 obtain ⟨h1, h2, h3⟩ := h
 rw [List.flatten_eq_nil_iff]
 intro S hS
 obtain ⟨k, hk, rfl⟩ := List.getElem_of_mem hS
 have hk1 : k < ds.length := by omega
 have hk2 : k < ys.length := by omega
 have h4 := h3 k ds[k] ys[k] Ss[k] (List.getElem?_eq_getElem hk1) (List.getElem?_eq_getElem hk2) (List.getElem?_eq_getElem hk)
 have h5 := List.all_eq_true.1 hf ds[k] (List.getElem_mem hk1)
 generalize ds[k] = d at *
 generalize ys[k] = y at *
 generalize Ss[k] = S at *
 cases h4 with
 | v x hx => rfl
 | nil => simp [isV] at h5
 | sl => simp [isV] at h5
theorem b0S {rows : List (List D)} (h : iR rows = true) : rows.flatten.all isV = true := by
 unfold iR at h
 simpa [List.all_flatten] using h
section
variable {C : Ctx} {g : List Gh} {V : View} {st : St} {a : Act} {w : World}
theorem Rel.laterG {V' : View} {w' : World} (h : Rel C g V st a w) (G : List Nat) (hG : ∀ n ∈ G, C.w0.heap.size ≤ n ∨ n ∈ C.X) (hGV : ∀ n ∈ G, V n = none)
    (hdj : ∀ (i : Nat) (b : HB) (x : Gh), st.h[i]? = some b → g[i]? = some x → ∀ n ∈ ownB x b, n ∉ G) (hv : V.le V') (hm : Mod V' w') (ho : w'.os = w.os) (ht : w'.tape = w.tape) (hu : w'.output = w.output) (hs : w.heap.size ≤ w'.heap.size)
    (hb : ∀ k, k < w.heap.size → k ∉ G → w'.heap[k]? = w.heap[k]?) (hn : ∀ b cs, V' b = some cs → V b = none → (w.heap.size ≤ b ∨ b ∈ G) ∧ Unf w' b) : Rel C g V' st a w' := by
 refine ⟨h.sl.mono (GLe.refl g) hv, h.hp.later hv hs (fun i b x h1 h2 n hn' => hb n (h.hp.lo i b x h1 h2 n hn').2 (hdj i b x h1 h2 n hn')) (fun i b x h1 h2 n hn' => ?_), hm, ?fr, ?vw⟩
 case vw =>
  refine (h.vw.move (w' := w') fun b cs hb' => hb b (h.mod.lt hb') fun hg => by have := hGV b hg; rw [this] at hb'; cases hb').grow hv fun b cs h1 h2 => ⟨?_, (hn b cs h1 h2).2⟩
  rcases (hn b cs h1 h2).1 with h3 | h3
  ·have := h.fr.size; exact .inl (by omega)
  ·exact hG b h3
 ·cases hc : V' n with
  | none => rfl
  | some cs =>
   have h4 := (h.hp.lo i b x h1 h2 n (aR hn')).2
   rcases (hn n cs hc (h.hp.rt i b x h1 h2 n hn')).1 with h3 | h3
   ·omega
   ·exact absurd h3 (hdj i b x h1 h2 n (aR hn'))
 ·exact ⟨ho.trans h.fr.os, ht.trans h.fr.tape, hu.trans h.fr.output, Nat.le_trans h.fr.size hs, fun k hk hx => (hb k (Nat.lt_of_lt_of_le hk h.fr.size) fun hg => by
   rcases hG k hg with h3 | h3
   ·omega
   ·exact hx h3).trans (h.fr.block k hk hx)⟩
end
structure DoneG (V : View) (w : World) (b ty : Nat) (S : List Nat) (tyR sz : Nat) (ds' : List D) (rows' : List (List D)) (y : Value) (w' : World) : Prop where
 os : w'.os = w.os
 tape : w'.tape = w.tape
 output : w'.output = w.output
 size : w.heap.size ≤ w'.heap.size
 block : ∀ k, k < w.heap.size → k ∉ b :: S → w'.heap[k]? = w.heap[k]?
 out : ∃ V' S' l', V.le V' ∧ Mod V' w' ∧ V' b = none ∧ (∀ n cs, V' n = some cs → V n = none → (w.heap.size ≤ n ∨ n ∈ S) ∧ Unf w' n) ∧ RowR V' w' tyR sz rows' y S' ∧ S'.Nodup ∧ (∀ n ∈ S', (n ∈ S ∨ w.heap.size ≤ n) ∧ n < w'.heap.size) ∧ w'.heap[b]? = some (.cells (List.toArray l') ty (0, 0)) ∧ cL [] V' (ds'.map At.d) l'
structure FnG (P : Program) (f ty : Nat) (ds : List D) (tyR sz : Nat) (rows : List (List D)) (args : List SV) {α : Type} (Q : α → Prop) (rows' : α → List (List D)) (ds' : α → List D) : Prop where
 enters : ∀ aS w, (callFunc f aS).run P w = .ok (.enter f aS) w
 calls : ∀ V w b l y S vs, tabOK w (b :: S) → Mod V w → V b = none → b < w.heap.size → w.heap[b]? = some (.cells (List.toArray l) ty (0, 0)) → cL [] V (ds.map At.d) l → RowR V w tyR sz rows y S → (b :: S).Nodup → (∀ n ∈ S, n < w.heap.size) → kR V args vs →
  Calls P f (Value.pointer (some ⟨b, 0, none⟩) :: y :: vs).toArray w fun e w' => ∃ y' a, e = .returned y' ∧ Q a ∧ DoneG V w b ty S tyR sz (ds' a) (rows' a) y' w'
def stG (b ty : Nat) (ds : List D) (tyR sz : Nat) (rows : List (List D)) (args : List SV) (n : Nat) : St := ⟨.o (.p 0 0) :: .o (.s 1) :: (args ++ List.replicate (n - 2 - args.length) (.t [])), [.pin b ty ds, .row tyR sz rows true]⟩
def b4o (E : Env) (rs : List ResultVar) (b ty tyR sz : Nat) {α : Type} (Q : α → Prop) (rows' : α → List (List D)) (ds' : α → List D) : Ex → St → Prop
 | .exit _, _ => False
 | _, st => ∃ a j, Q a ∧ retVs E st rs = some [(false, [.s j])] ∧ bM st.h j = .row tyR sz (rows' a) true ∧ bM st.h 0 = .pin b ty (ds' a)
theorem pE {E : Env} {rs : List ResultVar} {b ty tyR sz : Nat} {α : Type} {Q : α → Prop} {rows' : α → List (List D)} {ds' : α → List D} {st : St} (a : α) (j : Nat) (hq : Q a) (h1 : retVs E st rs = some [(false, [.s j])]) (h2 : bM st.h j = .row tyR sz (rows' a) true) (h3 : bM st.h 0 = .pin b ty (ds' a)) : b4o E rs b ty tyR sz Q rows' ds' .ret st := ⟨a, j, hq, h1, h2, h3⟩
theorem FnG.of_wp {P : Program} {T : Nat → Ty} {eqk : Nat → List Nat} (hT : TyOK P T) {f : Nat} {fn : Func} {c : Code} {rs : List ResultVar} {ty : Nat} {ds : List D} {tyR sz : Nat} {rows : List (List D)} {args : List SV} {α : Type} {Q : α → Prop} {rows' : α → List (List D)} {ds' : α → List D}
    (hf : P.funcs[f]? = some fn) (hb : fn.body = some c) (hcall : ∀ aS w, (callFunc f aS).run P w = .ok (.enter f aS) w) (hres : fn.results = rs.toArray)
    (h : ∀ (C : Ctx) (b : Nat), WP P C c (bJ P C [] (b4o ⟨P, T, C, eqk⟩ rs b ty tyR sz Q rows' ds')) (stG b ty ds tyR sz rows args fn.ntmps)) : FnG P f ty ds tyR sz rows args Q rows' ds' := by
 refine ⟨hcall, fun V w b l y0 S vs htab hm hVb hlt hheap hcl hrow hnd hltS ha => ?_⟩
 let C : Ctx := ⟨w, b :: S, V, htab⟩
 refine calls_of_wp hf hb ?_
 let x : Gh := ⟨some b, undef, [], []⟩
 obtain ⟨x2, e1, _, e3, e4, e5, e6, e7⟩ := a4s hrow []
 have hbS : b ∉ S := (List.nodup_cons.1 hnd).1
 have hr : Rel C [x, x2] V (stG b ty ds tyR sz rows args fn.ntmps) { tmps := (Value.pointer (some ⟨b, 0, none⟩) :: y0 :: vs).toArray ++ Array.replicate (fn.ntmps - (Value.pointer (some ⟨b, 0, none⟩) :: y0 :: vs).toArray.size) undef, defers := [] } w := by
  refine ⟨⟨by simp [stG, ha.1]; omega, fun i s y h1 h2 => ?_, rfl⟩, ⟨rfl, ?_, ?_, ?_, ?_, ?_⟩, hm,
   ⟨rfl, rfl, rfl, Nat.le_refl _, fun _ _ _ => rfl⟩, ⟨View.le.refl V, (fun b cs h1 h2 => by have h2' : V b = none := h2; rw [h1] at h2'; cases h2'), (fun b cs h1 h2 => by have h2' : V b = none := h2; rw [h1] at h2'; cases h2')⟩⟩
  ·match i with
   | 0 =>
    simp [stG] at h1
    rw [Array.getElem?_append_left (by simp)] at h2
    simp at h2
    subst h1; subst h2
    exact ⟨x, b, rfl, rfl, rfl⟩
   | 1 =>
    simp [stG] at h1
    rw [Array.getElem?_append_left (by simp)] at h2
    simp at h2
    subst h1; subst h2
    exact ⟨x2, rfl, e1.symm, e6⟩
   | i + 2 =>
    simp only [stG, List.getElem?_cons_succ] at h1
    have h2' : (vs.toArray ++ Array.replicate (fn.ntmps - (vs.length + 1 + 1)) undef)[i]? = some y := by
     simp only [List.size_toArray, List.length_cons] at h2
     rw [← h2]
     rw [Array.getElem?_append, Array.getElem?_append]
     simp
    rw [List.getElem?_append] at h1
    rw [Array.getElem?_append] at h2'
    simp only [List.size_toArray, ha.1] at h2'
    split at h1
    ·rw [if_pos ‹_›] at h2'
     exact (ha.2 i s y h1 (by simpa using h2')).mono (fun j z hz => by simp at hz) (View.le.refl V)
    ·rw [if_neg ‹_›] at h2'
     rw [List.getElem?_replicate] at h1
     rw [Array.getElem?_replicate] at h2'
     split at h1
     ·split at h2'
      ·cases h1; cases h2'; exact gQ _ _
      ·cases h2'
     ·cases h1
  all_goals
   have key : ∀ (i : Nat) (c : HB) (z : Gh), (stG b ty ds tyR sz rows args fn.ntmps).h[i]? = some c → [x, x2][i]? = some z → (i = 0 ∧ c = .pin b ty ds ∧ z = x) ∨ (i = 1 ∧ c = .row tyR sz rows true ∧ z = x2) := fun i c z h1 h2 => by
    match i with
    | 0 => simp [stG] at h1 h2; exact .inl ⟨rfl, h1.symm, h2.symm⟩
    | 1 => simp [stG] at h1 h2; exact .inr ⟨rfl, h1.symm, h2.symm⟩
    | i + 2 => simp at h2
  ·intro i c z h1 h2
   rcases key i c z h1 h2 with ⟨rfl, rfl, rfl⟩ | ⟨rfl, rfl, rfl⟩
   ·exact ⟨rfl, l, hheap, hcl⟩
   ·exact e7 _
  ·intro i c z h1 h2
   rcases key i c z h1 h2 with ⟨rfl, rfl, rfl⟩ | ⟨rfl, rfl, rfl⟩
   ·simp [ownB, x]
   ·rw [e4]; exact (List.nodup_cons.1 hnd).2
  ·intro i j c c' z z' hij h1 h2 h3 h4 n hn hn'
   rcases key i c z h1 h2 with ⟨rfl, rfl, rfl⟩ | ⟨rfl, rfl, rfl⟩
   ·rcases key j c' z' h3 h4 with ⟨rfl, rfl, rfl⟩ | ⟨rfl, rfl, rfl⟩
    ·exact hij rfl
    ·rw [e4] at hn'
     simp [ownB, x] at hn
     subst hn
     exact hbS hn'
   ·rcases key j c' z' h3 h4 with ⟨rfl, rfl, rfl⟩ | ⟨rfl, rfl, rfl⟩
    ·rw [e4] at hn
     simp [ownB, x] at hn'
     subst hn'
     exact hbS hn
    ·exact hij rfl
  ·intro i c z h1 h2 n hn
   rcases key i c z h1 h2 with ⟨rfl, rfl, rfl⟩ | ⟨rfl, rfl, rfl⟩
   ·simp [ownB, x] at hn
    subst hn
    exact ⟨.inr (by simp [C]), hlt⟩
   ·rw [e4] at hn
    exact ⟨.inr (by simp [C, hn]), hltS n hn⟩
  ·intro i c z h1 h2 n hn
   rcases key i c z h1 h2 with ⟨rfl, rfl, rfl⟩ | ⟨rfl, rfl, rfl⟩
   ·simp [aT, x] at hn
    subst hn
    exact hVb
   ·exact e5 n hn
 refine wp_mono (h C b [x, x2] V _ w hr) fun e a' w' q => ?_
 have fin : ∀ (g : List Gh) (V' : View) (st : St), Rel C g V' st a' w' → (∃ a j, Q a ∧ retVs ⟨P, T, C, eqk⟩ st rs = some [(false, [.s j])] ∧ bM st.h j = .row tyR sz (rows' a) true ∧ bM st.h 0 = .pin b ty (ds' a)) →
     ∃ y, (results fn a'.tmps).run P w' = .ok y w' ∧ ∃ y' a, Ending.returned y = .returned y' ∧ Q a ∧ DoneG V w b ty S tyR sz (ds' a) (rows' a) y' w' := by
  rintro g V' st hr' ⟨a, j, hq, h1, h2, h3⟩
  obtain ⟨vs', ls, f1, f2, f3, f4, f5⟩ := oF (E := ⟨P, T, C, eqk⟩) hT hr' h1
  have f1' : (rs.mapM (rvM a')).run P w' = .ok vs' w' := by
   rw [← f1]
   congr 2
  match vs', ls, f2, f3 with
  | [v], [m], _, _ =>
   have hv := f4 0 false [.s j] m v rfl rfl rfl
   simp only [Bool.false_eq_true, if_false] at hv
   obtain ⟨hv1, hv2⟩ := hv
   subst hv1
   have hp := f5.2 0 (.s j) v rfl rfl
   obtain ⟨z, hz, rfl, _⟩ := hp
   have hi := aG h2 (by simp)
   have hi0 := aG h3 (by simp)
   have hok := hr'.hp.hb j _ z hi hz
   have hrow' := a0L hok (hr'.hp.rt j _ z hi hz)
   obtain ⟨z0, hz0⟩ : ∃ z0, g[0]? = some z0 := by
    have h0 : 0 < g.length := by rw [hr'.hp.glen]; exact (List.getElem?_eq_some_iff.1 hi0).1
    exact ⟨g[0], List.getElem?_eq_getElem h0⟩
   obtain ⟨hb0, l', q1, q2⟩ := hr'.hp.hb 0 _ z0 hi0 hz0
   have hV'b := hr'.hp.rt 0 _ z0 hi0 hz0 b (by simp [aT, hb0])
   have hj0 : j ≠ 0 := fun e => by
    subst e
    rw [hi] at hi0
    cases hi0
   have hnb : ∀ n ∈ ownB z (.row tyR sz (rows' a) true), n ≠ b := fun n hn e => by
    subst e
    exact hr'.hp.dj j 0 _ _ z z0 hj0 hi hz hi0 hz0 n hn (by simp [ownB, hb0])
   refine ⟨_, lS hres f1', _, a, rfl, hq, hr'.fr.os, hr'.fr.tape, hr'.fr.output, hr'.fr.size, fun k hk hx => hr'.fr.block k hk hx, V', _, l', hr'.vw.le, hr'.mod, hV'b, fun n cs p1 p2 => ⟨?_, hr'.vw.unf n cs p1 p2⟩, hrow', hr'.hp.nd j _ z hi hz, fun n hn => ⟨?_, (hr'.hp.lo j _ z hi hz n hn).2⟩, q1, q2⟩
   ·rcases hr'.vw.fresh n cs p1 p2 with h4 | h4
    ·exact .inl h4
    ·rcases List.mem_cons.1 h4 with h4 | h4
     ·rw [h4, hV'b] at p1; cases p1
     ·exact .inr h4
   ·rcases (hr'.hp.lo j _ z hi hz n hn).1 with h4 | h4
    ·exact .inr h4
    ·rcases List.mem_cons.1 h4 with h4 | h4
     ·exact absurd h4 (hnb n hn)
     ·exact .inl h4
 cases e with
 | normal =>
  obtain ⟨g, V', st', hr', hret⟩ := q
  obtain ⟨y, hy, hd⟩ := fin g V' st' hr' hret
  exact ⟨hr'.sl.defers, y, hy, hd⟩
 | ret =>
  obtain ⟨g, V', st', hr', hret⟩ := q
  obtain ⟨y, hy, hd⟩ := fin g V' st' hr' hret
  exact ⟨hr'.sl.defers, y, hy, hd⟩
 | exit id => obtain ⟨g, V', st', hr', q⟩ := q; exact q.elim
 | goto l => exact q.elim
 | panic ch => exact q.elim
 | outgrown => exact q.elim
theorem CallS.giveB {E : Env} {f ty id id2 : Nat} {ds : List D} {tyR sz : Nat} {rows : List (List D)} {args' rest : List SV} {α : Type} {Q : α → Prop} {rows' : α → List (List D)} {ds' : α → List D} {st : St} {K : St → SV → Prop} (h : FnG E.P f ty ds tyR sz rows args' Q rows' ds')
    (hid : a3B ty ds (bM st.h id)) (hid2 : bM st.h id2 = .row tyR sz rows true) (hflat : iR rows = true) (he : rest.map (dW st.h) = args') (hfree : args'.all bZ = true)
    (k : ∀ a, Q a → K ⟨st.t, setH (dP st.h [id2]) id (reD (ds' a) (bM st.h id)) ++ adH [.w tyR sz (rows' a)]⟩ (adS (setH (dP st.h [id2]) id (reD (ds' a) (bM st.h id))).length (.o (.w tyR sz (rows' a))))) :
    CallS E f (.o (.p id 0) :: .o (.s id2) :: rest) st K := by
 refine ⟨h.enters, fun g V a w vs hr hlen hargs => ?_⟩
 have hi : st.h[id]? = some (bM st.h id) := aG rfl (fun e => by rw [e] at hid; exact hid)
 have hi2 := aG hid2 (by simp)
 have hne : id2 ≠ id := fun e => by
  subst e
  rw [hid2] at hid
  exact hid
 match vs, hlen, hargs with
 | y :: y2 :: vs, hlen, hargs =>
  obtain ⟨x, b0, hx, hxb, rfl⟩ := hargs 0 _ y rfl rfl
  obtain ⟨x2, hx2, rfl, _⟩ := hargs 1 _ y2 rfl rfl
  have hok := hr.hp.hb id _ x hi hx
  obtain ⟨b, l, q1, q2, q3, q4, q5, q6⟩ := a7A hok hid
  have e0 : b0 = b := by rw [hxb] at q1; exact Option.some.inj q1
  subst e0
  have hVb : V b0 = none := hr.hp.rt id _ x hi hx b0 (by rw [q3]; simp)
  have hlo := hr.hp.lo id _ x hi hx b0 (by rw [q2]; simp)
  have hok2 := hr.hp.hb id2 _ x2 hi2 hx2
  have hrow := a0L hok2 (hr.hp.rt id2 _ x2 hi2 hx2)
  have hSV : ∀ n ∈ ownB x2 (.row tyR sz rows true), V n = none := fun n hn => by
   obtain ⟨_, ys, Ss, hL, hlin, _⟩ := hok2
   have h0 := hL.flat0 (b0S hflat)
   simp only [ownB, if_true, hlin rfl, h0, List.append_nil] at hn
   exact hr.hp.rt id2 _ x2 hi2 hx2 n (by simpa [aT] using hn)
  have hdjS : b0 ∉ ownB x2 (.row tyR sz rows true) := fun hm => hr.hp.dj id id2 _ _ x x2 (fun e => hne e.symm) hi hx hi2 hx2 b0 (by rw [q2]; simp) hm
  have hloS := fun n hn => hr.hp.lo id2 _ x2 hi2 hx2 n hn
  have hndS := hr.hp.nd id2 _ x2 hi2 hx2
  have hdjE : ∀ (i : Nat) (c : HB) (z : Gh), i ≠ id2 → st.h[i]? = some c → g[i]? = some z → ∀ n ∈ ownB z c, n ∉ ownB x2 (.row tyR sz rows true) := fun i c z hne' p1 p2 n hn hm => hr.hp.dj i id2 c _ z x2 hne' p1 p2 hi2 hx2 n hn hm
  generalize ownB x2 (.row tyR sz rows true) = S at *
  have hc : kR V args' vs := by
   subst he
   refine ⟨by simpa using hlen, fun i s y h1 h2 => ?_⟩
   have hs := List.all_eq_true.1 hfree s (List.mem_of_getElem? h1)
   rw [List.getElem?_map] at h1
   cases hk : rest[i]? with
   | none => rw [hk] at h1; cases h1
   | some s0 =>
    rw [hk] at h1
    cases h1
    exact jI (kG hr (hargs (i + 2) s0 y (by simpa using hk) (by simpa using h2))) hs
  have htab : tabOK w (b0 :: S) := hr.fr.tab fun n hn => by
   rcases List.mem_cons.1 hn with rfl | hn
   ·exact hlo.1
   ·exact (hloS n hn).1
  refine (h.calls V w b0 l x2.val S vs htab hr.mod hVb hlo.2 q4 q5 hrow (List.nodup_cons.2 ⟨hdjS, hndS⟩) (fun n hn => (hloS n hn).2) hc).mono ?_
  rintro e w' ⟨y', a0, rfl, hQ, ho, ht, hu, hs, hblk, V', S', l', hv, hm, hV'b, hnew, hrow', hnd', hS', hheap, hcl'⟩
  have hr1 := hr.gone [id2]
  have hg2 : dP st.h [id2] = st.h.set id2 .gone := by simp [dP, bQ]
  have hi' : (dP st.h [id2])[id]? = some (bM st.h id) := by
   rw [hg2, List.getElem?_set, if_neg hne]; exact hi
  have entry : ∀ (i : Nat) (c : HB) (z : Gh), (dP st.h [id2])[i]? = some c → g[i]? = some z → (i ≠ id2 ∧ st.h[i]? = some c) ∨ c = .gone := fun i c z p1 p2 => by
   rw [hg2, List.getElem?_set] at p1
   by_cases e : id2 = i
   ·subst e
    rw [if_pos rfl] at p1
    split at p1
    ·cases p1; exact .inr rfl
    ·cases p1
   ·rw [if_neg e] at p1
    exact .inl ⟨fun h => e h.symm, p1⟩
  have hsz1 : (w'.setRow b0 l.toArray).heap.size = w'.heap.size := by simp [World.setRow]
  have hm1 : Mod V' (w'.setRow b0 l.toArray) := fun n cs hn => by
   obtain ⟨c, ty', fz, e1, e2⟩ := hm n cs hn
   have hne' : n ≠ b0 := fun e => by rw [e, hV'b] at hn; cases hn
   exact ⟨c, ty', fz, by rw [setRow_other w' b0 n _ hne']; exact e1, e2⟩
  have hr2 : Rel E.C g V' ⟨st.t, dP st.h [id2]⟩ a (w'.setRow b0 l.toArray) := hr1.laterG S (fun n hn => (hloS n hn).1) hSV (fun i c z p1 p2 n hn => by
      rcases entry i c z p1 p2 with ⟨p3, p4⟩ | rfl
      ·exact hdjE i c z p3 p4 p2 n hn
      ·simp [ownB] at hn) hv hm1 ho ht hu (by rw [hsz1]; exact hs) (fun n hn hnS => by
      by_cases e : n = b0
      ·subst e
       rw [setRow_heap w' n l'.toArray l.toArray ty (0, 0) hheap, q4]
      ·rw [setRow_other w' b0 n _ e]
       exact hblk n hn (fun hc => by
        rcases List.mem_cons.1 hc with hc | hc
        ·exact e hc
        ·exact hnS hc)) (fun n cs h1 h2 => by
      have h3 := hnew n cs h1 h2
      have hne' : n ≠ b0 := fun e => by rw [e, hV'b] at h1; cases h1
      obtain ⟨c, ty', e⟩ := h3.2
      exact ⟨h3.1, c, ty', by rw [setRow_other w' b0 n _ hne']; exact e⟩)
  obtain ⟨u1, u2, u3⟩ := q6 V' w' (ds' a0) l' hheap hcl'
  have hr3 := hr2.turnRow id (b' := reD (ds' a0) (bM st.h id)) (x' := x) hi' hx (w' := w') rfl rfl rfl u1 (by rw [u2]; simp) (fun n hn => .inl (by rw [u2] at hn; rw [q2]; exact hn))
   (fun n hn => by rw [u3] at hn; simp only [List.mem_singleton] at hn; subst hn; exact hV'b)
   ⟨rfl, rfl, rfl, by rw [hsz1]; exact Nat.le_refl _, fun n hn hne' => (setRow_other w' b0 n _ (fun e => hne' (by rw [hxb, e]))).symm⟩ (fun n hn => by rw [q3]; rw [hxb] at hn; cases hn; simp)
  rw [← bQ] at hr3
  have hgx : g.set id x = g := by
   apply List.ext_getElem?
   intro i
   rw [List.getElem?_set]
   split
   ·rename_i e
    subst e
    split
    ·exact hx.symm
    ·rename_i hn
     rw [List.getElem?_eq_none (by omega)]
   ·rfl
  rw [hgx] at hr3
  have own : ∀ (i : Nat) (c : HB) (z : Gh), (setH (dP st.h [id2]) id (reD (ds' a0) (bM st.h id)))[i]? = some c → g[i]? = some z → ∀ n ∈ ownB z c, n < w.heap.size ∧ n ∉ S := by
   intro i c z p1 p2 n hn
   rw [bQ, List.getElem?_set] at p1
   by_cases e : id = i
   ·subst e
    rw [if_pos rfl] at p1
    split at p1
    ·cases p1
     rw [hx] at p2
     cases p2
     rw [u2] at hn
     simp only [List.mem_singleton] at hn
     subst hn
     exact ⟨hlo.2, hdjS⟩
    ·cases p1
   ·rw [if_neg e] at p1
    rcases entry i c z p1 p2 with ⟨p3, p4⟩ | rfl
    ·exact ⟨(hr.hp.lo i c z p4 p2 n hn).2, hdjE i c z p3 p4 p2 n hn⟩
    ·simp [ownB] at hn
  obtain ⟨g', h1, h2, h3⟩ := rQ (cs := [.w tyR sz (rows' a0)]) (l := [y']) (Ss := [S']) hr3 rfl rfl (fun k a y s p1 p2 p3 => by
      match k, p1, p2, p3 with
      | 0, rfl, rfl, rfl => exact hrow') (by simpa using hnd') (fun n hn => by
      simp only [List.flatten_cons, List.flatten_nil, List.append_nil] at hn
      obtain ⟨p1, p2⟩ := hS' n hn
      refine ⟨?_, p2, fun i c z p3 p4 hm' => ?_⟩
      ·rcases p1 with p1 | p1
       ·exact (hloS n p1).1
       ·exact .inl (Nat.le_trans hr.fr.size p1)
      ·obtain ⟨o1, o2⟩ := own i c z p3 p4 n hm'
       rcases p1 with p1 | p1
       ·exact o2 p1
       ·omega)
  refine ⟨y', g', V', _, _, rfl, h1, ?_, k a0 hQ⟩
  have hlen1 : (adA (setH (dP st.h [id2]) id (reD (ds' a0) (bM st.h id))).length [.w tyR sz (rows' a0)]).length = 1 := kV _ _
  simp only [adS]
  match he' : adA (setH (dP st.h [id2]) id (reD (ds' a0) (bM st.h id))).length [.w tyR sz (rows' a0)], hlen1 with
  | [z], _ =>
   rw [he'] at h3
   exact h3.2 0 z y' rfl rfl
theorem FnG.nil {P : Program} {f ty : Nat} {ds : List D} {tyR sz : Nat} {args : List SV} {α : Type} {Q : α → Prop} {rows' : α → List (List D)} {ds' : α → List D} (h : FnG P f ty ds tyR sz [] args Q rows' ds') : FnB P f ty ds (.o .z :: args) Q (fun a => .o (.w tyR sz (rows' a))) ds' := by
 refine ⟨h.enters, fun V w b l vs htab hm hVb hlt hheap hcl ha => ?_⟩
 obtain ⟨hl, hv⟩ := ha
 match vs, hl with
 | y :: vs, hl =>
  have hy : y = .slice none 0 0 := hv 0 (.o .z) y rfl rfl
  subst hy
  refine (h.calls V w b l _ [] vs htab hm hVb hlt hheap hcl ⟨by simp, [], [], LayL.nil V, .inl ⟨⟨none, rfl⟩, rfl, rfl⟩⟩ (by simp) (by simp) ⟨by simpa using hl, fun i s y h1 h2 => hv (i + 1) s y (by simpa using h1) (by simpa using h2)⟩).mono ?_
  rintro e w' ⟨y', a, rfl, hq, ho, ht, hu, hs, hblk, V', S', l', p1, p2, p3, p4, p5, p6, p7, p8, p9⟩
  refine ⟨y', a, rfl, hq, ⟨ho, ht, hu, hs, fun n hn hne => hblk n hn (by simpa using fun e => hne (by rw [e]))⟩, V', S', l', p1, p2, fun n cs q1 q2 => ⟨by simpa using (p4 n cs q1 q2).1, (p4 n cs q1 q2).2⟩, ⟨[y'], rfl, [S'], rfl, rfl, by simp, fun k a y s q1 q2 q3 => ?_⟩, p6, fun n hn => ⟨by simpa using (p7 n hn).1, (p7 n hn).2⟩, p8, p9⟩
  match k, q1, q2, q3 with
  | 0, rfl, rfl, rfl => exact p5
end Go.Sx
end
section
set_option maxRecDepth 100000
set_option maxHeartbeats 4000000
namespace Go.Sx
open Go Go.RowKit
theorem CallS.nilArg {E : Env} {f : Nat} {a0 : SV} {rest : List SV} {st : St} {K : St → SV → Prop} (ty sz : Nat) (h : CallS E f (a0 :: .o (.s st.h.length) :: rest) (st.push (.row ty sz [] true)) K) : CallS E f (a0 :: .o .z :: rest) st K :=
 ⟨h.1, fun g V a w vs hr hl ha => h.2 _ V a w vs (hr.nilRow ty sz) (by simpa using hl) fun i s y e1 e2 => by
  match i with
  | 0 => exact (ha 0 s y e1 e2).mono (GLe.push _ _) (View.le.refl V)
  | 1 =>
   simp only [List.getElem?_cons_succ, List.getElem?_cons_zero, Option.some.injEq] at e1
   subst e1
   have hz : y = .slice none 0 0 := ha 1 (.o .z) y rfl e2
   subst hz
   exact ⟨⟨none, .slice none 0 0, [], []⟩, by rw [← hr.hp.glen, List.getElem?_append_right (Nat.le_refl _)]; simp, rfl, rfl⟩
  | i + 2 => exact (ha (i + 2) s y (by simpa using e1) e2).mono (GLe.push _ _) (View.le.refl V)⟩
end Go.Sx
namespace Go.Proofs.YtolgdibgnndoaaaGreat
open Go Go.Sx Go.RowKit Go.Proofs
theorem b5x {f ty : Nat} {fn : Func} {c : Code} {rs : List ResultVar} {ds : List D} {tyR sz : Nat} {rows : List (List D)} {args : List SV} {α : Type} {Q : α → Prop} {rows' : α → List (List D)} {ds' : α → List D} (hf : Tryz.prog.funcs[f]? = some fn) (hb : fn.body = some c) (hcall : ∀ x w, (callFunc f x).run Tryz.prog w = .ok (.enter f x) w) (hres : fn.results = rs.toArray)
    (h : ∀ (C : Ctx) (b : Nat), WP Tryz.prog C c (bJ Tryz.prog C [] (b4o (EV C) rs b ty tyR sz Q rows' ds')) (stG b ty ds tyR sz rows args fn.ntmps)) : FnG Tryz.prog f ty ds tyR sz rows args Q rows' ds' := FnG.of_wp (eqk := eqk) a0k hf hb hcall hres h
theorem a2G {C : Ctx} {f ty id id2 : Nat} {ds : List D} {tyR sz : Nat} {rows : List (List D)} {args' rest : List SV} {α : Type} {Q : α → Prop} {rows' : α → List (List D)} {ds' : α → List D} {st : St} {K : St → SV → Prop} (h : FnG Tryz.prog f ty ds tyR sz rows args' Q rows' ds')
    (hid : a3B ty ds (bM st.h id)) (hid2 : bM st.h id2 = .row tyR sz rows true) (hflat : iR rows = true) (he : rest.map (dW st.h) = args') (hfree : args'.all bZ = true)
    (k : ∀ a, Q a → K ⟨st.t, setH (dP st.h [id2]) id (reD (ds' a) (bM st.h id)) ++ adH [.w tyR sz (rows' a)]⟩ (adS (setH (dP st.h [id2]) id (reD (ds' a) (bM st.h id))).length (.o (.w tyR sz (rows' a))))) : CallT (EV C) f (.o (.p id 0) :: .o (.s id2) :: rest) st K ⟨⟩ := ⟨CallS.giveB (E := EV C) h hid hid2 hflat he hfree k⟩
theorem b4l {C : Ctx} {f : Nat} {a0 : SV} {rest : List SV} {st : St} {K : St → SV → Prop} (ty sz : Nat) (h : CallT (EV C) f (a0 :: .o (.s st.h.length) :: rest) ⟨st.t, st.h ++ [.row ty sz [] true]⟩ K ⟨⟩) : CallT (EV C) f (a0 :: .o .z :: rest) st K ⟨⟩ := ⟨CallS.nilArg (E := EV C) ty sz h.out⟩
structure nodeD (n : TNode) : Prop where
 nm : n.fName.size ≤ 7
 vs : n.fValue.fStr.size ≤ 7
 wf : b0u n
@[go_sem] def nmF : List ByteArray := [⟨#[97]⟩, ⟨#[98]⟩, ⟨#[110]⟩, ⟨#[116]⟩]
@[go_sem] def wdF : List ByteArray := [⟨#[114, 101, 100]⟩, ⟨#[98, 108, 117, 101]⟩]
@[go_sem] def nmL : List ByteArray := [⟨#[97]⟩, ⟨#[98]⟩]
theorem fQ {op a b k x : Int} {nm s : ByteArray} (h1 : inR .i64 op) (h2 : inR .i64 a) (h3 : inR .i64 b) (h4 : nm.size ≤ 7) (h5 : inR .i64 k) (h6 : inR .i64 x) (h7 : s.size ≤ 7) : nodeD ⟨op, a, b, nm, ⟨k, x, s⟩⟩ :=
 ⟨h4, h7, h1, h2, h3, (show nm.size ≤ _ by omega), h5, h6, (show s.size ≤ _ by omega)⟩
theorem inS {x : Int} (h : -10 ≤ x ∧ x ≤ 1000) : inR .i64 x := by simp only [inR]; omega
theorem jW {l : List Int} (hl : fA l) : Drw l 230 [] (fun n : TNode => nodeD n) (fun n => a2w n) := by
 intro i h hi hh; refine kN Tryz.func230 rfl Tryz.call230 rfl (fun C b => ?_); simp only [go_sem, Tryz.ntmps230]
 refine aB ?_
 first | (refine aJ (aC hl 9 (by decide) (by decide) i h hi hh) ⟨rfl, rfl⟩ ?_ rfl ?_; (focus first | rfl | (simp only [go_sem]; done))) | (refine hZ (aC hl 9 (by decide) (by decide) i h hi hh) ⟨rfl, rfl⟩ ?_ rfl ?_; (focus first | rfl | (simp only [go_sem]; done)))
 clear hi hh; rintro ⟨k, i, h⟩ ⟨hk, hi, hh⟩; simp only at hk hi hh; simp only [go_sem]
 have z0 : (⟨#[]⟩ : ByteArray).size ≤ 7 := Nat.zero_le _
 have h9 : k = 0 ∨ k = 1 ∨ k = 2 ∨ k = 3 ∨ k = 4 ∨ k = 5 ∨ k = 6 ∨ k = 7 ∨ k = 8 := by omega
 rcases h9 with rfl | rfl | rfl | rfl | rfl | rfl | rfl | rfl | rfl
 ·refine aB ?_
  exact aF (⟨1, 0, 0, ⟨#[]⟩, ⟨0, 0, ⟨#[]⟩⟩⟩, i, h) ⟨⟨_, rfl, by simp only [go_sem]⟩, trivial⟩ ⟨fQ (inS (by decide)) in0 in0 z0 in0 in0 z0, ⟨hi, hh⟩⟩ (by simp only [go_sem])
 ·refine aB ?_
  first | (refine aJ (bK hl nmF (by decide) (by decide) i h hi hh) ⟨rfl, rfl⟩ ?_ rfl ?_; (focus first | rfl | (simp only [go_sem]; done))) | (refine hZ (bK hl nmF (by decide) (by decide) i h hi hh) ⟨rfl, rfl⟩ ?_ rfl ?_; (focus first | rfl | (simp only [go_sem]; done)))
  clear hi hh; rintro ⟨s, i, h⟩ ⟨hs, hi, hh⟩; simp only at hs hi hh; simp only [go_sem]
  have hw := (by decide +kernel : ∀ s ∈ nmF, s.size ≤ 7) s hs
  refine aB ?_
  exact aF (⟨2, 0, 0, s, ⟨0, 0, ⟨#[]⟩⟩⟩, i, h) ⟨⟨_, rfl, by simp only [go_sem]⟩, trivial⟩ ⟨fQ (inS (by decide)) in0 in0 hw in0 in0 z0, ⟨hi, hh⟩⟩ (by simp only [go_sem])
 ·refine aB ?_
  first | (refine aJ (aC hl 4 (by decide) (by decide) i h hi hh) ⟨rfl, rfl⟩ ?_ rfl ?_; (focus first | rfl | (simp only [go_sem]; done))) | (refine hZ (aC hl 4 (by decide) (by decide) i h hi hh) ⟨rfl, rfl⟩ ?_ rfl ?_; (focus first | rfl | (simp only [go_sem]; done)))
  clear hi hh; rintro ⟨x, i, h⟩ ⟨hx, hi, hh⟩; simp only at hx hi hh; simp only [go_sem]
  refine iV (mF x) ?_
  exact aF (⟨3, 0, 0, ⟨#[97]⟩, ⟨1, x, ⟨#[]⟩⟩⟩, i, h) ⟨⟨_, rfl, by simp only [go_sem]⟩, trivial⟩ ⟨fQ (inS (by decide)) in0 in0 (by decide) in1 (inS (by omega)) z0, ⟨hi, hh⟩⟩ (by simp only [go_sem])
 ·refine aB ?_
  first | (refine aJ (bK hl wdF (by decide) (by decide) i h hi hh) ⟨rfl, rfl⟩ ?_ rfl ?_; (focus first | rfl | (simp only [go_sem]; done))) | (refine hZ (bK hl wdF (by decide) (by decide) i h hi hh) ⟨rfl, rfl⟩ ?_ rfl ?_; (focus first | rfl | (simp only [go_sem]; done)))
  clear hi hh; rintro ⟨s, i, h⟩ ⟨hs, hi, hh⟩; simp only at hs hi hh; simp only [go_sem]
  have hw := (by decide +kernel : ∀ s ∈ wdF, s.size ≤ 7) s hs
  refine iV (oQ s) ?_
  exact aF (⟨3, 0, 0, ⟨#[116]⟩, ⟨2, 0, s⟩⟩, i, h) ⟨⟨_, rfl, by simp only [go_sem]⟩, trivial⟩ ⟨fQ (inS (by decide)) in0 in0 (by decide) in2 in0 hw, ⟨hi, hh⟩⟩ (by simp only [go_sem])
 ·refine aB ?_
  first | (refine aJ (bK hl nmL (by decide) (by decide) i h hi hh) ⟨rfl, rfl⟩ ?_ rfl ?_; (focus first | rfl | (simp only [go_sem]; done))) | (refine hZ (bK hl nmL (by decide) (by decide) i h hi hh) ⟨rfl, rfl⟩ ?_ rfl ?_; (focus first | rfl | (simp only [go_sem]; done)))
  clear hi hh; rintro ⟨s, i, h⟩ ⟨hs, hi, hh⟩; simp only at hs hi hh; simp only [go_sem]
  have hw := (by decide +kernel : ∀ s ∈ nmL, s.size ≤ 7) s hs
  refine aB ?_
  first | (refine aJ (aC hl 3 (by decide) (by decide) i h hi hh) ⟨rfl, rfl⟩ ?_ rfl ?_; (focus first | rfl | (simp only [go_sem]; done))) | (refine hZ (aC hl 3 (by decide) (by decide) i h hi hh) ⟨rfl, rfl⟩ ?_ rfl ?_; (focus first | rfl | (simp only [go_sem]; done)))
  clear hi hh; rintro ⟨x, i, h⟩ ⟨hx, hi, hh⟩; simp only at hx hi hh; simp only [go_sem]
  refine iV (mF ((1 : Int) + x)) ?_
  exact aF (⟨4, 0, 0, s, ⟨1, 1 + x, ⟨#[]⟩⟩⟩, i, h) ⟨⟨_, rfl, by simp only [go_sem]⟩, trivial⟩ ⟨fQ (inS (by decide)) in0 in0 hw in1 (inS (by omega)) z0, ⟨hi, hh⟩⟩ (by simp only [go_sem])
 ·refine aB ?_
  first | (refine aJ (gV hl i h hi hh) ⟨rfl, rfl⟩ ?_ rfl ?_; (focus first | rfl | (simp only [go_sem]; done))) | (refine hZ (gV hl i h hi hh) ⟨rfl, rfl⟩ ?_ rfl ?_; (focus first | rfl | (simp only [go_sem]; done)))
  clear hi hh; rintro ⟨s, i, h⟩ ⟨hs, hi, hh⟩; simp only at hs hi hh; simp only [go_sem]
  have hw : s.size ≤ 7 := by unfold w1 at hs; omega
  refine aB ?_
  exact aF (⟨8, 0, 0, s, ⟨0, 0, ⟨#[]⟩⟩⟩, i, h) ⟨⟨_, rfl, by simp only [go_sem]⟩, trivial⟩ ⟨fQ (inS (by decide)) in0 in0 hw in0 in0 z0, ⟨hi, hh⟩⟩ (by simp only [go_sem])
 ·refine aB ?_
  first | (refine aJ (gV hl i h hi hh) ⟨rfl, rfl⟩ ?_ rfl ?_; (focus first | rfl | (simp only [go_sem]; done))) | (refine hZ (gV hl i h hi hh) ⟨rfl, rfl⟩ ?_ rfl ?_; (focus first | rfl | (simp only [go_sem]; done)))
  clear hi hh; rintro ⟨s, i, h⟩ ⟨hs, hi, hh⟩; simp only at hs hi hh; simp only [go_sem]
  have hw : s.size ≤ 7 := by unfold w1 at hs; omega
  refine aB ?_
  exact aF (⟨8, 0, 0, s, ⟨0, 0, ⟨#[]⟩⟩⟩, i, h) ⟨⟨_, rfl, by simp only [go_sem]⟩, trivial⟩ ⟨fQ (inS (by decide)) in0 in0 hw in0 in0 z0, ⟨hi, hh⟩⟩ (by simp only [go_sem])
 ·refine aB ?_
  first | (refine aJ (gV hl i h hi hh) ⟨rfl, rfl⟩ ?_ rfl ?_; (focus first | rfl | (simp only [go_sem]; done))) | (refine hZ (gV hl i h hi hh) ⟨rfl, rfl⟩ ?_ rfl ?_; (focus first | rfl | (simp only [go_sem]; done)))
  clear hi hh; rintro ⟨s, i, h⟩ ⟨hs, hi, hh⟩; simp only at hs hi hh; simp only [go_sem]
  have hw : s.size ≤ 7 := by unfold w1 at hs; omega
  refine aB ?_
  exact aF (⟨9, 0, 0, s, ⟨0, 0, ⟨#[]⟩⟩⟩, i, h) ⟨⟨_, rfl, by simp only [go_sem]⟩, trivial⟩ ⟨fQ (inS (by decide)) in0 in0 hw in0 in0 z0, ⟨hi, hh⟩⟩ (by simp only [go_sem])
 ·refine aB ?_
  first | (refine aJ (aC hl 4 (by decide) (by decide) i h hi hh) ⟨rfl, rfl⟩ ?_ rfl ?_; (focus first | rfl | (simp only [go_sem]; done))) | (refine hZ (aC hl 4 (by decide) (by decide) i h hi hh) ⟨rfl, rfl⟩ ?_ rfl ?_; (focus first | rfl | (simp only [go_sem]; done)))
  clear hi hh; rintro ⟨x, i, h⟩ ⟨hx, hi, hh⟩; simp only at hx hi hh; simp only [go_sem]
  refine iV (mF x) ?_
  exact aF (⟨3, 0, 0, ⟨#[98]⟩, ⟨1, x, ⟨#[]⟩⟩⟩, i, h) ⟨⟨_, rfl, by simp only [go_sem]⟩, trivial⟩ ⟨fQ (inS (by decide)) in0 in0 (by decide) in1 (inS (by omega)) z0, ⟨hi, hh⟩⟩ (by simp only [go_sem])
structure qryD (p m : Nat) (q : List TNode) : Prop where
 lo : p < q.length
 hi : q.length ≤ m
 nd : ∀ n ∈ q, nodeD n
theorem mM {p m : Nat} {q : List TNode} {n : TNode} (h : ∀ x ∈ q, nodeD x) (hn : nodeD n) (h1 : p ≤ q.length) (h2 : q.length + 1 ≤ m) : qryD p m (q ++ [n]) := ⟨by simp; omega, by simp; omega, fun x hx => by
 rcases List.mem_append.1 hx with hx | hx
 ·exact h x hx
 ·simp only [List.mem_singleton] at hx; subst hx; exact hn⟩
theorem a5o (q : List TNode) : iR (q.map bC) = true := by
 unfold iR
 simp [bC, isV]
theorem b4m {q : List TNode} {m : Nat} (hl : q.length ≤ m) (h : ∀ n ∈ q, nodeD n) : gM q ≤ m * 15 := by
 have : ∀ (q : List TNode), (∀ n ∈ q, nodeD n) → dD a2x q ≤ q.length * 14 := fun q => by
  induction q with
  | nil => intro _; simp [dD]
  | cons x q ih =>
   intro h
   have h1 := (h x List.mem_cons_self).nm
   have h3 := (h x List.mem_cons_self).vs
   have h4 : a2x x = x.fName.size + x.fValue.fStr.size := rfl
   have h2 := ih fun n hn => h n (List.mem_cons_of_mem _ hn)
   simp only [dD, List.length_cons, Nat.add_mul]
   omega
 have h2 := this q h
 unfold gM
 omega
theorem sQ {l : List Int} (hl : fA l) (nt : Bool) (i : Nat) (h : Int) (q : List TNode) (hi : i ≤ l.length) (hh : inR .i64 h) (hq : q.length ≤ 100) (hn : ∀ n ∈ q, nodeD n) :
    FnG Tryz.prog 231 158 (a1d l i h) 98 7 (q.map bC) [oi 0, ob nt] (fun x : List TNode × Nat × Int => qryD q.length (q.length + 1) x.1 ∧ (x.2.1 ≤ l.length ∧ inR .i64 x.2.2)) (fun x => x.1.map bC) (fun x => a1d l x.2.1 x.2.2) := by
 have hl1 : q.length + 1 ≤ 140737488355328 := by omega
 have hl2 : (q.length + 1) * 72 ≤ 140737488355328 := by omega
 refine b5x Tryz.func231 rfl Tryz.call231 rfl (fun C b => ?_); simp only [go_sem, stG, Tryz.ntmps231]
 refine aB ?_
 first | (refine aJ (jW hl i h hi hh) ⟨rfl, rfl⟩ ?_ rfl ?_; (focus first | rfl | (simp only [go_sem]; done))) | (refine hZ (jW hl i h hi hh) ⟨rfl, rfl⟩ ?_ rfl ?_; (focus first | rfl | (simp only [go_sem]; done)))
 clear hi hh; rintro ⟨n, i, h⟩ ⟨hnn, hi, hh⟩; simp only at hnn hi hh; simp only [go_sem]
 have q0 := @hl1; have q1 := @hl2; refine gT ?_
 exact pE (q ++ [n], i, h) 1 ⟨mM hn hnn (Nat.le_refl _) (by omega), hi, hh⟩ (by simp only [go_sem]) (by simp only [go_sem, List.map_append]; try simp [bC]) (by simp only [go_sem])
theorem a6J {l : List Int} (hl : fA l) (nt : Bool) : ∀ (d : Nat) (i : Nat) (h : Int) (q : List TNode), i ≤ l.length → inR .i64 h → q.length + 3 * d ≤ 100 → (∀ n ∈ q, nodeD n) →
    FnG Tryz.prog 231 158 (a1d l i h) 98 7 (q.map bC) [oi (d : Nat), ob nt] (fun x : List TNode × Nat × Int => qryD q.length (q.length + 1 + 2 * d) x.1 ∧ (x.2.1 ≤ l.length ∧ inR .i64 x.2.2)) (fun x => x.1.map bC) (fun x => a1d l x.2.1 x.2.2) := by
 intro d
 induction d with
 | zero => intro i h q hi hh hq hn; exact sQ hl nt i h q hi hh (by omega) hn
 | succ d ih =>
  intro i h q hi hh hq hn
  have hl1 : q.length + 1 ≤ 140737488355328 := by omega
  have hl2 : (q.length + 1) * 72 ≤ 140737488355328 := by omega
  have hd0 : ((d : Int) + 1 = 0) = False := by simp; omega
  have hd1 : (d : Int) + 1 - 1 = (d : Int) := by omega
  refine b5x Tryz.func231 rfl Tryz.call231 rfl (fun C b => ?_); simp only [go_sem, stG, Tryz.ntmps231, Int.natCast_add, Int.cast_ofNat_Int]
  have q0 := @hd0; refine dZ ?_
  first | (refine aJ (bU hl 3 (by decide) (by decide) i h hi hh) ⟨rfl, rfl⟩ ?_ rfl ?_; (focus first | rfl | (simp only [go_sem]; done))) | (refine hZ (bU hl 3 (by decide) (by decide) i h hi hh) ⟨rfl, rfl⟩ ?_ rfl ?_; (focus first | rfl | (simp only [go_sem]; done)))
  clear hi hh; rintro ⟨c1, i, h⟩ ⟨q1, hi, hh⟩; simp only at q1 hi hh; simp only [go_sem]
  cases c1
  case true =>
   refine aB ?_
   first | (refine aJ (jW hl i h hi hh) ⟨rfl, rfl⟩ ?_ rfl ?_; (focus first | rfl | (simp only [go_sem]; done))) | (refine hZ (jW hl i h hi hh) ⟨rfl, rfl⟩ ?_ rfl ?_; (focus first | rfl | (simp only [go_sem]; done)))
   clear hi hh; rintro ⟨n, i, h⟩ ⟨hnn, hi, hh⟩; simp only at hnn hi hh; simp only [go_sem]
   have q0 := @hl1; have q1 := @hl2; refine gT ?_
   exact pE (q ++ [n], i, h) 1 ⟨mM hn hnn (Nat.le_refl _) (by omega), hi, hh⟩ (by simp only [go_sem]) (by simp only [go_sem, List.map_append]; try simp [bC]) (by simp only [go_sem])
  refine aB ?_
  first | (refine aJ (aC hl 5 (by decide) (by decide) i h hi hh) ⟨rfl, rfl⟩ ?_ rfl ?_; (focus first | rfl | (simp only [go_sem]; done))) | (refine hZ (aC hl 5 (by decide) (by decide) i h hi hh) ⟨rfl, rfl⟩ ?_ rfl ?_; (focus first | rfl | (simp only [go_sem]; done)))
  clear hi hh; rintro ⟨k, i, h⟩ ⟨hk, hi, hh⟩; simp only at hk hi hh; simp only [go_sem]
  have two : ∀ (x : List TNode × Nat × Int), qryD q.length (q.length + 1 + 2 * d) x.1 → x.1.length ≤ 100 := fun x hx => by have := hx.hi; omega
  by_cases k0 : k = 0
  ·cases nt
   case true =>
    have q0 := @k0; have q1 := @hd1; have q2 := @decide_true; refine mD ?_
    refine a2G (ih i h q hi hh (by omega) hn) ⟨rfl, rfl⟩ rfl (a5o q) (by simp only [go_sem, hd1]) rfl ?_
    clear hi hh
    rintro ⟨p2, i, h⟩ ⟨hq2, hi, hh⟩
    simp only at hq2 hi hh
    have g1 := hq2.hi
    have g2 := hq2.lo
    have hm1 : p2.length + 1 ≤ 140737488355328 := by omega
    have hm2 : (p2.length + 1) * 72 ≤ 140737488355328 := by omega
    simp only [go_sem]
    have q0 := @hm1; have q1 := @hm2; refine gT ?_
    exact pE (p2 ++ [⟨5, (p2.length : Int) - 1, 0, ⟨#[]⟩, ⟨0, 0, ⟨#[]⟩⟩⟩], i, h) 2 ⟨mM hq2.nd (fQ (inS (by decide)) (inS (by omega)) in0 (Nat.zero_le _) in0 in0 (Nat.zero_le _)) (by omega) (by omega), hi, hh⟩ (by simp only [go_sem]) (by simp only [go_sem, List.map_append]; try simp [bC]) (by simp only [go_sem])
   have q0 := @k0; have q1 := @hd1; have q2 := @decide_true; refine mD ?_
   refine a2G (ih i h q hi hh (by omega) hn) ⟨rfl, rfl⟩ rfl (a5o q) (by simp only [go_sem, hd1]) rfl ?_
   clear hi hh
   rintro ⟨p2, i, h⟩ ⟨hq2, hi, hh⟩
   simp only at hq2 hi hh
   have g1 := hq2.hi
   have g2 := hq2.lo
   simp only [go_sem]
   refine aB ?_
   refine a2G (sQ hl false i h p2 hi hh (by omega) hq2.nd) ⟨rfl, rfl⟩ rfl (a5o p2) (by simp only [go_sem]) rfl ?_
   clear hi hh
   rintro ⟨p3, i, h⟩ ⟨hq3, hi, hh⟩
   simp only at hq3 hi hh
   have g3 := hq3.hi
   have g4 := hq3.lo
   have hm1 : p3.length + 1 ≤ 140737488355328 := by omega
   have hm2 : (p3.length + 1) * 72 ≤ 140737488355328 := by omega
   simp only [go_sem]
   have k3 : k < 3 := by omega
   have q0 := @k3; have q1 := @decide_true; have q2 := @hm1; have q3 := @hm2; refine mE ?_
   exact pE (p3 ++ [⟨6, (p2.length : Int) - 1, (p3.length : Int) - 1, ⟨#[]⟩, ⟨0, 0, ⟨#[]⟩⟩⟩], i, h) 3 ⟨mM hq3.nd (fQ (inS (by decide)) (inS (by omega)) (inS (by omega)) (Nat.zero_le _) in0 in0 (Nat.zero_le _)) (by omega) (by omega), hi, hh⟩ (by simp only [go_sem]) (by simp only [go_sem, List.map_append]; try simp [bC]) (by simp only [go_sem])
  ·have q0 := @k0; have q1 := @hd1; have q2 := @decide_false; refine mD ?_
   refine a2G (ih i h q hi hh (by omega) hn) ⟨rfl, rfl⟩ rfl (a5o q) (by simp only [go_sem, hd1]) rfl ?_
   clear hi hh
   rintro ⟨p2, i, h⟩ ⟨hq2, hi, hh⟩
   simp only at hq2 hi hh
   have g1 := hq2.hi
   have g2 := hq2.lo
   simp only [go_sem]
   refine aB ?_
   refine a2G (sQ hl nt i h p2 hi hh (by omega) hq2.nd) ⟨rfl, rfl⟩ rfl (a5o p2) (by simp only [go_sem]) rfl ?_
   clear hi hh
   rintro ⟨p3, i, h⟩ ⟨hq3, hi, hh⟩
   simp only at hq3 hi hh
   have g3 := hq3.hi
   have g4 := hq3.lo
   have hm1 : p3.length + 1 ≤ 140737488355328 := by omega
   have hm2 : (p3.length + 1) * 72 ≤ 140737488355328 := by omega
   simp only [go_sem]
   by_cases k3 : k < 3
   ·have q0 := @k3; have q1 := @decide_true; have q2 := @hm1; have q3 := @hm2; refine mE ?_
    exact pE (p3 ++ [⟨6, (p2.length : Int) - 1, (p3.length : Int) - 1, ⟨#[]⟩, ⟨0, 0, ⟨#[]⟩⟩⟩], i, h) 3 ⟨mM hq3.nd (fQ (inS (by decide)) (inS (by omega)) (inS (by omega)) (Nat.zero_le _) in0 in0 (Nat.zero_le _)) (by omega) (by omega), hi, hh⟩ (by simp only [go_sem]) (by simp only [go_sem, List.map_append]; try simp [bC]) (by simp only [go_sem])
   ·have q0 := @k3; have q1 := @decide_false; have q2 := @hm1; have q3 := @hm2; refine mE ?_
    exact pE (p3 ++ [⟨7, (p2.length : Int) - 1, (p3.length : Int) - 1, ⟨#[]⟩, ⟨0, 0, ⟨#[]⟩⟩⟩], i, h) 3 ⟨mM hq3.nd (fQ (inS (by decide)) (inS (by omega)) (inS (by omega)) (Nat.zero_le _) in0 in0 (Nat.zero_le _)) (by omega) (by omega), hi, hh⟩ (by simp only [go_sem]) (by simp only [go_sem, List.map_append]; try simp [bC]) (by simp only [go_sem])
theorem aU {l : List Int} (hl : fA l) : Drw l 190 [] (fun q : List TNode => qryD 0 7 q) (fun q => .o (.w 98 7 (q.map bC))) := by
 intro i h hi hh; refine kN Tryz.func190 rfl Tryz.call190 rfl (fun C b => ?_); simp only [go_sem, Tryz.ntmps190]
 refine aB ?_
 first | (refine aJ (aC hl 4 (by decide) (by decide) i h hi hh) ⟨rfl, rfl⟩ ?_ rfl ?_; (focus first | rfl | (simp only [go_sem]; done))) | (refine hZ (aC hl 4 (by decide) (by decide) i h hi hh) ⟨rfl, rfl⟩ ?_ rfl ?_; (focus first | rfl | (simp only [go_sem]; done)))
 clear hi hh; rintro ⟨x, i, h⟩ ⟨hx, hi, hh⟩; simp only at hx hi hh; simp only [go_sem]
 obtain ⟨d, rfl⟩ := Int.eq_ofNat_of_zero_le hx.1
 refine aB ?_
 refine b4l 98 7 ?_
 refine a2G (a6J hl true d i h [] hi hh (by simp; omega) (fun n hn => by simp at hn)) ⟨rfl, rfl⟩ rfl rfl (by simp only [go_sem]) rfl ?_
 clear hi hh
 rintro ⟨q, i, h⟩ ⟨hq, hi, hh⟩
 simp only at hq hi hh
 simp only [go_sem]
 refine aB ?_
 have g1 := hq.hi
 simp only [List.length_nil] at g1
 exact aF (q, i, h) ⟨⟨_, rfl, by simp only [go_sem]⟩, trivial⟩ ⟨(show qryD 0 7 q from ⟨hq.lo, by omega, hq.nd⟩), ⟨hi, hh⟩⟩ (by simp only [go_sem])
@[go_sem] def b4n : List ByteArray := [⟨#[]⟩, ⟨#[97]⟩, ⟨#[100, 97]⟩, ⟨#[97, 98, 99, 100, 101, 102, 103]⟩, ⟨#[65]⟩]
structure qryA (q : List TNode) : Prop where
 hi : q.length ≤ 8
 nd : ∀ n ∈ q, nodeD n
theorem a3O {q : List TNode} (h : ∀ n ∈ q, nodeD n) (k : Nat) {n : TNode} (hn : nodeD n) : ∀ x ∈ q.set k n, nodeD x := fun x hx => by
 rcases List.mem_or_eq_of_mem_set hx with hx | rfl
 ·exact h x hx
 ·exact hn
theorem a2H {l : List Int} (hl : fA l) : Drw l 189 [] (fun q : List TNode => qryA q) (fun q => .o (.w 98 7 (q.map bC))) := by
 intro i h hi hh; refine kN Tryz.func189 rfl Tryz.call189 rfl (fun C b => ?_); simp only [go_sem, Tryz.ntmps189]
 refine aB ?_
 first | (refine aJ (aU hl i h hi hh) ⟨rfl, rfl⟩ ?_ rfl ?_; (focus first | rfl | (simp only [go_sem]; done))) | (refine hZ (aU hl i h hi hh) ⟨rfl, rfl⟩ ?_ rfl ?_; (focus first | rfl | (simp only [go_sem]; done)))
 clear hi hh; rintro ⟨q, i, h⟩ ⟨hq, hi, hh⟩; simp only at hq hi hh; simp only [go_sem]
 have hlo := hq.lo
 have hhi := hq.hi
 have hnd := hq.nd
 clear hq
 refine aB ?_
 first | (refine aJ (aC hl (q.length : Int) (by omega) (by omega) i h hi hh) ⟨rfl, rfl⟩ ?_ rfl ?_; (focus first | rfl | (simp only [go_sem]; done))) | (refine hZ (aC hl (q.length : Int) (by omega) (by omega) i h hi hh) ⟨rfl, rfl⟩ ?_ rfl ?_; (focus first | rfl | (simp only [go_sem]; done)))
 clear hi hh; rintro ⟨x, i, h⟩ ⟨hx, hi, hh⟩; simp only at hx hi hh; simp only [go_sem]
 obtain ⟨k, rfl⟩ := Int.eq_ofNat_of_zero_le hx.1
 have hk : k < q.length := by omega
 have hn := hnd q[k] (List.getElem_mem hk)
 have hw := hn.nm
 have hx2 := hn.vs
 have hf := hn.wf
 have hv := hf.2.2.2.2
 refine aB ?_
 first | (refine aJ (aC hl 10 (by decide) (by decide) i h hi hh) ⟨rfl, rfl⟩ ?_ rfl ?_; (focus first | rfl | (simp only [go_sem]; done))) | (refine hZ (aC hl 10 (by decide) (by decide) i h hi hh) ⟨rfl, rfl⟩ ?_ rfl ?_; (focus first | rfl | (simp only [go_sem]; done)))
 clear hi hh; rintro ⟨c, i, h⟩ ⟨hc, hi, hh⟩; simp only at hc hi hh; simp only [go_sem]
 have hl1 : q.length + 1 ≤ 140737488355328 := by omega
 have hl2 : (q.length + 1) * 72 ≤ 140737488355328 := by omega
 have h6 : c = 0 ∨ c = 1 ∨ c = 2 ∨ c = 3 ∨ c = 4 ∨ c = 5 ∨ (¬ c = 0 ∧ ¬ c = 1 ∧ ¬ c = 2 ∧ ¬ c = 3 ∧ ¬ c = 4 ∧ ¬ c = 5) := by omega
 rcases h6 with rfl | rfl | rfl | rfl | rfl | rfl | ⟨k0, k1, k2, k3, k4, k5⟩
 ·have q0 := @hk; refine dZ ?_
  first | (refine aJ (aC hl 12 (by decide) (by decide) i h hi hh) ⟨rfl, rfl⟩ ?_ rfl ?_; (focus first | rfl | (simp only [go_sem]; done))) | (refine hZ (aC hl 12 (by decide) (by decide) i h hi hh) ⟨rfl, rfl⟩ ?_ rfl ?_; (focus first | rfl | (simp only [go_sem]; done)))
  clear hi hh; rintro ⟨y, i, h⟩ ⟨hy, hi, hh⟩; simp only at hy hi hh; simp only [go_sem]
  have q0 := @hk; refine dZ ?_
  exact aF (q.set k ⟨y - 1, q[k].fLeft, q[k].fRight, q[k].fName, q[k].fValue⟩, i, h) ⟨⟨_, rfl, by simp only [go_sem, List.map_set]⟩, trivial⟩ ⟨(show qryA (q.set k ⟨y - 1, q[k].fLeft, q[k].fRight, q[k].fName, q[k].fValue⟩) from ⟨by simp; omega, a3O hnd k ⟨hw, hx2, (show inR .i64 (y - 1) from inS (by omega)), hf.2⟩⟩), ⟨hi, hh⟩⟩ (by simp only [go_sem])
 ·have q0 := @hk; refine dZ ?_
  first | (refine aJ (eT hl [-1, 0, (k : Int), 8, 9223372036854775807] (by simp) (by simp) i h hi hh) ⟨rfl, rfl⟩ ?_ rfl ?_; (focus first | rfl | (simp only [go_sem]; done))) | (refine hZ (eT hl [-1, 0, (k : Int), 8, 9223372036854775807] (by simp) (by simp) i h hi hh) ⟨rfl, rfl⟩ ?_ rfl ?_; (focus first | rfl | (simp only [go_sem]; done)))
  clear hi hh; rintro ⟨y, i, h⟩ ⟨hy, hi, hh⟩; simp only at hy hi hh; simp only [go_sem]
  have hy2 : inR .i64 y := by
   simp only [List.mem_cons, List.not_mem_nil, or_false] at hy
   simp only [inR]
   omega
  have q0 := @hk; refine dZ ?_
  exact aF (q.set k ⟨q[k].fOp, y, q[k].fRight, q[k].fName, q[k].fValue⟩, i, h) ⟨⟨_, rfl, by simp only [go_sem, List.map_set]⟩, trivial⟩ ⟨(show qryA (q.set k ⟨q[k].fOp, y, q[k].fRight, q[k].fName, q[k].fValue⟩) from ⟨by simp; omega, a3O hnd k ⟨hw, hx2, hf.1, hy2, hf.2.2⟩⟩), ⟨hi, hh⟩⟩ (by simp only [go_sem])
 ·have q0 := @hk; refine dZ ?_
  first | (refine aJ (bK hl b4n (by decide) (by decide) i h hi hh) ⟨rfl, rfl⟩ ?_ rfl ?_; (focus first | rfl | (simp only [go_sem]; done))) | (refine hZ (bK hl b4n (by decide) (by decide) i h hi hh) ⟨rfl, rfl⟩ ?_ rfl ?_; (focus first | rfl | (simp only [go_sem]; done)))
  clear hi hh; rintro ⟨y, i, h⟩ ⟨hy, hi, hh⟩; simp only at hy hi hh; simp only [go_sem]
  have hy2 := (by decide +kernel : ∀ n ∈ b4n, n.size ≤ 7) y hy
  have q0 := @hk; refine dZ ?_
  exact aF (q.set k ⟨q[k].fOp, q[k].fLeft, q[k].fRight, y, q[k].fValue⟩, i, h) ⟨⟨_, rfl, by simp only [go_sem, List.map_set]⟩, trivial⟩ ⟨(show qryA (q.set k ⟨q[k].fOp, q[k].fLeft, q[k].fRight, y, q[k].fValue⟩) from ⟨by simp; omega, a3O hnd k ⟨hy2, hx2, hf.1, hf.2.1, hf.2.2.1, (show y.size ≤ _ by omega), hv⟩⟩), ⟨hi, hh⟩⟩ (by simp only [go_sem])
 ·have q0 := @hk; refine dZ ?_
  first | (refine aJ (jW hl i h hi hh) ⟨rfl, rfl⟩ ?_ rfl ?_; (focus first | rfl | (simp only [go_sem]; done))) | (refine hZ (jW hl i h hi hh) ⟨rfl, rfl⟩ ?_ rfl ?_; (focus first | rfl | (simp only [go_sem]; done)))
  clear hi hh; rintro ⟨y, i, h⟩ ⟨hy, hi, hh⟩; simp only at hy hi hh; simp only [go_sem]
  have q0 := @hk; have q1 := @hl1; have q2 := @hl2; refine mD ?_
  exact aF (q ++ [y], i, h) ⟨⟨_, rfl, by simp only [go_sem, List.map_append]; try simp [bC]⟩, trivial⟩ ⟨(show qryA (q ++ [y]) from ⟨by simp; omega, (mM (p := 0) hnd hy (Nat.zero_le _) (Nat.le_refl _)).nd⟩), ⟨hi, hh⟩⟩ (by simp only [go_sem])
 ·have q0 := @hk; refine dZ ?_
  first | (refine aJ (uC hl i h hi hh) ⟨rfl, rfl⟩ ?_ rfl ?_; (focus first | rfl | (simp only [go_sem]; done))) | (refine hZ (uC hl i h hi hh) ⟨rfl, rfl⟩ ?_ rfl ?_; (focus first | rfl | (simp only [go_sem]; done)))
  clear hi hh; rintro ⟨y, i, h⟩ ⟨hy, hi, hh⟩; simp only at hy hi hh; simp only [go_sem]
  have q0 := @hk; refine dZ ?_
  exact aF (q.set k ⟨q[k].fOp, q[k].fLeft, q[k].fRight, q[k].fName, y⟩, i, h) ⟨⟨_, rfl, by simp only [go_sem, List.map_set]⟩, trivial⟩ ⟨(show qryA (q.set k ⟨q[k].fOp, q[k].fLeft, q[k].fRight, q[k].fName, y⟩) from ⟨by simp; omega, a3O hnd k ⟨hw, hy.w, hf.1, hf.2.1, hf.2.2.1, hf.2.2.2.1, hy.k, hy.n, (show y.fStr.size ≤ _ by have := hy.w; omega)⟩⟩), ⟨hi, hh⟩⟩ (by simp only [go_sem])
 ·refine aB ?_
  exact aF ([], i, h) ⟨⟨_, rfl, by simp only [go_sem]⟩, trivial⟩ ⟨(show qryA [] from ⟨by simp, fun n hn => by simp at hn⟩), ⟨hi, hh⟩⟩ (by simp only [go_sem])
 ·have q0 := @k0; have q1 := @k1; have q2 := @k2; have q3 := @k3; have q4 := @k4; have q5 := @k5; have q6 := @decide_false; refine b0g ?_
  exact aF (q, i, h) ⟨⟨_, rfl, by simp only [go_sem]⟩, trivial⟩ ⟨(show qryA q from ⟨by omega, hnd⟩), ⟨hi, hh⟩⟩ (by simp only [go_sem])
end Go.Proofs.YtolgdibgnndoaaaGreat
end
section
namespace Go.Proofs
open Go.Shelf
def Tryz.laysSortStr_ren : Go.Shelf.Ren := ⟨fun | 190 => 192 | 125 => 234 | 258 => 233 | 128 => 266 | 129 => 267 | 302 => 257 | 303 => 258 | 304 => 259 | 305 => 260 | 306 => 261 | 307 => 262 | 308 => 263 | 309 => 264 | 310 => 265 | 333 => 279 | 329 => 280 | 330 => 281 | 334 => 282 | 335 => 283 | 336 => 250 | 344 => 286 | n => n, fun | 31 => 30 | 9 => 9 | 3 => 3 | 46 => 214 | 0 => 0 | 51 => 267 | 53 => 269 | 4 => 4 | 183 => 259 | 182 => 258 | 131 => 264 | 5 => 5 | 218 => 275 | 222 => 279 | 228 => 281 | 229 => 282 | n => n, fun | n => n⟩
theorem Tryz.laysSortStr : Go.Proofs.Lays.n190 Tryz.prog Tryz.laysSortStr_ren := {
 mixed := by kernel_rfl
 f125 := Tryz.func234.trans (congrArg some (by kernel_rfl))
 f128 := Tryz.func266.trans (congrArg some (by kernel_rfl))
 f129 := Tryz.func267.trans (congrArg some (by kernel_rfl))
 f190 := Tryz.func192.trans (congrArg some (by kernel_rfl))
 f258 := Tryz.func233.trans (congrArg some (by kernel_rfl))
 f302 := Tryz.func257.trans (congrArg some (by kernel_rfl))
 f303 := Tryz.func258.trans (congrArg some (by kernel_rfl))
 f304 := Tryz.func259.trans (congrArg some (by kernel_rfl))
 f305 := Tryz.func260.trans (congrArg some (by kernel_rfl))
 f306 := Tryz.func261.trans (congrArg some (by kernel_rfl))
 f307 := Tryz.func262.trans (congrArg some (by kernel_rfl))
 f308 := Tryz.func263.trans (congrArg some (by kernel_rfl))
 f309 := Tryz.func264.trans (congrArg some (by kernel_rfl))
 f310 := Tryz.func265.trans (congrArg some (by kernel_rfl))
 f329 := Tryz.func280.trans (congrArg some (by kernel_rfl))
 f330 := Tryz.func281.trans (congrArg some (by kernel_rfl))
 f333 := Tryz.func279.trans (congrArg some (by kernel_rfl))
 f334 := Tryz.func282.trans (congrArg some (by kernel_rfl))
 f335 := Tryz.func283.trans (congrArg some (by kernel_rfl))
 f336 := Tryz.func250.trans (congrArg some (by kernel_rfl))
 f344 := Tryz.func286.trans (congrArg some (by kernel_rfl))
 t0 := Tryz.underlying0
 a0 := Tryz.isAgg0
 z0 := Tryz.sizeOf0
 v0 := Tryz.zeroValue0
 t3 := Tryz.underlying3
 a3 := Tryz.isAgg3
 z3 := Tryz.sizeOf3
 v3 := Tryz.zeroValue3
 t4 := Tryz.underlying4
 a4 := Tryz.isAgg4
 z4 := Tryz.sizeOf4
 v4 := Tryz.zeroValue4
 t5 := Tryz.underlying5
 a5 := Tryz.isAgg5
 z5 := Tryz.sizeOf5
 v5 := Tryz.zeroValue5
 t9 := Tryz.underlying9
 a9 := Tryz.isAgg9
 z9 := Tryz.sizeOf9
 v9 := Tryz.zeroValue9
 t31 := Tryz.underlying30
 a31 := Tryz.isAgg30
 z31 := Tryz.sizeOf30
 v31 := Tryz.zeroValue30
 t46 := Tryz.underlying214
 a46 := Tryz.isAgg214
 z46 := Tryz.sizeOf214
 v46 := Tryz.zeroValue214
 t51 := Tryz.underlying267
 a51 := Tryz.isAgg267
 z51 := Tryz.sizeOf267
 v51 := Tryz.zeroValue267
 t53 := Tryz.underlying269
 a53 := Tryz.isAgg269
 z53 := Tryz.sizeOf269
 v53 := Tryz.zeroValue269
 t131 := Tryz.underlying264
 a131 := Tryz.isAgg264
 z131 := Tryz.sizeOf264
 v131 := Tryz.zeroValue264
 t182 := Tryz.underlying258
 a182 := Tryz.isAgg258
 z182 := Tryz.sizeOf258
 v182 := Tryz.zeroValue258
 t183 := Tryz.underlying259
 a183 := Tryz.isAgg259
 z183 := Tryz.sizeOf259
 v183 := Tryz.zeroValue259
 t218 := Tryz.underlying275
 a218 := Tryz.isAgg275
 z218 := Tryz.sizeOf275
 v218 := Tryz.zeroValue275
 t222 := Tryz.underlying279
 a222 := Tryz.isAgg279
 z222 := Tryz.sizeOf279
 v222 := Tryz.zeroValue279
 t228 := Tryz.underlying281
 a228 := Tryz.isAgg281
 z228 := Tryz.sizeOf281
 v228 := Tryz.zeroValue281
 t229 := Tryz.underlying282
 a229 := Tryz.isAgg282
 z229 := Tryz.sizeOf282
 v229 := Tryz.zeroValue282 }
def Tryz.laysCompactStr_ren : Go.Shelf.Ren := ⟨fun | 194 => 193 | n => n, fun | 31 => 30 | 9 => 9 | 3 => 3 | 4 => 4 | 0 => 0 | n => n, fun | n => n⟩
theorem Tryz.laysCompactStr : Go.Proofs.Lays.n194 Tryz.prog Tryz.laysCompactStr_ren := {
 mixed := by kernel_rfl
 f194 := Tryz.func193.trans (congrArg some (by kernel_rfl))
 t0 := Tryz.underlying0
 a0 := Tryz.isAgg0
 z0 := Tryz.sizeOf0
 v0 := Tryz.zeroValue0
 t3 := Tryz.underlying3
 a3 := Tryz.isAgg3
 z3 := Tryz.sizeOf3
 v3 := Tryz.zeroValue3
 t4 := Tryz.underlying4
 a4 := Tryz.isAgg4
 z4 := Tryz.sizeOf4
 v4 := Tryz.zeroValue4
 t9 := Tryz.underlying9
 a9 := Tryz.isAgg9
 z9 := Tryz.sizeOf9
 v9 := Tryz.zeroValue9
 t31 := Tryz.underlying30
 a31 := Tryz.isAgg30
 z31 := Tryz.sizeOf30
 v31 := Tryz.zeroValue30 }
def Tryz.laysInsG_ren : Go.Shelf.Ren := ⟨fun | 20 => 247 | n => n, fun | 24 => 133 | 22 => 69 | 3 => 3 | 25 => 192 | 4 => 4 | 0 => 0 | n => n, fun | n => n⟩
def Tryz.laysIdxG_ren : Go.Shelf.Ren := ⟨fun | 6 => 165 | n => n, fun | 22 => 69 | 23 => 133 | 25 => 189 | 3 => 3 | 0 => 0 | 4 => 4 | n => n, fun | n => n⟩
end Go.Proofs
end
section
namespace Go.Proofs.YtolgdibgnndoaaaGreat
open Go Go.Sx Go.RowKit Go.Proofs
def b6U (l : List Int) : List Int := l.mergeSort fun x y => decide (x ≤ y)
theorem kQ {α : Type} [Inhabited α] [DecidableEq α] (d : Array α) : ∀ m, (Lib.compactUpTo d m).length ≤ m
 | 0 => by simp [Lib.compactUpTo]
 | m + 1 => by
  have := kQ d m
  rw [Lib.compactUpTo_succ, List.length_append]
  split <;> simp <;> omega
def b6V (l : List Int) : List Int := Lib.compact l
def bl (s : ByteArray) : List UInt8 := s.data.toList
def lb (l : List UInt8) : ByteArray := ⟨l.toArray⟩
theorem b0V (l : List UInt8) : bl (lb l) = l := rfl
theorem a5w (s : ByteArray) : lb (bl s) = s := by cases s; simp [lb, bl]
def kU (l : List (List UInt8)) : List (List UInt8) := l.mergeSort fun x y => decide (x ≤ y)
def pK (l : List ByteArray) : List ByteArray := (kU (l.map bl)).map lb
def a2L (l : List ByteArray) : List ByteArray := (Lib.compact (l.map bl)).map lb
theorem zA (l : List ByteArray) : (pK l).length = l.length := by simp [pK, kU, List.length_mergeSort]
theorem a3R (l : List ByteArray) : l.map bH = nV Go.Proofs.encStr (l.map bl) := by
 simp only [nV, List.map_map]
 refine List.map_congr_left fun s _ => ?_
 have h := a5w s
 simp only [lb] at h
 simp only [Function.comp, bH, Go.Proofs.encStr, h]
theorem a7Q (l : List (List UInt8)) : (l.map lb).map bH = nV Go.Proofs.encStr l := by
 rw [a3R, List.map_map]
 congr 1
 simp [Function.comp_def, b0V]
theorem uT (x : List UInt8) : scalar (Go.Proofs.encStr x) = true := rfl
theorem a1y (l : List ByteArray) (hl : l.length ≤ 4611686018427387903) : FnI Tryz.prog 192 9 1 (l.map bH) [] true ((pK l).map bH) := by
 refine ⟨Tryz.call192, fun V w y S vs hm hrow hnd hlt hargs => ?_⟩
 have hvs : vs = [] := by have := hargs.1; simpa using this
 subst hvs
 rw [pK, a7Q]
 rw [a3R] at hrow
 rcases scal_down (e := Go.Proofs.encStr) hrow with ⟨⟨ao, rfl⟩, hn, rfl⟩ | ⟨b, cap, c, rfl, h1, h2, h3, h4, h5, h6, rfl⟩
 ·refine (Any.slices_Sort_string_none Tryz.laysSortStr ao 0 w).mono ?_
  rintro e w' ⟨rfl, rfl⟩
  exact ⟨_, rfl, fun _ => rfl, ⟨⟨rfl, rfl, rfl, Nat.le_refl _, fun _ _ _ => rfl⟩, [], (by rw [hn] at hrow ⊢; simpa [kU] using hrow), hnd, fun b hb => .inl hb, fun _ => rfl⟩⟩
 ·have hb : b < w.heap.size := (Array.getElem?_eq_some_iff.1 h3).1
  refine (Any.slices_Sort_string Tryz.laysSortStr b 0 cap (l.map bl) w h5 hb (by simp; omega)).mono ?_
  rintro e w' ⟨rfl, n, os, rfl⟩
  have hsl : (kU (l.map bl)).length = (l.map bl).length := by simp [kU, List.length_mergeSort]
  have hup := a7H (e := Go.Proofs.encStr) (l := kU (l.map bl)) (d := (kU (l.map bl)).toArray) uT h3 h4 h2 (by simp only [List.size_toArray, hsl]; exact h1) rfl (List.prefix_refl _) h6 (n := n) (os := os)
  rw [hsl] at hup
  exact ⟨_, rfl, fun _ => rfl, ⟨hup.2, [b], hup.1, hnd, fun b hb => .inl hb, fun _ => rfl⟩⟩
theorem uU (l : List ByteArray) (hl : l.length ≤ 4611686018427387903) : FnI Tryz.prog 193 9 1 (l.map bH) [] false ((a2L l).map bH) := by
 refine ⟨Tryz.call193, fun V w y S vs hm hrow hnd hlt hargs => ?_⟩
 have hvs : vs = [] := by have := hargs.1; simpa using this
 subst hvs
 rw [a2L, a7Q]
 rw [a3R] at hrow
 rcases scal_down (e := Go.Proofs.encStr) hrow with ⟨⟨ao, rfl⟩, hn, rfl⟩ | ⟨b, cap, c, rfl, h1, h2, h3, h4, h5, h6, rfl⟩
 ·refine (Any.slices_Compact_string_empty Tryz.laysCompactStr ao 0 w).mono ?_
  rintro e w' ⟨rfl, rfl⟩
  exact ⟨_, rfl, fun h => (by cases h), ⟨⟨rfl, rfl, rfl, Nat.le_refl _, fun _ _ _ => rfl⟩, [], (by rw [hn] at hrow ⊢; exact hrow), hnd, fun b hb => .inl hb, fun _ => rfl⟩⟩
 ·have hb : b < w.heap.size := (Array.getElem?_eq_some_iff.1 h3).1
  refine (Any.slices_Compact_string Tryz.laysCompactStr b 0 cap (l.map bl) w h5 (by simp; omega) h1).mono ?_
  rintro e w' ⟨rfl, n, rfl⟩
  have hle : (Lib.compact (l.map bl)).length ≤ (l.map bl).length := kQ _ _
  have hup := a7H (e := Go.Proofs.encStr) (l := Lib.compact (l.map bl)) (d := (Lib.compact (l.map bl) ++ List.replicate ((l.map bl).length - (Lib.compact (l.map bl)).length) []).toArray) (w' := Sort.putRow Go.Proofs.encStr (Sort.ahead w n) b 0 (Lib.compact (l.map bl) ++ List.replicate ((l.map bl).length - (Lib.compact (l.map bl)).length) []).toArray) uT h3 h4 h2 (by simp only [List.size_toArray, List.length_append, List.length_replicate]; omega) (by rw [Sort.grow_empty]) (by simp) h6 (n := n) (os := #[])
  exact ⟨_, rfl, fun h => (by cases h), ⟨hup.2, [b], hup.1, hnd, fun b hb => .inl hb, fun _ => rfl⟩⟩
end Go.Proofs.YtolgdibgnndoaaaGreat
end
section
set_option maxRecDepth 100000
set_option maxHeartbeats 4000000
namespace Go.Proofs.YtolgdibgnndoaaaGreat
open Go Go.Sx Go.RowKit Go.Proofs
def hasS (l : List ByteArray) (s : ByteArray) : Bool := l.any fun x => decide (x = s)
theorem a9b (l : List ByteArray) (s : ByteArray) (k : Nat) (h : k < l.length) : hasS (l.drop k) s = (decide (l[k] = s) || hasS (l.drop (k + 1)) s) := by
 rw [List.drop_eq_getElem_cons h]; rfl
theorem lL (l : List ByteArray) (s : ByteArray) (hl : l.length ≤ 4300000) : FnC Tryz.prog 65 [.o (.d (.sl (l.map bH))), os s] (ob (hasS l s)) := by
 refine ent Tryz.func65 rfl Tryz.call65 rfl (fun C => ?_); simp only [go_sem, st0, Tryz.ntmps65]
 refine aB ?_
 refine bB (α := Nat) (fun k => [(5, oi k)]) (fun k => []) (fun k => k ≤ l.length ∧ hasS (l.drop k) s = hasS l s) (fun k => l.length - k) 0 (fun _ => ?_) ?_ ?_ (fun k hk => ?_)
 ·simp only [go_sem]; try simp
 ·simp only [go_sem]; try simp
 ·simp
 ·simp only [go_sem]
  obtain ⟨hk, hg⟩ := hk
  refine aB ?_
  refine cnd rfl (fun h1 => ?_) (fun h1 => ?_)
  ·simp only [decide_eq_true_eq, Int.ofNat_lt] at h1
   have hd := a9b l s k h1
   rw [hg] at hd
   have q0 := @h1; refine dZ ?_
   refine cnd rfl (fun hv => ?_) (fun hv => ?_)
   ·rw [hv, Bool.true_or] at hd
    refine aB ?_
    exact aA ⟨⟨_, rfl, by simp only [go_sem, hd]⟩, trivial⟩
   ·rw [hv, Bool.false_or] at hd
    refine aB ?_
    refine aD (k + 1) ?_ ?_ ?_
    ·simp only [go_sem]; try simp
    ·exact ⟨by omega, hd.symm⟩
    ·omega
  ·simp only [decide_eq_false_iff_not] at h1
   have e : k = l.length := by omega
   subst e
   have hn : hasS l s = false := by rw [← hg, List.drop_length]; rfl
   refine aB ?_
   exact aA ⟨⟨_, rfl, by simp only [go_sem, hn]⟩, trivial⟩
theorem a9c (l : List ByteArray) (s : ByteArray) (hl : l.length ≤ 4300000) : FnC Tryz.prog 129 [.o (.d (.sl (l.map bH))), os s] (oi (eU (fun x => decide (s = x)) l 0)) := by
 refine ent Tryz.func129 rfl Tryz.call129 rfl (fun C => ?_); simp only [go_sem, st0, Tryz.ntmps129]
 refine aB ?_
 refine bB (α := Nat) (fun k => [(8, oi k)]) (fun _ => []) (fun k => k ≤ l.length ∧ eU (fun x => decide (s = x)) l 0 = eU (fun x => decide (s = x)) (l.drop k) k) (fun k => l.length - k) 0 (fun _ => ?_) ?_ ?_ (fun k hk => ?_)
 ·simp only [go_sem]
 ·simp only [go_sem]; simp
 ·simp
 ·obtain ⟨hk, hq⟩ := hk
  simp only [go_sem]
  refine aB ?_
  refine cnd rfl (fun h => ?_) (fun h => ?_)
  ·simp only [decide_eq_true_eq, Int.ofNat_lt] at h
   have hd := List.drop_eq_getElem_cons h
   rw [hd, eU] at hq
   have q0 := @h; refine dZ ?_
   refine cnd rfl (fun h2 => ?_) (fun h2 => ?_)
   ·refine aB ?_
    exact aA ⟨⟨_, rfl, by simp only [go_sem, hq, h2]⟩, trivial⟩
   ·refine aB ?_
    refine aD (k + 1) ?_ ?_ ?_
    ·simp only [go_sem]; simp
    ·rw [hq, h2]; exact ⟨h, by simp⟩
    ·omega
  ·simp only [decide_eq_false_iff_not] at h
   have e : k = l.length := by omega
   subst e
   simp only [List.drop_length, eU] at hq
   refine aB ?_
   exact aA ⟨⟨_, rfl, by simp only [go_sem, hq]⟩, trivial⟩
theorem xU {α : Type} (p : α → Bool) : ∀ (l : List α) (k : Nat), decide (0 ≤ eU p l k) = l.any p
 | [], _ => by simp [eU]
 | x :: xs, k => by
  simp only [eU, List.any_cons]
  by_cases h : p x = true
  ·simp [h]
  ·rw [Bool.not_eq_true] at h
   simpa [h] using xU p xs (k + 1)
theorem b0W (l : List ByteArray) (s : ByteArray) : decide (0 ≤ eU (fun x => decide (s = x)) l 0) = hasS l s := by
 rw [xU]; unfold hasS
 congr 1; funext x; congr 1; exact propext eq_comm
theorem fT (l : List ByteArray) (s : ByteArray) (hl : l.length ≤ 4300000) : FnC Tryz.prog 59 [.o (.d (.sl (l.map bH))), os s] (ob (hasS l s)) := by
 refine ent Tryz.func59 rfl Tryz.call59 rfl (fun C => ?_); simp only [go_sem, st0, Tryz.ntmps59]
 refine iV (a9c l s hl) ?_
 exact aA ⟨⟨_, rfl, by simp only [go_sem, b0W]⟩, trivial⟩
theorem a2M (names : List ByteArray) (s : ByteArray) (hl : names.length ≤ 4300000) : FnC Tryz.prog 67 [os s, .o (.q [.sl (names.map bH)])] (ob (hasS names s)) := by
 refine ent Tryz.func67 rfl Tryz.call67 rfl (fun C => ?_); simp only [go_sem, st0, Tryz.ntmps67]
 refine iV (fT names s hl) ?_
 exact aA ⟨⟨_, rfl, by simp only [go_sem]⟩, trivial⟩
def dirNs (l : List TDir) : List ByteArray := l.map TDir.fName
theorem lM (l : List TDir) : (dirNs l).length = l.length := by simp [dirNs]
theorem a0a (l : List TDir) (hl : l.length ≤ 4300000) : FnC Tryz.prog 54 [.o (.d (.sl (l.map bD)))] (.o (.w 9 1 ((dirNs l).map bH))) := by
 refine ent Tryz.func54 rfl Tryz.call54 rfl (fun C => ?_); simp only [go_sem, st0, Tryz.ntmps54]
 refine aB ?_
 refine bB (α := Nat) (fun k => [(3, .o (.s 0)), (6, .o .u), (9, oi k)]) (fun k => [(0, .row 9 1 ((dirNs (l.take k)).map bH) true)]) (fun k => k ≤ l.length) (fun k => l.length - k) 0 (fun _ => ?_) ?_ ?_ (fun k hk => ?_)
 ·simp only [go_sem]
 ·simp only [go_sem]; simp [dirNs]
 ·simp
 ·simp only [go_sem]
  refine aB ?_
  refine cnd rfl (fun h1 => ?_) (fun h1 => ?_)
  ·simp only [decide_eq_true_eq, Int.ofNat_lt] at h1
   have ht : dirNs (l.take (k + 1)) = dirNs (l.take k) ++ [l[k].fName] := by simp only [dirNs, List.take_succ_eq_append_getElem h1, List.map_append, List.map_cons, List.map_nil]
   have hlen : (dirNs (l.take k)).length = k := by rw [lM]; simp; omega
   have q0 := @h1; have q1 := @hlen; refine gT ?_
   refine aD (k + 1) ?_ ?_ ?_
   ·simp only [go_sem, ht, List.map_append]; simp
   ·omega
   ·omega
  ·simp only [decide_eq_false_iff_not] at h1
   have e : k = l.length := by omega
   subst e
   refine aB ?_
   exact aA ⟨⟨_, rfl, by simp only [go_sem, List.take_length]⟩, trivial⟩
def uD (names : List ByteArray) (l : List TDir) : List ByteArray := (dirNs l).filter fun n => !hasS names n
theorem a6P (names : List ByteArray) (l : List TDir) : (uD names l).length ≤ l.length := by
 have := List.length_filter_le (fun n => !hasS names n) (dirNs l)
 rw [lM] at this; exact this
theorem a3S (l : List TDir) (names : List ByteArray) (hl : l.length ≤ 4300000) (hn : names.length ≤ 4300000) : FnC Tryz.prog 16 [.o (.d (.sl (l.map bD))), .o (.d (.sl (names.map bH)))] (.o (.w 9 1 ((uD names l).map bH))) := by
 refine ent Tryz.func16 rfl Tryz.call16 rfl (fun C => ?_); simp only [go_sem, st0, Tryz.ntmps16]
 have qH := trivial; repeat' (with_reducible first | refine nY ?_ | (refine mX ?_; try simp only [go_sem]) | refine kD ?_ | refine rD ?_ | refine cP (a0a l hl) ?_ | refine vI (sM _ [.sl (names.map bH)] (hasS names) (dirNs l) (fun s _ => a2M names s hn) (by rw [lM]; exact hl)) ?_ | refine vJ (sM _ [.sl (names.map bH)] (hasS names) (dirNs l) (fun s _ => a2M names s hn) (by rw [lM]; exact hl)) ?_ | refine aO ?_ | fail)
 exact aA ⟨⟨_, rfl, by simp only [go_sem, uD]⟩, trivial⟩
theorem a3T (l : List TDir) (names : List ByteArray) (hl : l.length ≤ 4300000) (hn : names.length ≤ 4300000) : FnC Tryz.prog 17 [.o (.d (.sl (l.map bD))), .o (.d (.sl (names.map bH)))] (.o (.w 9 1 ((uD names l).map bH))) := by
 refine ent Tryz.func17 rfl Tryz.call17 rfl (fun C => ?_); simp only [go_sem, st0, Tryz.ntmps17]
 refine aB ?_
 refine bB (α := Nat) (fun k => [(5, .o (.s 0)), (6, oi k), (7, .o .u)]) (fun k => [(0, .row 9 1 ((uD names (l.take k)).map bH) true)]) (fun k => k ≤ l.length) (fun k => l.length - k) 0 (fun _ => ?_) ?_ ?_ (fun k hk => ?_)
 ·simp only [go_sem]
 ·simp only [go_sem]; simp [uD, dirNs]
 ·simp
 ·simp only [go_sem]
  refine aB ?_
  refine cnd rfl (fun h1 => ?_) (fun h1 => ?_)
  ·simp only [decide_eq_true_eq, Int.ofNat_lt] at h1
   have ht : uD names (l.take (k + 1)) = uD names (l.take k) ++ (if hasS names l[k].fName then [] else [l[k].fName]) := by
    simp only [uD, dirNs, List.take_succ_eq_append_getElem h1, List.map_append, List.map_cons, List.map_nil, List.filter_append, List.filter_cons, List.filter_nil]
    cases hasS names l[k].fName <;> rfl
   have hlen : (uD names (l.take k)).length ≤ 4300000 := by have := a6P names (l.take k); simp at this; omega
   have q0 := @h1; refine jB (lL names l[k].fName hn) ?_
   refine cnd rfl (fun hv => ?_) (fun hv => ?_)
   ·have hv' : hasS names l[k].fName = false := by simpa using hv
    rw [hv'] at ht
    have hl1 : (uD names (l.take k)).length + 1 ≤ 140737488355328 := by omega
    have hl2 : ((uD names (l.take k)).length + 1) * 16 ≤ 140737488355328 := by omega
    have q0 := @h1; refine dZ ?_
    refine aD (k + 1) ?_ ?_ ?_
    ·simp only [go_sem, ht, List.map_append]; simp
    ·omega
    ·omega
   ·have hv' : hasS names l[k].fName = true := by simpa using hv
    rw [hv'] at ht
    have q0 := @h1; refine dZ ?_
    refine aD (k + 1) ?_ ?_ ?_
    ·simp only [go_sem, ht, List.map_append]; simp
    ·omega
    ·omega
  ·simp only [decide_eq_false_iff_not] at h1
   have e : k = l.length := by omega
   subst e
   refine aB ?_
   exact aA ⟨⟨_, rfl, by simp only [go_sem, List.take_length]⟩, trivial⟩
theorem uV (l : List TDir) (names : List ByteArray) (hl : l.length ≤ 4300000) (hn : names.length ≤ 4300000) : FnC Tryz.prog 16 [.o (.d (.sl (l.map bD))), .o (.d (.sl (names.map bH)))] (.o (.d (.sl ((uD names l).map bH)))) := (a3S l names hl hn).pu (by simp only [go_sem, and_self])
theorem a1U (l : List TDir) (names : List ByteArray) (hl : l.length ≤ 4300000) (hn : names.length ≤ 4300000) : FnC Tryz.prog 17 [.o (.d (.sl (l.map bD))), .o (.d (.sl (names.map bH)))] (.o (.d (.sl ((uD names l).map bH)))) := (a3T l names hl hn).pu (by simp only [go_sem, and_self])
end Go.Proofs.YtolgdibgnndoaaaGreat
end
