/-
  Owned trees: lent to calls that read, handed to functions that write.
-/
import Derived.Test.YteganoldfldlhaaB4Pure
set_option linter.all false
namespace Go.Sx
open Go Go.RowKit

/-- The same; rows among the arguments are only read from then on. -/
theorem CallS.lendF {E : Env} {f : Nat} {args args' : List SV} {res : SV} {st : St} {K : St → SV → Prop} (h : FnC E.P f args' res) (he : args.map (pureOS (frzH st.h (idsS args))) = args') (hfree : args'.all freeS = true) (hres : res.all.all isWS = true)
    (k : K ⟨st.t, frzH st.h (idsS args) ++ adG (fun _ => none) 0 res.all⟩ (adS (frzH st.h (idsS args)).length res)) : CallS E f args st K := by
  refine ⟨h.enters, fun g V a w vs hr hlen hargs => ?_⟩
  obtain ⟨g', V', hr', hg, hv, _⟩ := frzH_ok (idsS args) hr
  have := CallS.lend (E := E) (st := ⟨st.t, frzH st.h (idsS args)⟩) (K := K) h he hfree hres k
  exact this.2 g' V' a w vs hr' hlen fun i s y h1 h2 => (hargs i s y h1 h2).mono hg hv

/-! ### Functions that write into what they are handed -/

structure Turned (X : List Nat) (w w' : World) : Prop where
  os : w'.os = w.os
  tape : w'.tape = w.tape
  output : w'.output = w.output
  size : w.heap.size ≤ w'.heap.size
  block : ∀ k, k < w.heap.size → k ∉ X → w'.heap[k]? = w.heap[k]?
def argV (b : Bool) (l : List Value) : Value := if b then .agg l.toArray else l.headD undef

structure FnM (P : Program) (f : Nat) (b : Bool) (cs outs : List At) (n res : Int) : Prop where
  enters : ∀ as w, (callFunc f as).run P w = .ok (.enter f as) w
  one : b = false → cs.length = 1
  calls : ∀ w l Ps, oL w cs l Ps → (trs Ps).Nodup → (∀ k ∈ trs Ps, k < w.heap.size) → Calls P f #[argV b l, .int .i64 n] w fun e w' => e = .returned (.int .i64 res) ∧ Turned (trs Ps) w w' ∧ oL w' outs l Ps

/-- The state at such a function's start. -/
def adSb (b : Bool) (cs : List At) : SV := if b then .g (adA 0 cs) else match adA 0 cs with
  | [x] => .o x
  | _ => .o .u
def stM (tg : Nat → Option (Value × List Nat × List Value)) (b : Bool) (cs : List At) (n : Int) (nt : Nat) : St := ⟨[adSb b cs, oi n] ++ List.replicate (nt - 2) (.t []), adG tg 0 cs⟩
def preH : List HB → List HB → Prop
  | _, [] => True
  | x :: xs, y :: ys => x = y ∧ preH xs ys
  | [], _ :: _ => False
theorem preH_get : ∀ {h hs : List HB}, preH h hs → ∀ (i : Nat) (b : HB), hs[i]? = some b → h[i]? = some b
  | _, [], _, i, b, e => by simp at e
  | x :: xs, y :: ys, h, 0, b, e => by simp at e ⊢; rw [h.1, e]
  | x :: xs, y :: ys, h, i + 1, b, e => by simpa using preH_get h.2 i b (by simpa using e)
  | [], _ :: _, h, _, _, _ => h.elim
def retM (E : Env) (rs : List ResultVar) (res : Int) (hs : List HB) : Ex → St → Prop
  | .ret, st => RetOK E st rs (oi res) ∧ preH st.h hs
  | .normal, st => RetOK E st rs (oi res) ∧ preH st.h hs
  | .exit _, _ => False
/-- Cells of one shape: the rows alone differ. -/
def shp : List At → List At → Prop
  | [], [] => True
  | .d (.v x) :: a, .d (.v y) :: b => x = y ∧ shp a b
  | .w _ s _ :: a, .w _ s' _ :: b => s = s' ∧ shp a b
  | _, _ => False
/-- The tags of the owned cells, in order. -/
def tags : List At → List Value → List (List Nat × List Value) → List (Value × List Nat × List Value)
  | .w _ _ _ :: cs, y :: l, p :: Ps => (y, p.1, p.2) :: tags cs l Ps
  | _ :: cs, _ :: l, _ :: Ps => tags cs l Ps
  | _, _, _ => []
theorem tagOK_tags : ∀ {cs : List At} {l : List Value} {Ps : List (List Nat × List Value)} (pre : List (Value × List Nat × List Value)), tagOK (fun j => (pre ++ tags cs l Ps)[j]?) pre.length cs l Ps
  | [], _, _, _ => by cases ‹List Value› <;> trivial
  | c :: cs, [], _, _ => by cases c <;> trivial
  | c :: cs, y :: l, [], _ => by cases c <;> trivial
  | c :: cs, y :: l, p :: Ps, pre => by
    have hw : ∀ t s r, c = .w t s r → tagOK (fun j => (pre ++ tags (c :: cs) (y :: l) (p :: Ps))[j]?) pre.length (c :: cs) (y :: l) (p :: Ps) := by
      rintro t s r rfl
      refine ⟨fun q e => ?_, ?_⟩
      · have e : (pre ++ tags (At.w t s r :: cs) (y :: l) (p :: Ps))[pre.length]? = some q := e
        rw [List.getElem?_append_right (Nat.le_refl _)] at e
        simp [tags] at e
        exact e.symm
      · have := tagOK_tags (cs := cs) (l := l) (Ps := Ps) (pre ++ [(y, p.1, p.2)])
        simpa [tags] using this
    cases c with
    | w t s r => exact hw t s r rfl
    | _ => exact tagOK_tags (cs := cs) (l := l) (Ps := Ps) pre

/-- At the end: what the entries say is what the cells read as. -/
theorem outs_ok {C : Ctx} {g : List Gh} {V : View} {h : List HB} {w w0 : World} (hp : Hp C g V h w) : ∀ {cs outs : List At} {l : List Value} {Ps : List (List Nat × List Value)} (pre : List (Value × List Nat × List Value)), oL w0 cs l Ps → shp cs outs →
    (∀ (i : Nat) (b : HB), (adG (fun j => (pre ++ tags cs l Ps)[j]?) pre.length outs)[i]? = some b → h[pre.length + i]? = some b) → oL w outs l Ps
  | [], [], l, Ps, pre, ho, _, _ => ⟨ho.1, ho.2.1, fun k a y p e => by simp at e⟩
  | [], _ :: _, _, _, _, _, hs, _ => by simp [shp] at hs
  | c :: cs, [], l, Ps, _, _, hs, _ => by cases c with
    | d x => cases x <;> simp [shp] at hs
    | _ => simp [shp] at hs
  | c :: cs, o :: outs, [], _, _, ho, _, _ => by have := ho.1; simp at this
  | c :: cs, o :: outs, y :: l, [], _, ho, _, _ => by have := ho.2.1; simp at this
  | c :: cs, o :: outs, y :: l, p :: Ps, pre, ho, hs, hh => by
    have ho' : oL w0 cs l Ps := ⟨by have := ho.1; simpa using this, by have := ho.2.1; simpa using this, fun k a y p e1 e2 e3 => ho.2.2 (k + 1) a y p (by simpa using e1) (by simpa using e2) (by simpa using e3)⟩
    have hy := ho.2.2 0 c y p rfl rfl rfl
    have mk : oAt w o y p → oL w outs l Ps → oL w (o :: outs) (y :: l) (p :: Ps) := fun h1 h2 => ⟨by simp [h2.1], by simp [h2.2.1], fun k a' y' p' e1 e2 e3 => by
      cases k with
      | zero => simp at e1 e2 e3; subst e1; subst e2; subst e3; exact h1
      | succ k => exact h2.2.2 k a' y' p' (by simpa using e1) (by simpa using e2) (by simpa using e3)⟩
    cases c with
    | d x => cases x with
      | v x => cases o with
        | d z => cases z with
          | v z =>
            obtain ⟨rfl, hs'⟩ := hs
            exact mk hy (outs_ok hp pre ho' hs' (by simpa [tags, adG] using hh))
          | sl r => simp [shp] at hs
        | _ => simp [shp] at hs
      | sl r => simp [shp] at hs
    | w t s r => cases o with
      | w t' s' r' =>
        obtain ⟨rfl, hs'⟩ := hs
        have h0 := hh 0 (.own (some (y, p.1, p.2)) s r') (by
          simp only [adG, tags, List.getElem?_cons_zero]
          rw [List.getElem?_append_right (Nat.le_refl _)]
          simp)
        have hg : pre.length < g.length := by rw [hp.glen]; exact (List.getElem?_eq_some_iff.1 (by simpa using h0)).1
        obtain ⟨e1, e2⟩ := hp.hb pre.length _ _ (by simpa using h0) (List.getElem?_eq_getElem hg)
        obtain ⟨q1, q2, q3⟩ := e1 _ _ _ rfl
        rw [q1, q2, q3] at e2
        refine mk e2 (outs_ok hp (pre ++ [(y, p.1, p.2)]) ho' hs' fun i b hb => ?_)
        have := hh (i + 1) b (by
          simp only [adG, tags, List.getElem?_cons_succ]
          simpa using hb)
        simpa [Nat.add_assoc, Nat.add_comm 1] using this
      | _ => simp [shp] at hs
    | _ => simp [shp] at hs

theorem FnM.of_wp {P : Program} {T : Nat → Ty} {eqk : Nat → List Nat} (hT : TyOK P T) {f : Nat} {fn : Func} {c : Code} {rs : List ResultVar} {b : Bool} {cs outs : List At} {n res : Int}
    (hf : P.funcs[f]? = some fn) (hb : fn.body = some c) (hcall : ∀ as w, (callFunc f as).run P w = .ok (.enter f as) w) (hres : fn.results = rs.toArray) (hone : b = false → cs.length = 1) (hsh : shp cs outs)
    (h : ∀ (C : Ctx) (tg : Nat → Option (Value × List Nat × List Value)), WP P C c (kont P C [] (retM ⟨P, T, C, eqk⟩ rs res (adG tg 0 outs))) (stM tg b cs n fn.ntmps)) : FnM P f b cs outs n res := by
  refine ⟨hcall, hone, fun w l Ps hl hnd hlt => ?_⟩
  let C : Ctx := ⟨w, trs Ps, fun _ => none⟩
  refine calls_of_wp hf hb ?_
  have hr0 : Rel C [] (fun _ => none) ⟨[.o .u, oi n] ++ List.replicate (fn.ntmps - 2) (.t []), []⟩ { tmps := #[argV b l, .int .i64 n] ++ Array.replicate (fn.ntmps - 2) undef, defers := [] } w := by
    refine ⟨⟨by simp; omega, fun i s y h1 h2 => ?_, rfl⟩, ⟨rfl, fun i b x h => by simp at h, fun i b x h => by simp at h, fun i j b b' x x' _ h => by simp at h, fun i b x h => by simp at h, fun i b x h => by simp at h⟩, (fun b cs h => by cases h),
      ⟨rfl, rfl, rfl, Nat.le_refl _, fun _ _ _ => rfl⟩, ⟨View.le.refl _, (fun b cs h => by cases h), (fun b cs h => by cases h)⟩⟩
    match i with
    | 0 => simp at h1; subst h1; trivial
    | 1 =>
      rw [Array.getElem?_append_left (by simp)] at h2
      simp at h1 h2; subst h1; subst h2; exact ⟨[], .v _ rfl⟩
    | i + 2 =>
      rw [List.getElem?_append_right (by simp)] at h1
      rw [Array.getElem?_append_right (by simp)] at h2
      simp [List.getElem?_replicate, Array.getElem?_replicate] at h1 h2
      obtain ⟨_, rfl⟩ := h1
      obtain ⟨_, rfl⟩ := h2
      exact undef_ok _ _
  obtain ⟨g, hr1, hg, hc⟩ := adoptO_ok (tg := fun j => (tags cs l Ps)[j]?) (j := 0) hr0 hl hnd (fun k hk => ⟨.inr hk, hlt k hk, rfl, fun i hb x e => by simp at e⟩) (tagOK_tags (cs := cs) (l := l) (Ps := Ps) [])
  have hr : Rel C g (fun _ => none) (stM (fun j => (tags cs l Ps)[j]?) b cs n fn.ntmps) { tmps := #[argV b l, .int .i64 n] ++ Array.replicate (fn.ntmps - 2) undef, defers := [] } w := by
    refine ⟨⟨by simp [stM]; omega, fun i s y h1 h2 => ?_, rfl⟩, by simpa [stM] using hr1.hp, hr1.mod, hr1.fr, hr1.vw⟩
    match i with
    | 0 =>
      rw [Array.getElem?_append_left (by simp)] at h2
      simp [stM] at h1 h2
      subst h1; subst h2
      unfold adSb argV
      cases b with
      | true => simp only [if_true]; exact ⟨l, rfl, by simpa using hc⟩
      | false =>
        have h1 := hone rfl
        have hla : (adA 0 cs).length = 1 := by rw [adA_len]; exact h1
        have hll : l.length = 1 := by rw [hl.1]; exact h1
        match he : adA 0 cs, hla, l, hll with
        | [x], _, [y], _ =>
          simp only [Bool.false_eq_true, if_false]
          have hc' : cL g (fun _ => none) (adA 0 cs) [y] := by simpa using hc
          rw [he] at hc'
          exact hc'.2 0 x y rfl rfl
    | i + 1 =>
      have := hr1.sl.slot (i + 1) s y (by simpa [stM] using h1) h2
      exact this
  have hsz : (#[argV b l, .int .i64 n] : Array Value).size = 2 := rfl
  rw [hsz]
  refine wp_mono (h C _ g _ _ w hr) fun e a' w' q => ?_
  have fin : ∀ (g : List Gh) (V : View) (st : St), Rel C g V st a' w' → RetOK ⟨P, T, C, eqk⟩ st rs (oi res) ∧ preH st.h (adG (fun j => (tags cs l Ps)[j]?) 0 outs) →
      ∃ y, (results fn a'.tmps).run P w' = .ok y w' ∧ (Ending.returned y = .returned (.int .i64 res) ∧ Turned (trs Ps) w w' ∧ oL w' outs l Ps) := by
    intro g V st hr' hret
    obtain ⟨⟨⟨l0, h1, h2, h3, h4⟩, hone'⟩, hpre⟩ := hret
    obtain ⟨vs, ls, f1, f2, f3, f4, f5⟩ := retVs_ok (E := ⟨P, T, C, eqk⟩) hT hr' h1
    have f1' : (rs.mapM (rvM a')).run P w' = .ok vs w' := by
      rw [← f1]
      congr 2
    have hl0 : ∃ x, l0 = [(false, [x])] := by
      simp only [resL, List.map_cons, List.map_nil] at h2
      have hlen0 : l0.length = 1 := by simpa using congrArg List.length h2
      match l0, hlen0 with
      | [(b0, cs0)], _ =>
        simp only [List.map_cons, List.map_nil, List.cons.injEq, Prod.mk.injEq, and_true, List.length_cons, List.length_nil] at h2
        obtain ⟨rfl, h2⟩ := h2
        have h2 : cs0.length = 1 := by simpa using h2
        match cs0, h2 with
        | [x], _ => exact ⟨x, rfl⟩
    obtain ⟨x, rfl⟩ := hl0
    have hx : x = .d (iv res) := by
      simp only [resL, List.flatMap_cons, List.flatMap_nil, List.append_nil, retAs] at h3
      cases x with
      | d z => have h3 : z = _ := h3; rw [h3]
      | z => have h3 : (iv res : D) = .sl [] := h3; cases h3
      | s id =>
        simp only [retA] at h3
        split at h3
        · cases h3
        · exact h3.elim
      | _ => exact h3.elim
    subst hx
    match vs, ls, f2, f3 with
    | [v], [m], _, _ =>
      have hv := f4 0 false [.d (iv res)] m v rfl rfl rfl
      simp only [Bool.false_eq_true, if_false] at hv
      obtain ⟨rfl, hv2⟩ := hv
      obtain ⟨S, hL⟩ := hv2.2 0 _ v rfl rfl
      cases hL
      refine ⟨_, results_ok hres f1', rfl, ⟨hr'.fr.os, hr'.fr.tape, hr'.fr.output, hr'.fr.size, hr'.fr.block⟩, ?_⟩
      exact outs_ok hr'.hp [] hl hsh fun i b hb => by simpa using preH_get hpre i b (by simpa using hb)
  cases e with
  | normal =>
    obtain ⟨g, V', st', hr', hret⟩ := q
    obtain ⟨y, hy, hd⟩ := fin g V' st' hr' hret
    exact ⟨hr'.sl.defers, y, hy, hd⟩
  | ret =>
    obtain ⟨g, V', st', hr', hret⟩ := q
    obtain ⟨y, hy, hd⟩ := fin g V' st' hr' hret
    exact ⟨hr'.sl.defers, y, hy, hd⟩
  | exit id => obtain ⟨g, V', st', hr', q⟩ := q; exact q.elim
  | goto l => exact q.elim
  | panic ch => exact q.elim
  | outgrown => exact q.elim
end Go.Sx
