/-
  Captured variables; and all of 'vcOp'.
-/
import Derived.Test.YteganoldfldlhaaB1Gown
set_option linter.all false
namespace Go.Sx
open Go Go.RowKit

section
variable {E : Env} {o : Oper} {st : St} {k : St → SV → Prop} {g : List Gh} {V : View} {a : Act} {w : World} {K : Act → World → Prop} {Q : Exit → Act → World → Prop}

theorem capD_ok {C : Ctx} {h : List HB} (hp : Hp C g V h w) : ∀ {cs : List At} {l : List Value} {ds : List D}, capD h cs = some ds → cL g V cs l → ∃ Ss, LayL V ds l Ss
  | [], l, ds, hh, hc => by simp only [capD, Option.some.injEq] at hh; subst hh; rw [hc.nil_inv]; exact ⟨[], LayL.nil V⟩
  | c :: cs, l, ds, hh, hc => by
    obtain ⟨y, l', rfl, hy, hl⟩ := hc.cons_inv
    have step : ∀ (d : D) (S : List Nat), Lay V d y S → (capD h cs).map (d :: ·) = some ds → ∃ Ss, LayL V ds (y :: l') Ss := by
      intro d S hS hm
      simp only [Option.map_eq_some_iff] at hm
      obtain ⟨ds', h1, rfl⟩ := hm
      obtain ⟨Ss, q⟩ := capD_ok hp h1 hl
      refine ⟨S :: Ss, LayL.append (ds := [d]) (ys := [y]) (Ss := [S]) ⟨rfl, rfl, fun k d' y' S' e1 e2 e3 => ?_⟩ q⟩
      cases k with
      | zero => simp at e1 e2 e3; subst e1; subst e2; subst e3; exact hS
      | succ k => simp at e1
    cases c with
    | d x => obtain ⟨S, hy⟩ := hy; exact step x S hy hh
    | z => have hy : y = _ := hy; subst hy; exact step (.sl []) [] .nil hh
    | s id =>
      simp only [capD] at hh
      split at hh
      · rename_i rows lin e
        obtain ⟨gh, hg, hv, _⟩ := hy
        obtain ⟨_, S, hS, _⟩ := hp.hb id _ gh (nthH_some e (by simp)) hg
        exact step (.sl rows) S (by rw [hv]; exact hS) hh
      · cases hh
    | u => simp [capD] at hh
    | p => simp [capD] at hh
    | r => simp [capD] at hh
    | q => simp [capD] at hh
    | f => simp [capD] at hh
    | w => simp [capD] at hh
    | e => simp [capD] at hh
    | n => simp [capD] at hh

theorem cAt.cap {V' : View} {id : Nat} {ds : List D} {x : At} {y : Value} (h : cAt g V x y) (hv : V.le V') (hq : ∀ (gh : Gh) (b : Nat), g[id]? = some gh → gh.blk = some b → QC V' ⟨b, 0, none⟩ ds) : cAt g V' (capA id ds x) y := by
  cases x with
  | p j off =>
    simp only [capA]
    split
    · rename_i e
      subst e
      obtain ⟨gh, b, h1, h2, h3⟩ := h
      refine ⟨⟨b, off, none⟩, h3, ?_⟩
      have := (hq gh b h1 h2).drop off
      rwa [Addr.add_lit, Nat.zero_add] at this
    · exact cAt.mono (a := .p j off) h (GLe.refl g) hv
  | u => trivial
  | d x => exact cAt.mono (a := .d x) h (GLe.refl g) hv
  | z => exact h
  | r j sz i fo => exact cAt.mono (a := .r j sz i fo) h (GLe.refl g) hv
  | s j => exact cAt.mono (a := .s j) h (GLe.refl g) hv
  | q cs => exact cAt.mono (a := .q cs) h (GLe.refl g) hv
  | f fn caps => exact cAt.mono (a := .f fn caps) h (GLe.refl g) hv
  | w => exact h
  | e j sz i fo => exact cAt.mono (a := .e j sz i fo) h (GLe.refl g) hv
  | n j sz i fo => exact cAt.mono (a := .n j sz i fo) h (GLe.refl g) hv
theorem cL.cap {V' : View} {id : Nat} {ds : List D} {cs : List At} {l : List Value} (h : cL g V cs l) (hv : V.le V') (hq : ∀ (gh : Gh) (b : Nat), g[id]? = some gh → gh.blk = some b → QC V' ⟨b, 0, none⟩ ds) : cL g V' (cs.map (capA id ds)) l :=
  ⟨by simp [h.1], fun k c y h1 h2 => by
    rw [List.getElem?_map] at h1
    cases hk : cs[k]? with
    | none => rw [hk] at h1; cases h1
    | some c0 => rw [hk] at h1; cases h1; exact (h.2 k c0 y hk h2).cap hv hq⟩
theorem cSV.cap {V' : View} {id : Nat} {ds : List D} {s : SV} {y : Value} (h : cSV g V s y) (hv : V.le V') (hq : ∀ (gh : Gh) (b : Nat), g[id]? = some gh → gh.blk = some b → QC V' ⟨b, 0, none⟩ ds) : cSV g V' (capS id ds s) y := by
  cases s with
  | o c => exact cAt.cap h hv hq
  | g cs => obtain ⟨l, h1, h2⟩ := h; exact ⟨l, h1, h2.cap hv hq⟩
  | t l =>
    obtain ⟨ys, h1, h2, h3⟩ := h
    refine ⟨ys, h1, by simp [h2], fun j b cs v hj hv' => ?_⟩
    rw [List.getElem?_map] at hj
    cases hl : l[j]? with
    | none => rw [hl] at hj; cases hj
    | some p =>
      obtain ⟨b0, c0⟩ := p
      rw [hl] at hj
      simp only [Option.map_some, Option.some.injEq, Prod.mk.injEq] at hj
      obtain ⟨rfl, rfl⟩ := hj
      have := h3 j b0 c0 v hl hv'
      cases b0
      · simp only [Bool.false_eq_true, if_false] at this ⊢; exact this.cap hv hq
      · simp only [if_true] at this ⊢; obtain ⟨m, e, hm⟩ := this; exact ⟨m, e, hm.cap hv hq⟩
theorem capB_own {id : Nat} {ds : List D} {x : Gh} {b : HB} : ownB x (capB id ds b) = ownB x b ∧ rootB x (capB id ds b) = rootB x b := by cases b <;> exact ⟨rfl, rfl⟩

/-- A captured variable: its block is read only from now on. -/
theorem Rel.cap {C : Ctx} (hr : Rel C g V st a w) {id ty : Nat} {cs : List At} {ds : List D} (h1 : st.h[id]? = some (.box ty cs)) (hd : capD st.h cs = some ds) :
    ∃ V', V.le V' ∧ Rel C g V' ⟨st.t.map (capS id ds), (st.h.set id .gone).map (capB id ds)⟩ a w ∧ ∀ (gh : Gh) (b : Nat), g[id]? = some gh → gh.blk = some b → QC V' ⟨b, 0, none⟩ ds := by
  obtain ⟨gh, hg, hok⟩ := hr.ghost h1
  obtain ⟨b, l, e1, e2, e3⟩ := hok
  obtain ⟨Ss, hl⟩ := capD_ok hr.hp hd e3
  have hroot : b ∈ rootB gh (.box ty cs) := by simp [rootB, e1]
  have hVb : V b = none := hr.hp.rt id _ gh h1 hg b hroot
  let V' : View := fun n => if n = b then some l else V n
  have hle : V.le V' := fun n cs hn => by
    have : n ≠ b := fun e => by rw [e, hVb] at hn; cases hn
    exact ⟨cs, by simp [V', this, hn], List.prefix_refl _⟩
  have hq : ∀ (gh' : Gh) (b' : Nat), g[id]? = some gh' → gh'.blk = some b' → QC V' ⟨b', 0, none⟩ ds := by
    intro gh' b' q1 q2 j d hj
    rw [hg] at q1
    cases q1
    rw [e1] at q2
    cases q2
    have hjl : j < l.length := by rw [hl.1]; exact (List.getElem?_eq_some_iff.1 hj).1
    have hjs : j < Ss.length := by rw [hl.2.1]; exact (List.getElem?_eq_some_iff.1 hj).1
    refine ⟨l[j], _, ?_, (hl.2.2 j d _ _ hj (List.getElem?_eq_getElem hjl) (List.getElem?_eq_getElem hjs)).mono hle⟩
    rw [Addr.add_lit, Nat.zero_add]
    simp [View.cell, V', hjl]
  have hp := hr.hp.drop id
  refine ⟨V', hle, ⟨⟨by simp [hr.sl.size], fun i s y q1 q2 => ?_, hr.sl.defers⟩, ⟨by simp [hr.hp.glen], ?_, ?_, ?_, ?_, ?_⟩, ?_, hr.fr, ?_⟩, hq⟩
  · rw [List.getElem?_map] at q1
    cases hs : st.t[i]? with
    | none => rw [hs] at q1; cases q1
    | some s0 => rw [hs] at q1; cases q1; exact (hr.sl.slot i s0 y hs q2).cap hle hq
  all_goals
    have key : ∀ (i : Nat) (c : HB), ((st.h.set id .gone).map (capB id ds))[i]? = some c → ∃ c0, (st.h.set id .gone)[i]? = some c0 ∧ c = capB id ds c0 := by
      intro i c hc
      rw [List.getElem?_map] at hc
      cases hs : (st.h.set id .gone)[i]? with
      | none => rw [hs] at hc; cases hc
      | some c0 => rw [hs] at hc; cases hc; exact ⟨c0, rfl, rfl⟩
  · intro i c y q1 q2
    obtain ⟨c0, r1, rfl⟩ := key i c q1
    have hok := hp.hb i c0 y r1 q2
    cases c0 with
    | box ty' cs' => obtain ⟨b', l', f1, f2, f3⟩ := hok; exact ⟨b', l', f1, f2, f3.cap hle hq⟩
    | row ty' sz rows lin => exact HBok.mono (g := g) (g' := g) (b := .row ty' sz rows lin) hok (GLe.refl g) hle (fun _ _ => rfl)
    | frz rows lin => exact HBok.mono (g := g) (g' := g) (w := w) (w' := w) (b := .frz rows lin) hok (GLe.refl g) hle (fun _ _ => rfl)
    | gone => trivial
    | own tag sz rows => exact HBok.mono (g := g) (g' := g) (w := w) (w' := w) (b := .own tag sz rows) hok (GLe.refl g) hle (fun _ _ => rfl)
  · intro i c y q1 q2
    obtain ⟨c0, r1, rfl⟩ := key i c q1
    rw [capB_own.1]; exact hp.nd i c0 y r1 q2
  · intro i j c c' y y' hij q1 q2 q3 q4 n hn
    obtain ⟨c0, r1, rfl⟩ := key i c q1
    obtain ⟨c1, r2, rfl⟩ := key j c' q3
    rw [capB_own.1] at hn ⊢
    exact hp.dj i j c0 c1 y y' hij r1 q2 r2 q4 n hn
  · intro i c y q1 q2 n hn
    obtain ⟨c0, r1, rfl⟩ := key i c q1
    rw [capB_own.1] at hn
    exact hp.lo i c0 y r1 q2 n hn
  · intro i c y q1 q2 n hn
    obtain ⟨c0, r1, rfl⟩ := key i c q1
    rw [capB_own.2] at hn
    have hV := hp.rt i c0 y r1 q2 n hn
    have hne : n ≠ b := by
      rintro rfl
      by_cases hi : i = id
      · subst hi
        rw [List.getElem?_set, if_pos rfl] at r1
        split at r1
        · cases r1; simp [rootB] at hn
        · cases r1
      · rw [List.getElem?_set, if_neg (fun e => hi e.symm)] at r1
        exact hr.hp.dj i id c0 _ y gh hi r1 q2 h1 hg n (rootB_own hn) (rootB_own hroot)
    simp [V', hne, hV]
  · clear key
    intro n cs' hn
    by_cases e : n = b
    · subst e
      simp [V'] at hn
      subst hn
      exact ⟨l.toArray, ty, (0, 0), e2, by simp⟩
    · simp [V', e] at hn
      exact hr.mod n cs' hn
  · clear key
    refine hr.vw.grow hle fun n cs' hn h0 => ?_
    by_cases e : n = b
    · subst e; exact ⟨(hr.hp.lo id _ gh h1 hg n (rootB_own hroot)).1, l.toArray, ty, e2⟩
    · simp [V', e] at hn
      rw [hn] at h0; cases h0

theorem capAll_ok : ∀ {caps : List Operand} {st st' : St} {g : List Gh} {V : View} {ds : List (List D)}, capAll E st caps = some (st', ds) → Rel E.C g V st a w →
    ∃ g' V', GLe g g' ∧ V.le V' ∧ Rel E.C g' V' st' a w ∧ ds.length = caps.length ∧ ∀ (j : Nat) (c : List D) (x : Operand), ds[j]? = some c → caps[j]? = some x → ∃ p, a.eval x = .pointer (some p) ∧ QC V' p c
  | [], st, st', g, V, ds, h, hr => by
    simp only [capAll, Option.some.injEq, Prod.mk.injEq] at h
    obtain ⟨rfl, rfl⟩ := h
    exact ⟨g, V, GLe.refl g, View.le.refl V, hr, rfl, fun j c x h => by simp at h⟩
  | x :: caps, st, st', g, V, ds, h, hr => by
    have hx := ev_ok hr.sl x
    simp only [capAll] at h
    split at h
    · rename_i cs e
      rw [e] at hx
      simp only [Option.map_eq_some_iff, Prod.mk.injEq] at h
      obtain ⟨⟨s1, d1⟩, h1, rfl, rfl⟩ := h
      obtain ⟨g', V', k1, k2, k3, k4, k5⟩ := capAll_ok h1 hr
      refine ⟨g', V', k1, k2, k3, by simp [k4], fun j c y q1 q2 => ?_⟩
      cases j with
      | zero => simp at q1 q2; subst q1; subst q2; obtain ⟨p, hp, hq⟩ := hx; exact ⟨p, hp, hq.mono k2⟩
      | succ j => exact k5 j c y (by simpa using q1) (by simpa using q2)
    · rename_i id e
      rw [e] at hx
      split at h
      · rename_i ty b hbox
        split at h
        · rename_i d hd
          simp only [Option.map_eq_some_iff, Prod.mk.injEq] at h
          obtain ⟨⟨s1, d1⟩, h1, rfl, rfl⟩ := h
          obtain ⟨g1, V1, hr1, hg1, hv1, hfl, hfo⟩ := frzH_ok (idsL b) hr
          have hbox1 : (frzH st.h (idsL b))[id]? = some (.box ty b) := frzH_box (nthH_some hbox (by simp)) (idsL b)
          obtain ⟨V2, hv2, hr2, hq⟩ := hr1.cap hbox1 hd
          rw [setH_eq] at h1
          obtain ⟨g', V', k1, k2, k3, k4, k5⟩ := capAll_ok h1 hr2
          refine ⟨g', V', hg1.trans k1, (hv1.trans hv2).trans k2, k3, by simp [k4], fun j c y q1 q2 => ?_⟩
          cases j with
          | zero =>
            simp at q1 q2
            subst q1; subst q2
            obtain ⟨gh, bk, f1, f2, f3⟩ := hx
            obtain ⟨gh', f4, f5, _⟩ := hg1 id gh f1
            exact ⟨⟨bk, 0, none⟩, f3, (hq gh' bk f4 (f5.trans f2)).mono k2⟩
          | succ j => exact k5 j c y (by simpa using q1) (by simpa using q2)
        · cases h
      · cases h
    · cases h
where
  frzH_box {id ty : Nat} {b : List At} : ∀ {h : List HB}, h[id]? = some (.box ty b) → ∀ (ids : List Nat), (frzH h ids)[id]? = some (.box ty b)
    | h, hh, [] => hh
    | h, hh, i :: ids => by
      simp only [frzH]
      split
      · rename_i t s rows lin e
        refine frzH_box ?_ ids
        have hne : i ≠ id := fun e' => by
          subst e'
          have := nthH_some e (by simp)
          rw [hh] at this; cases this
        rw [setH_eq, List.getElem?_set, if_neg hne]
        exact hh
      · exact frzH_box hh ids

theorem makeFunc_ok {f : Nat} {first caps : Array Operand} (ho : o.op = .makeFunc (.func f) first caps) (hf : first.toList = []) (h : vcMakeFunc E f caps.toList st k) (hr : Rel E.C g V st a w) (hK : Next' E o a k K) : o.wp E.P a w K Q := by
  unfold vcMakeFunc at h
  split at h
  · rename_i st' ds hc
    obtain ⟨g', V', k1, k2, k3, k4, k5⟩ := capAll_ok hc hr
    have e1 : first = #[] := by simpa using hf
    subst e1
    refine wp_value (w' := w) (y := .func (.func f) #[] (caps.toList.map a.eval).toArray) ?_ (hK g' V' st' w (.o (.f f ds)) _ k3 ⟨caps.toList.map a.eval, rfl, by simp [k4], fun j c v q1 q2 => ?_⟩ h)
    · simp only [execOp, ho, Instr.makeFunc]
      simp [← Array.toList_map]
    · rw [List.getElem?_map] at q2
      cases hx : caps.toList[j]? with
      | none => rw [hx] at q2; cases q2
      | some x => rw [hx] at q2; cases q2; exact k5 j c x q1 hx
  · exact h.elim

/-- The operation: what 'vcOp' says is so. -/
theorem vcOp_ok (hT : TyOK E.P E.T) (hE : ∀ t, E.eqk t ≠ [] → EqT E.P t (E.eqk t)) (h : vcOp E o.op st k) (hr : Rel E.C g V st a w) (hK : Next' E o a k K) : o.wp E.P a w K Q := by
  cases ho : o.op with
  | move x =>
    rw [ho] at h
    exact wp_value (w' := w) (by simp [execOp, ho]) (hK g V st w _ _ hr (ev_ok hr.sl x) h)
  | assign x =>
    rw [ho] at h
    exact wp_value (w' := w) (by simp [execOp, ho]) (hK g V st w _ _ hr (ev_ok hr.sl x) h)
  | pick c x y =>
    rw [ho] at h
    simp only [vcOp] at h
    unfold vcPick at h
    split at h
    · rename_i b e
      have hc := ev_ok hr.sl c
      rw [e] at hc
      obtain ⟨hc, _⟩ := cSV_scalar hc
      cases b with
      | true => exact wp_value (w' := w) (by simp [execOp, ho, hc, asBool]) (hK g V st w _ _ hr (ev_ok hr.sl x) (h.1 rfl))
      | false => exact wp_value (w' := w) (by simp [execOp, ho, hc, asBool]) (hK g V st w _ _ hr (ev_ok hr.sl y) (h.2 rfl))
    · exact h.elim
  | alloc t =>
    rw [ho] at h
    simp only [vcOp] at h
    obtain ⟨ht, hk⟩ := h
    obtain ⟨i, z, u, hg⟩ := hT.good ht
    obtain ⟨g', hr', hs⟩ := hr.newBox t (zeroAre_c hg.zc g V)
    rw [Array.toArray_toList] at hr'
    exact wp_value (w' := w.alloc (.cells z.cells t)) (y := .pointer (some ⟨w.heap.size, 0, none⟩)) (by simp [execOp, ho, Instr.alloc, hg.run_zero w, newVar, newRow]) (hK g' V _ _ _ _ hr' hs hk)
  | box t x =>
    rw [ho] at h
    simp only [vcOp] at h
    obtain ⟨hb, hk⟩ := h
    obtain ⟨g', hr', hs⟩ := hr.newBox t (cSV_cells (ev_ok hr.sl x) hb)
    rw [Array.toArray_toList] at hr'
    exact wp_value (w' := w.alloc (.cells (a.eval x).cells t)) (y := .pointer (some ⟨w.heap.size, 0, none⟩)) (by simp [execOp, ho, Instr.box, newVar, newRow]) (hK g' V _ _ _ _ hr' hs hk)
  | load t x => rw [ho] at h; exact load_ok hT ho h hr hK
  | store t x v =>
    rw [ho] at h
    simp only [vcOp] at h
    split at h
    · rename_i id sz i fo e; exact storeRow_ok hT ho e h hr hK
    · rename_i id sz i fo e; exact storeOwn_ok hT ho e h hr hK
    · exact store_ok hT ho h hr hK
  | fieldAddr t x f => rw [ho] at h; exact fieldAddr_ok hT ho h hr hK
  | field t x f => rw [ho] at h; exact field_ok hT ho h hr hK
  | indexAddr t x i => rw [ho] at h; exact indexAddr_ok hT ho h hr hK
  | index t x i => rw [ho] at h; exact index_ok hT ho h hr hK
  | binOp op t x y ty => rw [ho] at h; exact bin_ok hT hE ho h hr hK
  | unOp op t x => rw [ho] at h; exact un_ok ho h hr hK
  | convert s d x =>
    rw [ho] at h
    simp only [vcOp] at h
    split at h
    · rename_i kd n e
      exact conv_ok hT ho (by rw [e]; exact h) hr hK
    · exact convS_ok hT ho h hr hK
  | slice t x lo hi mx => rw [ho] at h; exact slice_ok hT ho h hr hK
  | extract x i => rw [ho] at h; exact extract_ok ho h hr hK
  | build t parts => rw [ho] at h; exact build_ok hT ho h hr hK
  | buildSlice t len parts => rw [ho] at h; exact buildSlice_ok hT ho h hr hK
  | makeSlice t l c => rw [ho] at h; exact make_ok hT ho h hr hK
  | makeFunc fn first caps =>
    rw [ho] at h
    simp only [vcOp] at h
    split at h
    · rename_i f
      exact makeFunc_ok ho h.1 h.2 hr hK
    · exact h.elim
  | call c =>
    rw [ho] at h
    cases hc : c.callee with
    | value f => exact call_ok ho hc h hr hK
    | invoke r m => simp [vcOp, vcCall, hc] at h
    | builtin b =>
      cases b with
      | len =>
        simp only [vcOp, vcCall, hc] at h
        split at h
        · rename_i x t e1 e2
          exact len_ok hT ho hc e1 e2 h hr hK
        · exact h.elim
      | append =>
        simp only [vcOp, vcCall, hc] at h
        split at h
        · rename_i s x t t' e1 e2
          obtain ⟨rfl, h⟩ := h
          exact append_ok hT ho hc e1 e2 h hr hK
        · exact h.elim
      | _ => simp [vcOp, vcCall, hc] at h
  | _ => rw [ho] at h; exact h.elim
end
end Go.Sx
