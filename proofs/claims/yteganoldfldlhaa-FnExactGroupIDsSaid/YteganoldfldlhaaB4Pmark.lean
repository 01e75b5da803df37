/-
  Calls that write into owned trees.
-/
import Derived.Test.YteganoldfldlhaaB4Own
set_option linter.all false
namespace Go.Sx
open Go Go.RowKit

/-- The same slot values; owned entries' rows may have turned, in the blocks X alone. -/
theorem Rel.turn {C : Ctx} {g : List Gh} {V : View} {st : St} {a : Act} {w w' : World} (hr : Rel C g V st a w) {X : List Nat} (ht : Turned X w w') {h' : List HB} (hlen : h'.length = st.h.length)
    (hX : ∀ n ∈ X, V n = none ∧ (C.w0.heap.size ≤ n ∨ n ∈ C.X))
    (hh : ∀ (i : Nat) (b' : HB) (x : Gh), h'[i]? = some b' → g[i]? = some x → (st.h[i]? = some b' ∧ ∀ n ∈ ownB x b', n ∉ X) ∨ (∃ tag sz rows rows', st.h[i]? = some (.own tag sz rows) ∧ b' = .own tag sz rows' ∧ OwnR w' sz rows' x.val x.tr x.hd)) :
    Rel C g V ⟨st.t, h'⟩ a w' := by
  have hold : ∀ (i : Nat) (b' : HB) (x : Gh), h'[i]? = some b' → g[i]? = some x → ∃ b, st.h[i]? = some b ∧ ownB x b' = ownB x b ∧ rootB x b' = rootB x b := fun i b' x h1 h2 => by
    rcases hh i b' x h1 h2 with ⟨e, _⟩ | ⟨tag, sz, rows, rows', e, rfl, _⟩
    · exact ⟨b', e, rfl, rfl⟩
    · exact ⟨_, e, rfl, rfl⟩
  refine ⟨hr.sl, ⟨by rw [hr.hp.glen, hlen], ?_, ?_, ?_, ?_, ?_⟩, ?_, ?_, ?_⟩
  · intro i b' x h1 h2
    rcases hh i b' x h1 h2 with ⟨e, hn⟩ | ⟨tag, sz, rows, rows', e, rfl, hO⟩
    · exact (hr.hp.hb i b' x e h2).mono (GLe.refl g) (View.le.refl V) fun n hn' => ht.block n (hr.hp.lo i b' x e h2 n (rootB_own hn')).2 (hn n (rootB_own hn'))
    · exact ⟨(hr.hp.hb i _ x e h2).1, hO⟩
  · intro i b' x h1 h2
    obtain ⟨b, e, e1, _⟩ := hold i b' x h1 h2
    rw [e1]; exact hr.hp.nd i b x e h2
  · intro i j b1 b2 x1 x2 hij h1 h2 h3 h4 n hn
    obtain ⟨b, e, e1, _⟩ := hold i b1 x1 h1 h2
    obtain ⟨c, f, f1, _⟩ := hold j b2 x2 h3 h4
    rw [e1] at hn; rw [f1]
    exact hr.hp.dj i j b c x1 x2 hij e h2 f h4 n hn
  · intro i b' x h1 h2 n hn
    obtain ⟨b, e, e1, _⟩ := hold i b' x h1 h2
    rw [e1] at hn
    exact ⟨(hr.hp.lo i b x e h2 n hn).1, Nat.lt_of_lt_of_le (hr.hp.lo i b x e h2 n hn).2 ht.size⟩
  · intro i b' x h1 h2 n hn
    obtain ⟨b, e, _, e2⟩ := hold i b' x h1 h2
    rw [e2] at hn
    exact hr.hp.rt i b x e h2 n hn
  · intro b cs hb
    obtain ⟨c, ty, fz, e1, e2⟩ := hr.mod b cs hb
    exact ⟨c, ty, fz, by rw [ht.block b (hr.mod.lt hb) fun hx => by rw [(hX b hx).1] at hb; cases hb]; exact e1, e2⟩
  · exact ⟨ht.os.trans hr.fr.os, ht.tape.trans hr.fr.tape, ht.output.trans hr.fr.output, Nat.le_trans hr.fr.size ht.size, fun k hk hkX => by
      rw [ht.block k (Nat.lt_of_lt_of_le hk hr.fr.size) fun hx => by
        rcases (hX k hx).2 with h | h
        · omega
        · exact hkX h]
      exact hr.fr.block k hk hkX⟩
  · exact hr.vw.move fun b cs hb => ht.block b (hr.mod.lt hb) fun hx => by rw [(hX b hx).1] at hb; cases hb

/-! ### A whole tree -/

def mrkOK (h : List HB) : List At → List At → List At → Prop
  | [], [], [] => True
  | .d (.v x) :: as, .d (.v y) :: cs, _ :: outs => x = y ∧ mrkOK h as cs outs
  | .s id :: as, .w _ sz rows :: cs, .w _ sz' _ :: outs => (match nthH h id with
    | .own _ sz0 r => sz0 = sz ∧ sz0 = sz' ∧ r = rows
    | _ => False) ∧ memN id (idsL as) = false ∧ mrkOK h as cs outs
  | _, _, _ => False
def markH : List HB → List At → List At → List HB
  | h, .s id :: as, .w _ _ rows' :: outs => match nthH h id with
    | .own tag sz _ => markH (setH h id (.own tag sz rows')) as outs
    | _ => markH h as outs
  | h, _ :: as, _ :: outs => markH h as outs
  | h, _, _ => h
theorem markH_len : ∀ (h : List HB) (as outs : List At), (markH h as outs).length = h.length
  | h, [], outs => by cases outs <;> rfl
  | h, a :: as, [] => by cases a <;> rfl
  | h, a :: as, o :: outs => by
    cases a with
    | s id => cases o with
      | w t s r =>
        simp only [markH]
        split
        · rw [markH_len, setH_eq, List.length_set]
        · exact markH_len h as outs
      | _ => exact markH_len h as outs
    | _ => exact markH_len h as outs

theorem mrk_oL {C : Ctx} {g : List Gh} {V : View} {w : World} {h : List HB} (hp : Hp C g V h w) : ∀ {as cs outs : List At} {l : List Value}, mrkOK h as cs outs → cL g V as l →
    ∃ Ps, oL w cs l Ps ∧ (trs Ps).Nodup ∧ (∀ n ∈ trs Ps, ∃ id ∈ idsL as, ∃ (x : Gh) (b : HB), h[id]? = some b ∧ g[id]? = some x ∧ n ∈ ownB x b ∧ n ∈ rootB x b) ∧
      ∀ (k id : Nat), as[k]? = some (.s id) → ∃ (tag : Option (Value × List Nat × List Value)) (sz ty : Nat) (rows rows' : List (List D)) (x : Gh), h[id]? = some (.own tag sz rows) ∧ g[id]? = some x ∧ outs[k]? = some (.w ty sz rows') ∧ l[k]? = some x.val ∧ Ps[k]? = some (x.tr, x.hd)
  | [], [], [], l, _, hc => by
    have := hc.nil_inv; subst this
    exact ⟨[], ⟨rfl, rfl, fun k a y p e => by simp at e⟩, by simp [trs], fun n hn => by simp [trs] at hn, fun k id hid => by simp at hid⟩
  | a :: as, c :: cs, o :: outs, l, hm, hc => by
    obtain ⟨y, l', rfl, hy, hl⟩ := hc.cons_inv
    cases a with
    | d dx => cases dx with
      | v x => cases c with
        | d dz => cases dz with
          | v z =>
            obtain ⟨rfl, hm'⟩ := hm
            obtain ⟨Ps, h1, h2, h3, h4⟩ := mrk_oL hp hm' hl
            obtain ⟨S, hS⟩ := hy
            cases hS with
            | v _ hsc =>
            refine ⟨([], []) :: Ps, ⟨by simp [h1.1], by simp [h1.2.1], fun k a' y' p' e1 e2 e3 => ?_⟩, by simpa [trs] using h2, fun n hn => ?_, fun k id hid => ?_⟩
            · cases k with
              | zero => simp at e1 e2 e3; subst e1; subst e2; subst e3; exact ⟨rfl, hsc, rfl⟩
              | succ k => exact h1.2.2 k a' y' p' (by simpa using e1) (by simpa using e2) (by simpa using e3)
            · exact h3 n (by simpa [trs] using hn)
            · cases k with
              | zero => simp at hid
              | succ k =>
                obtain ⟨tag, sz, ty, rows, rows', gx, q1, q2, q3, q4, q5⟩ := h4 k id (by simpa using hid)
                exact ⟨tag, sz, ty, rows, rows', gx, q1, q2, by simpa using q3, by simpa using q4, by simpa using q5⟩
          | sl r => simp [mrkOK] at hm
        | _ => simp [mrkOK] at hm
      | sl r => simp [mrkOK] at hm
    | s id => cases c with
      | w ty0 sz rows => cases o with
        | w ty1 sz' rows' =>
          obtain ⟨hid, hmem, hm'⟩ := hm
          split at hid
          · rename_i tag sz0 r e
            obtain ⟨rfl, rfl, rfl⟩ := hid
            have hi := nthH_some e (by simp)
            obtain ⟨gx, hg, hv, _⟩ := hy
            obtain ⟨htag, hO⟩ := hp.hb id _ gx hi hg
            have hnd : gx.tr.Nodup := hp.nd id _ gx hi hg
            obtain ⟨Ps, h1, h2, h3, h4⟩ := mrk_oL hp hm' hl
            have hni : id ∉ idsL as := fun hm => by have := (memN_iff id (idsL as)).2 hm; rw [hmem] at this; cases this
            refine ⟨(gx.tr, gx.hd) :: Ps, ⟨by simp [h1.1], by simp [h1.2.1], fun k a' y' p' e1 e2 e3 => ?_⟩, ?_, fun n hn => ?_, fun k id' hid' => ?_⟩
            · cases k with
              | zero => simp at e1 e2 e3; subst e1; subst e2; subst e3; rw [hv]; exact hO
              | succ k => exact h1.2.2 k a' y' p' (by simpa using e1) (by simpa using e2) (by simpa using e3)
            · simp only [trs, List.map_cons, List.flatten_cons]
              refine List.nodup_append.2 ⟨hnd, h2, fun b hb c hc' => ?_⟩
              rintro rfl
              obtain ⟨id2, hid2, x2, b2, f1, f2, f3, _⟩ := h3 b hc'
              exact hp.dj id id2 _ b2 gx x2 (fun e => hni (e ▸ hid2)) hi hg f1 f2 b hb f3
            · simp only [trs, List.map_cons, List.flatten_cons, List.mem_append] at hn
              rcases hn with hn | hn
              · exact ⟨id, by simp [idsL], gx, _, hi, hg, hn, hn⟩
              · obtain ⟨id2, hid2, r⟩ := h3 n hn
                exact ⟨id2, by simp [idsL, hid2], r⟩
            · cases k with
              | zero =>
                simp at hid'
                subst hid'
                exact ⟨tag, _, ty1, _, rows', gx, hi, hg, rfl, by simp [hv], rfl⟩
              | succ k =>
                obtain ⟨tag, sz, ty, rows, rows', gx', q1, q2, q3, q4, q5⟩ := h4 k id' (by simpa using hid')
                exact ⟨tag, sz, ty, rows, rows', gx', q1, q2, by simpa using q3, by simpa using q4, by simpa using q5⟩
          · exact hid.elim
        | _ => simp [mrkOK] at hm
      | _ => simp [mrkOK] at hm
    | _ => simp [mrkOK] at hm
  | [], _ :: _, _, _, hm, _ => by simp [mrkOK] at hm
  | [], [], _ :: _, _, hm, _ => by simp [mrkOK] at hm
  | a :: as, [], _, _, hm, _ => by cases a with
    | d x => cases x <;> simp [mrkOK] at hm
    | _ => simp [mrkOK] at hm
  | a :: as, c :: cs, [], _, hm, _ => by cases a with
    | d x => cases x with
      | v x => cases c with
        | d z => cases z <;> simp [mrkOK] at hm
        | _ => simp [mrkOK] at hm
      | sl r => simp [mrkOK] at hm
    | s id => cases c <;> simp [mrkOK] at hm
    | _ => simp [mrkOK] at hm

theorem markH_get : ∀ {as cs outs : List At} {h0 h : List HB}, mrkOK h0 as cs outs → (∀ id ∈ idsL as, h[id]? = h0[id]?) → ∀ (i : Nat) (b' : HB), (markH h as outs)[i]? = some b' →
    (h[i]? = some b' ∧ i ∉ idsL as) ∨ (i ∈ idsL as ∧ ∃ (k ty sz : Nat) (tag : Option (Value × List Nat × List Value)) (rows rows' : List (List D)), as[k]? = some (.s i) ∧ outs[k]? = some (.w ty sz rows') ∧ h[i]? = some (.own tag sz rows) ∧ b' = .own tag sz rows')
  | [], cs, outs, h0, h, hm, _, i, b', hb => by
    have : markH h [] outs = h := by cases outs <;> rfl
    rw [this] at hb
    exact .inl ⟨hb, by simp [idsL]⟩
  | a :: as, [], outs, h0, h, hm, _, i, b', hb => by cases a with
    | d x => cases x <;> simp [mrkOK] at hm
    | _ => simp [mrkOK] at hm
  | a :: as, c :: cs, [], h0, h, hm, _, i, b', hb => by cases a with
    | d x => cases x with
      | v x => cases c with
        | d z => cases z <;> simp [mrkOK] at hm
        | _ => simp [mrkOK] at hm
      | sl r => simp [mrkOK] at hm
    | s id => cases c <;> simp [mrkOK] at hm
    | _ => simp [mrkOK] at hm
  | a :: as, c :: cs, o :: outs, h0, h, hm, heq, i, b', hb => by
    cases a with
    | d dx => cases dx with
      | v x => cases c with
        | d dz => cases dz with
          | v z =>
            have hb' : (markH h as outs)[i]? = some b' := by cases o <;> exact hb
            rcases markH_get hm.2 heq i b' hb' with h1 | ⟨h1, k, ty, sz, tag, rows, rows', q1, q2, q3, q4⟩
            · exact .inl h1
            · exact .inr ⟨h1, k + 1, ty, sz, tag, rows, rows', by simpa using q1, by simpa using q2, q3, q4⟩
          | sl r => simp [mrkOK] at hm
        | _ => simp [mrkOK] at hm
      | sl r => simp [mrkOK] at hm
    | s id => cases c with
      | w ty0 sz rows => cases o with
        | w ty1 sz' rows' =>
          obtain ⟨hid, hmem, hm'⟩ := hm
          split at hid
          · rename_i tag sz0 r e
            obtain ⟨rfl, rfl, rfl⟩ := hid
            have hi0 := nthH_some e (by simp)
            have hi : h[id]? = some (.own tag sz0 r) := by rw [heq id (by simp [idsL])]; exact hi0
            have hnth : nthH h id = .own tag sz0 r := by rw [nthH_eq, List.getD_eq_getElem?_getD, hi]; rfl
            have hni : id ∉ idsL as := fun hm => by have := (memN_iff id (idsL as)).2 hm; rw [hmem] at this; cases this
            simp only [markH, hnth] at hb
            have hlt : id < h.length := (List.getElem?_eq_some_iff.1 hi).1
            rcases markH_get (h := setH h id (.own tag sz0 rows')) hm' (fun j hj => by
              have hne : id ≠ j := fun e => hni (by rw [e]; exact hj)
              rw [setH_eq, List.getElem?_set, if_neg hne]
              exact heq j (by simp [idsL, hj])) i b' hb with ⟨h1, h2⟩ | ⟨h1, k, ty, sz, tag', rows1, rows1', q1, q2, q3, q4⟩
            · rw [setH_eq, List.getElem?_set] at h1
              by_cases hii : id = i
              · subst hii
                rw [if_pos rfl, if_pos hlt] at h1
                cases h1
                exact .inr ⟨by simp [idsL], 0, ty1, sz0, tag, r, rows', rfl, rfl, hi, rfl⟩
              · rw [if_neg hii] at h1
                exact .inl ⟨h1, fun hm => by
                  simp only [idsL, List.mem_cons] at hm
                  rcases hm with hm | hm
                  · exact hii hm.symm
                  · exact h2 hm⟩
            · have hne : id ≠ i := fun e => hni (e ▸ h1)
              rw [setH_eq, List.getElem?_set, if_neg hne] at q3
              exact .inr ⟨by simp [idsL, h1], k + 1, ty, sz, tag', rows1, rows1', by simpa using q1, by simpa using q2, q3, q4⟩
          · exact hid.elim
        | _ => simp [mrkOK] at hm
      | _ => simp [mrkOK] at hm
    | _ => simp [mrkOK] at hm

def cellsM (b : Bool) : SV → Option (List At)
  | .o x => if b then none else some [x]
  | .g cs => if b then some cs else none
  | _ => none

/-- A call that writes into owned trees. -/
theorem CallS.mark {E : Env} {f : Nat} {b : Bool} {cs outs as : List At} {n res : Int} {a0 : SV} {st : St} {K : St → SV → Prop} (h : FnM E.P f b cs outs n res) (ha : cellsM b a0 = some as) (hm : mrkOK st.h as cs outs)
    (k : K ⟨st.t, markH st.h as outs⟩ (oi res)) : CallS E f [a0, oi n] st K := by
  refine ⟨h.enters, fun g V a w vs hr hlen hargs => ?_⟩
  obtain ⟨v0, v1, rfl⟩ : ∃ v0 v1, vs = [v0, v1] := by
    match vs, hlen with
    | [v0, v1], _ => exact ⟨v0, v1, rfl⟩
  have h0 := hargs 0 a0 v0 rfl rfl
  have h1 := hargs 1 (oi n) v1 rfl rfl
  obtain ⟨h1, _⟩ := cSV_scalar h1
  subst h1
  obtain ⟨l, hl, hc⟩ : ∃ l, v0 = argV b l ∧ cL g V as l := by
    cases a0 with
    | o x =>
      cases b with
      | true => simp [cellsM] at ha
      | false => simp [cellsM] at ha; subst ha; exact ⟨[v0], rfl, cL.cons h0 (cL.nil g V)⟩
    | g cs' =>
      cases b with
      | true => simp [cellsM] at ha; subst ha; obtain ⟨l, hl, hc⟩ := h0; exact ⟨l, hl, hc⟩
      | false => simp [cellsM] at ha
    | t l => simp [cellsM] at ha
  obtain ⟨Ps, p1, p2, p3, p4⟩ := mrk_oL hr.hp hm hc
  subst hl
  refine (h.calls w l Ps p1 p2 (fun n hn => by obtain ⟨id, _, x, b', e1, e2, e3, _⟩ := p3 n hn; exact (hr.hp.lo id b' x e1 e2 n e3).2)).mono ?_
  rintro e w' ⟨rfl, ht, ho⟩
  refine ⟨_, g, V, _, _, rfl, hr.turn ht (markH_len _ _ _) (fun n hn => ?_) (fun i b' x e1 e2 => ?_), scalar_ok g V _ rfl, k⟩
  · obtain ⟨id, _, x, b', e1, e2, e3, e4⟩ := p3 n hn
    exact ⟨hr.hp.rt id b' x e1 e2 n e4, (hr.hp.lo id b' x e1 e2 n e3).1⟩
  · rcases markH_get hm (fun _ _ => rfl) i b' e1 with ⟨q1, q2⟩ | ⟨q1, _⟩
    · refine .inl ⟨q1, fun n hn hX => ?_⟩
      obtain ⟨id, hid, x2, b2, f1, f2, f3, _⟩ := p3 n hX
      exact hr.hp.dj i id b' b2 x x2 (fun e => q2 (e ▸ hid)) q1 e2 f1 f2 n hn f3
    · rcases markH_get hm (fun _ _ => rfl) i b' e1 with ⟨_, q2⟩ | ⟨_, kk, ty, sz, tag, rows, rows', r1, r2, r3, r4⟩
      · exact (q2 q1).elim
      · right
        obtain ⟨tag2, sz2, ty2, rows2, rows2', x2, s1, s2, s3, s4, s5⟩ := p4 kk i r1
        rw [e2] at s2; cases s2
        rw [r3] at s1; cases s1
        have s6 := s3
        rw [r2] at s6; cases s6
        exact ⟨tag, sz, rows, rows', r3, r4, ho.2.2 kk _ _ _ s3 s4 s5⟩

def isG : SV → Option Bool
  | .o _ => some false
  | .g _ => some true
  | .t _ => none
theorem cellsM_of {b : Bool} {a0 : SV} (h : isG a0 = some b) : cellsM b a0 = some a0.cells := by
  cases a0 <;> cases b <;> simp_all [isG, cellsM, SV.cells]

/-! ### A part of a tree -/

theorem Lay.sl_sz {V : View} {rows : List (List D)} {y : Value} {S : List Nat} (h : Lay V (.sl rows) y S) : y = .slice none 0 0 → S = [] := by
  intro e
  cases h with
  | nil => rfl
  | sl => cases e

theorem OwnR.of_lay {w : World} {U : View} {sz : Nat} {rows : List (List D)} {y : Value} {S : List Nat} (h : Lay U (.sl rows) y S) (hm : Mod U w) (hu : ∀ b ∈ S, ∀ cs, U b = some cs → Unf w b) (h0 : ∀ r ∈ rows, r.length = sz) : ∃ hd, OwnR w sz rows y S hd := by
  let U1 : View := fun n => if n ∈ S then U n else none
  have hU1 : ∀ n, n ∈ S → U1 n = U n := fun n hn => by simp [U1, hn]
  have hL : Lay U1 (.sl rows) y S := h.restrict fun b hb cs hcs => ⟨cs, by rw [hU1 b hb]; exact hcs, List.prefix_refl _⟩
  have hm1 : Mod U1 w := fun b cs hb => by
    simp only [U1] at hb
    split at hb
    · exact hm b cs hb
    · cases hb
  have hu1 : ∀ b cs, U1 b = some cs → b ∈ S ∧ Unf w b := fun b cs hb => by
    simp only [U1] at hb
    split at hb
    · exact ⟨‹_›, hu b ‹_› cs hb⟩
    · cases hb
  have hS := hL.sl_sz
  rcases lay_sl_inv hL with ⟨e, rfl⟩ | ⟨ad, cap, sz', ys, Ss, e, _, e1, e2, e3, e4, e5⟩
  · exact ⟨[], h0, U1, [], [], hm1, hu1, LayL.nil _, fun k rs q => by simp at q, .inl ⟨e, rfl, hS e⟩⟩
  · exact ⟨ys, h0, U1, ys, Ss, hm1, hu1, e3, fun k rs _ => rfl, .inr ⟨ad, cap, e, e1, e2, e4, e5⟩⟩

/-- The slice in one cell of a tree is a tree, and what is written into it is written into the whole. -/
theorem OwnR.part {w : World} {sz : Nat} {rows : List (List D)} {y : Value} {S : List Nat} {hd : List Value} (h : OwnR w sz rows y S hd) (hnd : S.Nodup)
    {i fo sz' : Nat} {sub : List (List D)} (hi : i < rows.length) (hf : (rwAt rows i)[fo]? = some (.sl sub)) (hs : ∀ r ∈ sub, r.length = sz') :
    ∃ (z : Value) (Sp : List Nat) (hd' : List Value), hd[i * sz + fo]? = some z ∧ (∀ n ∈ Sp, n ∈ S) ∧ Sp.Nodup ∧ OwnR w sz' sub z Sp hd' ∧
      ∀ w' sub', (∀ k ∈ S, k ∉ Sp → w'.heap[k]? = w.heap[k]?) → OwnR w' sz' sub' z Sp hd' → OwnR w' sz (rows.set i ((rwAt rows i).set fo (.sl sub'))) y S hd := by
  obtain ⟨h0, U, ys, Ss, h1, h2, h3, h4, h5⟩ := h
  rw [rwAt_get rows hi] at hf ⊢
  have hflat := flatten_row h0 hi hf
  have hfo : fo < sz := by rw [← h0 _ (List.getElem_mem hi)]; exact (List.getElem?_eq_some_iff.1 hf).1
  have hpl : i * sz + fo < rows.flatten.length := (List.getElem?_eq_some_iff.1 hflat).1
  have hlt : i * sz + fo < ys.length := by rw [h3.1]; exact hpl
  have hlt2 : i * sz + fo < Ss.length := by rw [h3.2.1]; exact hpl
  have hfs : ∀ d, (rows.set i (rows[i].set fo d)).flatten = rows.flatten.set (i * sz + fo) d := fun d => flatten_set d hfo h0 hi
  generalize hp : i * sz + fo = p at *
  have hz : ys[p]? = some ys[p] := List.getElem?_eq_getElem hlt
  have hzS : Ss[p]? = some Ss[p] := List.getElem?_eq_getElem hlt2
  have hLp := h3.2.2 p _ _ _ hflat hz hzS
  rcases h5 with ⟨_, rfl, _⟩ | ⟨a, cap, e, hcap, hmax, hc, hS⟩
  · simp at hi
  · have hne : rows.isEmpty = false := by cases rows <;> simp_all
    rw [hne] at hS
    simp only [Bool.false_eq_true, if_false, List.singleton_append] at hS
    have hnd' := hnd
    rw [hS] at hnd'
    have hbn : a.block ∉ Ss.flatten := (List.nodup_cons.1 hnd').1
    have hSsnd := (List.nodup_cons.1 hnd').2
    have hsub : ∀ n ∈ Ss[p], n ∈ S := fun n hn => by
      rw [hS]; exact List.mem_cons_of_mem _ (List.mem_flatten.2 ⟨_, List.mem_of_getElem? hzS, hn⟩)
    have hspl : Ss = Ss.take p ++ Ss[p] :: Ss.drop (p + 1) := by
      rw [← List.drop_eq_getElem_cons hlt2, List.take_append_drop]
    have hfl : Ss.flatten = (Ss.take p).flatten ++ (Ss[p] ++ (Ss.drop (p + 1)).flatten) := by
      have := congrArg List.flatten hspl
      rw [List.flatten_append, List.flatten_cons] at this
      exact this
    have hndp : Ss[p].Nodup := by
      rw [hfl] at hSsnd
      exact (List.nodup_append.1 (List.nodup_append.1 hSsnd).2.1).1
    have hdis : ∀ (k : Nat) (T : List Nat), k ≠ p → Ss[k]? = some T → ∀ n ∈ T, n ∉ Ss[p] := fun k T hk hT n hn hn' => by
      rw [hfl] at hSsnd
      obtain ⟨_, q2, q3⟩ := List.nodup_append.1 hSsnd
      rcases Nat.lt_or_ge k p with hl | hl
      · exact q3 n (List.mem_flatten.2 ⟨T, List.mem_of_getElem? (by rw [List.getElem?_take, if_pos hl]; exact hT), hn⟩) n (List.mem_append.2 (.inl hn')) rfl
      · have hl' : p + 1 ≤ k := by omega
        exact (List.nodup_append.1 q2).2.2 n hn' n (List.mem_flatten.2 ⟨T, List.mem_of_getElem? (i := k - (p + 1)) (by rw [List.getElem?_drop, show p + 1 + (k - (p + 1)) = k by omega]; exact hT), hn⟩) rfl
    obtain ⟨hd', hO⟩ := OwnR.of_lay (sz := sz') hLp h1 (fun b _ cs hcs => (h2 b cs hcs).2) hs
    refine ⟨ys[p], Ss[p], hd', (h4 p _ hflat).trans hz, hsub, hndp, hO, fun w' sub' hw' hO' => ?_⟩
    obtain ⟨U2, m1, m2, m3⟩ := own_lay hO'
    let U' : View := fun n => if n ∈ Ss[p] then U2 n else U n
    have hin : ∀ n, n ∈ Ss[p] → U' n = U2 n := fun n hn => by simp [U', hn]
    have hout : ∀ n, n ∉ Ss[p] → U' n = U n := fun n hn => by simp [U', hn]
    have hbp : a.block ∉ Ss[p] := fun hb => hbn (List.mem_flatten.2 ⟨_, List.mem_of_getElem? hzS, hb⟩)
    refine ⟨fun r hr => ?_, U', ys, Ss, fun n cs hn => ?_, fun n cs hn => ?_, ⟨by rw [hfs, List.length_set]; exact h3.1, by rw [hfs, List.length_set]; exact h3.2.1, fun k d z T q1 q2 q3 => ?_⟩, fun k rs q => ?_, .inr ⟨a, cap, by simpa using e, by simpa using hcap, hmax, fun k z hk => ?_, ?_⟩⟩
    · rcases List.mem_or_eq_of_mem_set hr with hr | hr
      · exact h0 r hr
      · rw [hr, List.length_set]; exact h0 _ (List.getElem_mem hi)
    · by_cases hb : n ∈ Ss[p]
      · rw [hin n hb] at hn; exact m1 n cs hn
      · rw [hout n hb] at hn
        obtain ⟨c, ty, fz, g1, g2⟩ := h1 n cs hn
        exact ⟨c, ty, fz, by rw [hw' n (h2 n cs hn).1 hb]; exact g1, g2⟩
    · by_cases hb : n ∈ Ss[p]
      · rw [hin n hb] at hn; exact ⟨hsub n hb, (m2 n cs hn).2⟩
      · rw [hout n hb] at hn
        obtain ⟨g0, c, ty, g1⟩ := h2 n cs hn
        exact ⟨g0, c, ty, by rw [hw' n g0 hb]; exact g1⟩
    · rw [hfs, List.getElem?_set] at q1
      by_cases hk : p = k
      · subst hk
        rw [if_pos rfl, if_pos hpl] at q1
        cases q1
        rw [hz] at q2; cases q2
        rw [hzS] at q3; cases q3
        exact m3.restrict fun b hb cs hcs => ⟨cs, by rw [hin b hb]; exact hcs, List.prefix_refl _⟩
      · rw [if_neg hk] at q1
        exact (h3.2.2 k d z T q1 q2 q3).restrict fun b hb cs hcs => ⟨cs, by rw [hout b (hdis k T (fun e => hk e.symm) q3 b hb)]; exact hcs, List.prefix_refl _⟩
    · rw [hfs, List.getElem?_set] at q
      by_cases hk : p = k
      · subst hk; exact h4 p _ hflat
      · rw [if_neg hk] at q; exact h4 k rs q
    · obtain ⟨s1, cs1, s2, s3⟩ := View.cell_some (hc k z hk)
      rw [add_block] at s2
      simp only [View.cell, s1, Option.isSome_none, Bool.false_eq_true, if_false, add_block]
      rw [hout _ hbp, s2]
      exact s3
    · have hne2 : (rows.set i (rows[i].set fo (.sl sub'))).isEmpty = false := by
        rw [List.isEmpty_eq_false_iff]
        intro hh
        have := congrArg List.length hh
        rw [List.length_set] at this
        simp at this
        subst this
        simp at hi
      rw [hne2]
      simp only [Bool.false_eq_true, if_false, List.singleton_append]
      exact hS

/-- A call that writes into the slice in one cell of an owned tree. -/
theorem CallS.part {E : Env} {f : Nat} {ty0 ty1 sz' : Nat} {sub0 sub1 : List (List D)} {n res : Int} {id sz i fo : Nat} {st : St} {K : St → SV → Prop} (h : FnM E.P f false [.w ty0 sz' sub0] [.w ty1 sz' sub1] n res)
    {tag : Option (Value × List Nat × List Value)} {rows : List (List D)} {r : List D} (hown : nthH st.h id = .own tag sz rows) (hi : i < rows.length) (hf : sub (rwAt rows i) fo 1 = some [.sl sub0]) (hsp : splice (rwAt rows i) fo [.sl sub1] = some r) (hs : uni sz' sub0)
    (k : K ⟨st.t, setH st.h id (.own tag sz (rows.set i r))⟩ (oi res)) : CallS E f [.o (.n id sz i fo), oi n] st K := by
  refine ⟨h.enters, fun g V a w vs hr hlen hargs => ?_⟩
  obtain ⟨v0, v1, rfl⟩ : ∃ v0 v1, vs = [v0, v1] := by
    match vs, hlen with
    | [v0, v1], _ => exact ⟨v0, v1, rfl⟩
  have h0 := hargs 0 _ v0 rfl rfl
  have h1 := hargs 1 (oi n) v1 rfl rfl
  obtain ⟨h1, _⟩ := cSV_scalar h1
  subst h1
  obtain ⟨gh, hg, hv, _⟩ := h0
  have hi' := nthH_some hown (by simp)
  obtain ⟨htag, hO⟩ := hr.hp.hb id _ gh hi' hg
  have hnd : gh.tr.Nodup := hr.hp.nd id _ gh hi' hg
  obtain ⟨hr', _⟩ := splice_one hsp
  obtain ⟨z, Sp, hd', e1, e2, e3, e4, e5⟩ := hO.part hnd hi (sub_get hf) hs
  rw [hv] at e1; cases e1
  refine (h.calls w [v0] [(Sp, hd')] ⟨rfl, rfl, fun k a y p q1 q2 q3 => ?_⟩ (by simpa [trs] using e3) (fun b hb => (hr.hp.lo id _ gh hi' hg b (e2 b (by simpa [trs] using hb))).2)).mono ?_
  · cases k with
    | zero => simp at q1 q2 q3; subst q1; subst q2; subst q3; exact e4
    | succ k => simp at q1
  rintro e w' ⟨rfl, ht, ho⟩
  have hO1 := ho.2.2 0 _ v0 (Sp, hd') rfl rfl rfl
  have htX : ∀ n, n ∈ trs [(Sp, hd')] ↔ n ∈ Sp := fun n => by simp [trs]
  have hOw := e5 w' sub1 (fun b hb hn => ht.block b (hr.hp.lo id _ gh hi' hg b hb).2 (fun hx => hn ((htX b).1 hx))) hO1
  rw [← hr'] at hOw
  refine ⟨_, g, V, _, _, rfl, hr.turn ht (by rw [setH_eq, List.length_set]) (fun b hb => ?_) (fun j b' x q1 q2 => ?_), scalar_ok g V _ rfl, k⟩
  · have hb' := e2 b ((htX b).1 hb)
    exact ⟨hr.hp.rt id _ gh hi' hg b hb', (hr.hp.lo id _ gh hi' hg b hb').1⟩
  · rw [setH_eq, List.getElem?_set] at q1
    by_cases hj : id = j
    · subst hj
      rw [if_pos rfl, if_pos (List.getElem?_eq_some_iff.1 hi').1] at q1
      cases q1
      rw [hg] at q2; cases q2
      exact .inr ⟨tag, sz, rows, rows.set i r, hi', rfl, hOw⟩
    · rw [if_neg hj] at q1
      refine .inl ⟨q1, fun b hb hX => ?_⟩
      exact hr.hp.dj j id b' _ x gh (fun e => hj e.symm) q1 q2 hi' hg b hb (e2 b ((htX b).1 hX))

def partOK (h : List HB) (id sz i fo sz' : Nat) (sub0 : List (List D)) : Prop :=
  match nthH h id with
  | .own _ sz0 rows => sz0 = sz ∧ i < rows.length ∧ uni sz' sub0 ∧ (match sub (rwAt rows i) fo 1 with
    | some [.sl s] => s = sub0
    | _ => False)
  | _ => False
def partH (h : List HB) (id i fo : Nat) (sub1 : List (List D)) : List HB :=
  match nthH h id with
  | .own tag sz rows => match splice (rwAt rows i) fo [.sl sub1] with
    | some r => setH h id (.own tag sz (rows.set i r))
    | none => h
  | _ => h
theorem splice_ok {α : Type} : ∀ {l : List α} {o : Nat} {x d : α}, l[o]? = some x → ∃ r, splice l o [d] = some r
  | [], _, _, _, h => by simp at h
  | y :: ys, 0, _, d, _ => ⟨d :: ys, by cases ys <;> rfl⟩
  | y :: ys, o + 1, x, d, h => by
    obtain ⟨r, hr⟩ := splice_ok (l := ys) (o := o) (x := x) (d := d) (by simpa using h)
    exact ⟨y :: r, by simp [splice, hr]⟩
theorem CallS.partC {E : Env} {f : Nat} {ty0 ty1 sz' : Nat} {sub0 sub1 : List (List D)} {n res : Int} {id sz i fo : Nat} {st : St} {K : St → SV → Prop} (h : FnM E.P f false [.w ty0 sz' sub0] [.w ty1 sz' sub1] n res)
    (ok : partOK st.h id sz i fo sz' sub0) (k : K ⟨st.t, partH st.h id i fo sub1⟩ (oi res)) : CallS E f [.o (.n id sz i fo), oi n] st K := by
  unfold partOK at ok
  split at ok
  · rename_i tag sz0 rows e
    obtain ⟨rfl, hi, hs, ok⟩ := ok
    split at ok
    · rename_i s es
      subst ok
      obtain ⟨r, hr⟩ := splice_ok (d := (.sl sub1 : D)) (sub_get es)
      refine CallS.part h e hi es hr hs ?_
      simpa [partH, e, hr] using k
    · exact ok.elim
  · exact ok.elim
end Go.Sx
