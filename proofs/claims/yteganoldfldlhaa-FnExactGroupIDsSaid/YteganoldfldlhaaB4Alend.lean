/-
  Owned trees, lent to calls that read.
-/
import Derived.Test.YteganoldfldlhaaB4Loop
set_option linter.all false
namespace Go.Sx
open Go Go.RowKit

/-! ### Owned trees, as data -/

theorem own_lay {w : World} {sz : Nat} {rows : List (List D)} {y : Value} {S : List Nat} {hd : List Value} (h : OwnR w sz rows y S hd) : ∃ U : View, Mod U w ∧ (∀ b cs, U b = some cs → b ∈ S ∧ Unf w b) ∧ Lay U (.sl rows) y S := by
  obtain ⟨h0, U, ys, Ss, h1, h2, h3, h4, h5⟩ := h
  refine ⟨U, h1, h2, ?_⟩
  rcases h5 with ⟨rfl, rfl, rfl⟩ | ⟨a, cap, rfl, e1, e2, e3, rfl⟩
  · exact .nil
  · exact .sl rows a cap sz ys Ss h0 e1 e2 h3.1 h3.2.1 e3 h3.2.2
theorem own_one {w : World} {sz : Nat} {rows : List (List D)} {y : Value} {S : List Nat} {hd : List Value} (h : OwnR w sz rows y S hd) : y.oneCell' = true := by
  obtain ⟨U, _, _, h⟩ := own_lay h
  exact h.oneCell

/-- What the view knows, and all that the world holds besides. -/
def lendV (V : View) (w : World) : View := fun b => match V b with
  | some cs => some cs
  | none => match w.heap[b]? with
    | some (.cells c _ _) => some c.toList
    | _ => none
theorem lendV_le (V : View) (w : World) : V.le (lendV V w) := fun b cs h => ⟨cs, by simp [lendV, h], List.prefix_refl _⟩
theorem lendV_mod {V : View} {w : World} (h : Mod V w) : Mod (lendV V w) w := fun b cs hb => by
  cases hc : V b with
  | some cs' => simp [lendV, hc] at hb; subst hb; exact h b cs' hc
  | none =>
    simp only [lendV, hc] at hb
    split at hb
    · rename_i c ty fz e
      cases hb
      exact ⟨c, ty, fz, e, List.prefix_refl _⟩
    · cases hb
theorem lend_lay {C : Ctx} {g : List Gh} {V : View} {h : List HB} {w : World} (hp : Hp C g V h w) {id : Nat} {tag : Option (Value × List Nat × List Value)} {sz : Nat} {rows : List (List D)} {x : Gh} (hi : h[id]? = some (.own tag sz rows)) (hg : g[id]? = some x) :
    ∃ S, Lay (lendV V w) (.sl rows) x.val S := by
  obtain ⟨_, hO⟩ := hp.hb id _ x hi hg
  obtain ⟨U, h1, h2, h3⟩ := own_lay hO
  refine ⟨_, h3.mono fun b cs hb => ?_⟩
  have hV : V b = none := hp.rt id _ x hi hg b (h2 b cs hb).1
  obtain ⟨c, ty, fz, e1, e2⟩ := h1 b cs hb
  exact ⟨c.toList, by simp [lendV, hV, e1], e2⟩

/-- An argument as data: an owned tree reads as its rows, too. -/
def pureO (h : List HB) : At → At
  | .s id => match nthH h id with
    | .frz rows _ => .d (.sl rows)
    | .own _ _ rows => .d (.sl rows)
    | _ => .u
  | .z => .d (.sl [])
  | a => a
def pureOS (h : List HB) : SV → SV
  | .o a => .o (pureO h a)
  | .g cs => .g (cs.map (pureO h))
  | .t l => .t l
theorem pureO_ok {C : Ctx} {g : List Gh} {V : View} {st : St} {a : Act} {w : World} (hr : Rel C g V st a w) {x : At} {y : Value} (h : cAt g V x y) : cAt g (lendV V w) (pureO st.h x) y := by
  have hm := cAt.mono h (GLe.refl g) (lendV_le V w)
  cases x with
  | s id =>
    simp only [pureO]
    obtain ⟨gh, hg, hv, _⟩ := h
    split
    · rename_i rows lin e
      obtain ⟨_, S, hl, _⟩ := hr.hp.hb id _ gh (nthH_some e (by simp)) hg
      exact ⟨S, by rw [hv]; exact hl.mono (lendV_le V w)⟩
    · rename_i tag sz rows e
      obtain ⟨S, hl⟩ := lend_lay hr.hp (nthH_some e (by simp)) hg
      exact ⟨S, by rw [hv]; exact hl⟩
    · trivial
  | z => have h : y = _ := h; subst h; exact ⟨[], .nil⟩
  | _ => exact hm
theorem pureOS_ok {C : Ctx} {g : List Gh} {V : View} {st : St} {a : Act} {w : World} (hr : Rel C g V st a w) {s : SV} {y : Value} (h : cSV g V s y) : cSV g (lendV V w) (pureOS st.h s) y := by
  cases s with
  | o x => exact pureO_ok hr h
  | g cs =>
    obtain ⟨l, hl, hc⟩ := h
    refine ⟨l, hl, by simp [hc.1], fun k x z h1 h2 => ?_⟩
    rw [List.getElem?_map] at h1
    cases hk : cs[k]? with
    | none => rw [hk] at h1; cases h1
    | some c => rw [hk] at h1; cases h1; exact pureO_ok hr (hc.2 k c z hk h2)
  | t l => exact cSV.mono (s := .t l) h (GLe.refl g) (lendV_le V w)

/-! ### Cells that are scalars or owned -/

def oAt (w : World) : At → Value → List Nat × List Value → Prop
  | .d (.v x), y, p => y = x ∧ scalar x = true ∧ p.1 = []
  | .w _ sz rows, y, p => OwnR w sz rows y p.1 p.2
  | _, _, _ => False
def oL (w : World) (cs : List At) (l : List Value) (Ps : List (List Nat × List Value)) : Prop :=
  l.length = cs.length ∧ Ps.length = cs.length ∧ ∀ (k : Nat) (a : At) (y : Value) (p : List Nat × List Value), cs[k]? = some a → l[k]? = some y → Ps[k]? = some p → oAt w a y p
abbrev trs (Ps : List (List Nat × List Value)) : List Nat := (Ps.map (·.1)).flatten

/-- The blocks of such cells, entered. -/
def adG (tg : Nat → Option (Value × List Nat × List Value)) : Nat → List At → List HB
  | _, [] => []
  | j, .w _ sz rows :: cs => .own (tg j) sz rows :: adG tg (j + 1) cs
  | j, _ :: cs => adG tg j cs
def tagOK (tg : Nat → Option (Value × List Nat × List Value)) : Nat → List At → List Value → List (List Nat × List Value) → Prop
  | j, .w _ _ _ :: cs, y :: l, p :: Ps => (∀ q, tg j = some q → q = (y, p.1, p.2)) ∧ tagOK tg (j + 1) cs l Ps
  | j, _ :: cs, _ :: l, _ :: Ps => tagOK tg j cs l Ps
  | _, _, _, _ => True

theorem adoptO_ok {C : Ctx} {V : View} {a : Act} {w : World} {tg : Nat → Option (Value × List Nat × List Value)} : ∀ {cs : List At} {j : Nat} {st : St} {g : List Gh} {l : List Value} {Ps : List (List Nat × List Value)}, Rel C g V st a w → oL w cs l Ps → (trs Ps).Nodup →
    (∀ b ∈ trs Ps, (C.w0.heap.size ≤ b ∨ b ∈ C.X) ∧ b < w.heap.size ∧ V b = none ∧ ∀ (i : Nat) (hb : HB) (x : Gh), st.h[i]? = some hb → g[i]? = some x → b ∉ ownB x hb) → tagOK tg j cs l Ps →
    ∃ g', Rel C g' V ⟨st.t, st.h ++ adG tg j cs⟩ a w ∧ GLe g g' ∧ cL g' V (adA st.h.length cs) l := by
  intro cs
  induction cs with
  | nil =>
    intro j st g l Ps hr hl hn hb ht
    have : l = [] := List.eq_nil_of_length_eq_zero hl.1
    subst this
    exact ⟨g, by simpa [adG] using hr, GLe.refl g, cL.nil g V⟩
  | cons c cs ih =>
    intro j st g l Ps hr hl hn hb ht
    obtain ⟨hl1, hl2, hl3⟩ := hl
    obtain ⟨y, l', rfl⟩ : ∃ y l', l = y :: l' := by cases l with
      | nil => simp at hl1
      | cons y l' => exact ⟨y, l', rfl⟩
    obtain ⟨p, Ps', rfl⟩ : ∃ p Ps', Ps = p :: Ps' := by cases Ps with
      | nil => simp at hl2
      | cons p Ps' => exact ⟨p, Ps', rfl⟩
    have hy := hl3 0 c y p rfl rfl rfl
    have hl' : oL w cs l' Ps' := ⟨by simpa using hl1, by simpa using hl2, fun k a y p e1 e2 e3 => hl3 (k + 1) a y p (by simpa using e1) (by simpa using e2) (by simpa using e3)⟩
    simp only [trs, List.map_cons, List.flatten_cons] at hn hb
    have hn2 := (List.nodup_append.1 hn).2.1
    cases c with
    | d x => cases x with
      | v x =>
        obtain ⟨rfl, hsc, hp⟩ := hy
        obtain ⟨g', h1, h2, h3⟩ := ih (j := j) hr hl' hn2 (fun b hb' => hb b (List.mem_append.2 (.inr hb'))) (by simpa [tagOK] using ht)
        exact ⟨g', h1, h2, cL.cons ⟨[], .v _ hsc⟩ h3⟩
      | sl r => exact hy.elim
    | w ty sz rows =>
      have hO : OwnR w sz rows y p.1 p.2 := hy
      obtain ⟨ht1, ht2⟩ : (∀ q, tg j = some q → q = (y, p.1, p.2)) ∧ tagOK tg (j + 1) cs l' Ps' := ht
      let x : Gh := ⟨none, y, p.1, p.2⟩
      have hown : ownB x (.own (tg j) sz rows) = p.1 := rfl
      have hok : HBok (g ++ [x]) V w x (.own (tg j) sz rows) := ⟨fun v S hd e => by have := ht1 _ e; cases this; exact ⟨rfl, rfl, rfl⟩, hO⟩
      have hr1 : Rel C (g ++ [x]) V (st.push (.own (tg j) sz rows)) a w := ⟨hr.sl.mono (GLe.push _ _) (View.le.refl V), hr.hp.push hok (by rw [hown]; exact (List.nodup_append.1 hn).1)
        (fun n hn' => by rw [hown] at hn'; exact ⟨(hb n (List.mem_append.2 (.inl hn'))).1, (hb n (List.mem_append.2 (.inl hn'))).2.1⟩)
        (fun i b' x' e1 e2 n hn' hm => by rw [hown] at hm; exact (hb n (List.mem_append.2 (.inl hm))).2.2.2 i b' x' e1 e2 hn')
        (fun n hn' => (hb n (List.mem_append.2 (.inl hn'))).2.2.1), hr.mod, hr.fr, hr.vw⟩
      obtain ⟨g', h1, h2, h3⟩ := ih (j := j + 1) hr1 hl' hn2 (fun b hb' => by
        obtain ⟨p1, p2, p3, p4⟩ := hb b (List.mem_append.2 (.inr hb'))
        refine ⟨p1, p2, p3, fun i hb2 x2 e1 e2 => ?_⟩
        rcases Nat.lt_trichotomy i st.h.length with hi | hi | hi
        · simp only [St.push] at e1
          rw [List.getElem?_append_left hi] at e1
          rw [List.getElem?_append_left (by rw [hr.hp.glen]; exact hi)] at e2
          exact p4 i hb2 x2 e1 e2
        · simp only [St.push] at e1
          subst hi
          rw [List.getElem?_append_right (Nat.le_refl _)] at e1
          rw [List.getElem?_append_right (by rw [hr.hp.glen]; exact Nat.le_refl _)] at e2
          simp [hr.hp.glen] at e1 e2
          subst e1; subst e2
          rw [hown]
          exact fun hm => (List.nodup_append.1 hn).2.2 b hm b hb' rfl
        · simp only [St.push] at e1
          rw [List.getElem?_eq_none (by simp; omega)] at e1
          cases e1) ht2
      have hlen : g.length = st.h.length := hr.hp.glen
      refine ⟨g', by simpa [St.push, adG] using h1, (GLe.push g [x]).trans h2, cL.cons ?_ (by simpa [St.push] using h3)⟩
      obtain ⟨x', e1, _, e3, _⟩ := h2 st.h.length x (by rw [List.getElem?_append_right (by omega)]; simp [hlen])
      exact ⟨x', e1, e3.symm, own_one hO⟩
    | _ => exact hy.elim

/-! ### Calls that read: owned trees are lent, what comes back is owned -/

def isWS : At → Bool
  | .w .. => true
  | .d (.v _) => true
  | _ => false

theorem own_of_row {V : View} {w : World} {ty sz : Nat} {rows : List (List D)} {y : Value} {S : List Nat} (h : RowR V w ty sz rows y S) (hu : ∀ b ∈ S, ∀ cs, V b = some cs → Unf w b) (hm : Mod V w) : ∃ p : List Nat × List Value, p.1.Sublist S ∧ OwnR w sz rows y p.1 p.2 := by
  obtain ⟨h0, ys, Ss, h1, h2⟩ := h
  rcases h2 with ⟨⟨ao, e1⟩, e2, e3⟩ | ⟨b, cap, c, e1, e2, e3, e4, e5, e6, e7, e8⟩
  · subst e2; subst e3
    have hys : ys = [] := by have := h1.1; simpa using this
    subst hys
    cases ao with
    | some ad => exact ⟨([], []), List.Sublist.refl _, h0, fun _ => none, [], [], (fun b cs hb => by cases hb), (fun b cs hb => by cases hb), LayL.nil _, (fun k rs q => by simp at q), .inr ⟨ad, 0, e1, by simp, by simp, (fun k z hk => by simp at hk), by simp⟩⟩
    | none =>
    exact ⟨([], []), List.Sublist.refl _, h0, fun _ => none, [], [], (fun b cs hb => by cases hb), (fun b cs hb => by cases hb), LayL.nil _, (fun k rs q => by simp at q), .inl ⟨e1, rfl, rfl⟩⟩
  · let T : List Nat := (if rows.isEmpty then [] else [b]) ++ Ss.flatten
    have hT : T.Sublist S := by
      rw [e8]
      simp only [T]
      split
      · exact List.sublist_cons_self _ _
      · exact List.Sublist.refl _
    let U : View := fun n => if n ∈ T then (if n = b then some ys else V n) else none
    refine ⟨(T, ys), hT, h0, U, ys, Ss, fun n cs hn => ?_, fun n cs hn => ?_, ⟨h1.1, h1.2.1, fun k d z S' q1 q2 q3 => ?_⟩, fun k rs _ => rfl, .inr ⟨⟨b, 0, none⟩, cap, e1, e2, e3, fun k z hk => ?_, rfl⟩⟩
    · simp only [U] at hn
      split at hn
      · split at hn
        · rename_i hnb
          subst hnb; cases hn
          exact ⟨c, ty, (0, 0), e4, e6⟩
        · exact hm n cs hn
      · cases hn
    · simp only [U] at hn
      split at hn
      · rename_i hnT
        refine ⟨hnT, ?_⟩
        split at hn
        · rename_i hnb; subst hnb; exact ⟨c, ty, e4⟩
        · exact hu n (hT.subset hnT) cs hn
      · cases hn
    · refine (h1.2.2 k d z S' q1 q2 q3).restrict fun n hn cs hcs => ⟨cs, ?_, List.prefix_refl _⟩
      have hnT : n ∈ T := List.mem_append.2 (.inr (List.mem_flatten.2 ⟨S', List.mem_of_getElem? q3, hn⟩))
      have hnb : n ≠ b := fun e => by rw [e, e7] at hcs; cases hcs
      simp only [U, if_pos hnT, if_neg hnb]
      exact hcs
    · have hne : rows.isEmpty = false := by
        cases rows with
        | nil => have := h1.1; simp at this; subst this; simp at hk
        | cons => rfl
      have hbT : b ∈ T := by simp [T, hne]
      rw [Addr.add_lit, Nat.zero_add]
      simp only [View.cell, U, if_pos hbT, if_true, Option.isSome_none, Bool.false_eq_true, if_false, Option.bind_some]
      exact hk

theorem own_of_rL {V : View} {w : World} (hm : Mod V w) : ∀ {cs : List At} {l : List Value} {Ss : List (List Nat)}, l.length = cs.length → Ss.length = cs.length →
    (∀ (k : Nat) (x : At) (y : Value) (s : List Nat), cs[k]? = some x → l[k]? = some y → Ss[k]? = some s → rAt V w x y s) → (∀ b ∈ Ss.flatten, ∀ c, V b = some c → Unf w b) → cs.all isWS = true → ∃ Ps, oL w cs l Ps ∧ (trs Ps).Sublist Ss.flatten
  | [], l, Ss, hl, hS, _, _, _ => ⟨[], ⟨hl, rfl, fun k a y p h => by simp at h⟩, by simp [trs]⟩
  | c :: cs, [], Ss, hl, _, _, _, _ => by simp at hl
  | c :: cs, y :: l, [], _, hS, _, _, _ => by simp at hS
  | c :: cs, y :: l, S :: Ss, hl, hS, hk, hu, hw => by
    simp only [List.all_cons, Bool.and_eq_true] at hw
    obtain ⟨Ps, h1, h2⟩ := own_of_rL hm (cs := cs) (l := l) (Ss := Ss) (by simpa using hl) (by simpa using hS) (fun k x y s e1 e2 e3 => hk (k + 1) x y s (by simpa using e1) (by simpa using e2) (by simpa using e3))
      (fun b hb => hu b (by simp only [List.flatten_cons]; exact List.mem_append.2 (.inr hb))) hw.2
    have hy := hk 0 c y S rfl rfl rfl
    have mk : ∀ p : List Nat × List Value, oAt w c y p → p.1.Sublist S → ∃ Ps, oL w (c :: cs) (y :: l) Ps ∧ (trs Ps).Sublist (S :: Ss).flatten := fun p hp hs =>
      ⟨p :: Ps, ⟨by simp [h1.1], by simp [h1.2.1], fun k a' y' p' e1 e2 e3 => by
        cases k with
        | zero => simp at e1 e2 e3; subst e1; subst e2; subst e3; exact hp
        | succ k => exact h1.2.2 k a' y' p' (by simpa using e1) (by simpa using e2) (by simpa using e3)⟩, by
        simp only [trs, List.map_cons, List.flatten_cons]
        exact hs.append h2⟩
    cases c with
    | d x => cases x with
      | v x =>
        obtain ⟨rfl, T, hT⟩ := hy
        cases hT with
        | v _ hsc => exact mk ([], []) ⟨rfl, hsc, rfl⟩ (List.Sublist.refl _)
      | sl r => simp [isWS] at hw
    | w ty sz rows =>
      obtain ⟨p, hp1, hp2⟩ := own_of_row hy (fun b hb => hu b (by simp only [List.flatten_cons]; exact List.mem_append.2 (.inl hb))) hm
      exact mk p hp2 hp1
    | _ => simp [isWS] at hw

theorem tagOK_none : ∀ (j : Nat) (cs : List At) (l : List Value) (Ps : List (List Nat × List Value)), tagOK (fun _ => none) j cs l Ps
  | j, [], _, _ => by cases ‹List Value› <;> trivial
  | j, c :: cs, [], _ => by cases c <;> trivial
  | j, c :: cs, y :: l, [] => by cases c <;> trivial
  | j, c :: cs, y :: l, p :: Ps => by
    cases c <;> first | exact tagOK_none _ cs l Ps | exact ⟨fun q h => (by cases h), tagOK_none _ cs l Ps⟩

theorem Mod.of_le {V V' : View} {w : World} (h : Mod V' w) (hv : V.le V') : Mod V w := fun b cs hb => by
  obtain ⟨cs', h1, h2⟩ := hv b cs hb
  obtain ⟨c, ty, fz, e1, e2⟩ := h b cs' h1
  exact ⟨c, ty, fz, e1, h2.trans e2⟩

theorem adG_len (tg : Nat → Option (Value × List Nat × List Value)) : ∀ (j : Nat) (cs : List At), (adG tg j cs).length = (adH cs).length
  | _, [] => rfl
  | j, c :: cs => by cases c <;> simp [adG, adH, adG_len]

/-- A call that reads: owned trees among the arguments are lent; what comes back is owned. -/
theorem CallS.lend {E : Env} {f : Nat} {args args' : List SV} {res : SV} {st : St} {K : St → SV → Prop} (h : FnC E.P f args' res) (he : args.map (pureOS st.h) = args') (hfree : args'.all freeS = true) (hres : res.all.all isWS = true)
    (k : K ⟨st.t, st.h ++ adG (fun _ => none) 0 res.all⟩ (adS st.h.length res)) : CallS E f args st K := by
  refine ⟨h.enters, fun g V a w vs hr hlen hargs => ?_⟩
  subst he
  have hc : cArgs (lendV V w) (args.map (pureOS st.h)) vs := by
    refine ⟨by simp [hlen], fun i s y h1 h2 => ?_⟩
    have hs := List.all_eq_true.1 hfree s (List.mem_of_getElem? h1)
    rw [List.getElem?_map] at h1
    cases hk : args[i]? with
    | none => rw [hk] at h1; cases h1
    | some s0 =>
      rw [hk] at h1
      cases h1
      exact freeS_ok (pureOS_ok hr (hargs i s0 y hk h2)) hs
  refine (h.calls (lendV V w) w vs (lendV_mod hr.mod) hc).mono ?_
  rintro e w' ⟨y, rfl, ⟨V', S, hv, hm, hnew, ⟨l, hshape, Ss, r1, r2, r3, r4⟩, hnd, hblk⟩, hbelow⟩
  have hVV' : V.le V' := (lendV_le V w).trans hv
  have hr1 : Rel E.C g V st a w' := hr.later (View.le.refl V) (hm.of_le hVV') hbelow (fun b cs h1 h2 => by rw [h1] at h2; cases h2)
  subst r3
  have hfresh : ∀ b, w.heap.size ≤ b → lendV V w b = none := fun b hb => (lendV_mod hr.mod).fresh hb
  obtain ⟨Ps, hP, hsub⟩ := own_of_rL hm r1 r2 r4 (fun b hb c hc => (hnew b c hc (hfresh b (hblk b hb).1)).2) hres
  obtain ⟨g', h1, h2, h3⟩ := adoptO_ok (tg := fun _ => none) (j := 0) hr1 hP (hsub.nodup hnd) (fun b hb => by
    have hb' := hsub.subset hb
    refine ⟨.inl (Nat.le_trans hr.fr.size (hblk b hb').1), (hblk b hb').2, ?_, fun i hb2 x e1 e2 hm' => ?_⟩
    · exact hr.mod.fresh (hblk b hb').1
    · have := (hr.hp.lo i hb2 x e1 e2 b hm').2
      have := (hblk b hb').1
      omega) (tagOK_none _ _ _ _)
  refine ⟨y, g', V, _, _, rfl, h1, ?_, k⟩
  cases res with
  | o x =>
    have hl : l = [y] := hshape
    subst hl
    simp only [SV.all] at h3
    simp only [adS]
    have hlen1 : (adA st.h.length [x]).length = 1 := adA_len _ _
    match he' : adA st.h.length [x], hlen1 with
    | [z], _ =>
      rw [he'] at h3
      exact h3.2 0 z y rfl rfl
  | g cs => exact ⟨l, hshape, h3⟩
  | t cs =>
    obtain ⟨ls, e1, e2, e3, ys, e4, e5, e6⟩ := hshape
    subst e2
    refine ⟨ys, e4, by rw [e5, adT_len], fun i b c v hi hv' => ?_⟩
    have hlt : i < ls.length := by rw [e1, ← adT_len st.h.length cs]; exact (List.getElem?_eq_some_iff.1 hi).1
    have hm' : ls[i]? = some ls[i] := List.getElem?_eq_getElem hlt
    obtain ⟨⟨c0, hc0⟩, hcc⟩ := adT_get st.h.length cs ls e1 e3 h3 i b c _ hi hm'
    have := e6 i b c0 _ v hc0 hm' hv'
    cases b with
    | true => simp only [if_true] at this ⊢; exact ⟨_, this, hcc⟩
    | false => simp only [Bool.false_eq_true, if_false] at this ⊢; rw [← this]; exact hcc

end Go.Sx
