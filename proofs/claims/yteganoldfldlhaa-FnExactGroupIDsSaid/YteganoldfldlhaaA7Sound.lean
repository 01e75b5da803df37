/-
  'vcOp' is true of the model, operation by operation.
-/
import Derived.Test.YteganoldfldlhaaA6Ok
set_option linter.all false
namespace Go.Sx
open Go Go.RowKit

section
variable {E : Env} {o : Oper} {st : St} {k : St → SV → Prop} {g : List Gh} {V : View} {a : Act} {w : World} {K : Act → World → Prop} {Q : Exit → Act → World → Prop}

/-- What is handed on. -/
def Next' (E : Env) (o : Oper) (a : Act) (k : St → SV → Prop) (K : Act → World → Prop) : Prop :=
  ∀ g V st' w' s y, Rel E.C g V st' a w' → cSV g V s y → k st' s → K (a.put o.dst y) w'

theorem execOp_value (x : Sem Value) (y : Value) (w w' : World) (P : Program) (h : x.run P w = .ok y w') : ((do pure (.value (← x))) : Sem Next).run P w = .ok (.value y) w' := by
  simp [h]

theorem sub_get {α : Type} {l : List α} {o : Nat} {x : α} (h : sub l o 1 = some [x]) : l[o]? = some x := by
  obtain ⟨e, hle⟩ := sub_some h
  have := congrArg (fun z => z[0]?) e
  simp only [List.getElem?_take, List.getElem?_drop, Nat.add_zero, List.getElem?_cons_zero] at this
  simpa using this.symm
theorem rwAt_get (rows : List (List D)) {n : Nat} (hn : n < rows.length) : rwAt rows n = rows[n] := by simp [rwAt, List.getD_eq_getElem?_getD, List.getElem?_eq_getElem hn]
theorem own_slice {w : World} {sz : Nat} {rows : List (List D)} {y : Value} {S : List Nat} {hd : List Value} (h : OwnR w sz rows y S hd) {ad : Addr} {ln cp : Nat} (hy : y = .slice (some ad) ln cp) {i fo : Nat} {rs : List (List D)} (hi : i < rows.length) (hf : (rwAt rows i)[fo]? = some (.sl rs)) :
    ∃ z, w.cell? (ad.add (i * sz + fo)) = some z ∧ hd[i * sz + fo]? = some z ∧ z.oneCell' = true := by
  obtain ⟨h0, U, ys, Ss, h1, h2, h3, h4, h5⟩ := h
  rw [rwAt_get rows hi] at hf
  have hflat := flatten_row h0 hi hf
  have hlt : i * sz + fo < ys.length := by rw [h3.1]; exact (List.getElem?_eq_some_iff.1 hflat).1
  have hlt2 : i * sz + fo < Ss.length := by rw [h3.2.1]; exact (List.getElem?_eq_some_iff.1 hflat).1
  have hz := List.getElem?_eq_getElem hlt
  rcases h5 with ⟨e, _, _⟩ | ⟨a, cap, e, _, _, hc, _⟩
  · rw [hy] at e; cases e
  · rw [hy] at e; cases e
    exact ⟨_, h1.cell (hc _ _ hz), (h4 _ _ hflat).trans hz, (h3.2.2 _ _ _ _ hflat hz (List.getElem?_eq_getElem hlt2)).oneCell⟩

theorem load_ok (hT : TyOK E.P E.T) {t : Nat} {x : Operand} (ho : o.op = .load t x) (h : vcLoad E t (ev st x) st k) (hr : Rel E.C g V st a w) (hK : Next' E o a k K) : o.wp E.P a w K Q := by
  have hx := ev_ok hr.sl x
  unfold vcLoad at h
  split at h
  · rename_i id off heq
    rw [heq] at hx
    obtain ⟨gh, b, hg, hb, hp⟩ := hx
    split at h
    · rename_i ty cs hbox
      split at h
      · rename_i r hsub
        obtain ⟨ht, hk⟩ := h
        obtain ⟨i, z, u, hgood⟩ := hT.good ht
        have hi := nthH_some hbox (by simp)
        obtain ⟨b', l, e1, e2, e3⟩ := hr.hp.hb id _ gh hi hg
        rw [hb] at e1
        cases e1
        obtain ⟨c1, c2, c3⟩ := sub_c hsub e3
        have hrun := run_loadAt hgood w ⟨b, off, none⟩ ((l.drop off).take (E.T t).size) c3 (fun j y hj => by
          rw [List.getElem?_take] at hj
          split at hj
          · rw [List.getElem?_drop] at hj
            rw [Addr.add_lit, cell_of_row w b _ _ ty (0, 0) e2]
            simpa using hj
          · cases hj)
        refine wp_value (w' := w) (y := _) ?_ (hK g V st w _ _ hr (pack_ok c1 fun ha => by rw [c2]; exact hgood.agg_size ha) hk)
        simp only [execOp, ho, hp]
        exact execOp_value _ _ _ _ _ hrun
      · exact h.elim
    · exact h.elim
  · rename_i cs heq
    rw [heq] at hx
    obtain ⟨p, hp, hq⟩ := hx
    split at h
    · rename_i r hsub
      obtain ⟨ht, hk⟩ := h
      obtain ⟨i, z, u, hgood⟩ := hT.good ht
      obtain ⟨e, hle⟩ := sub_some hsub
      subst e
      -- the cells' values
      have hex : ∀ (n : Nat), n ≤ cs.length → ∃ ys : List Value, ys.length = n ∧ (∀ (j : Nat) (y : Value), ys[j]? = some y → w.cell? (p.add j) = some y) ∧ cL g V ((cs.take n).map At.d) ys := by
        intro n
        induction n with
        | zero => intro _; exact ⟨[], rfl, fun j y h => by simp at h, by simpa using cL.nil g V⟩
        | succ n ih =>
          intro hn
          obtain ⟨ys, h1, h2, h3⟩ := ih (by omega)
          have hd : cs[n]? = some cs[n] := List.getElem?_eq_getElem (by omega)
          obtain ⟨zv, S, h4, h5⟩ := hq n _ hd
          refine ⟨ys ++ [zv], by simp [h1], fun j y hj => ?_, ?_⟩
          · rw [List.getElem?_append] at hj
            split at hj
            · exact h2 j y hj
            · rename_i hnl
              have : j = n := by
                rcases Nat.lt_or_ge j (n + 1) with hlt | hge
                · omega
                · rw [List.getElem?_eq_none (by simp; omega)] at hj; cases hj
              subst this
              simp [h1] at hj
              subst hj
              exact hr.mod.cell h4
          · rw [List.take_succ_eq_append_getElem (by omega), List.map_append]
            exact h3.append (cL.cons ⟨S, h5⟩ (cL.nil g V))
      obtain ⟨ys, h1, h2, h3⟩ := hex (E.T t).size (by simpa using hle)
      have hrun := run_loadAt hgood w p ys h1 h2
      refine wp_value (w' := w) (y := _) ?_ (hK g V st w _ _ hr (pack_ok (r := (((cs.drop 0).take (E.T t).size).map At.d)) (by simpa using h3) fun ha => by
        have := hgood.agg_size ha
        simp at hle ⊢
        omega) hk)
      simp only [execOp, ho, hp]
      exact execOp_value _ _ _ _ _ hrun
    · exact h.elim
  · rename_i id sz n fo heq
    rw [heq] at hx
    obtain ⟨gh, b, hg, hb, hp⟩ := hx
    split at h
    · rename_i ty sz' rows lin hrow
      split at h
      · rename_i r hsub
        obtain ⟨ht, rfl, hn, hk⟩ := h
        obtain ⟨i, z, u, hgood⟩ := hT.good ht
        have hi := nthH_some hrow (by simp)
        obtain ⟨h0, ys, Ss, h1, h2, h3⟩ := hr.hp.hb id _ gh hi hg
        rcases h3 with ⟨e1, _⟩ | ⟨b', cap, c, e1, e2, e3, e4, e5, e6, e7⟩
        · rw [hb] at e1; cases e1
        · rw [hb] at e1
          cases e1
          obtain ⟨e, hle⟩ := sub_some hsub
          subst e
          have hrw : rwAt rows n = rows[n] := by simp [rwAt, List.getD_eq_getElem?_getD, List.getElem?_eq_getElem hn]
          have hlen : (rwAt rows n).length = sz' := by rw [hrw]; exact h0 _ (List.getElem_mem hn)
          -- the row's cells in the flattened list
          have hflat : ∀ j d, (rwAt rows n)[j]? = some d → rows.flatten[n * sz' + j]? = some d := by
            intro j d hj
            exact flatten_row h0 hn (hrw ▸ hj)
          have hyl : n * sz' + sz' ≤ ys.length := by
            rw [h1.1, flatten_len h0]
            have : (n + 1) * sz' ≤ rows.length * sz' := Nat.mul_le_mul_right _ hn
            rw [Nat.add_mul] at this
            omega
          have hcell : ∀ (j : Nat) (y : Value), ys[n * sz' + fo + j]? = some y → w.cell? (Addr.add ⟨b, n * sz' + fo, none⟩ j) = some y := fun j y hj => by
            rw [Addr.add_lit, cell_of_row w b _ _ ty (0, 0) e5]
            have := prefix_get e7 hj
            simpa using this
          have hcl : cL g V ((((rwAt rows n).drop fo).take (E.T t).size).map At.d) ((ys.drop (n * sz' + fo)).take (E.T t).size) := by
            refine ⟨by simp; omega, fun j at' y hj1 hj2 => ?_⟩
            rw [List.getElem?_map] at hj1
            rw [List.getElem?_take] at hj1 hj2
            split at hj1
            · rw [if_pos ‹_›] at hj2
              rw [List.getElem?_drop] at hj1 hj2
              cases hd : (rwAt rows n)[fo + j]? with
              | none => rw [hd] at hj1; cases hj1
              | some dd =>
                rw [hd] at hj1
                cases hj1
                have hf := hflat _ _ hd
                rw [← Nat.add_assoc] at hf
                have hkl : n * sz' + fo + j < Ss.length := by
                  rw [h1.2.1]; exact (List.getElem?_eq_some_iff.1 hf).1
                exact ⟨_, h1.2.2 _ dd y _ hf hj2 (List.getElem?_eq_getElem hkl)⟩
            · cases hj1
          have hrun := run_loadAt hgood w ⟨b, n * sz' + fo, none⟩ ((ys.drop (n * sz' + fo)).take (E.T t).size) (by simp; omega) (fun j y hj => by
            rw [List.getElem?_take] at hj
            split at hj
            · rw [List.getElem?_drop] at hj; exact hcell j y hj
            · cases hj)
          refine wp_value (w' := w) (y := _) ?_ (hK g V st w _ _ hr (pack_ok hcl fun ha => by
            have := hgood.agg_size ha
            simp
            omega) hk)
          simp only [execOp, ho, hp]
          exact execOp_value _ _ _ _ _ hrun
      · exact h.elim
    · exact h.elim
  · rename_i id sz n fo heq
    rw [heq] at hx
    obtain ⟨gh, ad, ln, cp, hg, hval, hp⟩ := hx
    split at h
    · rename_i tag sz' rows hown
      split at h
      · rename_i rs hsub
        obtain ⟨ht, rfl, hn, hk⟩ := h
        obtain ⟨i, z, u, hgood⟩ := hT.good (t := t) (by rw [ht]; decide)
        have hi := nthH_some hown (by simp)
        obtain ⟨_, hO⟩ := hr.hp.hb id _ gh hi hg
        obtain ⟨z, hz1, hz2, hz3⟩ := own_slice hO hval hn (sub_get hsub)
        have hag : (E.T t).agg = false := by simp [Ty.agg, ht]
        have hrun := run_loadAt hgood w (ad.add (n * sz' + fo)) [z] (by simp [hgood.agg_size hag]) (fun j y hj => by
          cases j with
          | zero => simp at hj; subst hj; simpa [Addr.add] using hz1
          | succ j => simp at hj)
        refine wp_value (w' := w) (y := z) ?_ (hK g V st w (.o (.n id sz' n fo)) _ hr ⟨gh, hg, hz2, hz3⟩ hk)
        simp only [execOp, ho, hp]
        exact execOp_value _ _ _ _ _ (by rw [hrun, hag]; rfl)
      · exact h.elim
    · exact h.elim
  · exact h.elim
end
end Go.Sx
