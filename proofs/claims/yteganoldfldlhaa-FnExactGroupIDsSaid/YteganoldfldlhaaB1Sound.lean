/-
  'vcOp' is true of the model: slices, built values, and all together.
-/
import Derived.Test.YteganoldfldlhaaA9Sound
set_option linter.all false
namespace Go.Sx
open Go Go.RowKit

theorem fold_set (off : Nat) : ∀ (ys : List Value) (j0 : Nat) (cells : Array Value),
    ((ys.zipIdx j0).foldl (fun cs (p : Value × Nat) => cs.setIfInBounds (off + p.2) p.1) cells).size = cells.size ∧
    ∀ k, ((ys.zipIdx j0).foldl (fun cs (p : Value × Nat) => cs.setIfInBounds (off + p.2) p.1) cells)[k]? =
      if off + j0 ≤ k ∧ k < off + j0 + ys.length ∧ k < cells.size then ys[k - (off + j0)]? else cells[k]?
  | [], j0, cells => ⟨rfl, fun k => by rw [if_neg (by simp; omega)]; rfl⟩
  | y :: ys, j0, cells => by
    simp only [List.zipIdx_cons, List.foldl_cons]
    obtain ⟨h1, h2⟩ := fold_set off ys (j0 + 1) (cells.setIfInBounds (off + j0) y)
    refine ⟨by rw [h1]; simp, fun k => ?_⟩
    rw [h2]
    simp only [Array.size_setIfInBounds, List.length_cons, Array.getElem?_setIfInBounds]
    by_cases e : k = off + j0
    · subst e
      rw [if_neg (by omega), if_pos rfl]
      split
      · rename_i hs
        rw [if_pos ⟨by omega, by omega, hs⟩]; simp
      · rename_i hs
        rw [if_neg (by omega), Array.getElem?_eq_none (by omega)]
    · by_cases hc : off + (j0 + 1) ≤ k ∧ k < off + (j0 + 1) + ys.length ∧ k < cells.size
      · rw [if_pos hc, if_pos ⟨by omega, by omega, hc.2.2⟩]
        have : k - (off + j0) = (k - (off + (j0 + 1))) + 1 := by omega
        rw [this, List.getElem?_cons_succ]
      · rw [if_neg hc, if_neg (fun h => e h.symm), if_neg (by omega)]

section
variable {E : Env} {o : Oper} {st : St} {k : St → SV → Prop} {g : List Gh} {V : View} {a : Act} {w : World} {K : Act → World → Prop} {Q : Exit → Act → World → Prop}

theorem places_ok (hT : TyOK E.P E.T) : ∀ {fs : List Field} {ps : List (Nat × Nat)}, fldsAre fs ps = true → ps.all (fun p => (E.T p.2).tag != 0) = true →
    fs.mapM (fun f => (E.P.info? f.type).map fun i => (f.offset, i.size)) = some (ps.map fun p => (p.1, (E.T p.2).size)) := by
  intro fs
  induction fs with
  | nil => intro ps h _; cases ps with
    | nil => rfl
    | cons => simp [fldsAre] at h
  | cons f fs ih => intro ps h ht; cases ps with
    | nil => simp [fldsAre] at h
    | cons p ps =>
      simp only [fldsAre, Bool.and_eq_true, beq_iff_eq] at h
      simp only [List.all_cons, Bool.and_eq_true, bne_iff_ne] at ht
      obtain ⟨i, z, u, hg⟩ := hT.good ht.1
      rw [List.mapM_cons, ih h.2 ht.2]
      simp [h.1.1, h.1.2, hg.info, hg.size]

theorem fill_ok (hr : Sl g V st.t a) {flds : List (Nat × Nat)} : ∀ {parts : List (Nat × Operand)} {cs r : List At} {cells : Array Value}, buildC E st flds cs parts = some r → cL g V cs cells.toList →
    ∃ out : Array Value, Instr.fill (fun x => (flds.map fun p => (p.1, (E.T p.2).size)).toArray[x]?) cells (parts.map fun p => (p.1, a.eval p.2)) = some out ∧ cL g V r out.toList := by
  intro parts
  induction parts with
  | nil => intro cs r cells h hc; simp only [buildC, Option.some.injEq] at h; subst h; exact ⟨cells, rfl, hc⟩
  | cons p parts ih =>
    obtain ⟨i, x⟩ := p
    intro cs r cells h hc
    simp only [buildC] at h
    split at h
    · rename_i off ft hp
      rw [nthP_eq] at hp
      split at h
      · rename_i hcond
        simp only [Bool.and_eq_true, beq_iff_eq] at hcond
        cases hsp : splice cs off (ev st x).cells with
        | none => rw [hsp] at h; simp at h
        | some cs' =>
          rw [hsp] at h
          simp only [Option.bind_some] at h
          have hxc := cSV_cells (ev_ok hr x) hcond.1
          have hs1 := splice_some hsp
          have hcs := splice_c hsp hc hxc
          have hsz : (a.eval x).cells.size = (E.T ft).size := by have := hxc.1; simp at this; omega
          have hfit : off + (a.eval x).cells.size ≤ cells.size := by
            have e1 := hc.1; have e2 := hxc.1; simp at e1 e2; omega
          have hfold : ((a.eval x).cells.zipIdx.foldl (fun cs (p : Value × Nat) => cs.setIfInBounds (off + p.2) p.1) cells).toList = cells.toList.take off ++ (a.eval x).cells.toList ++ cells.toList.drop (off + (a.eval x).cells.toList.length) := by
            rw [← Array.foldl_toList, Array.toList_zipIdx]
            obtain ⟨f1, f2⟩ := fold_set off (a.eval x).cells.toList 0 cells
            apply List.ext_getElem?
            intro k
            rw [Array.getElem?_toList, f2]
            simp only [Nat.add_zero, Array.length_toList]
            rw [List.getElem?_append, List.getElem?_append]
            simp only [List.length_append, List.length_take, Array.length_toList]
            by_cases h1 : k < off
            · rw [if_neg (by omega), if_pos (by omega), if_pos (by omega), List.getElem?_take, if_pos h1, Array.getElem?_toList]
            · by_cases h2 : k < off + (a.eval x).cells.size
              · rw [if_pos ⟨by omega, h2, by omega⟩, if_pos (by omega), if_neg (by omega)]
                congr 1; omega
              · rw [if_neg (by omega), if_neg (by omega), List.getElem?_drop, Array.getElem?_toList]
                congr 1; omega
          rw [← hfold] at hcs
          obtain ⟨out, ho1, ho2⟩ := ih h hcs
          refine ⟨out, ?_, ho2⟩
          have hplace : (flds.map fun p => (p.1, (E.T p.2).size)).toArray[i]? = some (off, (E.T ft).size) := by simp [hp]
          simp only [List.map_cons, Instr.fill, hplace]
          rw [if_neg (by simp [hsz]; omega)]
          exact ho1
      · cases h
    · cases h

theorem build_ok (hT : TyOK E.P E.T) {t : Nat} {parts : Array (Nat × Operand)} (ho : o.op = .build t parts) (h : vcBuild E t parts.toList st k) (hr : Rel E.C g V st a w) (hK : Next' E o a k K) : o.wp E.P a w K Q := by
  unfold vcBuild at h
  split at h
  · rename_i cs hb
    obtain ⟨h1, h2, hk⟩ := h
    obtain ⟨i, z, u, hg⟩ := hT.good (t := t) (by rw [h1]; decide)
    obtain ⟨fs, rfl, hfs⟩ := hg.struct h1
    obtain ⟨out, ho1, ho2⟩ := fill_ok (E := E) hr.sl hb (zeroAre_c hg.zc g V)
    refine wp_value (w' := w) (y := .agg out) ?_ (hK g V st w (.g cs) _ hr ⟨out.toList, rfl, ho2⟩ hk)
    simp only [execOp, ho]
    refine execOp_value _ _ _ _ _ (run_build w t _ out ?_)
    unfold Program.built
    simp only [hg.info, hg.und, hg.zero, places_ok hT hfs h2]
    rw [← ho1]
    congr 1
    simp
  · exact h.elim

theorem bnd_ok (hr : Sl g V st.t a) {dflt : Nat} {x : Option Operand} {n : Int} (h : bnd st dflt x = some n) : (x = none ∧ n = dflt) ∨ ∃ y kd, x = some y ∧ a.eval y = .int kd n := by
  cases x with
  | none => left; simp [bnd] at h; exact ⟨rfl, h.symm⟩
  | some y =>
    right
    simp only [bnd] at h
    split at h
    · rename_i kd m e
      cases h
      have hy := ev_ok hr y
      rw [e] at hy
      exact ⟨y, kd, rfl, (cSV_scalar hy).1⟩
    · cases h

theorem run_bounds {P : Program} {w : World} (sl : Bool) (len cap : Nat) {lo hi : Option Operand} {l h : Int} (hl : (lo = none ∧ l = ((0 : Nat) : Int)) ∨ ∃ y kd, lo = some y ∧ a.eval y = .int kd l)
    (hh : (hi = none ∧ h = (len : Int)) ∨ ∃ y kd, hi = some y ∧ a.eval y = .int kd h) (h0 : 0 ≤ l) (h1 : l ≤ h) (h2 : h ≤ cap) :
    (Instr.sliceBounds sl len cap (lo.map a.eval) (hi.map a.eval) none).run P w = .ok (l.toNat, h.toNat, cap) w := by
  have hb : ∀ (kd : IntKind) (n : Int) (y : Nat) (c : BoundsCode), 0 ≤ n → n ≤ y → (Instr.sliceBound (.int kd n) y c).run P w = .ok n.toNat w := fun kd n y c => run_sliceBound w kd n y c
  rcases hl with ⟨rfl, e⟩ | ⟨y, kd, rfl, ey⟩ <;> rcases hh with ⟨rfl, e'⟩ | ⟨y', kd', rfl, ey'⟩
  · subst e; subst e'
    simp [Instr.sliceBounds]
  · subst e
    simp [Instr.sliceBounds, ey', hb _ _ _ _ (Int.le_trans h0 h1) h2]
  · subst e'
    simp [Instr.sliceBounds, ey, hb _ _ _ _ h0 h1]
  · simp [Instr.sliceBounds, ey, ey', hb _ _ _ _ (Int.le_trans h0 h1) h2, hb kd l h.toNat _ h0 (by omega)]

theorem slice_ok (hT : TyOK E.P E.T) {t : Nat} {x : Operand} {lo hi mx : Option Operand} (ho : o.op = .slice t x lo hi mx) (h : vcSlice E t (ev st x) lo hi mx st k) (hr : Rel E.C g V st a w) (hK : Next' E o a k K) : o.wp E.P a w K Q := by
  have hx := ev_ok hr.sl x
  unfold vcSlice at h
  split at h
  · rename_i m
    obtain ⟨h1, ht, hsl, rfl, hhi, hmx, hne, hk⟩ := h
    obtain ⟨i, z, u, hg⟩ := hT.good (t := t) (by rw [h1]; decide)
    obtain ⟨i', z', u', hge⟩ := hT.good ht
    obtain ⟨v, rfl⟩ : ∃ v, hi = some v := by cases hi with
      | none => exact (hne rfl).elim
      | some v => exact ⟨v, rfl⟩
    obtain ⟨ao, len, cap, hv⟩ : ∃ ao len cap, a.eval x = .slice ao len cap := by
      unfold isSl at hsl
      split at hsl
      · rename_i rows e1
        rw [e1] at hx
        obtain ⟨S, hx⟩ := hx
        rcases lay_sl_inv hx with ⟨e, _⟩ | ⟨ad, cap, _, _, _, e, _⟩
        · exact ⟨_, _, _, e⟩
        · exact ⟨_, _, _, e⟩
      · rename_i e1
        rw [e1] at hx
        exact ⟨_, _, _, hx⟩
      · rename_i id e1
        rw [e1] at hx
        obtain ⟨gh, hgh, hy, _⟩ := hx
        split at hsl
        · rename_i ty sz rows lin hrow
          obtain ⟨h0, ys, Ss, q1, q2, q3⟩ := hr.hp.hb id _ gh (nthH_some hrow (by simp)) hgh
          rcases q3 with ⟨_, ⟨ao, e⟩, _⟩ | ⟨b, cap, c, _, e, _⟩
          · exact ⟨_, _, _, hy.trans e⟩
          · exact ⟨_, _, _, hy.trans e⟩
        · rename_i rows lin hrow
          obtain ⟨_, S, q1, _⟩ := hr.hp.hb id _ gh (nthH_some hrow (by simp)) hgh
          rcases lay_sl_inv q1 with ⟨e, _⟩ | ⟨ad, cap, _, _, _, e, _⟩
          · exact ⟨_, _, _, hy.trans e⟩
          · exact ⟨_, _, _, hy.trans e⟩
        · cases hsl
      · cases hsl
    have hb0 : ∀ (y : Operand), bnd st 1 (some y) = some 0 → ∃ kd, a.eval y = .int kd 0 := fun y hy => by
      unfold bnd at hy
      have hyv := ev_ok hr.sl y
      simp only at hy
      split at hy
      · rename_i kd n e
        cases hy
        rw [e] at hyv
        exact ⟨kd, (cSV_scalar hyv).1⟩
      · cases hy
    obtain ⟨k1, e1⟩ := hb0 v hhi
    obtain ⟨k2, e2⟩ := hb0 m hmx
    have hrun : (Instr.sliceAt t (.slice ao len cap) (none : Option Value) (some (.int k1 0)) (some (.int k2 0))).run E.P w = .ok (.slice ao 0 0) w := by
      simp [Instr.sliceAt, hg.run_und w, hg.slice h1, Instr.slice, Instr.sliceBounds, Instr.sliceBound, asIntOf, hge.run_size w]
    let gx : Gh := ⟨none, .slice ao 0 0, [], []⟩
    have hlen : g.length = st.h.length := hr.hp.glen
    refine wp_value (w' := w) (y := .slice ao 0 0) ?_ (hK (g ++ [gx]) V ⟨st.t, st.h ++ [.row (E.T t).elem (E.T (E.T t).elem).size [] true]⟩ w (.o (.s st.h.length)) _ ⟨hr.sl.mono (GLe.push _ _) (View.le.refl V), hr.hp.push (b := .row (E.T t).elem (E.T (E.T t).elem).size [] true) ?_ ?_ ?_ ?_ ?_, hr.mod, hr.fr, hr.vw⟩ ?_ hk)
    · simp only [execOp, ho, hv, e1, e2, Option.map_none, Option.map_some]
      exact execOp_value _ _ _ _ _ hrun
    · exact ⟨fun r h => by simp at h, [], [], LayL.nil V, fun _ => rfl, .inl ⟨rfl, ⟨ao, rfl⟩, rfl⟩⟩
    · simp [ownB, gx]
    · intro n hn; simp [ownB, gx] at hn
    · intro i b' x' _ _ n _ hm; simp [ownB, gx] at hm
    · intro n hn; simp [rootB, gx] at hn
    · exact ⟨gx, by rw [List.getElem?_append_right (by omega)]; simp [hlen], rfl, rfl⟩
  · split at h
    · rename_i s e1
      rw [e1] at hx
      split at h
      · rename_i l hh e2 e3
        obtain ⟨h1, l0, l1, l2, hk⟩ := h
        obtain ⟨i, z, u, hg⟩ := hT.good (t := t) (by rw [h1]; decide)
        obtain ⟨hx, _⟩ := cSV_scalar hx
        refine wp_value (w' := w) (y := .string (s.extract l.toNat hh.toNat)) ?_ (hK g V st w _ _ hr (scalar_ok g V _ rfl) hk)
        simp only [execOp, ho, hx]
        refine execOp_value _ _ _ _ _ ?_
        have hb := run_bounds (P := E.P) (w := w) (a := a) false s.size s.size (bnd_ok hr.sl e2) (bnd_ok hr.sl e3) l0 l1 l2
        simp only [Instr.sliceAt, Sem.run_bind, hg.run_und w, Result.andThen_ok, hg.string h1, Instr.slice, Option.map_none, Option.isSome_none, Bool.false_eq_true, if_false, hb, Sem.run_pure]
      · exact h.elim
    · rename_i rows e1
      rw [e1] at hx
      split at h
      · rename_i l hh e2 e3
        obtain ⟨h1, ht, hsz, l0, l1, l2, hk⟩ := h
        obtain ⟨i, z, u, hg⟩ := hT.good (t := t) (by rw [h1]; decide)
        obtain ⟨i', z', u', hge⟩ := hT.good ht
        obtain ⟨S, hx⟩ := hx
        have hrun : ∀ (b : Option Addr) (cap : Nat), hh ≤ cap → (Instr.sliceAt t (.slice b rows.length cap) (lo.map a.eval) (hi.map a.eval) (none : Option Value)).run E.P w =
            .ok (.slice (if cap = l.toNat then b else b.map (·.add (l.toNat * (E.T (E.T t).elem).size))) (hh.toNat - l.toNat) (cap - l.toNat)) w := by
          intro b cap hcap
          have hb := run_bounds (P := E.P) (w := w) (a := a) true rows.length cap (bnd_ok hr.sl e2) (bnd_ok hr.sl e3) l0 l1 hcap
          simp only [Instr.sliceAt, Sem.run_bind, hg.run_und w, Result.andThen_ok, hg.slice h1, Instr.slice, hb, hge.run_size w, Sem.run_pure]
        have hlen : ((rows.take hh.toNat).drop l.toNat).length = hh.toNat - l.toNat := by simp; omega
        rcases lay_sl_inv hx with ⟨hy, rfl⟩ | ⟨ad, cap, sz, ys, Ss, hy, hs, hc1, hc2, hl, hc, rfl⟩
        · simp at l2
          have hz : hh = 0 := by omega
          have hz' : l = 0 := by omega
          subst hz; subst hz'
          refine wp_value (w' := w) (y := .slice none 0 0) ?_ (hK g V st w (.o (.d (.sl (([] : List (List D)).take (0:Int).toNat |>.drop (0:Int).toNat)))) _ hr ⟨[], by simpa using Lay.nil⟩ hk)
          simp only [execOp, ho, hy]
          exact execOp_value _ _ _ _ _ (by simpa using hrun none 0 (by simp))
        · refine wp_value (w' := w) (y := .slice (some (if cap = l.toNat then ad else ad.add (l.toNat * (E.T (E.T t).elem).size))) (hh.toNat - l.toNat) (cap - l.toNat)) ?_
            (hK g V st w (.o (.d (.sl ((rows.take hh.toNat).drop l.toNat)))) _ hr ?_ hk)
          · simp only [execOp, ho, hy]
            refine execOp_value _ _ _ _ _ ((hrun (some ad) cap (by omega)).trans ?_)
            split <;> rfl
          · -- the part reads as the part
            have hee : sz = (E.T (E.T t).elem).size ∨ rows = [] := by
              cases rows with
              | nil => exact .inr rfl
              | cons r rs => left; rw [← hs r (List.mem_cons_self ..), hsz r (List.mem_cons_self ..)]
            generalize hRR : (rows.take hh.toNat).drop l.toNat = R at hlen
            have hsub : ∀ r ∈ R, r ∈ rows := fun r hr' => by rw [← hRR] at hr'; exact List.mem_of_mem_take (List.mem_of_mem_drop hr')
            rw [← hlen]
            by_cases hR : R = []
            · subst hR
              exact ⟨_, .sl [] _ _ sz [] [] (fun r h => by simp at h) (by simp) (by omega) rfl rfl (fun k y h => by simp at h) (fun k d y S h => by simp at h)⟩
            · have hne : rows ≠ [] := fun e => by subst e; simp at hRR; exact hR hRR
              have hse := hee.resolve_right hne
              have hfl : ∀ j d, R.flatten[j]? = some d → rows.flatten[l.toNat * sz + j]? = some d := by
                intro j d hj
                have e1 : (rows.take hh.toNat).flatten = (rows.take l.toNat).flatten ++ R.flatten := by
                  rw [← hRR, ← List.flatten_append]
                  congr 1
                  have : rows.take l.toNat = (rows.take hh.toNat).take l.toNat := by rw [List.take_take]; congr 1; omega
                  rw [this, List.take_append_drop]
                have e2 : rows.flatten = (rows.take l.toNat).flatten ++ (R.flatten ++ (rows.drop hh.toNat).flatten) := by
                  rw [← List.append_assoc, ← e1, ← List.flatten_append, List.take_append_drop]
                have e3 : (rows.take l.toNat).flatten.length = l.toNat * sz := by
                  rw [flatten_len (sz := sz) fun r hr' => hs r (List.mem_of_mem_take hr')]
                  rw [List.length_take, Nat.min_eq_left (by omega)]
                rw [e2, List.getElem?_append_right (by omega), e3, Nat.add_sub_cancel_left, List.getElem?_append_left (List.getElem?_eq_some_iff.1 hj).1]
                exact hj
              have hfit : l.toNat * sz + R.flatten.length ≤ rows.flatten.length := by
                rw [flatten_len (sz := sz) fun r hr' => hs r (hsub r hr'), flatten_len hs, hlen, ← Nat.add_mul]
                exact Nat.mul_le_mul_right _ (by omega)
              refine ⟨_, .sl R _ _ sz ((ys.drop (l.toNat * sz)).take R.flatten.length) ((Ss.drop (l.toNat * sz)).take R.flatten.length) (fun r h => hs r (hsub r h)) (by omega) (by omega) ?_ ?_ ?_ ?_⟩
              · have := hl.1; rw [List.length_take, List.length_drop, Nat.min_eq_left (by omega)]
              · have := hl.2.1; rw [List.length_take, List.length_drop, Nat.min_eq_left (by omega)]
              · intro j y hj
                rw [List.getElem?_take] at hj
                split at hj
                · rw [List.getElem?_drop] at hj
                  have hcell := hc _ y hj
                  split
                  · rename_i hcc
                    have hR0 : R.length = 0 := by omega
                    exact (hR (List.eq_nil_of_length_eq_zero hR0)).elim
                  · rw [add_add, ← hse]; exact hcell
                · cases hj
              · intro j d y S h1' h2' h3'
                rw [List.getElem?_take] at h2' h3'
                split at h2'
                · rw [if_pos ‹_›] at h3'
                  rw [List.getElem?_drop] at h2' h3'
                  exact hl.2.2 _ d y S (hfl j d h1') h2' h3'
                · cases h2'
      · exact h.elim
    · exact h.elim

end
end Go.Sx
