/- Joined texts. -/
import Derived.Test.YtlmpmpddakhfnaaDoorZ02
import Derived.Maps.AppendAt
import Derived.ArgAppend
import Derived.Laws.BytesString
set_option linter.all false
section
section
set_option linter.all false
namespace Go.Sx
open Go Go.RowKit
theorem uI (off : Nat) : ∀ (ys : List Value) (j0 : Nat) (cells : Array Value),
    ((ys.zipIdx j0).foldl (fun cs (p : Value × Nat) => cs.setIfInBounds (off + p.2) p.1) cells).size = cells.size ∧
    ∀ k, ((ys.zipIdx j0).foldl (fun cs (p : Value × Nat) => cs.setIfInBounds (off + p.2) p.1) cells)[k]? =
     if off + j0 ≤ k ∧ k < off + j0 + ys.length ∧ k < cells.size then ys[k - (off + j0)]? else cells[k]?
 | [], j0, cells => ⟨rfl, fun k => by rw [if_neg (by simp; omega)]; rfl⟩
 | y :: ys, j0, cells => by
  simp only [List.zipIdx_cons, List.foldl_cons]
  obtain ⟨h1, h2⟩ := uI off ys (j0 + 1) (cells.setIfInBounds (off + j0) y)
  refine ⟨by rw [h1]; simp, fun k => ?_⟩
  rw [h2]
  simp only [Array.size_setIfInBounds, List.length_cons, Array.getElem?_setIfInBounds]
  by_cases e : k = off + j0
  ·subst e
   rw [if_neg (by omega), if_pos rfl]
   split
   ·rename_i hs
    rw [if_pos ⟨by omega, by omega, hs⟩]; simp
   ·rename_i hs
    rw [if_neg (by omega), Array.getElem?_eq_none (by omega)]
  ·by_cases hc : off + (j0 + 1) ≤ k ∧ k < off + (j0 + 1) + ys.length ∧ k < cells.size
   ·rw [if_pos hc, if_pos ⟨by omega, by omega, hc.2.2⟩]
    have : k - (off + j0) = (k - (off + (j0 + 1))) + 1 := by omega
    rw [this, List.getElem?_cons_succ]
   ·rw [if_neg hc, if_neg (fun h => e h.symm), if_neg (by omega)]
section
variable {E : Env} {o : Oper} {st : St} {k : St → SV → Prop} {g : List Gh} {V : View} {a : Act} {w : World} {K : Act → World → Prop} {Q : Exit → Act → World → Prop}
theorem a2E (hT : TyOK E.P E.T) : ∀ {fs : List Field} {ps : List (Nat × Nat)}, dW fs ps = true → ps.all (fun p => (E.T p.2).tag != 0) = true →
    fs.mapM (fun f => (E.P.info? f.type).map fun i => (f.offset, i.size)) = some (ps.map fun p => (p.1, (E.T p.2).size)) := by
 intro fs
 induction fs with
 | nil => intro ps h _; cases ps with
  | nil => rfl
  | cons => simp [dW] at h
 | cons f fs ih => intro ps h ht; cases ps with
  | nil => simp [dW] at h
  | cons p ps =>
   simp only [dW, Bool.and_eq_true, beq_iff_eq] at h
   simp only [List.all_cons, Bool.and_eq_true, bne_iff_ne] at ht
   obtain ⟨i, z, u, hg⟩ := hT.good ht.1
   rw [List.mapM_cons, ih h.2 ht.2]
   simp [h.1.1, h.1.2, hg.info, hg.size]
theorem a4Q (hr : Sl g V st.t a) {flds : List (Nat × Nat)} : ∀ {parts : List (Nat × Operand)} {cs r : List At} {cells : Array Value}, kQ E st flds cs parts = some r → cL g V cs cells.toList →
    ∃ out : Array Value, Instr.fill (fun x => (flds.map fun p => (p.1, (E.T p.2).size)).toArray[x]?) cells (parts.map fun p => (p.1, a.eval p.2)) = some out ∧ cL g V r out.toList := by
 intro parts
 induction parts with
 | nil => intro cs r cells h hc; simp only [kQ, Option.some.injEq] at h; subst h; exact ⟨cells, rfl, hc⟩
 | cons p parts ih =>
  obtain ⟨i, x⟩ := p
  intro cs r cells h hc
  simp only [kQ] at h
  split at h
  ·rename_i off ft hp
   rw [yC] at hp
   split at h
   ·rename_i hcond
    simp only [Bool.and_eq_true, beq_iff_eq] at hcond
    cases hsp : bI cs off (ev st x).cells with
    | none => rw [hsp] at h; simp at h
    | some cs' =>
     rw [hsp] at h
     simp only [Option.bind_some] at h
     have hxc := iD (aY hr x) hcond.1
     have hs1 := eQ hsp
     have hcs := uO hsp hc hxc
     have hsz : (a.eval x).cells.size = (E.T ft).size := by have := hxc.1; simp at this; omega
     have hfit : off + (a.eval x).cells.size ≤ cells.size := by
      have e1 := hc.1; have e2 := hxc.1; simp at e1 e2; omega
     have hfold : ((a.eval x).cells.zipIdx.foldl (fun cs (p : Value × Nat) => cs.setIfInBounds (off + p.2) p.1) cells).toList = cells.toList.take off ++ (a.eval x).cells.toList ++ cells.toList.drop (off + (a.eval x).cells.toList.length) := by
      rw [← Array.foldl_toList, Array.toList_zipIdx]
      obtain ⟨f1, f2⟩ := uI off (a.eval x).cells.toList 0 cells
      apply List.ext_getElem?
      intro k
      rw [Array.getElem?_toList, f2]
      simp only [Nat.add_zero, Array.length_toList]
      rw [List.getElem?_append, List.getElem?_append]
      simp only [List.length_append, List.length_take, Array.length_toList]
      by_cases h1 : k < off
      ·rw [if_neg (by omega), if_pos (by omega), if_pos (by omega), List.getElem?_take, if_pos h1, Array.getElem?_toList]
      ·by_cases h2 : k < off + (a.eval x).cells.size
       ·rw [if_pos ⟨by omega, h2, by omega⟩, if_pos (by omega), if_neg (by omega)]
        congr 1; omega
       ·rw [if_neg (by omega), if_neg (by omega), List.getElem?_drop, Array.getElem?_toList]
        congr 1; omega
     rw [← hfold] at hcs
     obtain ⟨out, ho1, ho2⟩ := ih h hcs
     refine ⟨out, ?_, ho2⟩
     have hplace : (flds.map fun p => (p.1, (E.T p.2).size)).toArray[i]? = some (off, (E.T ft).size) := by simp [hp]
     simp only [List.map_cons, Instr.fill, hplace]
     rw [if_neg (by simp [hsz]; omega)]
     exact ho1
   ·cases h
  ·cases h
theorem a3A (hT : TyOK E.P E.T) {t : Nat} {parts : Array (Nat × Operand)} (ho : o.op = .build t parts) (h : pW E t parts.toList st k) (hr : Rel E.C g V st a w) (hK : dQ E o a k K) : o.wp E.P a w K Q := by
 unfold pW at h
 split at h
 ·rename_i cs hb
  obtain ⟨h1, h2, hk⟩ := h
  obtain ⟨i, z, u, hg⟩ := hT.good (t := t) (by rw [h1]; decide)
  obtain ⟨fs, rfl, hfs⟩ := hg.struct h1
  obtain ⟨out, ho1, ho2⟩ := a4Q (E := E) hr.sl hb (mZ hg.zc g V)
  refine aC (w' := w) (y := .agg out) ?_ (hK g V st w (.g cs) _ hr ⟨out.toList, rfl, ho2⟩ hk)
  simp only [execOp, ho]
  refine aD _ _ _ _ _ (run_build w t _ out ?_)
  unfold Program.built
  simp only [hg.info, hg.und, hg.zero, a2E hT hfs h2]
  rw [← ho1]
  congr 1
  simp
 ·exact h.elim
theorem xY (hr : Sl g V st.t a) {dflt : Nat} {x : Option Operand} {n : Int} (h : bnd st dflt x = some n) : (x = none ∧ n = dflt) ∨ ∃ y kd, x = some y ∧ a.eval y = .int kd n := by
 cases x with
 | none => left; simp [bnd] at h; exact ⟨rfl, h.symm⟩
 | some y =>
  right
  simp only [bnd] at h
  split at h
  ·rename_i kd m e
   cases h
   have hy := aY hr y
   rw [e] at hy
   exact ⟨y, kd, rfl, (aG hy).1⟩
  ·cases h
theorem uJ {P : Program} {w : World} (sl : Bool) (len cap : Nat) {lo hi : Option Operand} {l h : Int} (hl : (lo = none ∧ l = ((0 : Nat) : Int)) ∨ ∃ y kd, lo = some y ∧ a.eval y = .int kd l)
    (hh : (hi = none ∧ h = (len : Int)) ∨ ∃ y kd, hi = some y ∧ a.eval y = .int kd h) (h0 : 0 ≤ l) (h1 : l ≤ h) (h2 : h ≤ cap) :
    (Instr.sliceBounds sl len cap (lo.map a.eval) (hi.map a.eval) none).run P w = .ok (l.toNat, h.toNat, cap) w := by
 have hb : ∀ (kd : IntKind) (n : Int) (y : Nat) (c : BoundsCode), 0 ≤ n → n ≤ y → (Instr.sliceBound (.int kd n) y c).run P w = .ok n.toNat w := fun kd n y c => run_sliceBound w kd n y c
 rcases hl with ⟨rfl, e⟩ | ⟨y, kd, rfl, ey⟩ <;> rcases hh with ⟨rfl, e'⟩ | ⟨y', kd', rfl, ey'⟩
 ·subst e; subst e'
  simp [Instr.sliceBounds]
 ·subst e
  simp [Instr.sliceBounds, ey', hb _ _ _ _ (Int.le_trans h0 h1) h2]
 ·subst e'
  simp [Instr.sliceBounds, ey, hb _ _ _ _ h0 h1]
 ·simp [Instr.sliceBounds, ey, ey', hb _ _ _ _ (Int.le_trans h0 h1) h2, hb kd l h.toNat _ h0 (by omega)]
theorem a1V (hT : TyOK E.P E.T) {t : Nat} {x : Operand} {lo hi : Option Operand} {rows : List (List D)} {l hh : Int} (ho : o.op = .slice t x lo hi none) (e2 : bnd st 0 lo = some l) (e3 : bnd st rows.length hi = some hh) (h1 : (E.T t).tag = 2) (ht : (E.T (E.T t).elem).tag ≠ 0)
    (hsz : ∀ r ∈ rows, r.length = (E.T (E.T t).elem).size) (l0 : 0 ≤ l) (l1 : l ≤ hh) (l2 : hh ≤ rows.length) (hx : ∃ S, Lay V (.sl rows) (a.eval x) S) (hk : k st (.o (.d (.sl ((rows.take hh.toNat).drop l.toNat))))) (hr : Rel E.C g V st a w) (hK : dQ E o a k K) : o.wp E.P a w K Q := by
 obtain ⟨i, z, u, hg⟩ := hT.good (t := t) (by rw [h1]; decide)
 obtain ⟨i', z', u', hge⟩ := hT.good ht
 obtain ⟨S, hx⟩ := hx
 have hrun : ∀ (b : Option Addr) (cap : Nat), hh ≤ cap → (Instr.sliceAt t (.slice b rows.length cap) (lo.map a.eval) (hi.map a.eval) (none : Option Value)).run E.P w =
     .ok (.slice (if cap = l.toNat then b else b.map (·.add (l.toNat * (E.T (E.T t).elem).size))) (hh.toNat - l.toNat) (cap - l.toNat)) w := by
  intro b cap hcap
  have hb := uJ (P := E.P) (w := w) (a := a) true rows.length cap (xY hr.sl e2) (xY hr.sl e3) l0 l1 hcap
  simp only [Instr.sliceAt, Sem.run_bind, hg.run_und w, Result.andThen_ok, hg.slice h1, Instr.slice, hb, hge.run_size w, Sem.run_pure]
 have hlen : ((rows.take hh.toNat).drop l.toNat).length = hh.toNat - l.toNat := by simp; omega
 rcases lay_sl_inv hx with ⟨hy, rfl⟩ | ⟨ad, cap, sz, ys, Ss, hy, hs, hc1, hc2, hl, hc, rfl⟩
 ·simp at l2
  have hz : hh = 0 := by omega
  have hz' : l = 0 := by omega
  subst hz; subst hz'
  refine aC (w' := w) (y := .slice none 0 0) ?_ (hK g V st w (.o (.d (.sl (([] : List (List D)).take (0:Int).toNat |>.drop (0:Int).toNat)))) _ hr ⟨[], by simpa using Lay.nil⟩ hk)
  simp only [execOp, ho, hy]
  exact aD _ _ _ _ _ (by simpa using hrun none 0 (by simp))
 ·refine aC (w' := w) (y := .slice (some (if cap = l.toNat then ad else ad.add (l.toNat * (E.T (E.T t).elem).size))) (hh.toNat - l.toNat) (cap - l.toNat)) ?_
   (hK g V st w (.o (.d (.sl ((rows.take hh.toNat).drop l.toNat)))) _ hr ?_ hk)
  ·simp only [execOp, ho, hy]
   refine aD _ _ _ _ _ ((hrun (some ad) cap (by omega)).trans ?_)
   split <;> rfl
  ·
   have hee : sz = (E.T (E.T t).elem).size ∨ rows = [] := by
    cases rows with
    | nil => exact .inr rfl
    | cons r rs => left; rw [← hs r (List.mem_cons_self ..), hsz r (List.mem_cons_self ..)]
   generalize hRR : (rows.take hh.toNat).drop l.toNat = R at hlen
   have hsub : ∀ r ∈ R, r ∈ rows := fun r hr' => by rw [← hRR] at hr'; exact List.mem_of_mem_take (List.mem_of_mem_drop hr')
   rw [← hlen]
   by_cases hR : R = []
   ·subst hR
    exact ⟨_, .sl [] _ _ sz [] [] (fun r h => by simp at h) (by simp) (by omega) rfl rfl (fun k y h => by simp at h) (fun k d y S h => by simp at h)⟩
   ·have hne : rows ≠ [] := fun e => by subst e; simp at hRR; exact hR hRR
    have hse := hee.resolve_right hne
    have hfl : ∀ j d, R.flatten[j]? = some d → rows.flatten[l.toNat * sz + j]? = some d := by
     intro j d hj
     have e1 : (rows.take hh.toNat).flatten = (rows.take l.toNat).flatten ++ R.flatten := by
      rw [← hRR, ← List.flatten_append]
      congr 1
      have : rows.take l.toNat = (rows.take hh.toNat).take l.toNat := by rw [List.take_take]; congr 1; omega
      rw [this, List.take_append_drop]
     have e2 : rows.flatten = (rows.take l.toNat).flatten ++ (R.flatten ++ (rows.drop hh.toNat).flatten) := by
      rw [← List.append_assoc, ← e1, ← List.flatten_append, List.take_append_drop]
     have e3 : (rows.take l.toNat).flatten.length = l.toNat * sz := by
      rw [bS (sz := sz) fun r hr' => hs r (List.mem_of_mem_take hr')]
      rw [List.length_take, Nat.min_eq_left (by omega)]
     rw [e2, List.getElem?_append_right (by omega), e3, Nat.add_sub_cancel_left, List.getElem?_append_left (List.getElem?_eq_some_iff.1 hj).1]
     exact hj
    have hfit : l.toNat * sz + R.flatten.length ≤ rows.flatten.length := by
     rw [bS (sz := sz) fun r hr' => hs r (hsub r hr'), bS hs, hlen, ← Nat.add_mul]
     exact Nat.mul_le_mul_right _ (by omega)
    refine ⟨_, .sl R _ _ sz ((ys.drop (l.toNat * sz)).take R.flatten.length) ((Ss.drop (l.toNat * sz)).take R.flatten.length) (fun r h => hs r (hsub r h)) (by omega) (by omega) ?_ ?_ ?_ ?_⟩
    ·have := hl.1; rw [List.length_take, List.length_drop, Nat.min_eq_left (by omega)]
    ·have := hl.2.1; rw [List.length_take, List.length_drop, Nat.min_eq_left (by omega)]
    ·intro j y hj
     rw [List.getElem?_take] at hj
     split at hj
     ·rw [List.getElem?_drop] at hj
      have hcell := hc _ y hj
      split
      ·rename_i hcc
       have hR0 : R.length = 0 := by omega
       exact (hR (List.eq_nil_of_length_eq_zero hR0)).elim
      ·rw [pU, ← hse]; exact hcell
     ·cases hj
    ·intro j d y S h1' h2' h3'
     rw [List.getElem?_take] at h2' h3'
     split at h2'
     ·rw [if_pos ‹_›] at h3'
      rw [List.getElem?_drop] at h2' h3'
      exact hl.2.2 _ d y S (hfl j d h1') h2' h3'
     ·cases h2'
theorem a3B (hT : TyOK E.P E.T) {t : Nat} {x : Operand} {lo hi mx : Option Operand} (ho : o.op = .slice t x lo hi mx) (h : jD E t (ev st x) lo hi mx st k) (hr : Rel E.C g V st a w) (hK : dQ E o a k K) : o.wp E.P a w K Q := by
 have hx := aY hr.sl x
 unfold jD at h
 split at h
 ·rename_i m
  obtain ⟨h1, ht, hsl, rfl, hhi, hmx, hne, hk⟩ := h
  obtain ⟨i, z, u, hg⟩ := hT.good (t := t) (by rw [h1]; decide)
  obtain ⟨i', z', u', hge⟩ := hT.good ht
  obtain ⟨v, rfl⟩ : ∃ v, hi = some v := by cases hi with
   | none => exact (hne rfl).elim
   | some v => exact ⟨v, rfl⟩
  obtain ⟨ao, len, cap, hv⟩ : ∃ ao len cap, a.eval x = .slice ao len cap := by
   unfold a7n at hsl
   split at hsl
   ·rename_i rows e1
    rw [e1] at hx
    obtain ⟨S, hx⟩ := hx
    rcases lay_sl_inv hx with ⟨e, _⟩ | ⟨ad, cap, _, _, _, e, _⟩
    ·exact ⟨_, _, _, e⟩
    ·exact ⟨_, _, _, e⟩
   ·rename_i e1
    rw [e1] at hx
    exact ⟨_, _, _, hx⟩
   ·rename_i id e1
    rw [e1] at hx
    obtain ⟨gh, hgh, hy, _⟩ := hx
    split at hsl
    ·rename_i ty sz rows lin hrow
     obtain ⟨h0, ys, Ss, q1, q2, q3⟩ := hr.hp.hb id _ gh (aB hrow (by simp)) hgh
     rcases q3 with ⟨_, ⟨ao, e⟩, _⟩ | ⟨b, cap, c, _, e, _⟩
     ·exact ⟨_, _, _, hy.trans e⟩
     ·exact ⟨_, _, _, hy.trans e⟩
    ·rename_i rows lin hrow
     obtain ⟨_, S, q1, _⟩ := hr.hp.hb id _ gh (aB hrow (by simp)) hgh
     rcases lay_sl_inv q1 with ⟨e, _⟩ | ⟨ad, cap, _, _, _, e, _⟩
     ·exact ⟨_, _, _, hy.trans e⟩
     ·exact ⟨_, _, _, hy.trans e⟩
    ·cases hsl
   ·cases hsl
  have hb0 : ∀ (y : Operand), bnd st 1 (some y) = some 0 → ∃ kd, a.eval y = .int kd 0 := fun y hy => by
   unfold bnd at hy
   have hyv := aY hr.sl y
   simp only at hy
   split at hy
   ·rename_i kd n e
    cases hy
    rw [e] at hyv
    exact ⟨kd, (aG hyv).1⟩
   ·cases hy
  obtain ⟨k1, e1⟩ := hb0 v hhi
  obtain ⟨k2, e2⟩ := hb0 m hmx
  have hrun : (Instr.sliceAt t (.slice ao len cap) (none : Option Value) (some (.int k1 0)) (some (.int k2 0))).run E.P w = .ok (.slice ao 0 0) w := by
   simp [Instr.sliceAt, hg.run_und w, hg.slice h1, Instr.slice, Instr.sliceBounds, Instr.sliceBound, asIntOf, hge.run_size w]
  let gx : Gh := ⟨none, .slice ao 0 0, [], []⟩
  have hlen : g.length = st.h.length := hr.hp.glen
  refine aC (w' := w) (y := .slice ao 0 0) ?_ (hK (g ++ [gx]) V ⟨st.t, st.h ++ [.row (E.T t).elem (E.T (E.T t).elem).size [] true]⟩ w (.o (.s st.h.length)) _ ⟨hr.sl.mono (GLe.push _ _) (View.le.refl V), hr.hp.push (b := .row (E.T t).elem (E.T (E.T t).elem).size [] true) ?_ ?_ ?_ ?_ ?_, hr.mod, hr.fr, hr.vw⟩ ?_ hk)
  ·simp only [execOp, ho, hv, e1, e2, Option.map_none, Option.map_some]
   exact aD _ _ _ _ _ hrun
  ·exact ⟨fun r h => by simp at h, [], [], LayL.nil V, fun _ => rfl, .inl ⟨rfl, ⟨ao, rfl⟩, rfl⟩⟩
  ·simp [aH, gx]
  ·intro n hn; simp [aH, gx] at hn
  ·intro i b' x' _ _ n _ hm; simp [aH, gx] at hm
  ·intro n hn; simp [aK, gx] at hn
  ·exact ⟨gx, by rw [List.getElem?_append_right (by omega)]; simp [hlen], rfl, rfl⟩
 ·split at h
  ·rename_i s e1
   rw [e1] at hx
   split at h
   ·rename_i l hh e2 e3
    obtain ⟨h1, l0, l1, l2, hk⟩ := h
    obtain ⟨i, z, u, hg⟩ := hT.good (t := t) (by rw [h1]; decide)
    obtain ⟨hx, _⟩ := aG hx
    refine aC (w' := w) (y := .string (s.extract l.toNat hh.toNat)) ?_ (hK g V st w _ _ hr (aM g V _ rfl) hk)
    simp only [execOp, ho, hx]
    refine aD _ _ _ _ _ ?_
    have hb := uJ (P := E.P) (w := w) (a := a) false s.size s.size (xY hr.sl e2) (xY hr.sl e3) l0 l1 l2
    simp only [Instr.sliceAt, Sem.run_bind, hg.run_und w, Result.andThen_ok, hg.string h1, Instr.slice, Option.map_none, Option.isSome_none, Bool.false_eq_true, if_false, hb, Sem.run_pure]
   ·exact h.elim
  ·rename_i rows e1
   rw [e1] at hx
   split at h
   ·rename_i l hh e2 e3
    obtain ⟨h1, ht, hsz, l0, l1, l2, hk⟩ := h
    exact a1V hT ho e2 e3 h1 ht hsz l0 l1 l2 hx hk hr hK
   ·exact h.elim
  ·exact h.elim
end
end Go.Sx
end
section
set_option linter.all false
namespace Go.Sx
open Go Go.RowKit
section
theorem Hp.frz {C : Ctx} {g : List Gh} {V : View} {h : List HB} {w : World} (k : Hp C g V h w) (hm : Mod V w) (hsz : C.w0.heap.size ≤ w.heap.size) {id ty sz : Nat} {rows : List (List D)} {lin : Bool} (h1 : h[id]? = some (.row ty sz rows lin)) :
    ∃ g' V', GLe g g' ∧ V.le V' ∧ Mod V' w ∧ Hp C g' V' (h.set id (.frz rows lin)) w ∧ (∀ b cs, V' b = some cs → V b = none → (C.w0.heap.size ≤ b ∨ b ∈ C.X) ∧ Unf w b) := by
 have hl : id < g.length := by rw [k.glen]; exact (List.getElem?_eq_some_iff.1 h1).1
 obtain ⟨x, h2⟩ : ∃ x, g[id]? = some x := ⟨_, List.getElem?_eq_getElem hl⟩
 obtain ⟨h0, ys, Ss, q1, q2, q3⟩ := k.hb id _ x h1 h2
 have hnd := k.nd id _ x h1 h2
 rcases q3 with ⟨e1, e2, rfl⟩ | ⟨b, cap, c, e1, e2, e3, e4, e5, e6, e7⟩
 ·have hys : Ss = [] := by have := q1.2.1; simpa using this
  subst hys
  refine ⟨g.set id { x with tr := [] }, V, GLe.set h2 rfl rfl rfl, View.le.refl V, hm, ?_, ?_⟩
  case refine_2 => intro b cs h h'; rw [h] at h'; cases h'
  refine k.swap (x' := { x with tr := [] }) id h1 h2 rfl rfl rfl (View.le.refl V) ?_ ?_ ?_ ?_ (fun _ _ _ => rfl) (Nat.le_refl _) hsz (fun n _ _ hn => hn)
  ·intro n hn; simp [aH] at hn
  ·simp [aH]
  ·intro n hn; simp [aK] at hn
  ·obtain ⟨ao, e2⟩ := e2
   refine ⟨by rw [e2]; rfl, [], ?_, fun _ => rfl⟩
   rw [e2]
   cases ao with
   | none => exact .nil
   | some ad => exact .sl [] ad 0 sz [] [] (fun r h => by simp at h) (by simp) (by simp) rfl rfl (fun k y h => by simp at h) (fun k d y S h => by simp at h)
 ·let V' : View := fun n => if n = b then some ys else V n
  have hVb : V b = none := k.rt id _ x h1 h2 b (by simp [aK, e1])
  have hle : V.le V' := fun n cs hn => by
   have : n ≠ b := fun e => by rw [e, hVb] at hn; cases hn
   exact ⟨cs, by simp [V', this, hn], List.prefix_refl _⟩
  have hm' : Mod V' w := fun n cs hn => by
   by_cases e : n = b
   ·subst e
    simp [V'] at hn
    subst hn
    exact ⟨c, ty, (0, 0), e5, e7⟩
   ·simp [V', e] at hn
    exact hm n cs hn
  let T : List Nat := (if rows.isEmpty then [] else [b]) ++ Ss.flatten
  have hlay : Lay V' (.sl rows) x.val T := by
   rw [e2]
   refine .sl rows ⟨b, 0, none⟩ cap sz ys Ss h0 e3 e4 q1.1 q1.2.1 (fun j y hj => ?_) (q1.mono hle).2.2
   rw [Addr.add_lit, Nat.zero_add]
   simp [View.cell, V', hj]
  have hown : lin = true → aH x (.row ty sz rows lin) = b :: Ss.flatten := fun hlin => by simp [aH, e1, hlin, q2 hlin]
  refine ⟨g.set id { x with tr := T }, V', GLe.set h2 rfl rfl rfl, hle, hm', ?_, ?_⟩
  ·refine k.swap (x' := { x with tr := T }) id h1 h2 rfl rfl rfl hle ?_ ?_ ?_ ?_ (fun _ _ _ => rfl) (Nat.le_refl _) hsz ?_
   ·intro n hn
    left
    cases hlin : lin with
    | false => simp [aH, hlin] at hn
    | true =>
     have ho := hown hlin
     rw [hlin] at ho
     rw [ho]
     simp only [aH, hlin, if_true, T] at hn
     split at hn
     ·simp only [List.nil_append] at hn; exact List.mem_cons_of_mem _ hn
     ·simpa using hn
   ·cases hlin : lin with
    | false => simp [aH]
    | true =>
     have ho := hown hlin
     rw [ho] at hnd
     simp only [aH, if_true, T]
     split
     ·exact (List.nodup_cons.1 hnd).2
     ·exact hnd
   ·intro n hn; simp [aK] at hn
   ·exact ⟨by simp [e2, Value.oneCell'], T, hlay, fun _ => rfl⟩
   ·intro n hn _ hv
    have : n ≠ b := fun e => hn (by subst e; exact aJ (by simp [aK, e1]))
    simp [V', this, hv]
  ·intro n cs h h'
   by_cases e : n = b
   ·subst e; exact ⟨(k.lo id _ x h1 h2 n (aJ (by simp [aK, e1]))).1, c, ty, e5⟩
   ·simp [V', e] at h; rw [h] at h'; cases h'
end
theorem Hp.drop {C : Ctx} {g : List Gh} {V : View} {h : List HB} {w : World} (k : Hp C g V h w) (id : Nat) : Hp C g V (h.set id .gone) w := by
 rcases Nat.lt_or_ge id h.length with hl | hl
 ·have hg : id < g.length := by rw [k.glen]; exact hl
  exact k.set id (List.getElem?_eq_getElem hl) (List.getElem?_eq_getElem hg) (fun n hn => by simp [aH] at hn) (by simp [aH]) (fun n hn => by simp [aK] at hn) trivial (fun _ _ => rfl) rfl
 ·rw [List.set_eq_of_length_le hl]; exact k
theorem fA : ∀ (ids : List Nat) (h : List HB) (i : Nat), (dR h ids).length = h.length ∧ ((dR h ids)[i]? = if i < h.length ∧ i ∈ ids then some .gone else h[i]?)
 | [], h, i => by simp [dR]
 | id :: ids, h, i => by
  obtain ⟨h1, h2⟩ := fA ids (setH h id .gone) i
  simp only [dR]
  rw [bD] at h1 h2
  rw [bD]
  refine ⟨by simpa using h1, ?_⟩
  rw [h2]
  simp only [List.length_set, List.mem_cons]
  by_cases e1 : i < h.length
  ·by_cases e2 : i ∈ ids
   ·rw [if_pos ⟨e1, e2⟩, if_pos ⟨e1, .inr e2⟩]
   ·rw [if_neg (fun h => e2 h.2), List.getElem?_set]
    by_cases e3 : id = i
    ·rw [if_pos e3, if_pos (by omega), if_pos ⟨e1, .inl e3.symm⟩]
    ·rw [if_neg e3, if_neg (fun h => h.2.elim (fun h => e3 h.symm) e2)]
  ·rw [if_neg (fun h => e1 h.1), if_neg (fun h => e1 h.1), List.getElem?_eq_none (by simp; omega), List.getElem?_eq_none (by omega)]
theorem mE {C : Ctx} {g : List Gh} {V : View} {w : World} : ∀ (ids : List Nat) {h : List HB}, Hp C g V h w → Hp C g V (dR h ids) w
 | [], _, k => k
 | id :: ids, h, k => by
  simp only [dR, bD]
  exact mE ids (k.drop id)
theorem dU {C : Ctx} {a : Act} {w : World} : ∀ (ids : List Nat) {st : St} {g : List Gh} {V : View}, Rel C g V st a w → ∃ g' V', Rel C g' V' ⟨st.t, aQ st.h ids⟩ a w ∧ GLe g g' ∧ V.le V' ∧ (aQ st.h ids).length = st.h.length ∧ ∀ (i : Nat), i ∉ ids → (aQ st.h ids)[i]? = st.h[i]?
 | [], st, g, V, hr => ⟨g, V, hr, GLe.refl g, View.le.refl V, rfl, fun _ _ => rfl⟩
 | id :: ids, st, g, V, hr => by
  simp only [aQ]
  split
  ·rename_i ty sz rows lin e
   obtain ⟨g1, V1, h1, h2, h3, h4, h5⟩ := hr.hp.frz hr.mod hr.fr.size (aB e (by simp))
   have hr1 : Rel C g1 V1 ⟨st.t, setH st.h id (.frz rows lin)⟩ a w := ⟨hr.sl.mono h1 h2, by rw [bD]; exact h4, h3, hr.fr, hr.vw.grow h2 h5⟩
   obtain ⟨g', V', k1, k2, k3, k4, k5⟩ := dU ids hr1
   refine ⟨g', V', k1, h1.trans k2, h2.trans k3, by rw [k4, bD]; simp, fun i hi => ?_⟩
   rw [k5 i (fun h => hi (List.mem_cons_of_mem _ h)), bD, List.getElem?_set, if_neg (fun e => hi (by subst e; exact List.mem_cons_self ..))]
  ·obtain ⟨g', V', k1, k2, k3, k4, k5⟩ := dU ids hr
   exact ⟨g', V', k1, k2, k3, k4, fun i hi => k5 i (fun h => hi (List.mem_cons_of_mem _ h))⟩
theorem iO (x : Nat) : ∀ (l : List Nat), vU x l = true ↔ x ∈ l
 | [] => by simp [vU]
 | y :: ys => by simp [vU, iO x ys]
def FromIds (g : List Gh) (h : List HB) (ids : List Nat) (b : Nat) : Prop := ∃ id ∈ ids, ∃ (x : Gh) (rows : List (List D)), h[id]? = some (.frz rows true) ∧ g[id]? = some x ∧ b ∈ x.tr
theorem tF {C : Ctx} {g : List Gh} {V : View} {h : List HB} {w : World} (hp : Hp C g V h w) : ∀ {cs : List At} {l : List Value} {ds : List D} {lin : Bool}, jT h cs = some (ds, lin) → cL g V cs l →
    ∃ Ss, LayL V ds l Ss ∧ (lin = true → jK (bL cs) = true → Ss.flatten.Nodup ∧ ∀ b ∈ Ss.flatten, FromIds g h (bL cs) b)
 | [], l, ds, lin, hab, hc => by
  simp only [jT, Option.some.injEq, Prod.mk.injEq] at hab
  obtain ⟨rfl, rfl⟩ := hab
  rw [hc.nil_inv]
  exact ⟨[], LayL.nil V, fun _ _ => ⟨by simp, fun b hb => by simp at hb⟩⟩
 | c :: cs, l, ds, lin, hab, hc => by
  simp only [jT, Option.bind_eq_some_iff, Option.map_eq_some_iff] at hab
  obtain ⟨⟨d, l1⟩, h1, ⟨ds', l2⟩, h2, h3⟩ := hab
  simp only [Prod.mk.injEq] at h3
  obtain ⟨rfl, rfl⟩ := h3
  obtain ⟨y, l', rfl, hy, hl⟩ := hc.cons_inv
  obtain ⟨Ss, q1, q2⟩ := tF hp h2 hl
  have plain : ∀ S, Lay V d y S → (l1 = true → S = []) → bL (c :: cs) = bL cs → ∃ Ss, LayL V (d :: ds') (y :: l') Ss ∧ (((l1 && l2) = true) → jK (bL (c :: cs)) = true → Ss.flatten.Nodup ∧ ∀ b ∈ Ss.flatten, FromIds g h (bL (c :: cs)) b) := by
   intro S hS hS0 hid
   refine ⟨S :: Ss, LayL.append (ds := [d]) (ys := [y]) (Ss := [S]) ⟨rfl, rfl, fun k d' y' S' e1 e2 e3 => ?_⟩ q1, fun hlin hn => ?_⟩
   ·cases k with
    | zero => simp at e1 e2 e3; subst e1; subst e2; subst e3; exact hS
    | succ k => simp at e1
   ·rw [hid] at hn ⊢
    simp only [Bool.and_eq_true] at hlin
    rw [List.flatten_cons, hS0 hlin.1, List.nil_append]
    exact q2 hlin.2 hn
  cases c with
  | d x =>
   obtain ⟨S, hy⟩ := hy
   cases x with
   | v z =>
    simp only [nN, Option.some.injEq, Prod.mk.injEq] at h1
    obtain ⟨rfl, rfl⟩ := h1
    cases hy with
    | v _ hs => exact plain [] (.v _ hs) (fun _ => rfl) rfl
   | sl rows =>
    simp only [nN, Option.some.injEq, Prod.mk.injEq] at h1
    obtain ⟨rfl, rfl⟩ := h1
    exact plain S hy (fun h => by cases h) rfl
  | z =>
   simp only [nN, Option.some.injEq, Prod.mk.injEq] at h1
   obtain ⟨rfl, rfl⟩ := h1
   have hy : y = _ := hy
   subst hy
   exact plain [] .nil (fun _ => rfl) rfl
  | s id =>
   simp only [nN] at h1
   split at h1
   ·rename_i rows lin' e
    simp only [Option.some.injEq, Prod.mk.injEq] at h1
    obtain ⟨rfl, rfl⟩ := h1
    obtain ⟨gh, hg, hv, _⟩ := hy
    have hi := aB e (by simp)
    obtain ⟨_, S, hS, hS2⟩ := hp.hb id _ gh hi hg
    refine ⟨S :: Ss, LayL.append (ds := [.sl rows]) (ys := [y]) (Ss := [S]) ⟨rfl, rfl, fun k d' y' S' e1 e2 e3 => ?_⟩ q1, fun hlin hn => ?_⟩
    ·cases k with
     | zero => simp at e1 e2 e3; subst e1; subst e2; subst e3; rw [hv]; exact hS
     | succ k => simp at e1
    ·simp only [Bool.and_eq_true] at hlin
     obtain ⟨rfl, hl2⟩ := hlin
     simp only [bL, jK, Bool.and_eq_true, Bool.not_eq_true'] at hn
     obtain ⟨r1, r2⟩ := q2 hl2 hn.2
     have hni : id ∉ bL cs := fun hm => by have := (iO id (bL cs)).2 hm; rw [hn.1] at this; cases this
     have hSt := hS2 rfl
     have hown : aH gh (.frz rows true) = S := by simp [aH, hSt]
     rw [List.flatten_cons]
     refine ⟨List.nodup_append.2 ⟨by rw [← hown]; exact hp.nd id _ gh hi hg, r1, fun b hb c hc => ?_⟩, fun b hb => ?_⟩
     ·rintro rfl
      obtain ⟨id', hid', x', rows', e1, e2, e3⟩ := r2 b hc
      exact hp.dj id id' _ _ gh x' (fun e => hni (e ▸ hid')) hi hg e1 e2 b (by rw [hown]; exact hb) (by simpa [aH] using e3)
     ·rcases List.mem_append.1 hb with hb | hb
      ·exact ⟨id, by simp [bL], gh, rows, hi, hg, by rw [hSt]; exact hb⟩
      ·obtain ⟨id', hid', r⟩ := r2 b hb
       exact ⟨id', by simp [bL, hid'], r⟩
   ·cases h1
  | u => simp [nN] at h1
  | p => simp [nN] at h1
  | r => simp [nN] at h1
  | q => simp [nN] at h1
  | f => simp [nN] at h1
  | w => simp [nN] at h1
  | m => simp [nN] at h1
  | e => simp [nN] at h1
  | n => simp [nN] at h1
theorem FromIds.free {C : Ctx} {g : List Gh} {V : View} {h : List HB} {w : World} (hp : Hp C g V h w) {ids : List Nat} {b : Nat} (hb : FromIds g h ids b) :
    ((C.w0.heap.size ≤ b ∨ b ∈ C.X) ∧ b < w.heap.size) ∧ ∀ (i : Nat) (c : HB) (x : Gh), (dR h ids)[i]? = some c → g[i]? = some x → b ∉ aH x c := by
 obtain ⟨id, hid, y, rows, e1, e2, e3⟩ := hb
 have hy : b ∈ aH y (.frz rows true) := by simpa [aH] using e3
 refine ⟨hp.lo id _ y e1 e2 b hy, fun i c x h1 h2 => ?_⟩
 have hil : i < h.length := by have := (List.getElem?_eq_some_iff.1 h1).1; rwa [(fA ids h i).1] at this
 rw [(fA ids h i).2] at h1
 split at h1
 ·cases h1; simp [aH]
 ·rename_i hc
  exact fun hb' => hp.dj id i _ c y x (fun e => hc ⟨hil, e ▸ hid⟩) e1 e2 h1 h2 b hy hb'
theorem Rel.newRow {C : Ctx} {g : List Gh} {V : View} {st : St} {a : Act} {w : World} (hr : Rel C g V st a w) (ids : List Nat) {ty sz cap : Nat} {rows : List (List D)} {lin : Bool} {ys : List Value} {Ss : List (List Nat)} {cur : Array Value}
    (hu : uni sz rows) (hl : LayL V rows.flatten ys Ss) (hlin : lin = true → Ss.flatten.Nodup ∧ ∀ b ∈ Ss.flatten, FromIds g st.h ids b) (hcap : rows.length ≤ cap) (hmax : cap ≤ maxLen) (hcs : cur.size = cap * sz) (hpre : ys <+: cur.toList) {w1 : World} (hw1 : w1.heap = w.heap ∧ w1.os = w.os ∧ w1.tape = w.tape ∧ w1.output = w.output) :
    ∃ g', Rel C g' V ⟨st.t, dR st.h ids ++ [.row ty sz rows lin]⟩ a (w1.alloc (.cells cur ty)) ∧ GLe g g' ∧ cSV g' V (.o (.s st.h.length)) (.slice (some ⟨w.heap.size, 0, none⟩) rows.length cap) := by
 obtain ⟨q1, q2, q3, q4⟩ := hw1
 have hb1 : Below w.heap.size w w1 := ⟨q2, q3, q4, by rw [q1]; exact Nat.le_refl _, fun k _ => by rw [q1]⟩
 have hm1 : Mod V w1 := fun b cs hb => by rw [q1]; exact hr.mod b cs hb
 have hr1 := hr.later (View.le.refl V) hm1 hb1 (fun b cs h1 h2 => by rw [h1] at h2; cases h2)
 have hr2 := hr1.later (View.le.refl V) (hm1.alloc (.cells cur ty)) (sF w1 _) (fun b cs h1 h2 => by rw [h1] at h2; cases h2)
 have hsz1 : w1.heap.size = w.heap.size := by rw [q1]
 let x : Gh := ⟨some w.heap.size, .slice (some ⟨w.heap.size, 0, none⟩) rows.length cap, Ss.flatten, []⟩
 have hlen : g.length = st.h.length := hr.hp.glen
 have hgl : (dR st.h ids).length = st.h.length := (fA ids st.h 0).1
 have hown : ∀ n ∈ aH x (.row ty sz rows lin), n = w.heap.size ∨ (lin = true ∧ n ∈ Ss.flatten) := fun n hn => by
  simp only [aH, x, List.mem_append] at hn
  rcases hn with hn | hn
  ·simp at hn; exact .inl hn
  ·split at hn
   ·exact .inr ⟨‹_›, hn⟩
   ·simp at hn
 refine ⟨g ++ [x], ⟨hr2.sl.mono (GLe.push _ _) (View.le.refl V), ?_, hr2.mod, hr2.fr, hr2.vw⟩, GLe.push _ _, x, by rw [List.getElem?_append_right (by omega)]; simp [hlen], rfl, rfl⟩
 refine (mE ids hr2.hp).push ?_ ?_ ?_ ?_ ?_
 ·exact ⟨hu, ys, Ss, hl, fun _ => rfl, .inr ⟨w.heap.size, cap, cur, rfl, rfl, hcap, hmax, by rw [← hsz1]; exact heap_alloc_new w1 _, hcs, hpre⟩⟩
 ·simp only [aH, x, Option.toList_some, List.singleton_append]
  refine List.nodup_cons.2 ⟨fun hm => ?_, ?_⟩
  ·split at hm
   ·have := ((hlin ‹_›).2 _ hm).free hr.hp
    omega
   ·simp at hm
  ·split
   ·exact (hlin ‹_›).1
   ·simp
 ·intro n hn
  rcases hown n hn with rfl | ⟨h1, h2⟩
  ·exact ⟨.inl hr.fr.size, by simp [hsz1]⟩
  ·have := (((hlin h1).2 n h2).free hr.hp).1
   exact ⟨this.1, by simp [hsz1]; omega⟩
 ·intro i b' x' h1 h2 n hn hm
  rcases hown n hm with rfl | ⟨h3, h4⟩
  ·have hil : i < st.h.length := by have := (List.getElem?_eq_some_iff.1 h1).1; rwa [hgl] at this
   rw [(fA ids st.h i).2] at h1
   split at h1
   ·cases h1; simp [aH] at hn
   ·exact Nat.lt_irrefl _ (hr.hp.lo i b' x' h1 h2 _ hn).2
  ·exact (((hlin h3).2 n h4).free hr.hp).2 i b' x' h1 h2 hn
 ·intro n hn
  simp [aK, x] at hn
  subst hn
  exact hr.mod.fresh (Nat.le_refl _)
end Go.Sx
end
section
set_option linter.all false
namespace Go.Sx
open Go Go.RowKit
theorem wM {h : List HB} : ∀ {css : List (List At)} {rows : List (List D)} {lin : Bool}, a2J h css = some (rows, lin) → jT h css.flatten = some (rows.flatten, lin) ∧ rows.length = css.length ∧ ∀ (k : Nat) (cs : List At) (r : List D), css[k]? = some cs → rows[k]? = some r → r.length = cs.length
 | [], rows, lin, h => by
  simp only [a2J, Option.some.injEq, Prod.mk.injEq] at h
  obtain ⟨rfl, rfl⟩ := h
  exact ⟨rfl, rfl, fun k cs r h => by simp at h⟩
 | cs :: css, rows, lin, hh => by
  simp only [a2J, Option.bind_eq_some_iff, Option.map_eq_some_iff] at hh
  obtain ⟨⟨r, l1⟩, h1, ⟨rs, l2⟩, h2, h3⟩ := hh
  simp only [Prod.mk.injEq] at h3
  obtain ⟨rfl, rfl⟩ := h3
  obtain ⟨e1, e2, e3⟩ := wM h2
  refine ⟨?_, by simp [e2], fun k c q hk hq => ?_⟩
  ·rw [List.flatten_cons, List.flatten_cons]
   exact absL_app h1 e1
  ·cases k with
   | zero => simp at hk hq; subst hk; subst hq; exact absL_len h1
   | succ k => exact e3 k c q (by simpa using hk) (by simpa using hq)
where
 absL_len : ∀ {cs : List At} {r : List D} {l : Bool}, jT h cs = some (r, l) → r.length = cs.length
  | [], r, l, hh => by simp only [jT, Option.some.injEq, Prod.mk.injEq] at hh; obtain ⟨rfl, rfl⟩ := hh; rfl
  | c :: cs, r, l, hh => by
   simp only [jT, Option.bind_eq_some_iff, Option.map_eq_some_iff] at hh
   obtain ⟨x, h1, ⟨y1, y2⟩, h2, h3⟩ := hh
   simp only [Prod.mk.injEq] at h3
   obtain ⟨rfl, rfl⟩ := h3
   simp [absL_len h2]
 absL_app : ∀ {cs ds : List At} {r q : List D} {l m : Bool}, jT h cs = some (r, l) → jT h ds = some (q, m) → jT h (cs ++ ds) = some (r ++ q, l && m)
  | [], ds, r, q, l, m, h1, h2 => by simp only [jT, Option.some.injEq, Prod.mk.injEq] at h1; obtain ⟨rfl, rfl⟩ := h1; simpa using h2
  | c :: cs, ds, r, q, l, m, h1, h2 => by
   simp only [jT, Option.bind_eq_some_iff, Option.map_eq_some_iff] at h1
   obtain ⟨x, e1, ⟨y1, y2⟩, e2, e3⟩ := h1
   simp only [Prod.mk.injEq] at e3
   obtain ⟨rfl, rfl⟩ := e3
   have := absL_app e2 h2
   simp [jT, e1, this, Bool.and_assoc]
section
variable {E : Env} {o : Oper} {st : St} {k : St → SV → Prop} {g : List Gh} {V : View} {a : Act} {w : World} {K : Act → World → Prop} {Q : Exit → Act → World → Prop}
theorem wN (hr : Sl g V st.t a) : ∀ {parts : List (Nat × Operand)} {n : Nat} {css : List (List At)}, fK st n parts = some css →
    css.length = parts.length ∧ (∀ (j : Nat) (i : Nat) (x : Operand), parts[j]? = some (i, x) → i = n + j) ∧ ∀ (j : Nat) (cs : List At) (p : Nat × Operand), css[j]? = some cs → parts[j]? = some p → cL g V cs (a.eval p.2).cells.toList
 | [], n, css, h => by
  simp only [fK, Option.some.injEq] at h
  subst h
  exact ⟨rfl, fun j i x h => by simp at h, fun j cs p h => by simp at h⟩
 | (i, x) :: r, n, css, h => by
  simp only [fK] at h
  split at h
  ·rename_i hc
   obtain ⟨rfl, hb⟩ := hc
   simp only [Option.map_eq_some_iff] at h
   obtain ⟨css', h1, rfl⟩ := h
   obtain ⟨e1, e2, e3⟩ := wN hr h1
   refine ⟨by simp [e1], fun j i' x' hj => ?_, fun j cs p h1 h2 => ?_⟩
   ·cases j with
    | zero => simp at hj; omega
    | succ j => have := e2 j i' x' (by simpa using hj); omega
   ·cases j with
    | zero => simp at h1 h2; subst h1; subst h2; exact iD (aY hr x) hb
    | succ j => exact e3 j cs p (by simpa using h1) (by simpa using h2)
  ·cases h
theorem uK (sz : Nat) : ∀ (vs : List Value) (n : Nat) (cells : Array Value), (∀ v ∈ vs, v.cells.size = sz) → (n + vs.length) * sz ≤ cells.size →
    ∃ out : Array Value, Instr.fill (fun i => some (i * sz, sz)) cells (vs.zipIdx n |>.map fun p => (p.2, p.1)) = some out ∧ out.toList = cells.toList.take (n * sz) ++ (vs.map fun v => v.cells.toList).flatten ++ cells.toList.drop ((n + vs.length) * sz)
 | [], n, cells, _, _ => ⟨cells, rfl, by simp⟩
 | v :: vs, n, cells, hs, hle => by
  have hv := hs v (List.mem_cons_self ..)
  have hle' : n * sz + sz ≤ cells.size := by
   have : (n + 1) * sz ≤ (n + (v :: vs).length) * sz := Nat.mul_le_mul_right _ (by simp)
   rw [Nat.add_mul, Nat.one_mul] at this
   omega
  let cells' := v.cells.zipIdx.foldl (fun cs (p : Value × Nat) => cs.setIfInBounds (n * sz + p.2) p.1) cells
  have hfold : cells'.toList = cells.toList.take (n * sz) ++ v.cells.toList ++ cells.toList.drop (n * sz + sz) := by
   show (v.cells.zipIdx.foldl _ cells).toList = _
   rw [← Array.foldl_toList, Array.toList_zipIdx]
   obtain ⟨f1, f2⟩ := uI (n * sz) v.cells.toList 0 cells
   apply List.ext_getElem?
   intro j
   rw [Array.getElem?_toList, f2]
   simp only [Nat.add_zero, Array.length_toList, hv]
   rw [List.getElem?_append, List.getElem?_append]
   simp only [List.length_append, List.length_take, Array.length_toList, hv]
   by_cases h1 : j < n * sz
   ·rw [if_neg (by omega), if_pos (by omega), if_pos (by omega), List.getElem?_take, if_pos h1, Array.getElem?_toList]
   ·by_cases h2 : j < n * sz + sz
    ·rw [if_pos ⟨by omega, h2, by omega⟩, if_pos (by omega), if_neg (by omega)]
     congr 1; omega
    ·rw [if_neg (by omega), if_neg (by omega), List.getElem?_drop, Array.getElem?_toList]
     congr 1; omega
  have hsz' : cells'.size = cells.size := by
   have := congrArg List.length hfold
   simp only [Array.length_toList, List.length_append, List.length_take, List.length_drop, hv] at this
   omega
  obtain ⟨out, o1, o2⟩ := uK sz vs (n + 1) cells' (fun x hx => hs x (List.mem_cons_of_mem _ hx)) (by rw [hsz']; simp at hle ⊢; rw [Nat.add_assoc, Nat.add_comm 1]; exact hle)
  refine ⟨out, ?_, ?_⟩
  ·simp only [List.zipIdx_cons, List.map_cons, Instr.fill]
   rw [if_neg (by simp [hv]; omega)]
   exact o1
  ·rw [o2, hfold]
   have e1 : (n + 1) * sz = n * sz + sz := by rw [Nat.add_mul, Nat.one_mul]
   have e2 : (n + 1 + vs.length) = n + (v :: vs).length := by simp; omega
   rw [e2, e1]
   have h3 : (cells.toList.take (n * sz) ++ v.cells.toList).length = n * sz + sz := by simp [hv]; omega
   rw [List.take_append_of_le_length (by omega), List.take_of_length_le (by omega)]
   rw [List.drop_append, h3, List.drop_of_length_le (by
    have : (n + 1) * sz ≤ (n + (v :: vs).length) * sz := Nat.mul_le_mul_right _ (by simp)
    omega), List.nil_append, List.drop_drop]
   simp only [List.map_cons, List.flatten_cons, List.append_assoc]
   congr 4
   have : (n + 1) * sz ≤ (n + (v :: vs).length) * sz := Nat.mul_le_mul_right _ (by simp)
   omega
theorem uL (parts : List (Nat × Operand)) (f : Operand → Value) (n : Nat) (h : ∀ (j : Nat) (i : Nat) (x : Operand), parts[j]? = some (i, x) → i = n + j) :
    parts.map (fun p => (p.1, f p.2)) = ((parts.map fun p => f p.2).zipIdx n).map fun p => (p.2, p.1) := by
 apply List.ext_getElem?
 intro j
 simp only [List.getElem?_map, List.getElem?_zipIdx]
 cases hj : parts[j]? with
 | none => simp
 | some p =>
  obtain ⟨i, x⟩ := p
  have := h j i x hj
  simp [this]
theorem vS (hT : TyOK E.P E.T) {t len : Nat} {parts : Array (Nat × Operand)} (ho : o.op = .buildSlice t len parts) (h : gB E t len parts.toList st k) (hr : Rel E.C g V st a w) (hK : dQ E o a k K) : o.wp E.P a w K Q := by
 obtain ⟨h1, h2, hlen, hbig, h⟩ := h
 obtain ⟨i, z, u, hgood⟩ := hT.good (t := t) (by rw [h1]; decide)
 obtain ⟨i', z', u', hge⟩ := hT.good h2
 split at h
 ·rename_i css hparts
  obtain ⟨hnd, h⟩ := h
  split at h
  ·rename_i rows lin habs
   obtain ⟨huni, hk⟩ := h
   obtain ⟨g1, V1, hr1, hg1, hv1, hfl, _⟩ := dU (bL css.flatten) hr
   obtain ⟨p1, p2, p3⟩ := wN hr1.sl (show fK ⟨st.t, aQ st.h (bL css.flatten)⟩ 0 parts.toList = some css by rw [← hparts]; exact partsC_h ..)
   obtain ⟨f1, f2, f3⟩ := wM habs
   let vs := parts.toList.map fun p => a.eval p.2
   have hvs : (vs.map fun v => v.cells.toList).flatten.length = css.flatten.length ∧ cL g1 V1 css.flatten (vs.map fun v => v.cells.toList).flatten := by
    have : cL g1 V1 css.flatten (vs.map fun v => v.cells.toList).flatten := by
     refine flat_cL (by simp [vs, p1]) fun j cs l e1 e2 => ?_
     simp only [List.getElem?_map, vs] at e2
     cases hp : parts.toList[j]? with
     | none => rw [hp] at e2; cases e2
     | some p => rw [hp] at e2; cases e2; exact p3 j cs p e1 hp
    exact ⟨this.1, this⟩
   have hcsz : ∀ v ∈ vs, v.cells.size = (E.T (E.T t).elem).size := by
    intro v hv
    obtain ⟨j, hj, e⟩ := List.mem_iff_getElem.1 hv
    have hj' : j < parts.toList.length := by simpa [vs] using hj
    have hjc : j < css.length := by rw [p1]; exact hj'
    have hjr : j < rows.length := by rw [f2]; exact hjc
    have q := p3 j css[j] parts.toList[j] (List.getElem?_eq_getElem hjc) (List.getElem?_eq_getElem hj')
    have e' : v = a.eval (parts.toList[j]).2 := by rw [← e]; simp [vs]
    have q1 := q.1
    have q2 := f3 j css[j] rows[j] (List.getElem?_eq_getElem hjc) (List.getElem?_eq_getElem hjr)
    have q3 := huni rows[j] (List.getElem_mem hjr)
    rw [e']
    simp only [Array.length_toList] at q1
    omega
   let zero : Array Value := if len * (E.T (E.T t).elem).size = 0 then #[] else z'.cells
   let arr : Array Value := (Array.range (len * (E.T (E.T t).elem).size)).map (zero[· % zero.size]!)
   have harr : arr.size = len * (E.T (E.T t).elem).size := by simp [arr]
   obtain ⟨out, o1, o2⟩ := uK (E.T (E.T t).elem).size vs 0 arr hcsz (by rw [harr, hlen]; simp [vs])
   have hout : out.toList = (vs.map fun v => v.cells.toList).flatten := by
    rw [o2]
    simp only [Nat.zero_mul, List.take_zero, List.nil_append]
    rw [List.drop_of_length_le (by simp [harr, hlen, vs]), List.append_nil]
   have hrun : (Instr.buildSlice t len (parts.map fun (i, x) => (i, a.eval x))).run E.P w = .ok (.slice (some ⟨w.heap.size, 0, none⟩) len len) (w.alloc (.cells out (E.T t).elem)) := by
    have hfill : Instr.fill (fun i => some (i * (E.T (E.T t).elem).size, (E.T (E.T t).elem).size)) arr ((parts.map fun (i, x) => (i, a.eval x)).toList) = some out := by
     rw [← o1]
     congr 1
     rw [Array.toList_map]
     exact uL parts.toList a.eval 0 p2
    simp only [Instr.buildSlice, Sem.run_bind, hgood.run_und w, Result.andThen_ok, hgood.slice h1, hge.run_size w]
    rw [if_neg (by omega)]
    by_cases h0 : len * (E.T (E.T t).elem).size = 0
    ·have hz : zero = #[] := by simp [zero, h0]
     simp only [h0, if_true, Sem.run_pure, Result.andThen_ok]
     have ha : arr = (Array.range 0).map ((#[] : Array Value)[· % (#[] : Array Value).size]!) := by simp [arr, h0]
     rw [ha] at hfill
     simp only [hfill, newRow, Sem.run_bind, run_newObj, Result.andThen_ok, Sem.run_pure]
     rfl
    ·have hz : zero = z'.cells := by simp [zero, h0]
     simp only [h0, if_false, Sem.run_bind, hge.run_zero w, Sem.run_pure, Result.andThen_ok]
     have ha : arr = (Array.range (len * (E.T (E.T t).elem).size)).map (z'.cells[· % z'.cells.size]!) := by simp only [arr, hz]
     rw [ha] at hfill
     simp only [hfill, newRow, Sem.run_bind, run_newObj, Result.andThen_ok, Sem.run_pure]
     rfl
   have hrl : rows.length = len := by rw [f2, p1, hlen]
   obtain ⟨Ss, s1, s2⟩ := tF hr1.hp f1 hvs.2
   have hys : (vs.map fun v => v.cells.toList).flatten.length = len * (E.T (E.T t).elem).size := by
    rw [s1.1, bS huni, hrl]
   obtain ⟨g2, hr2, hg2, hs2⟩ := hr1.newRow (ids := bL css.flatten) (ty := (E.T t).elem) (cap := len) (cur := out) huni s1 (fun hl => s2 hl hnd) (by omega) (by simp only [maxLen]; have := hge.pos; have : len ≤ len * (E.T (E.T t).elem).size := Nat.le_mul_of_pos_right _ (by omega); omega)
    (by rw [← Array.length_toList, hout, hys]) (by rw [hout]; exact List.prefix_refl _) ⟨rfl, rfl, rfl, rfl⟩
   refine aC (w' := w.alloc (.cells out (E.T t).elem)) (y := .slice (some ⟨w.heap.size, 0, none⟩) len len) ?_ (hK g2 V1 _ _ (.o (.s st.h.length)) _ hr2 ?_ hk)
   ·simp only [execOp, ho]
    exact aD _ _ _ _ _ hrun
   ·rw [hrl] at hs2
    simp only at hs2
    rw [hfl] at hs2
    exact hs2
  ·exact h.elim
 ·exact h.elim
where
 partsC_h (h : List HB) : ∀ (n : Nat) (parts : List (Nat × Operand)), fK ⟨st.t, h⟩ n parts = fK st n parts
  | _, [] => rfl
  | n, (i, x) :: r => by
   have : ev ⟨st.t, h⟩ x = ev st x := by cases x <;> rfl
   simp only [fK, this, partsC_h h (n + 1) r]
 flat_cL {g : List Gh} {V : View} : ∀ {css : List (List At)} {ls : List (List Value)}, ls.length = css.length → (∀ (j : Nat) (cs : List At) (l : List Value), css[j]? = some cs → ls[j]? = some l → cL g V cs l) → cL g V css.flatten ls.flatten
  | [], [], _, _ => cL.nil g V
  | c :: css, l :: ls, h, hk => by
   rw [List.flatten_cons, List.flatten_cons]
   exact (hk 0 c l rfl rfl).append (flat_cL (by simpa using h) fun j cs l e1 e2 => hk (j + 1) cs l (by simpa using e1) (by simpa using e2))
  | [], _ :: _, h, _ => by simp at h
  | _ :: _, [], h, _ => by simp at h
end
end Go.Sx
end
section
set_option linter.all false
namespace Go.Sx
open Go Go.RowKit
section
variable {E : Env} {o : Oper} {st : St} {k : St → SV → Prop} {g : List Gh} {V : View} {a : Act} {w : World} {K : Act → World → Prop} {Q : Exit → Act → World → Prop}
theorem pO : ∀ {cs : List At} {ds : List D} {lin : Bool}, jT [] cs = some (ds, lin) → bL cs = []
 | [], _, _, _ => rfl
 | c :: cs, ds, lin, h => by
  simp only [jT, Option.bind_eq_some_iff, Option.map_eq_some_iff] at h
  obtain ⟨x, h1, ⟨y1, y2⟩, h2, _⟩ := h
  have := pO h2
  cases c <;> simp_all [bL, nN, bK]
theorem xZ (z : Array Value) (n : Nat) : (madeCells z (n * z.size)).toList = (List.replicate n z.toList).flatten := by
 apply List.ext_getElem?
 intro j
 have hfl : (List.replicate n z.toList).flatten.length = n * z.size := by
  rw [bS (sz := z.size) (fun r hr => by rw [(List.mem_replicate.1 hr).2]; simp)]
  simp
 rcases Nat.lt_or_ge j (n * z.size) with hj | hj
 ·have hz : 0 < z.size := by
   rcases Nat.eq_zero_or_pos z.size with h | h
   ·rw [h] at hj; simp at hj
   ·exact h
  have hq : j / z.size < n := (Nat.div_lt_iff_lt_mul hz).2 hj
  have hr := Nat.mod_lt j hz
  have h1 : z.toList[j % z.size]? = some (z[j % z.size]'hr) := by simp [hr]
  have h2 := dI (rows := List.replicate n z.toList) (sz := z.size) (fun r hr => by rw [(List.mem_replicate.1 hr).2]; simp) (n := j / z.size) (by simpa using hq) (j := j % z.size) (d := z[j % z.size]'hr) (by simpa using h1)
  rw [Nat.div_add_mod' j z.size] at h2
  rw [h2]
  simp [madeCells, hj, hr]
 ·rw [List.getElem?_eq_none (by simp [madeCells]; omega), List.getElem?_eq_none (by omega)]
theorem zR {V : View} {ds : List D} {ys : List Value} {Ss : List (List Nat)} (h : LayL V ds ys Ss) : ∀ n, LayL V (List.replicate n ds).flatten (List.replicate n ys).flatten (List.replicate n Ss).flatten
 | 0 => LayL.nil V
 | n + 1 => by simp only [List.replicate_succ, List.flatten_cons]; exact h.append (zR h n)
theorem a4R (hT : TyOK E.P E.T) {t : Nat} {l c : Operand} (ho : o.op = .makeSlice t l c) (h : a1i E t (ev st l) (ev st c) st k) (hr : Rel E.C g V st a w) (hK : dQ E o a k K) : o.wp E.P a w K Q := by
 have hl := aY hr.sl l
 have hc := aY hr.sl c
 obtain ⟨h1, h2, h⟩ := h
 obtain ⟨i, z, u, hgood⟩ := hT.good (t := t) (by rw [h1]; decide)
 obtain ⟨i', z', u', hge⟩ := hT.good h2
 split at h
 ·rename_i n m e1 e2
  rw [e1] at hl
  rw [e2] at hc
  obtain ⟨rfl, n0, nmax, nb, h⟩ := h
  obtain ⟨hl, _⟩ := aG hl
  obtain ⟨hc, _⟩ := aG hc
  split at h
  ·rename_i zr lz habs
   obtain ⟨rfl, hk⟩ := h
   have hzc := mZ hge.zc ([] : List Gh) V
   have hp0 : Hp E.C [] V [] w := ⟨rfl, fun i b x h => by simp at h, fun i b x h => by simp at h, fun i j b b' x x' _ h => by simp at h, fun i b x h => by simp at h, fun i b x h => by simp at h⟩
   obtain ⟨Sz, s1, s2⟩ := tF hp0 habs hzc
   have hid := pO habs
   obtain ⟨_, s4⟩ := s2 rfl (by rw [hid]; rfl)
   have hSz : ∀ b, b ∉ Sz.flatten := fun b hb => by
    obtain ⟨id, hid', _⟩ := s4 b hb
    rw [hid] at hid'; simp at hid'
   have hzs : z'.cells.size = (E.T (E.T t).elem).size := by have := hzc.1; simp at this; rw [this]; exact hge.zlen
   have hzr : zr.length = (E.T (E.T t).elem).size := by have := s1.1; simp at this; omega
   have hu : E.P.underlying t = some (.slice (E.T t).elem) := by rw [hgood.und, hgood.slice h1]
   have hbytes : (i'.bytes : Int) * n ≤ 281474976710656 := by
    rw [hge.bytes]
    have h3 : ((E.T (E.T t).elem).bytes : Int) * n = ((n.toNat * (E.T (E.T t).elem).bytes : Nat) : Int) := by rw [Int.natCast_mul, Int.toNat_of_nonneg n0, Int.mul_comm]
    rw [h3]
    omega
   have hrun := run_make (P := E.P) w t (E.T t).elem i' z' hu hge.info hge.zero .i64 .i64 n n n0 (Int.le_refl _) hbytes (by simp only [maxLen] at nmax; omega)
   rw [hge.size] at hrun
   have hmc : (madeCells z'.cells (n.toNat * (E.T (E.T t).elem).size)).toList = (List.replicate n.toNat z'.cells.toList).flatten := by rw [← hzs]; exact xZ _ _
   obtain ⟨g2, hr2, hg2, hs2⟩ := hr.newRow (ids := []) (ty := (E.T t).elem) (sz := (E.T (E.T t).elem).size) (cap := n.toNat) (rows := List.replicate n.toNat zr) (lin := true) (cur := madeCells z'.cells (n.toNat * (E.T (E.T t).elem).size))
    (fun r hr => by rw [(List.mem_replicate.1 hr).2]; exact hzr) (zR s1 n.toNat)
    (fun _ => by
     have he : ((List.replicate n.toNat Sz).flatten).flatten = [] := by
      apply List.eq_nil_iff_forall_not_mem.2
      intro b hb
      obtain ⟨S, hS, hbS⟩ := List.mem_flatten.1 hb
      obtain ⟨T, hT, hST⟩ := List.mem_flatten.1 hS
      rw [(List.mem_replicate.1 hT).2] at hST
      exact hSz b (List.mem_flatten.2 ⟨S, hST, hbS⟩)
     rw [he]
     exact ⟨by simp, fun b hb => by simp at hb⟩) (by simp) nmax (by simp [madeCells]) (by rw [hmc]; exact List.prefix_refl _) ⟨rfl, rfl, rfl, rfl⟩
   refine aC (w' := _) (y := .slice (some ⟨w.heap.size, 0, none⟩) n.toNat n.toNat) ?_ (hK g2 V _ _ (.o (.s st.h.length)) _ hr2 (by simpa using hs2) (by simpa [dR] using hk))
   simp only [execOp, ho, hl, hc]
   exact aD _ _ _ _ _ hrun
  ·exact h.elim
 ·exact h.elim
theorem pQ (P : Program) (w : World) (base : Nat) (t ty e : TypeId) (i : TypeInfo) (size : Nat) (ht : P.underlying t = some (.slice e)) (hi : P.info? e = some i)
    (v : Value) (n : Nat) (xs : List Value) (hown : w.ownsRow base e size v n xs) (c : Nat) : (Builtin.append_ #[t, t] ty #[v, .slice none 0 c]).run P w = .ok v w := by
 rcases hown.2 with ⟨rfl, rfl⟩ | ⟨g, cap, cur, rfl, _, _, hnc, _⟩
 ·simp [Builtin.append_, run_underlying ht, sizeOf, typeInfo, hi, Builtin.lenOf, Builtin.firstCells]
 ·simp [Builtin.append_, run_underlying ht, sizeOf, typeInfo, hi, Builtin.lenOf, Builtin.firstCells, hnc, storeCells]
theorem a6c (hr : Rel E.C g V st a w) {x : Operand} {rows : List (List D)} {lin : Bool} {ids : List Nat} (h : a1h st (ev st x) = some (rows, lin, ids)) :
    ∃ g' V', Rel E.C g' V' ⟨st.t, aQ st.h ids⟩ a w ∧ GLe g g' ∧ V.le V' ∧ (aQ st.h ids).length = st.h.length ∧ (∀ (i : Nat), i ∉ ids → (aQ st.h ids)[i]? = st.h[i]?) ∧ ∃ (ys : List Value) (Ss : List (List Nat)), LayL V' rows.flatten ys Ss ∧
     (lin = true → Ss.flatten.Nodup ∧ ∀ b ∈ Ss.flatten, FromIds g' (aQ st.h ids) ids b) ∧
     ((a.eval x = .slice none 0 0 ∧ rows = []) ∨ ∃ ad cap, a.eval x = .slice (some ad) rows.length cap ∧ ∀ (j : Nat) (y : Value), ys[j]? = some y → w.cell? (ad.add j) = some y) := by
 have hx := aY hr.sl x
 obtain ⟨g', V', h1, h2, h3, h4, h5⟩ := dU ids hr
 refine ⟨g', V', h1, h2, h3, h4, h5, ?_⟩
 have own : ∀ id, ev st x = .o (.s id) → ids = [id] → bK (aQ st.h ids) id = .frz rows lin → ∃ (ys : List Value) (Ss : List (List Nat)), LayL V' rows.flatten ys Ss ∧
     (lin = true → Ss.flatten.Nodup ∧ ∀ b ∈ Ss.flatten, FromIds g' (aQ st.h ids) ids b) ∧
     ((a.eval x = .slice none 0 0 ∧ rows = []) ∨ ∃ ad cap, a.eval x = .slice (some ad) rows.length cap ∧ ∀ (j : Nat) (y : Value), ys[j]? = some y → w.cell? (ad.add j) = some y) := by
  intro id e1 e2 e3
  rw [e1] at hx
  have hx' := cAt.mono (a := .s id) hx h2 h3
  obtain ⟨gh, hg, hv, _⟩ := hx'
  have hi := aB e3 (by simp)
  obtain ⟨_, S, q1, q2⟩ := h1.hp.hb id _ gh hi hg
  rcases lay_sl_inv q1 with ⟨hy, rfl⟩ | ⟨ad, cap, sz, ys, Ss, hy, _, _, _, hl, hc, hS⟩
  ·exact ⟨[], [], LayL.nil _, fun _ => ⟨by simp, fun b hb => by simp at hb⟩, .inl ⟨by rw [hv, hy], rfl⟩⟩
  ·refine ⟨ys, Ss, hl, fun hlin => ?_, .inr ⟨ad, cap, by rw [hv, hy], fun j y hj => h1.mod.cell (hc j y hj)⟩⟩
   subst hlin
   have hown : aH gh (.frz rows true) = S := by simp [aH, q2 rfl]
   have hnd := h1.hp.nd id _ gh hi hg
   rw [hown, hS] at hnd
   refine ⟨(List.nodup_append.1 hnd).2.1, fun b hb => ⟨id, by simp [e2], gh, rows, hi, hg, ?_⟩⟩
   rw [q2 rfl, hS]
   exact List.mem_append.2 (.inr hb)
 unfold a1h at h
 split at h
 ·rename_i id e
  split at h
  ·rename_i ty sz rows' lin' hrow
   simp only [Option.some.injEq, Prod.mk.injEq] at h
   obtain ⟨rfl, rfl, rfl⟩ := h
   refine own id e rfl ?_
   have hlt := (List.getElem?_eq_some_iff.1 (aB hrow (by simp))).1
   simp [aQ, hrow, bD, tH, hlt]
  ·rename_i rows' lin' hrow
   simp only [Option.some.injEq, Prod.mk.injEq] at h
   obtain ⟨rfl, rfl, rfl⟩ := h
   refine own id e rfl ?_
   simp [aQ, hrow]
  ·cases h
 ·rename_i rows' e
  simp only [Option.some.injEq, Prod.mk.injEq] at h
  obtain ⟨rfl, rfl, rfl⟩ := h
  rw [e] at hx
  obtain ⟨S, q1⟩ := hx
  have q1 := q1.mono h3
  rcases lay_sl_inv q1 with ⟨hy, rfl⟩ | ⟨ad, cap, sz, ys, Ss, hy, _, _, _, hl, hc, hS⟩
  ·exact ⟨[], [], LayL.nil _, fun _ => ⟨by simp, fun b hb => by simp at hb⟩, .inl ⟨hy, rfl⟩⟩
  ·refine ⟨ys, Ss, hl, fun hlin => ?_, .inr ⟨ad, cap, hy, fun j y hj => h1.mod.cell (hc j y hj)⟩⟩
   have he : Ss.flatten = [] := by
    apply List.eq_nil_iff_forall_not_mem.2
    intro b hb
    obtain ⟨T, hT, hbT⟩ := List.mem_flatten.1 hb
    obtain ⟨j, hj, ej⟩ := List.mem_iff_getElem.1 hT
    have hjd : j < rows'.flatten.length := by rw [← hl.2.1]; exact hj
    have hjy : j < ys.length := by rw [hl.1]; exact hjd
    have hLay := hl.2.2 j _ _ T (List.getElem?_eq_getElem hjd) (List.getElem?_eq_getElem hjy) (by rw [List.getElem?_eq_getElem hj, ej])
    have hv : isV rows'.flatten[j] = true := by
     obtain ⟨r, hr', hm⟩ := List.mem_flatten.1 (List.getElem_mem hjd)
     exact List.all_eq_true.1 (List.all_eq_true.1 hlin r hr') _ hm
    cases hd : rows'.flatten[j] with
    | v q => rw [hd] at hLay; cases hLay; simp at hbT
    | sl q => rw [hd] at hv; simp [isV] at hv
   rw [he]
   exact ⟨by simp, fun b hb => by simp at hb⟩
 ·rename_i e
  simp only [Option.some.injEq, Prod.mk.injEq] at h
  obtain ⟨rfl, rfl, rfl⟩ := h
  rw [e] at hx
  exact ⟨[], [], LayL.nil _, fun _ => ⟨by simp, fun b hb => by simp at hb⟩, .inl ⟨hx, rfl⟩⟩
 ·cases h
theorem cAt.kill {id : Nat} {x : At} {y : Value} (h : cAt g V x y) (x' : Gh) : cAt (g.set id x') V (lC id x) y := by
 have key : ∀ (j : Nat) (z : Gh), j ≠ id → g[j]? = some z → (g.set id x')[j]? = some z := fun j z hj hz => by rw [List.getElem?_set, if_neg (fun e => hj e.symm)]; exact hz
 cases x with
 | s j =>
  simp only [lC]
  split
  ·trivial
  ·rename_i e
   obtain ⟨gh, h1, h2, h3⟩ := h
   exact ⟨gh, key j gh e h1, h2, h3⟩
 | p j off =>
  simp only [lC]
  split
  ·trivial
  ·rename_i e
   obtain ⟨gh, b, h1, h2, h3⟩ := h
   exact ⟨gh, b, key j gh e h1, h2, h3⟩
 | r j sz i fo =>
  simp only [lC]
  split
  ·trivial
  ·rename_i e
   obtain ⟨gh, b, h1, h2, h3⟩ := h
   exact ⟨gh, b, key j gh e h1, h2, h3⟩
 | e j sz i fo =>
  simp only [lC]
  split
  ·trivial
  ·rename_i e
   obtain ⟨gh, b, n, c, h1, h2, h3⟩ := h
   exact ⟨gh, b, n, c, key j gh e h1, h2, h3⟩
 | n j sz i fo =>
  simp only [lC]
  split
  ·trivial
  ·rename_i e
   obtain ⟨gh, h1, h2, h3⟩ := h
   exact ⟨gh, key j gh e h1, h2, h3⟩
 | _ => exact h
theorem cL.kill {id : Nat} {cs : List At} {l : List Value} (h : cL g V cs l) (x' : Gh) : cL (g.set id x') V (cs.map (lC id)) l :=
 ⟨by simp [h.1], fun k c y h1 h2 => by
  rw [List.getElem?_map] at h1
  cases hk : cs[k]? with
  | none => rw [hk] at h1; cases h1
  | some c0 => rw [hk] at h1; cases h1; exact (h.2 k c0 y hk h2).kill x'⟩
theorem cSV.kill {id : Nat} {s : SV} {y : Value} (h : cSV g V s y) (x' : Gh) : cSV (g.set id x') V (wP id s) y := by
 cases s with
 | o c => exact cAt.kill h x'
 | g cs => obtain ⟨l, h1, h2⟩ := h; exact ⟨l, h1, h2.kill x'⟩
 | t l =>
  obtain ⟨ys, h1, h2, h3⟩ := h
  refine ⟨ys, h1, by simp [h2], fun j b cs v hj hv => ?_⟩
  rw [List.getElem?_map] at hj
  cases hl : l[j]? with
  | none => rw [hl] at hj; cases hj
  | some p =>
   obtain ⟨b0, c0⟩ := p
   rw [hl] at hj
   simp only [Option.map_some, Option.some.injEq, Prod.mk.injEq] at hj
   obtain ⟨rfl, rfl⟩ := hj
   have := h3 j b0 c0 v hl hv
   cases b0
   ·simp only [Bool.false_eq_true, if_false] at this ⊢; exact this.kill x'
   ·simp only [if_true] at this ⊢; obtain ⟨m, e, hm⟩ := this; exact ⟨m, e, hm.kill x'⟩
theorem iC {id : Nat} {x : Gh} {b : HB} : aH x (sD id b) = aH x b ∧ aK x (sD id b) = aK x b := by cases b <;> exact ⟨rfl, rfl⟩
theorem Rel.renew (hr : Rel E.C g V st a w) (id : Nat) {b b' : HB} {x x' : Gh} (h1 : st.h[id]? = some b) (h2 : g[id]? = some x) {w' : World}
    (hb : HBok (g.set id x') V w' x' b') (hnd : (aH x' b').Nodup)
    (hfree : ∀ n ∈ aH x' b', (n ∈ aH x b ∨ w.heap.size ≤ n ∨ ∀ (i : Nat) (c : HB) (y : Gh), st.h[i]? = some c → g[i]? = some y → n ∉ aH y c) ∧ (E.C.w0.heap.size ≤ n ∨ n ∈ E.C.X) ∧ n < w'.heap.size)
    (hroot : ∀ n ∈ aK x' b', V n = none) (hg : w.grownBy w' x.blk) (hbl : ∀ n, x.blk = some n → n ∈ aK x b) :
    Rel E.C (g.set id x') V ⟨st.t.map (wP id), (st.h.map (sD id)).set id b'⟩ a w' := by
 have key : ∀ (i : Nat) (c : HB) (y : Gh), ((st.h.map (sD id)).set id b')[i]? = some c → (g.set id x')[i]? = some y → (i ≠ id ∧ ∃ c0, st.h[i]? = some c0 ∧ c = sD id c0 ∧ g[i]? = some y) ∨ (i = id ∧ c = b' ∧ y = x') := by
  intro i c y e1 e2
  rw [List.getElem?_set] at e1 e2
  by_cases e : id = i
  ·subst e
   simp only [if_true] at e1 e2
   split at e1
   ·split at e2
    ·cases e1; cases e2; exact .inr ⟨rfl, rfl, rfl⟩
    ·cases e2
   ·cases e1
  ·rw [if_neg e] at e1 e2
   rw [List.getElem?_map] at e1
   cases hc : st.h[i]? with
   | none => rw [hc] at e1; cases e1
   | some c0 => rw [hc] at e1; cases e1; exact .inl ⟨fun h => e h.symm, c0, rfl, rfl, e2⟩
 have hw : ∀ (i : Nat) (c : HB) (y : Gh), i ≠ id → st.h[i]? = some c → g[i]? = some y → ∀ n ∈ aK y c, w'.heap[n]? = w.heap[n]? := fun i c y hi e1 e2 n hn =>
  hg.block n (hr.hp.lo i c y e1 e2 n (aJ hn)).2 fun e => hr.hp.dj i id c b y x hi e1 e2 h1 h2 n (aJ hn) (aJ (hbl n e.symm))
 refine ⟨⟨by simp [hr.sl.size], fun i s y e1 e2 => ?_, hr.sl.defers⟩, ⟨by simp [hr.hp.glen], ?_, ?_, ?_, ?_, ?_⟩, ?_, ?_, hr.vw.move fun n cs hn => hg.block n (hr.mod.lt hn) fun e => by
     have := hr.hp.rt id b x h1 h2 n (hbl n e.symm)
     rw [hn] at this; cases this⟩
 ·rw [List.getElem?_map] at e1
  cases hs : st.t[i]? with
  | none => rw [hs] at e1; cases e1
  | some s0 => rw [hs] at e1; cases e1; exact (hr.sl.slot i s0 y hs e2).kill x'
 ·intro i c y e1 e2
  rcases key i c y e1 e2 with ⟨hi, c0, q1, rfl, q2⟩ | ⟨_, rfl, rfl⟩
  ·have hok := hr.hp.hb i c0 y q1 q2
   cases c0 with
   | box ty cs =>
    obtain ⟨bk, l, f1, f2, f3⟩ := hok
    exact ⟨bk, l, f1, by rw [hw i _ y hi q1 q2 bk (by simp [aK, f1])]; exact f2, f3.kill x'⟩
   | row ty sz rows lin => exact HBok.mono (g := g) (g' := g) (b := .row ty sz rows lin) hok (GLe.refl g) (View.le.refl V) (hw i _ y hi q1 q2)
   | frz rows lin => exact hok
   | pin pb ty ds => exact HBok.mono (g := g) (g' := g) (b := .pin pb ty ds) hok (GLe.refl g) (View.le.refl V) (hw i _ y hi q1 q2)
   | gone => trivial
   | own tag sz rows => exact HBok.mono (g := g) (g' := g) (b := .own tag sz rows) hok (GLe.refl g) (View.le.refl V) (hw i _ y hi q1 q2)
  ·exact hb
 ·intro i c y e1 e2
  rcases key i c y e1 e2 with ⟨hi, c0, q1, rfl, q2⟩ | ⟨_, rfl, rfl⟩
  ·rw [iC.1]; exact hr.hp.nd i c0 y q1 q2
  ·exact hnd
 ·intro i j c c' y y' hij e1 e2 e3 e4 n hn
  rcases key i c y e1 e2 with ⟨hi, c0, q1, rfl, q2⟩ | ⟨rfl, rfl, rfl⟩
  ·rw [iC.1] at hn
   rcases key j c' y' e3 e4 with ⟨hj, c1, q3, rfl, q4⟩ | ⟨rfl, rfl, rfl⟩
   ·rw [iC.1]; exact hr.hp.dj i j c0 c1 y y' hij q1 q2 q3 q4 n hn
   ·intro hn'
    rcases (hfree n hn').1 with h | h | h
    ·exact hr.hp.dj i j c0 b y x hi q1 q2 h1 h2 n hn h
    ·have := (hr.hp.lo i c0 y q1 q2 n hn).2; omega
    ·exact h i c0 y q1 q2 hn
  ·rcases key j c' y' e3 e4 with ⟨hj, c1, q3, rfl, q4⟩ | ⟨rfl, _, _⟩
   ·rw [iC.1]
    intro hn'
    rcases (hfree n hn).1 with h | h | h
    ·exact hr.hp.dj j i c1 b y' x hj q3 q4 h1 h2 n hn' h
    ·have := (hr.hp.lo j c1 y' q3 q4 n hn').2; omega
    ·exact h j c1 y' q3 q4 hn'
   ·exact (hij rfl).elim
 ·intro i c y e1 e2 n hn
  rcases key i c y e1 e2 with ⟨hi, c0, q1, rfl, q2⟩ | ⟨_, rfl, rfl⟩
  ·rw [iC.1] at hn
   exact ⟨(hr.hp.lo i c0 y q1 q2 n hn).1, Nat.lt_of_lt_of_le (hr.hp.lo i c0 y q1 q2 n hn).2 hg.size⟩
  ·exact (hfree n hn).2
 ·intro i c y e1 e2 n hn
  rcases key i c y e1 e2 with ⟨hi, c0, q1, rfl, q2⟩ | ⟨_, rfl, rfl⟩
  ·rw [iC.2] at hn
   exact hr.hp.rt i c0 y q1 q2 n hn
  ·exact hroot n hn
 ·intro n cs hn
  obtain ⟨c, ty, fz, f1, f2⟩ := hr.mod n cs hn
  exact ⟨c, ty, fz, by rw [hg.block n (Array.getElem?_eq_some_iff.1 f1).1 fun e => by
   have := hr.hp.rt id b x h1 h2 n (hbl n e.symm)
   rw [hn] at this; cases this]; exact f1, f2⟩
 ·exact ⟨hg.os.trans hr.fr.os, hg.tape.trans hr.fr.tape, hg.output.trans hr.fr.output, Nat.le_trans hr.fr.size hg.size, fun n hn hX => by
   rw [hg.block n (Nat.lt_of_lt_of_le hn hr.fr.size) fun e => by
    rcases (hr.hp.lo id b x h1 h2 n (aJ (hbl n e.symm))).1 with h | h
    ·omega
    ·exact hX h]
   exact hr.fr.block n hn hX⟩
end
end Go.Sx
end
section
set_option linter.all false
namespace Go.Sx
open Go Go.RowKit
section
variable {E : Env} {o : Oper} {st : St} {k : St → SV → Prop} {g : List Gh} {V : View} {a : Act} {w : World} {K : Act → World → Prop} {Q : Exit → Act → World → Prop}
theorem Rel.gone (hr : Rel E.C g V st a w) (ids : List Nat) : Rel E.C g V ⟨st.t, dR st.h ids⟩ a w := ⟨hr.sl, mE ids hr.hp, hr.mod, hr.fr, hr.vw⟩
theorem a2F (hT : TyOK E.P E.T) {c : Call} {s x : Operand} {t : Nat} (ho : o.op = .call c) (hc : c.callee = .builtin .append) (hx' : c.args.toList = [s, x]) (ht' : c.argTypes.toList = [t, t]) (h : jU E t (ev st s) (ev st x) st k)
    (hr : Rel E.C g V st a w) (hK : dQ E o a k K) : o.wp E.P a w K Q := by
 have hs := aY hr.sl s
 have hargs : c.args = #[s, x] := by rw [← Array.toArray_toList (xs := c.args), hx']
 have htys : c.argTypes = #[t, t] := by rw [← Array.toArray_toList (xs := c.argTypes), ht']
 have hrun : ∀ y w', (Builtin.append_ #[t, t] o.type #[a.eval s, a.eval x]).run E.P w = .ok y w' → (execOp a.eval o).run E.P w = .ok (.value y) w' := by
  intro y w' hy
  simp [execOp, ho, resolve, hc, hargs, htys, invoke, builtin, hy]
 obtain ⟨h1, h2, h⟩ := h
 obtain ⟨i, z, u, hgood⟩ := hT.good (t := t) (by rw [h1]; decide)
 obtain ⟨i', z', u', hge⟩ := hT.good h2
 have hu : E.P.underlying t = some (.slice (E.T t).elem) := by rw [hgood.und, hgood.slice h1]
 have hzs : z'.cells.size = (E.T (E.T t).elem).size := by have := (mZ hge.zc ([] : List Gh) V).1; simp at this; rw [this]; exact hge.zlen
 have hpos : 0 < (E.T (E.T t).elem).size := Nat.pos_of_ne_zero hge.pos
 split at h
 ·rename_i rows2 lin2 ids hsrc
  obtain ⟨huni2, h⟩ := h
  obtain ⟨g1, V1, hr1, hg1, hv1, hfl, hfo, ys2, Ss2, hl2, hlin2, hsrcv⟩ := a6c hr hsrc
  have hlen2 : ys2.length = rows2.length * (E.T (E.T t).elem).size := by rw [hl2.1, bS huni2]
  have runs : ∀ (base n : Nat) (v : Value) (xs : List Value), w.ownsRow base (E.T t).elem (E.T (E.T t).elem).size v n xs → n + rows2.length ≤ maxLen → (n + rows2.length) * (E.T (E.T t).elem).bytes ≤ 140737488355328 → base ≤ w.heap.size → a.eval s = v →
      ∃ v' w', (Builtin.append_ #[t, t] o.type #[a.eval s, a.eval x]).run E.P w = .ok v' w' ∧ w'.ownsRow base (E.T t).elem (E.T (E.T t).elem).size v' (n + rows2.length) (xs ++ ys2) ∧ w.grownBy w' v.ownBlock ∧ (v'.ownBlock = v.ownBlock ∨ v'.ownBlock = some w.heap.size) := by
   intro base n v xs hown hmax hby hbase hev
   rcases hsrcv with ⟨hxv, rfl⟩ | ⟨ad, cap, hxv, hcells⟩
   ·have : ys2 = [] := List.eq_nil_of_length_eq_zero (by simpa using hlen2)
    subst this
    exact ⟨v, w, by rw [hev, hxv]; exact pQ E.P w base t _ _ i' _ hu hge.info v n xs hown 0, by simpa using hown, World.grownBy.refl w _, .inl rfl⟩
   ·obtain ⟨v', w', r1, r2, r3, _, r5⟩ := run_append_own_at (P := E.P) w base t o.type (E.T t).elem i' z' (E.T (E.T t).elem).size (E.T (E.T t).elem).bytes hu hge.info hge.zero hge.size hge.bytes hzs hpos v n xs hown ad rows2.length cap ys2 hlen2 hcells hl2.oneCell hmax hby hbase
    exact ⟨v', w', by rw [hev, hxv]; exact r1, r2, r3, r5⟩
  have hlens : (⟨st.t, aQ st.h ids⟩ : St).h.length = st.h.length := hfl
  split at h
  ·rename_i id es
   split at h
   ·rename_i ty sz rows lin hrow
    obtain ⟨rfl, rfl, hmem, hmax, hby, hk⟩ := h
    have hid : id ∉ ids := fun hm => by rw [(iO id ids).2 hm] at hmem; cases hmem
    have hi0 := aB hrow (by simp)
    have hi : (aQ st.h ids)[id]? = some (.row (E.T t).elem (E.T (E.T t).elem).size rows lin) := by rw [hfo id hid]; exact hi0
    have hs1 : cSV g1 V1 (.o (.s id)) (a.eval s) := by rw [es] at hs; exact cSV.mono hs hg1 hv1
    obtain ⟨gh, hgh, hsv, _⟩ := hs1
    obtain ⟨huni, ys, Ss, q1, q2, q3⟩ := hr1.hp.hb id _ gh hi hgh
    have hlen : ys.length = rows.length * (E.T (E.T t).elem).size := by rw [q1.1, bS huni]
    obtain ⟨v', w', r1, hh⟩ : ∃ v' w', (Builtin.append_ #[t, t] o.type #[a.eval s, a.eval x]).run E.P w = .ok v' w' ∧ ((w'.ownsRow 0 (E.T t).elem (E.T (E.T t).elem).size v' (rows.length + rows2.length) (ys ++ ys2) ∧ w.grownBy w' gh.blk ∧ (v'.ownBlock = gh.blk ∨ ∀ n, v'.ownBlock = some n → w.heap.size ≤ n)) ∨ (rows = [] ∧ rows2 = [] ∧ v' = gh.val ∧ gh.blk = none ∧ w' = w ∧ ∃ ao, gh.val = .slice ao 0 0)) := by
     have owned : w.ownsRow 0 (E.T t).elem (E.T (E.T t).elem).size gh.val rows.length ys → gh.val.ownBlock = gh.blk → ∃ v' w', (Builtin.append_ #[t, t] o.type #[a.eval s, a.eval x]).run E.P w = .ok v' w' ∧ ((w'.ownsRow 0 (E.T t).elem (E.T (E.T t).elem).size v' (rows.length + rows2.length) (ys ++ ys2) ∧ w.grownBy w' gh.blk ∧ (v'.ownBlock = gh.blk ∨ ∀ n, v'.ownBlock = some n → w.heap.size ≤ n)) ∨ (rows = [] ∧ rows2 = [] ∧ v' = gh.val ∧ gh.blk = none ∧ w' = w ∧ ∃ ao, gh.val = .slice ao 0 0)) := fun hown hblk => by
      obtain ⟨v', w', r1, r2, r3, r4⟩ := runs 0 rows.length gh.val ys hown hmax hby (Nat.zero_le _) hsv
      rw [hblk] at r3 r4
      exact ⟨v', w', r1, .inl ⟨r2, r3, r4.imp (fun h => h) fun e n hn => by rw [e] at hn; cases hn; exact Nat.le_refl _⟩⟩
     rcases q3 with ⟨e1, ⟨ao, e2⟩, e3⟩ | ⟨b, cap, cc, e1, e2, e3, e4, e5, e6, e7⟩
     ·cases ao with
      | none => exact owned ⟨hlen, .inl ⟨e2, by rw [e3]; rfl⟩⟩ (by rw [e2, e1]; rfl)
      | some ad =>
       have hys0 : ys = [] := List.eq_nil_of_length_eq_zero (by rw [hlen, e3]; simp)
       by_cases h20 : rows2 = []
       ·have hys2 : ys2 = [] := List.eq_nil_of_length_eq_zero (by rw [hlen2, h20]; simp)
        refine ⟨gh.val, w, ?_, .inr ⟨e3, h20, rfl, e1, rfl, _, e2⟩⟩
        rw [hsv, e2]
        rcases hsrcv with ⟨hxv, _⟩ | ⟨ad2, cap2, hxv, _⟩
        ·rw [hxv]; simp [Builtin.append_, run_underlying hu, sizeOf, typeInfo, hge.info, Builtin.lenOf, Builtin.firstCells, storeCells]
        ·have hl0 := run_loadCells_list (P := E.P) w ad2 [] (fun j u h => by simp at h)
         simp only [List.length_nil] at hl0
         rw [hxv, h20]; simp [Builtin.append_, run_underlying hu, sizeOf, typeInfo, hge.info, Builtin.lenOf, Builtin.firstCells, storeCells, hl0]
       ·rcases hsrcv with ⟨_, e⟩ | ⟨ad2, cap2, hxv, hcells⟩
        ·exact (h20 e).elim
        ·have hpos2 : 0 < rows2.length := List.length_pos_iff.2 h20
         obtain ⟨v', w', r1, r2, r3⟩ := run_append_arg_grows (P := E.P) w t o.type (E.T t).elem i' z' (E.T (E.T t).elem).size (E.T (E.T t).elem).bytes hu hge.info hge.zero hge.size hge.bytes hzs hpos ad 0 0 [] (by simp) (fun j u h => by simp at h) ad2 rows2.length cap2 ys2 hlen2 hcells (by omega) (by omega) (by rw [e3] at hby; simpa using hby)
         have hblk' : ∀ n, v'.ownBlock = some n → w.heap.size ≤ n := fun n hn => (r2.lt n hn).1
         refine ⟨v', w', by rw [hsv, e2, hxv]; exact r1, .inl ⟨?_, by rw [e1]; exact r3, .inr hblk'⟩⟩
         rw [e3, hys0]
         exact ⟨by simpa using r2.1, r2.2.imp (fun h => by simpa using h) fun ⟨g, cap, cur, q1, _, q⟩ => ⟨g, cap, cur, by simpa using q1, Nat.zero_le _, by simpa using q⟩⟩
     ·refine owned ⟨hlen, .inr ⟨b, cap, cc, e2, Nat.zero_le _, e5, e3, e4, e6, ?_⟩⟩ (by rw [e2, e1]; rfl)
      obtain ⟨tl, htl⟩ := e7
      rw [← htl, ← hlen]
      simp
    rcases hh with hh | hh
    rotate_left
    ·obtain ⟨a1, a2, a3, a4, a5, ao, a6⟩ := hh
     rw [a5, a3] at r1
     subst a1; subst a2
     have hSs : Ss = [] := by have := q1.2.1; simpa using this
     have hr2 := hr1.gone ids
     have hi2 : (dR (aQ st.h ids) ids)[id]? = some (.row (E.T t).elem (E.T (E.T t).elem).size [] lin) := by rw [(fA ids (aQ st.h ids) id).2, if_neg (fun h => hid h.2)]; exact hi
     have hok : HBok (g1.set id gh) V1 w gh (.row (E.T t).elem (E.T (E.T t).elem).size ([] ++ []) (lin && lin2)) :=
      ⟨fun r h => by simp at h, [], [], LayL.nil _, fun h => by rw [Bool.and_eq_true] at h; rw [q2 h.1, hSs], .inl ⟨a4, ⟨ao, a6⟩, rfl⟩⟩
     have htr : (lin && lin2) = true → gh.tr = [] := fun h => by rw [Bool.and_eq_true] at h; rw [q2 h.1, hSs]; rfl
     have hown0 : aH gh (.row (E.T t).elem (E.T (E.T t).elem).size ([] ++ []) (lin && lin2)) = [] := by
      simp only [aH, a4]
      split
      ·rename_i h; rw [htr h]; rfl
      ·rfl
     have hfin := hr2.renew (b' := .row (E.T t).elem (E.T (E.T t).elem).size ([] ++ []) (lin && lin2)) (x' := gh) id hi2 hgh hok (by rw [hown0]; simp) (fun n hn => by rw [hown0] at hn; simp at hn) (fun n hn => by have := aJ hn; rw [hown0] at this; simp at this) (World.grownBy.refl w _) (fun n e => by rw [a4] at e; cases e)
     refine aC (w' := w) (y := gh.val) (hrun _ _ r1) (hK _ V1 _ w (.o (.s id)) gh.val hfin ?_ (by rw [bD] at hk; exact hk))
     have hidl : id < g1.length := (List.getElem?_eq_some_iff.1 hgh).1
     exact ⟨gh, by rw [List.getElem?_set, if_pos rfl, if_pos hidl], rfl, by rw [a6]; rfl⟩
    obtain ⟨r2, r3, r4⟩ := hh
    have hr2 := hr1.gone ids
    have hgo : ∀ (j : Nat), (dR (aQ st.h ids) ids)[j]? = if j < (aQ st.h ids).length ∧ j ∈ ids then some .gone else (aQ st.h ids)[j]? := fun j => (fA ids (aQ st.h ids) j).2
    have hi2 : (dR (aQ st.h ids) ids)[id]? = some (.row (E.T t).elem (E.T (E.T t).elem).size rows lin) := by rw [hgo, if_neg (fun h => hid h.2)]; exact hi
    let x' : Gh := ⟨v'.ownBlock, v', Ss.flatten ++ Ss2.flatten, []⟩
    have hrootold : ∀ n, gh.blk = some n → n ∈ aK gh (.row (E.T t).elem (E.T (E.T t).elem).size rows lin) := fun n e => by simp [aK, e]
    have hsplit : (lin && lin2) = true → lin = true ∧ lin2 = true := fun e => by simpa using e
    have hnew : ∀ n, v'.ownBlock = some n → n ∈ aK gh (.row (E.T t).elem (E.T (E.T t).elem).size rows lin) ∨ (w.heap.size ≤ n ∧ n < w'.heap.size) := fun n e => by
     rcases r4 with r4 | r4
     ·left; exact hrootold n (by rw [← r4]; exact e)
     ·right
      exact ⟨r4 n e, (r2.lt _ e).2⟩
    have hok : HBok (g1.set id x') V1 w' x' (.row (E.T t).elem (E.T (E.T t).elem).size (rows ++ rows2) (lin && lin2)) := by
     refine ⟨fun r hr' => by
      rcases List.mem_append.1 hr' with h | h
      ·exact huni r h
      ·exact huni2 r h, ys ++ ys2, Ss ++ Ss2, by rw [List.flatten_append]; exact q1.append hl2, fun _ => by rw [List.flatten_append], ?_⟩
     rcases r2.2 with ⟨e1, e2⟩ | ⟨b, cap, cc, e1, e2, e3, e4, e5, e6, e7⟩
     ·left
      refine ⟨by show v'.ownBlock = none; rw [e1]; rfl, ⟨none, e1⟩, ?_⟩
      have h0 : rows.length = 0 ∧ rows2.length = 0 := by omega
      rw [List.eq_nil_of_length_eq_zero h0.1, List.eq_nil_of_length_eq_zero h0.2]; rfl
     ·right
      refine ⟨b, cap, cc, by show v'.ownBlock = _; rw [e1]; rfl, by rw [List.length_append]; exact e1, by rw [List.length_append]; exact e4, e5, e3, e6, ?_⟩
      rw [← e7]
      exact List.take_prefix _ _
    have hndold : lin = true → (gh.blk.toList ++ Ss.flatten).Nodup := fun hl => by
     have := hr1.hp.nd id _ gh hi hgh
     simpa [aH, hl, q2 hl] using this
    have hfin := hr2.renew (b' := .row (E.T t).elem (E.T (E.T t).elem).size (rows ++ rows2) (lin && lin2)) (x' := x') id hi2 hgh hok ?_ ?_ ?_ r3 (fun n e => by simp [aK, e])
    ·refine aC (w' := w') (y := v') (hrun _ _ r1) (hK _ V1 _ w' (.o (.s id)) v' hfin ?_ (by rw [bD] at hk; exact hk))
     have hidl : id < g1.length := (List.getElem?_eq_some_iff.1 hgh).1
     refine ⟨x', by rw [List.getElem?_set, if_pos rfl, if_pos hidl], rfl, ?_⟩
     rcases r2.2 with ⟨e1, _⟩ | ⟨b, cap, cc, e1, _⟩ <;> rw [e1] <;> rfl
    ·
     show (x'.blk.toList ++ (if (lin && lin2) = true then x'.tr else [])).Nodup
     by_cases hll : (lin && lin2) = true
     ·obtain ⟨hl, hl'⟩ := hsplit hll
      rw [if_pos hll]
      have n1 := hndold hl
      obtain ⟨n2, n3⟩ := hlin2 hl'
      have hS : Ss.flatten.Nodup := (List.nodup_append.1 n1).2.1
      have hd : ∀ b ∈ Ss.flatten, b ∉ Ss2.flatten := fun b hb hb2 => by
       have hf := (n3 b hb2).free hr1.hp
       exact hf.2 id _ gh hi2 hgh (by simp [aH, hl, q2 hl]; right; simpa using hb)
      refine List.nodup_append.2 ⟨by cases x'.blk <;> simp, List.nodup_append.2 ⟨hS, n2, fun b hb c hc e => hd b hb (e ▸ hc)⟩, fun b hb c hc => ?_⟩
      rintro rfl
      have hbk : v'.ownBlock = some b := by
       have : b ∈ v'.ownBlock.toList := hb
       simpa using this
      rcases hnew b hbk with hb' | ⟨hb', _⟩
      ·rcases List.mem_append.1 hc with hc | hc
       ·have hbg : b ∈ gh.blk.toList := hb'
        exact (List.nodup_append.1 n1).2.2 b hbg b hc rfl
       ·exact ((n3 b hc).free hr1.hp).2 id _ gh hi2 hgh (aJ hb')
      ·have hlt : b < w.heap.size := by
        rcases List.mem_append.1 hc with hc | hc
        ·exact (hr1.hp.lo id _ gh hi hgh b (by simp [aH, hl, q2 hl]; right; simpa using hc)).2
        ·exact ((n3 b hc).free hr1.hp).1.2
       omega
     ·rw [if_neg hll, List.append_nil]
      cases x'.blk <;> simp
    ·intro n hn
     have hn : n ∈ x'.blk.toList ++ (if (lin && lin2) = true then x'.tr else []) := hn
     rcases List.mem_append.1 hn with hn | hn
     ·have hbk : v'.ownBlock = some n := by
       have : n ∈ v'.ownBlock.toList := hn
       simpa using this
      rcases hnew n hbk with hb' | ⟨hb', hlt⟩
      ·have hlo := hr1.hp.lo id _ gh hi hgh n (aJ hb')
       exact ⟨.inl (aJ hb'), hlo.1, Nat.lt_of_lt_of_le hlo.2 r3.size⟩
      ·exact ⟨.inr (.inl (by omega)), .inl (by have := hr.fr.size; omega), hlt⟩
     ·split at hn
      ·rename_i hll
       obtain ⟨hl, hl'⟩ := hsplit hll
       rcases List.mem_append.1 hn with hn | hn
       ·have hno : n ∈ aH gh (.row (E.T t).elem (E.T (E.T t).elem).size rows lin) := by simp [aH, hl, q2 hl]; right; simpa using hn
        have hlo := hr1.hp.lo id _ gh hi hgh n hno
        exact ⟨.inl hno, hlo.1, Nat.lt_of_lt_of_le hlo.2 r3.size⟩
       ·have hf := ((hlin2 hl').2 n hn).free hr1.hp
        exact ⟨.inr (.inr hf.2), hf.1.1, Nat.lt_of_lt_of_le hf.1.2 r3.size⟩
      ·simp at hn
    ·intro n hn
     have hbk : v'.ownBlock = some n := by
      have : n ∈ v'.ownBlock.toList := hn
      simpa using this
     rcases hnew n hbk with hb' | ⟨hb', _⟩
     ·exact hr1.hp.rt id _ gh hi hgh n hb'
     ·exact hr1.mod.fresh (by omega)
   ·exact h.elim
  ·rename_i es
   obtain ⟨hmax, hby, hk⟩ := h
   have hs0 : a.eval s = .slice none 0 0 := by rw [es] at hs; exact hs
   obtain ⟨v', w', r1, r2, r3, r4⟩ := runs w.heap.size 0 (.slice none 0 0) [] (World.ownsRow_nil w _ _ _) (by omega) (by rw [Nat.zero_add]; exact hby) (Nat.le_refl _) hs0
   have hbel : Below w.heap.size w w' := ⟨r3.os, r3.tape, r3.output, r3.size, fun n hn => r3.block n hn (by simp [Value.ownBlock])⟩
   have hmod' : Mod V1 w' := fun n cs hn => by
    obtain ⟨c0, ty, fz, f1, f2⟩ := hr1.mod n cs hn
    exact ⟨c0, ty, fz, by rw [hbel.block n (Array.getElem?_eq_some_iff.1 f1).1]; exact f1, f2⟩
   have hr2 := hr1.later (View.le.refl V1) hmod' hbel (fun b cs q1 q2 => by rw [q1] at q2; cases q2)
   let x' : Gh := ⟨v'.ownBlock, v', Ss2.flatten, []⟩
   have hgl : (dR (aQ st.h ids) ids).length = st.h.length := by rw [(fA ids _ 0).1, hfl]
   have hglen : g1.length = st.h.length := by rw [hr1.hp.glen]; exact hfl
   simp only [Nat.zero_add, List.nil_append] at r2
   have hblk : ∀ n ∈ v'.ownBlock.toList, w.heap.size ≤ n ∧ n < w'.heap.size := fun n hn => by
    have : v'.ownBlock = some n := by simpa using hn
    exact r2.lt n this
   have hpush : Hp E.C (g1 ++ [x']) V1 (dR (aQ st.h ids) ids ++ [.row (E.T t).elem (E.T (E.T t).elem).size rows2 lin2]) w' := by
    refine (mE ids hr2.hp).push ⟨huni2, ys2, Ss2, hl2, fun _ => rfl, ?_⟩ ?_ ?_ ?_ ?_
    ·rcases r2.2 with ⟨e1, e2⟩ | ⟨b, cap, cc, e1, e2, e3, e4, e5, e6, e7⟩
     ·left; exact ⟨by show v'.ownBlock = none; rw [e1]; rfl, ⟨none, e1⟩, List.eq_nil_of_length_eq_zero e2⟩
     ·right; exact ⟨b, cap, cc, by show v'.ownBlock = _; rw [e1]; rfl, e1, e4, e5, e3, e6, by rw [← e7]; exact List.take_prefix _ _⟩
    ·show (x'.blk.toList ++ (if lin2 = true then x'.tr else [])).Nodup
     by_cases hl : lin2 = true
     ·rw [if_pos hl]
      obtain ⟨n2, n3⟩ := hlin2 hl
      refine List.nodup_append.2 ⟨by cases x'.blk <;> simp, n2, fun b hb c hc => ?_⟩
      rintro rfl
      have := (hblk b hb).1
      have := ((n3 b hc).free hr1.hp).1.2
      omega
     ·rw [if_neg hl, List.append_nil]
      cases x'.blk <;> simp
    ·intro n hn
     have hn : n ∈ x'.blk.toList ++ (if lin2 = true then x'.tr else []) := hn
     rcases List.mem_append.1 hn with hn | hn
     ·have := hblk n hn
      exact ⟨.inl (Nat.le_trans hr.fr.size this.1), this.2⟩
     ·split at hn
      ·have := ((hlin2 ‹_›).2 n hn).free hr1.hp
       exact ⟨this.1.1, Nat.lt_of_lt_of_le this.1.2 r3.size⟩
      ·simp at hn
    ·intro j c0 y e1 e2 n hn hn'
     have hn' : n ∈ x'.blk.toList ++ (if lin2 = true then x'.tr else []) := hn'
     rcases List.mem_append.1 hn' with hn' | hn'
     ·have := (hblk n hn').1
      have := ((mE ids hr1.hp).lo j c0 y e1 e2 n hn).2
      omega
     ·split at hn'
      ·exact (((hlin2 ‹_›).2 n hn').free hr1.hp).2 j c0 y e1 e2 hn
      ·simp at hn'
    ·intro n hn
     exact hr1.mod.fresh (hblk n hn).1
   refine aC (w' := w') (y := v') (hrun _ _ r1) (hK (g1 ++ [x']) V1 ⟨st.t, dR (aQ st.h ids) ids ++ [.row (E.T t).elem (E.T (E.T t).elem).size rows2 lin2]⟩ w' (.o (.s st.h.length)) v' ⟨hr2.sl.mono (GLe.push _ _) (View.le.refl V1), hpush, hr2.mod, hr2.fr, hr2.vw⟩ ?_ hk)
   refine ⟨x', by rw [List.getElem?_append_right (by omega)]; simp [hglen], rfl, ?_⟩
   rcases r2.2 with ⟨e1, _⟩ | ⟨b, cap, cc, e1, _⟩ <;> rw [e1] <;> rfl
  ·exact h.elim
 ·exact h.elim
theorem a8E {α : Type} (l : List α) (o n : Nat) : l = l.take o ++ ((l.drop o).take n ++ l.drop (o + n)) := by
 rw [← List.drop_drop, List.take_append_drop, List.take_append_drop]
theorem zS (hT : TyOK E.P E.T) {t id sz i fo : Nat} {x v : Operand} (ho : o.op = .store t x v) (hx : ev st x = .o (.r id sz i fo)) (h : gJ E t id sz i fo (ev st v) st k) (hr : Rel E.C g V st a w) (hK : dQ E o a k K) : o.wp E.P a w K Q := by
 have hxv := aY hr.sl x
 rw [hx] at hxv
 obtain ⟨ht, hbx, hlen, hnd, hmem, h⟩ := h
 obtain ⟨ti, z, u, hgood⟩ := hT.good ht
 split at h
 ·rename_i ty sz' rows lin ds l2 hrow habs
  split at h
  ·rename_i r hsp
   obtain ⟨rfl, hi, hk⟩ := h
   have hid : id ∉ bL (ev st v).cells := fun hm => by rw [(iO id _).2 hm] at hmem; cases hmem
   obtain ⟨g1, V1, hr1, hg1, hv1, hfl, hfo⟩ := dU (bL (ev st v).cells) hr
   have hi1 : (aQ st.h (bL (ev st v).cells))[id]? = some (.row ty sz' rows lin) := by rw [hfo id hid]; exact aB hrow (by simp)
   have hxv := cSV.mono (s := .o (.r id sz' i fo)) hxv hg1 hv1
   obtain ⟨gh, b, hgh, hb, hp⟩ := hxv
   have hvc := (iD (aY hr.sl v) hbx).mono hg1 hv1
   obtain ⟨Sn, s1, s2⟩ := tF hr1.hp habs hvc
   obtain ⟨huni, ys, Ss, q1, q2, q3⟩ := hr1.hp.hb id _ gh hi1 hgh
   rcases q3 with ⟨e1, _⟩ | ⟨b', cap, cc, e1, e2, e3, e4, e5, e6, e7⟩
   ·rw [hb] at e1; cases e1
   ·rw [hb] at e1
    cases e1
    have hrw : dF rows i = rows[i] := by simp [dF, List.getD_eq_getElem?_getD, hi]
    have hrl : (dF rows i).length = sz' := by rw [hrw]; exact huni _ (List.getElem_mem hi)
    obtain ⟨sp1, sp2, sp3⟩ := eQ hsp
    have hdl : ds.length = (a.eval v).cells.size := by have := s1.1; simp at this; omega
    have hvsz : (a.eval v).cells.size = (E.T t).size := by have := hvc.1; simp at this; omega
    have hysl : ys.length = rows.length * sz' := by rw [q1.1, bS huni]
    have hic : (i + 1) * sz' ≤ rows.length * sz' := Nat.mul_le_mul_right _ hi
    rw [Nat.add_mul, Nat.one_mul] at hic
    have hcc : rows.length * sz' ≤ cap * sz' := Nat.mul_le_mul_right _ e3
    let off := i * sz' + fo
    have hfit : off + ds.length ≤ rows.length * sz' := by simp only [off]; omega
    let news := (a.eval v).cells.toList
    have hnl : news.length = ds.length := by simp [news, hdl]
    have hnone : ∀ y ∈ news, y.oneCell' = true := s1.oneCell
    let cur' : List Value := cc.toList.take off ++ news ++ cc.toList.drop (off + (a.eval v).cells.size)
    have hrun := jE hgood w b off ty cc.toList (a.eval v) (by simpa using e5) hvsz (by simp [e6]; omega) hnone
    have hrow' : (rows.set i r).flatten.length = rows.length * sz' := by
     rw [bS (sz := sz') (fun q hq => by
      rcases List.mem_or_eq_of_mem_set hq with h | h
      ·exact huni q h
      ·rw [h, sp1, hrl])]
     simp
    have hget : ∀ (j : Nat) (d : D), (rows.set i r).flatten[j]? = some d → if off ≤ j ∧ j < off + ds.length then ds[j - off]? = some d else rows.flatten[j]? = some d := by
     intro j d hj
     have hjl : j < rows.length * sz' := by rw [← hrow']; exact (List.getElem?_eq_some_iff.1 hj).1
     have hpos : 0 < sz' := by
      rcases Nat.eq_zero_or_pos sz' with h | h
      ·rw [h] at hjl; simp at hjl
      ·exact h
     have hq : j / sz' < rows.length := (Nat.div_lt_iff_lt_mul hpos).2 hjl
     have hm := Nat.mod_lt j hpos
     have hdm : j / sz' * sz' + j % sz' = j := Nat.div_add_mod' j sz'
     have huni' : ∀ q ∈ rows.set i r, q.length = sz' := fun q hq => by
      rcases List.mem_or_eq_of_mem_set hq with h | h
      ·exact huni q h
      ·rw [h, sp1, hrl]
     have hq' : j / sz' < (rows.set i r).length := by simpa using hq
     have hlenq : ((rows.set i r)[j / sz']).length = sz' := huni' _ (List.getElem_mem hq')
     have hcell : ((rows.set i r)[j / sz'])[j % sz']? = some d := by
      have h1 : ((rows.set i r)[j / sz'])[j % sz']? = some (((rows.set i r)[j / sz'])[j % sz']'(by omega)) := List.getElem?_eq_getElem _
      have h2 := dI huni' hq' h1
      rw [hdm, hj] at h2
      rw [h1, h2]
     by_cases hji : j / sz' = i
     ·have hset : (rows.set i r)[j / sz'] = r := by simp [hji]
      rw [hset, sp3] at hcell
      have hoff : off = i * sz' + fo := rfl
      rw [hji] at hdm
      split at hcell
      ·rename_i hc
       rw [if_pos (by omega)]
       rw [← hcell]
       congr 1; omega
      ·rename_i hc
       rw [if_neg (by omega)]
       rw [hrw] at hcell
       have := dI huni hi hcell
       rw [hdm] at this
       exact this
     ·have hset : (rows.set i r)[j / sz'] = rows[j / sz'] := List.getElem_set_ne (fun e => hji e.symm) _
      rw [hset] at hcell
      have h2 := dI huni hq hcell
      rw [hdm] at h2
      have hne : ¬ (off ≤ j ∧ j < off + ds.length) := by
       intro hc
       apply hji
       have hoff : off = i * sz' + fo := rfl
       have h3 : i * sz' ≤ j := by omega
       have h4 : j < (i + 1) * sz' := by rw [Nat.add_mul, Nat.one_mul]; omega
       have h5 : j / sz' < i + 1 := (Nat.div_lt_iff_lt_mul hpos).2 h4
       have h6 : i ≤ j / sz' := (Nat.le_div_iff_mul_le hpos).2 h3
       omega
      rw [if_neg hne]
      exact h2
    let ys' := ys.take off ++ news ++ ys.drop (off + ds.length)
    let Ss' := Ss.take off ++ Sn ++ Ss.drop (off + ds.length)
    have hSsl : Ss.length = rows.length * sz' := by rw [q1.2.1, bS huni]
    have hSnl : Sn.length = ds.length := s1.2.1
    have mid : ∀ {α : Type} (A N : List α) (n j : Nat) (x : α), N.length = n → off + n ≤ A.length → (A.take off ++ N ++ A.drop (off + n))[j]? = some x → if off ≤ j ∧ j < off + n then N[j - off]? = some x else A[j]? = some x := by
     intro α A N n j x hN hA hj
     rw [List.getElem?_append, List.getElem?_append] at hj
     simp only [List.length_append, List.length_take, Nat.min_eq_left (show off ≤ A.length by omega), hN] at hj
     by_cases h1 : j < off
     ·rw [if_pos (by omega), if_pos h1, List.getElem?_take, if_pos h1] at hj
      rw [if_neg (by omega)]; exact hj
     ·by_cases h2 : j < off + n
      ·rw [if_pos h2, if_neg h1] at hj
       rw [if_pos ⟨by omega, h2⟩]; exact hj
      ·rw [if_neg h2, List.getElem?_drop] at hj
       rw [if_neg (by omega), ← hj]
       congr 1; omega
    have hLay : LayL V1 (rows.set i r).flatten ys' Ss' := by
     refine ⟨?_, ?_, fun j d y S f1 f2 f3 => ?_⟩
     ·rw [hrow']; simp only [ys', List.length_append, List.length_take, List.length_drop, hnl]; omega
     ·rw [hrow']; simp only [Ss', List.length_append, List.length_take, List.length_drop, hSnl]; omega
     ·have m1 := hget j d f1
      have m2 := mid ys news ds.length j y hnl (by omega) f2
      have m3 := mid Ss Sn ds.length j S hSnl (by omega) f3
      split at m1
      ·rw [if_pos ‹_›] at m2 m3; exact s1.2.2 _ d y S m1 m2 m3
      ·rw [if_neg ‹_›] at m2 m3; exact q1.2.2 _ d y S m1 m2 m3
    have hpre : ys' <+: cur' := by
     obtain ⟨tl, htl⟩ := e7
     refine ⟨tl, ?_⟩
     simp only [ys', cur', ← htl, ← hdl]
     rw [List.take_append_of_le_length (by omega), List.drop_append_of_le_length (by omega)]
     simp
    have hr2 := hr1.gone (bL (ev st v).cells)
    have hgo : (dR (aQ st.h (bL (ev st v).cells)) (bL (ev st v).cells))[id]? = some (.row ty sz' rows lin) := by
     rw [(fA _ _ id).2, if_neg (fun h => hid h.2)]; exact hi1
    let x' : Gh := { gh with tr := Ss'.flatten }
    have hcurl : cur'.length = cc.size := by simp only [cur', List.length_append, List.length_take, List.length_drop, Array.length_toList, hnl]; omega
    have hheap : (w.setRow b cur'.toArray).heap[b]? = some (.cells cur'.toArray ty (0, 0)) := setRow_heap w b cc cur'.toArray ty (0, 0) e5
    have hsz : (w.setRow b cur'.toArray).heap.size = w.heap.size := by simp [World.setRow]
    have hroot : ∀ n, n ∈ aK gh (.row ty sz' rows lin) ↔ n = b := fun n => by simp [aK, hb, eq_comm]
    have hold : ¬ (b < E.C.w0.heap.size ∧ b ∉ E.C.X) := by
     intro hh
     rcases (hr1.hp.lo id _ gh hi1 hgh b (aJ ((hroot b).2 rfl))).1 with h1 | h1
     ·omega
     ·exact hh.2 h1
    have htr : ∀ n ∈ Ss'.flatten, n ∈ Ss.flatten ∨ n ∈ Sn.flatten := fun n hn => by
     obtain ⟨S, hS, hnS⟩ := List.mem_flatten.1 hn
     rcases List.mem_append.1 hS with hS | hS
     ·rcases List.mem_append.1 hS with hS | hS
      ·exact .inl (List.mem_flatten.2 ⟨S, List.mem_of_mem_take hS, hnS⟩)
      ·exact .inr (List.mem_flatten.2 ⟨S, hS, hnS⟩)
     ·exact .inl (List.mem_flatten.2 ⟨S, List.mem_of_mem_drop hS, hnS⟩)
    have hsplit : (lin && l2) = true → lin = true ∧ l2 = true := fun e => by simpa using e
    have hownold : lin = true → aH gh (.row ty sz' rows lin) = b :: Ss.flatten := fun hl => by simp [aH, hb, hl, q2 hl]
    have hswap : Hp E.C (g1.set id x') V1 ((dR (aQ st.h (bL (ev st v).cells)) (bL (ev st v).cells)).set id (.row ty sz' (rows.set i r) (lin && l2))) (w.setRow b cur'.toArray) := by
     refine hr2.hp.swapG (x' := x') id hgo hgh rfl rfl rfl ?_ ?_ ?_ ?_ ?_ (by rw [hsz]; exact Nat.le_refl _)
     ·
      intro n hn
      have hn : n ∈ x'.blk.toList ++ (if (lin && l2) = true then x'.tr else []) := hn
      rcases List.mem_append.1 hn with hn | hn
      ·have : n = b := by have : n ∈ gh.blk.toList := hn; rw [hb] at this; simpa using this
       exact .inl (aJ ((hroot n).2 this))
      ·split at hn
       ·obtain ⟨hl, hl'⟩ := hsplit ‹_›
        rcases htr n hn with h | h
        ·left; rw [hownold hl]; exact List.mem_cons_of_mem _ h
        ·right
         have hf := ((s2 hl' hnd).2 n h).free hr1.hp
         exact ⟨hf.1, hf.2⟩
       ·simp at hn
     ·show (x'.blk.toList ++ (if (lin && l2) = true then x'.tr else [])).Nodup
      by_cases hll : (lin && l2) = true
      ·rw [if_pos hll]
       obtain ⟨hl, hl'⟩ := hsplit hll
       have n1 := hr1.hp.nd id _ gh hi1 hgh
       rw [hownold hl] at n1
       have n2 := (List.nodup_cons.1 n1).2
       obtain ⟨n3, n4⟩ := s2 hl' hnd
       have hxb : x'.blk = some b := hb
       rw [hxb]
       simp only [Option.toList_some, List.singleton_append]
       have hdis : ∀ n ∈ Sn.flatten, n ∉ Ss.flatten ∧ n ≠ b := fun n hn => by
        have hf := ((n4 n hn).free hr1.hp).2 id _ gh hgo hgh
        rw [hownold hl] at hf
        exact ⟨fun h => hf (List.mem_cons_of_mem _ h), fun h => hf (by rw [h]; exact List.mem_cons_self ..)⟩
       refine List.nodup_cons.2 ⟨fun hbm => ?_, ?_⟩
       ·rcases htr b hbm with h | h
        ·exact (List.nodup_cons.1 n1).1 h
        ·exact (hdis b h).2 rfl
       ·show ((Ss.take off ++ Sn ++ Ss.drop (off + ds.length)).flatten).Nodup
        have hS3 : Ss.flatten = (Ss.take off).flatten ++ (((Ss.drop off).take ds.length).flatten ++ (Ss.drop (off + ds.length)).flatten) := by
         rw [← List.flatten_append, ← List.flatten_append]
         exact congrArg List.flatten (a8E Ss off ds.length)
        rw [hS3] at n2
        rw [List.flatten_append, List.flatten_append]
        have a1 := (List.nodup_append.1 n2).1
        have a2 := (List.nodup_append.1 (List.nodup_append.1 n2).2.1).2.1
        have a3 := (List.nodup_append.1 n2).2.2
        refine List.nodup_append.2 ⟨List.nodup_append.2 ⟨a1, n3, fun p hp q hq e => ?_⟩, a2, fun p hp q hq e => ?_⟩
        ·subst e
         exact (hdis p hq).1 (by rw [hS3]; exact List.mem_append.2 (.inl hp))
        ·subst e
         rcases List.mem_append.1 hp with hp | hp
         ·exact a3 p hp p (List.mem_append.2 (.inr hq)) rfl
         ·exact (hdis p hp).1 (by rw [hS3]; exact List.mem_append.2 (.inr (List.mem_append.2 (.inr hq))))
      ·rw [if_neg hll, List.append_nil]
       have hxb : x'.blk = some b := hb
       rw [hxb]; simp
     ·intro n hn
      exact hr1.hp.rt id _ gh hi1 hgh n hn
     ·refine ⟨fun q hq => by
       rcases List.mem_or_eq_of_mem_set hq with h | h
       ·exact huni q h
       ·rw [h, sp1, hrl], ys', Ss', hLay, fun _ => rfl, .inr ⟨b, cap, cur'.toArray, hb, by rw [List.length_set]; exact e2, by rw [List.length_set]; exact e3, e4, hheap, by simp [hcurl, e6], by simpa using hpre⟩⟩
     ·intro n _ hn
      exact setRow_other w b n _ (fun e => hn ((hroot n).2 e))
    refine kT (w' := w.setRow b cur'.toArray) ?_ (hK (g1.set id x') V1 ⟨st.t, (dR (aQ st.h (bL (ev st v).cells)) (bL (ev st v).cells)).set id (.row ty sz' (rows.set i r) (lin && l2))⟩ _ (.t []) undef ⟨hr2.sl.mono (GLe.set hgh rfl rfl rfl) (View.le.refl V1), hswap, ?_, ?_, hr2.vw.move fun n cs hn => setRow_other w b n _ fun e => by
     have := hr1.hp.rt id _ gh hi1 hgh b ((hroot b).2 rfl)
     rw [← e, hn] at this; cases this⟩ (eU _ _) (by rw [bD] at hk; exact hk))
    ·simp only [execOp, ho, hp, Sem.run_bind]
     refine (congrArg (fun r => Result.andThen r _) hrun).trans ?_
     rfl
    ·intro n cs hn
     obtain ⟨c0, ty', fz, f1, f2⟩ := hr1.mod n cs hn
     have hne : n ≠ b := fun e => by
      have := hr1.hp.rt id _ gh hi1 hgh b ((hroot b).2 rfl)
      rw [← e, hn] at this; cases this
     exact ⟨c0, ty', fz, by rw [setRow_other w b n _ hne]; exact f1, f2⟩
    ·exact ⟨hr1.fr.os, hr1.fr.tape, hr1.fr.output, by rw [hsz]; exact hr1.fr.size, fun n hn hX => by
      rw [setRow_other w b n _ (fun e => hold (e ▸ ⟨hn, hX⟩))]; exact hr1.fr.block n hn hX⟩
  ·exact h.elim
 ·exact h.elim
end
end Go.Sx
end
section
set_option linter.all false
namespace Go.Sx
open Go Go.RowKit
theorem rX : ∀ {rows : List (List D)} {ns : List Int}, oK rows = some ns → rows.flatten = ns.map (fun n => D.v (.int .u8 n)) ∧ rows.length = ns.length
 | [], ns, h => by simp only [oK, Option.some.injEq] at h; subst h; exact ⟨rfl, rfl⟩
 | r :: rs, ns, h => by
  simp only [oK] at h
  split at h
  ·simp only [Option.map_eq_some_iff] at h
   obtain ⟨ms, h1, rfl⟩ := h
   obtain ⟨e1, e2⟩ := rX h1
   exact ⟨by simp [e1], by simp [e2]⟩
  ·cases h
theorem a1a (ns : List Int) : ∀ s : ByteArray, ns.foldl (fun r n => r.push (UInt8.ofNat n.toNat)) s = ⟨s.data ++ (ns.map fun n => UInt8.ofNat n.toNat).toArray⟩ := by
 induction ns with
 | nil => intro s; simp
 | cons n ns ih =>
  intro s
  rw [List.foldl_cons, ih]
  simp [ByteArray.push]
theorem oD {V : View} {ns : List Int} {ys : List Value} {Ss : List (List Nat)} (h : LayL V (ns.map (fun n => D.v (.int .u8 n))) ys Ss) : ys = ns.map (Value.int .u8) := by
 refine List.ext_getElem? fun k => ?_
 rw [List.getElem?_map]
 cases hk : ns[k]? with
 | none =>
  have : ns.length ≤ k := List.getElem?_eq_none_iff.1 hk
  simp [List.getElem?_eq_none_iff, h.1, this]
 | some n =>
  have hlt : k < ns.length := (List.getElem?_eq_some_iff.1 hk).1
  have hy : k < ys.length := by rw [h.1]; simpa using hlt
  have hS : k < Ss.length := by rw [h.2.1]; simpa using hlt
  have hl := h.2.2 k (D.v (.int .u8 n)) ys[k] Ss[k] (by simp [hk]) (List.getElem?_eq_getElem hy) (List.getElem?_eq_getElem hS)
  rw [List.getElem?_eq_getElem hy]
  have key : ∀ (y : Value) (S : List Nat), Lay V (D.v (.int .u8 n)) y S → y = .int .u8 n := fun y S h => by cases h; rfl
  rw [key _ _ hl]
  rfl
section
variable {E : Env} {o : Oper} {st : St} {k : St → SV → Prop} {g : List Gh} {V : View} {a : Act} {w : World} {K : Act → World → Prop} {Q : Exit → Act → World → Prop}
theorem a8F (b j : Nat) : (Addr.add ⟨b, 0, none⟩ j) = ⟨b, j, none⟩ := by
 unfold Addr.add
 split <;> simp_all
theorem rows_load {P : Program} {C : Ctx} {s : SV} {y : Value} {rows : List (List D)} {ns : List Int} (hr : Rel C g V st a w) (h : jJ st s = some rows) (hc : cSV g V s y) (hb : oK rows = some ns) :
    (y = .slice none 0 0 ∧ ns = []) ∨ ∃ ad cap, y = .slice (some ad) ns.length cap ∧ (loadCells ad ns.length).run P w = .ok (ns.map (Value.int .u8)).toArray w := by
 obtain ⟨f1, f2⟩ := rX hb
 have key : ∀ {S : List Nat}, Lay V (.sl rows) y S → (y = .slice none 0 0 ∧ ns = []) ∨ ∃ ad cap, y = .slice (some ad) ns.length cap ∧ (loadCells ad ns.length).run P w = .ok (ns.map (Value.int .u8)).toArray w := by
  intro S hL
  cases hL with
  | nil => exact .inl ⟨rfl, List.eq_nil_of_length_eq_zero (by simpa using f2.symm)⟩
  | sl rows ad cap sz ys Ss hsz hcap hmax hy hS hcc hl =>
   have hys : ys = ns.map (Value.int .u8) := oD (V := V) (Ss := Ss) (by rw [← f1]; exact ⟨hy, hS, hl⟩)
   refine .inr ⟨ad, cap, by rw [f2], ?_⟩
   have := run_loadCells_list (P := P) w ad ys (fun j v hj => hr.mod.cell (hcc j v hj))
   rwa [hys, List.length_map] at this
 unfold jJ at h
 split at h
 ·cases h
  obtain ⟨S, hL⟩ := hc
  exact key hL
 ·cases h
  have hc : y = _ := hc
  exact .inl ⟨hc, List.eq_nil_of_length_eq_zero (by simpa using f2.symm)⟩
 ·rename_i id
  obtain ⟨gh, hg, hv, _⟩ := hc
  split at h
  ·rename_i ty sz rows' lin e
   cases h
   obtain ⟨h0, ys, Ss, q1, q2, q3⟩ := hr.hp.hb id _ gh (aB e (by simp)) hg
   rcases q3 with ⟨e1, ⟨ao, e2⟩, e3⟩ | ⟨b, cap, c, e1, e2, e3, e4, e5, e6, e7⟩
   ·subst e3
    have hns := List.eq_nil_of_length_eq_zero (show _ = 0 by simpa using f2.symm)
    cases ao with
    | none => exact .inl ⟨by rw [hv, e2], hns⟩
    | some ad =>
     rw [f1] at q1
     have hys := oD q1
     refine .inr ⟨ad, 0, by rw [hv, e2, hns]; rfl, ?_⟩
     have := run_loadCells_list (P := P) w ad [] (fun j v hj => by simp at hj)
     rw [hns]
     simpa using this
   ·rw [f1] at q1
    have hys := oD q1
    refine .inr ⟨⟨b, 0, none⟩, cap, by rw [hv, e2, f2], ?_⟩
    have := run_loadCells_list (P := P) w ⟨b, 0, none⟩ ys (fun j v hj => by
     rw [a8F]
     have h1 := dV e7 hj
     simp only [World.cell?, e5]
     simpa using h1)
    rwa [hys, List.length_map] at this
  ·rename_i rows' lin e
   cases h
   obtain ⟨_, S, hL, _⟩ := hr.hp.hb id _ gh (aB e (by simp)) hg
   rw [← hv] at hL
   exact key hL
  ·cases h
 ·cases h
theorem a3C (hT : TyOK E.P E.T) {src dst : Nat} {x : Operand} (ho : o.op = .convert src dst x) (h : yD E src dst (ev st x) st k) (hr : Rel E.C g V st a w) (hK : dQ E o a k K) : o.wp E.P a w K Q := by
 have hx := aY hr.sl x
 obtain ⟨h1, h2, h3, h4, h⟩ := h
 obtain ⟨i, z, u, hs⟩ := hT.good (t := src) (by rw [h1]; decide)
 obtain ⟨i', z', u', hd⟩ := hT.good (t := dst) (by rw [h4]; decide)
 obtain ⟨i2, z2, u2, he⟩ := hT.good (t := (E.T src).elem) (by rw [h2]; decide)
 have us := hs.und
 have ud := hd.und
 have ue := he.und
 rw [hs.slice h1] at us
 rw [hd.string h4] at ud
 rw [he.int h2, h3] at ue
 split at h
 ·rename_i rows hrows
  split at h
  ·rename_i ns hns
   refine aC (w' := w) (y := .string (jS ns)) ?_ (hK g V st w _ _ hr (aM g V _ rfl) h)
   simp only [execOp, ho]
   refine aD _ _ _ _ _ ?_
   rcases rows_load (P := E.P) hr hrows hx hns with ⟨e1, e2⟩ | ⟨ad, cap, e1, e2⟩
   ·subst e2
    rw [e1, run_convert_bytes_string w src dst _ none 0 0 us ue ud]
    simp [Conv.bytesToString, jS]
    rfl
   ·rw [e1, run_convert_bytes_string w src dst _ (some ad) ns.length cap us ue ud, run_bytesToString w ad ns.length cap ns e2, a1a]
    simp [jS]
  ·exact h.elim
 ·exact h.elim
end
end Go.Sx
end
section
set_option linter.all false
namespace Go.Sx
open Go Go.RowKit
theorem rY {a : Addr} {n : Nat} (h : (a.add n).spot = none) : a.add n = ⟨a.block, a.off + n, none⟩ := by
 obtain ⟨b, o, s⟩ := a
 unfold Addr.add at h ⊢
 split at h
 ·rename_i e
  subst e
  simp only at h
  subst h
  rfl
 ·rename_i e
  rw [if_neg e]
theorem View.cell_some {V : View} {a : Addr} {y : Value} (h : V.cell a = some y) : a.spot = none ∧ ∃ cs, V a.block = some cs ∧ cs[a.off]? = some y := by
 unfold View.cell at h
 split at h
 ·cases h
 ·rename_i hs
  cases hb : V a.block with
  | none => simp [hb] at h
  | some cs =>
   rw [hb] at h
   exact ⟨by simpa using hs, cs, rfl, h⟩
theorem mF {α : Type} {sz fo : Nat} (d : α) (hfo : fo < sz) : ∀ {rows : List (List α)} {i : Nat} (h : ∀ r ∈ rows, r.length = sz) (hi : i < rows.length), (rows.set i (rows[i].set fo d)).flatten = rows.flatten.set (i * sz + fo) d
 | [], _, _, hi => by simp at hi
 | r :: rs, 0, h, _ => by
  have hr := h r (List.mem_cons_self ..)
  simp only [List.set_cons_zero, List.getElem_cons_zero, List.flatten_cons, Nat.zero_mul, Nat.zero_add]
  rw [List.set_append_left _ _ (by omega)]
 | r :: rs, i + 1, h, hi => by
  have hr := h r (List.mem_cons_self ..)
  have ih := mF d hfo (rows := rs) (i := i) (fun x hx => h x (List.mem_cons_of_mem _ hx)) (by simpa using hi)
  simp only [List.set_cons_succ, List.getElem_cons_succ, List.flatten_cons]
  rw [ih, List.set_append_right _ _ (by rw [Nat.add_mul]; omega)]
  congr 2
  rw [Nat.add_mul]; omega
theorem oF {α : Type} : ∀ {l : List α} {o : Nat} {d : α} {r : List α}, bI l o [d] = some r → r = l.set o d ∧ o < l.length
 | [], 0, d, r, h => by simp [bI] at h
 | x :: xs, 0, d, r, h => by
  simp only [bI, Option.map_eq_some_iff] at h
  obtain ⟨r', h1, rfl⟩ := h
  cases h1
  exact ⟨rfl, by simp⟩
 | [], o + 1, d, r, h => by simp [bI] at h
 | x :: xs, o + 1, d, r, h => by
  simp only [bI, Option.map_eq_some_iff] at h
  obtain ⟨r', h1, rfl⟩ := h
  obtain ⟨e, hl⟩ := oF h1
  subst e
  exact ⟨rfl, by simpa using hl⟩
theorem OwnR.store {w : World} {sz : Nat} {rows : List (List D)} {y : Value} {S : List Nat} {hd : List Value} (h : OwnR w sz rows y S hd) (hnd : S.Nodup) {ad : Addr} {ln cp : Nat} (hy : y = .slice (some ad) ln cp)
    {i fo : Nat} (hi : i < rows.length) {x0 x : Value} (hf : (dF rows i)[fo]? = some (.v x0)) (hx : scalar x = true) :
    ∃ (b off ty : Nat) (cur : List Value), ad.add (i * sz + fo) = ⟨b, off, none⟩ ∧ b ∈ S ∧ w.heap[b]? = some (.cells cur.toArray ty (0, 0)) ∧ off < cur.length ∧
     OwnR (w.setRow b (cur.take off ++ [x] ++ cur.drop (off + 1)).toArray) sz (rows.set i ((dF rows i).set fo (.v x))) y S hd := by
 obtain ⟨h0, U, ys, Ss, h1, h2, h3, h4, h5⟩ := h
 rw [uP rows hi] at hf ⊢
 have hflat := dI h0 hi hf
 have hfo : fo < sz := by rw [← h0 _ (List.getElem_mem hi)]; exact (List.getElem?_eq_some_iff.1 hf).1
 have hpl : i * sz + fo < rows.flatten.length := (List.getElem?_eq_some_iff.1 hflat).1
 have hlt : i * sz + fo < ys.length := by rw [h3.1]; exact hpl
 have hlt2 : i * sz + fo < Ss.length := by rw [h3.2.1]; exact hpl
 have hfs := mF (.v x) hfo h0 hi
 generalize hp : i * sz + fo = p at *
 have hz : ys[p]? = some ys[p] := List.getElem?_eq_getElem hlt
 rcases h5 with ⟨e, _, _⟩ | ⟨a, cap, e, hcap, hmax, hc, hS⟩
 ·rw [hy] at e; cases e
 ·rw [hy] at e
  injection e with e1 e2 e3
  cases e1; subst e2; subst e3
  obtain ⟨hsp, cs, hUb, hcs⟩ := View.cell_some (hc _ _ hz)
  have hadd := rY hsp
  rw [hadd] at hUb hcs
  simp only at hUb hcs
  obtain ⟨hbS, c0, ty0, hheap⟩ := h2 _ _ hUb
  obtain ⟨c, ty, fz, e1, hpre⟩ := h1 _ _ hUb
  rw [hheap] at e1; cases e1
  have hcur : c0.toList[ad.off + p]? = some ys[p] := dV hpre hcs
  have hoff : ad.off + p < c0.toList.length := (List.getElem?_eq_some_iff.1 hcur).1
  have hne : rows.isEmpty = false := by cases rows <;> simp_all
  rw [hne] at hS
  simp only [Bool.false_eq_true, if_false, List.singleton_append] at hS
  have hbn : ad.block ∉ Ss.flatten := by rw [hS] at hnd; exact (List.nodup_cons.1 hnd).1
  have hget : ∀ k, (c0.toList.take (ad.off + p) ++ [x] ++ c0.toList.drop (ad.off + p + 1))[k]? = if k = ad.off + p then some x else c0.toList[k]? := fun k => by
   rw [List.getElem?_append, List.getElem?_append]
   simp only [List.length_append, List.length_take, List.length_cons, List.length_nil]
   have hm : min (ad.off + p) c0.toList.length = ad.off + p := by omega
   rw [hm]
   rcases Nat.lt_trichotomy k (ad.off + p) with hk | hk | hk
   ·rw [if_pos (by omega), if_pos hk, List.getElem?_take, if_pos hk, if_neg (by omega)]
   ·subst hk; rw [if_pos (by omega), if_neg (by omega), if_pos rfl]; simp
   ·rw [if_neg (by omega), if_neg (by omega), List.getElem?_drop]
    congr 1; omega
  refine ⟨ad.block, ad.off + p, ty0, c0.toList, hadd, hbS, by simpa using hheap, hoff, ?_⟩
  generalize hcv : c0.toList.take (ad.off + p) ++ [x] ++ c0.toList.drop (ad.off + p + 1) = cur at *
  have hnew : (w.setRow ad.block cur.toArray).heap[ad.block]? = some (.cells cur.toArray ty0 (0, 0)) := setRow_heap w ad.block c0 cur.toArray ty0 (0, 0) hheap
  let U' : View := fun n => if n = ad.block then some cur else U n
  have hU'b : U' ad.block = some cur := by simp [U']
  have hU'n : ∀ n, n ≠ ad.block → U' n = U n := fun n hn => by simp [U', hn]
  refine ⟨fun r hr => ?_, U', ys.set p x, Ss, fun n cs' hn => ?_, fun n cs' hn => ?_, ⟨by rw [hfs]; simp [h3.1], by rw [hfs]; simp [h3.2.1], fun k d z T q1 q2 q3 => ?_⟩, fun k rs q => ?_, .inr ⟨ad, cp, by simpa using hy, by simpa using hcap, hmax, fun k z hk => ?_, ?_⟩⟩
  ·rcases List.mem_or_eq_of_mem_set hr with hr | hr
   ·exact h0 r hr
   ·rw [hr, List.length_set]; exact h0 _ (List.getElem_mem hi)
  ·by_cases hb : n = ad.block
   ·subst hb; rw [hU'b] at hn; cases hn; exact ⟨_, _, _, hnew, by simp⟩
   ·rw [hU'n n hb] at hn
    obtain ⟨c, ty, fz, g1, g2⟩ := h1 n cs' hn
    exact ⟨c, ty, fz, by rw [setRow_other w _ n _ hb]; exact g1, g2⟩
  ·by_cases hb : n = ad.block
   ·subst hb; exact ⟨hbS, _, _, hnew⟩
   ·rw [hU'n n hb] at hn
    obtain ⟨g0, c, ty, g1⟩ := h2 n cs' hn
    exact ⟨g0, c, ty, by rw [setRow_other w _ n _ hb]; exact g1⟩
  ·rw [hfs, List.getElem?_set] at q1
   rw [List.getElem?_set] at q2
   by_cases hk : p = k
   ·subst hk
    rw [if_pos rfl, if_pos hpl] at q1
    rw [if_pos rfl, if_pos hlt] at q2
    cases q1; cases q2
    have hold := h3.2.2 p _ _ T hflat hz q3
    cases hold
    exact .v _ hx
   ·rw [if_neg hk] at q1 q2
    refine (h3.2.2 k d z T q1 q2 q3).restrict fun b hb cs' hcs' => ⟨cs', ?_, List.prefix_refl _⟩
    rw [hU'n b fun e => hbn (e ▸ List.mem_flatten.2 ⟨T, List.mem_of_getElem? q3, hb⟩)]
    exact hcs'
  ·rw [hfs, List.getElem?_set] at q
   by_cases hk : p = k
   ·subst hk; rw [if_pos rfl, if_pos hpl] at q; cases q
   ·rw [if_neg hk] at q
    rw [List.getElem?_set, if_neg hk]
    exact h4 k rs q
  ·rw [List.getElem?_set] at hk
   have hcell : ∀ (kk : Nat) (z' : Value), ys[kk]? = some z' → ad.add kk = ⟨ad.block, ad.off + kk, none⟩ ∧ c0.toList[ad.off + kk]? = some z' := fun kk z' hz' => by
    obtain ⟨s1, cs1, s2, s3⟩ := View.cell_some (hc kk z' hz')
    have ha := rY s1
    rw [ha] at s2 s3
    simp only at s2 s3
    rw [hUb] at s2; cases s2
    exact ⟨ha, dV hpre s3⟩
   by_cases hkp : p = k
   ·subst hkp
    rw [if_pos rfl, if_pos hlt] at hk
    cases hk
    rw [hadd]
    simp [View.cell, hU'b, hget]
   ·rw [if_neg hkp] at hk
    obtain ⟨ha, hg⟩ := hcell k z hk
    rw [ha]
    simp only [View.cell, hU'b, Option.isSome_none, Bool.false_eq_true, if_false, Option.bind_some]
    rw [hget, if_neg (by omega)]
    exact hg
  ·have : (rows.set i (rows[i].set fo (.v x))).isEmpty = false := by cases rows <;> simp_all
   rw [this]; simpa using hS
section
variable {E : Env} {o : Oper} {st : St} {k : St → SV → Prop} {g : List Gh} {V : View} {a : Act} {w : World} {K : Act → World → Prop} {Q : Exit → Act → World → Prop}
theorem zT (hT : TyOK E.P E.T) {t : Nat} {x v : Operand} (ho : o.op = .store t x v) {id sz i fo : Nat} (e : ev st x = .o (.e id sz i fo)) (h : fJ E t id sz i fo (ev st v) st k) (hr : Rel E.C g V st a w) (hK : dQ E o a k K) : o.wp E.P a w K Q := by
 have hx := aY hr.sl x
 have hv := aY hr.sl v
 rw [e] at hx
 obtain ⟨gh, ad, ln, cp, hg, hval, hp⟩ := hx
 unfold fJ at h
 split at h
 ·rename_i xv ev1
  rw [ev1] at hv
  obtain ⟨hv, hsc⟩ := aG hv
  split at h
  ·rename_i tag sz' rows hown
   split at h
   ·rename_i x0 r hsub hspl
    obtain ⟨ht, hsz1, rfl, hin, hk⟩ := h
    obtain ⟨ty1, z, u, hgood⟩ := hT.good ht
    have hi := aB hown (by simp)
    obtain ⟨htag, hO⟩ := hr.hp.hb id _ gh hi hg
    have hnd : gh.tr.Nodup := hr.hp.nd id _ gh hi hg
    obtain ⟨hr', hfl⟩ := oF hspl
    obtain ⟨b, off, ty, cur, ha, hbS, hheap, hoff, hO'⟩ := hO.store hnd hval hin (yE hsub) hsc
    rw [← hr'] at hO'
    have hcells : xv.cells = #[xv] := by cases xv <;> first | rfl | simp [scalar] at hsc
    have hone : xv.oneCell' = true := by cases xv <;> first | rfl | simp [scalar] at hsc
    have hrun := jE hgood w b off ty cur xv hheap (by rw [hcells]; simpa using hsz1.symm) (by rw [hcells]; simp; omega) (by rw [hcells]; simpa using hone)
    rw [hcells] at hrun
    simp only [List.size_toArray, List.length_cons, List.length_nil] at hrun
    have hVb : V b = none := hr.hp.rt id _ gh hi hg b hbS
    have hold : ¬ (b < E.C.w0.heap.size ∧ b ∉ E.C.X) := fun hh => by
     rcases (hr.hp.lo id _ gh hi hg b hbS).1 with h1 | h1
     ·omega
     ·exact hh.2 h1
    have hsz : (w.setRow b (cur.take off ++ [xv] ++ cur.drop (off + 1)).toArray).heap.size = w.heap.size := by simp [World.setRow]
    refine kT (w' := w.setRow b (cur.take off ++ [xv] ++ cur.drop (off + 1)).toArray) ?_ (hK g V ⟨st.t, setH st.h id (.own tag sz' (rows.set i r))⟩ _ (.t []) undef ⟨hr.sl, ?_, ?_, ?_, ?_⟩ (eU g V) hk)
    ·simp only [execOp, ho, hp, hv, ha, Sem.run_bind]
     refine (congrArg (fun r => Result.andThen r _) hrun).trans ?_
     rfl
    ·rw [bD]
     exact hr.hp.set id hi hg (fun n hn => hn) hnd (fun n hn => hn) ⟨htag, hO'⟩ (fun n hn => setRow_other w b n _ fun e => hn (by subst e; exact hbS)) hsz
    ·intro n cs hn
     obtain ⟨c, ty', fz, f1, f2⟩ := hr.mod n cs hn
     exact ⟨c, ty', fz, by rw [setRow_other w b n _ fun e => by rw [e, hVb] at hn; cases hn]; exact f1, f2⟩
    ·exact ⟨hr.fr.os, hr.fr.tape, hr.fr.output, by rw [hsz]; exact hr.fr.size, fun n hn hX => by
      rw [setRow_other w b n _ (fun e => hold (e ▸ ⟨hn, hX⟩))]; exact hr.fr.block n hn hX⟩
    ·exact hr.vw.move fun n cs hn => setRow_other w b n _ fun e => by rw [e, hVb] at hn; cases hn
   ·exact h.elim
  ·exact h.elim
 ·exact h.elim
end
end Go.Sx
end
section
set_option linter.all false
namespace Go.Sx
open Go Go.RowKit
section
variable {E : Env} {o : Oper} {st : St} {k : St → SV → Prop} {g : List Gh} {V : View} {a : Act} {w : World} {K : Act → World → Prop} {Q : Exit → Act → World → Prop}
theorem a1W {C : Ctx} {h : List HB} (hp : Hp C g V h w) : ∀ {cs : List At} {l : List Value} {ds : List D}, kR h cs = some ds → cL g V cs l → ∃ Ss, LayL V ds l Ss
 | [], l, ds, hh, hc => by simp only [kR, Option.some.injEq] at hh; subst hh; rw [hc.nil_inv]; exact ⟨[], LayL.nil V⟩
 | c :: cs, l, ds, hh, hc => by
  obtain ⟨y, l', rfl, hy, hl⟩ := hc.cons_inv
  have step : ∀ (d : D) (S : List Nat), Lay V d y S → (kR h cs).map (d :: ·) = some ds → ∃ Ss, LayL V ds (y :: l') Ss := by
   intro d S hS hm
   simp only [Option.map_eq_some_iff] at hm
   obtain ⟨ds', h1, rfl⟩ := hm
   obtain ⟨Ss, q⟩ := a1W hp h1 hl
   refine ⟨S :: Ss, LayL.append (ds := [d]) (ys := [y]) (Ss := [S]) ⟨rfl, rfl, fun k d' y' S' e1 e2 e3 => ?_⟩ q⟩
   cases k with
   | zero => simp at e1 e2 e3; subst e1; subst e2; subst e3; exact hS
   | succ k => simp at e1
  cases c with
  | d x => obtain ⟨S, hy⟩ := hy; exact step x S hy hh
  | z => have hy : y = _ := hy; subst hy; exact step (.sl []) [] .nil hh
  | s id =>
   simp only [kR] at hh
   split at hh
   ·rename_i rows lin e
    obtain ⟨gh, hg, hv, _⟩ := hy
    obtain ⟨_, S, hS, _⟩ := hp.hb id _ gh (aB e (by simp)) hg
    exact step (.sl rows) S (by rw [hv]; exact hS) hh
   ·cases hh
  | u => simp [kR] at hh
  | p => simp [kR] at hh
  | r => simp [kR] at hh
  | q => simp [kR] at hh
  | f => simp [kR] at hh
  | w => simp [kR] at hh
  | m => simp [kR] at hh
  | e => simp [kR] at hh
  | n => simp [kR] at hh
theorem cAt.cap {V' : View} {id : Nat} {ds : List D} {x : At} {y : Value} (h : cAt g V x y) (hv : V.le V') (hq : ∀ (gh : Gh) (b : Nat), g[id]? = some gh → gh.blk = some b → QC V' ⟨b, 0, none⟩ ds) : cAt g V' (zX id ds x) y := by
 cases x with
 | p j off =>
  simp only [zX]
  split
  ·rename_i e
   subst e
   obtain ⟨gh, b, h1, h2, h3⟩ := h
   refine ⟨⟨b, off, none⟩, h3, ?_⟩
   have := (hq gh b h1 h2).drop off
   rwa [Addr.add_lit, Nat.zero_add] at this
  ·exact cAt.mono (a := .p j off) h (GLe.refl g) hv
 | u => trivial
 | d x => exact cAt.mono (a := .d x) h (GLe.refl g) hv
 | z => exact h
 | r j sz i fo => exact cAt.mono (a := .r j sz i fo) h (GLe.refl g) hv
 | s j => exact cAt.mono (a := .s j) h (GLe.refl g) hv
 | q cs => exact cAt.mono (a := .q cs) h (GLe.refl g) hv
 | f fn caps => exact cAt.mono (a := .f fn caps) h (GLe.refl g) hv
 | w => exact h
 | m => exact h
 | e j sz i fo => exact cAt.mono (a := .e j sz i fo) h (GLe.refl g) hv
 | n j sz i fo => exact cAt.mono (a := .n j sz i fo) h (GLe.refl g) hv
theorem cL.cap {V' : View} {id : Nat} {ds : List D} {cs : List At} {l : List Value} (h : cL g V cs l) (hv : V.le V') (hq : ∀ (gh : Gh) (b : Nat), g[id]? = some gh → gh.blk = some b → QC V' ⟨b, 0, none⟩ ds) : cL g V' (cs.map (zX id ds)) l :=
 ⟨by simp [h.1], fun k c y h1 h2 => by
  rw [List.getElem?_map] at h1
  cases hk : cs[k]? with
  | none => rw [hk] at h1; cases h1
  | some c0 => rw [hk] at h1; cases h1; exact (h.2 k c0 y hk h2).cap hv hq⟩
theorem cSV.cap {V' : View} {id : Nat} {ds : List D} {s : SV} {y : Value} (h : cSV g V s y) (hv : V.le V') (hq : ∀ (gh : Gh) (b : Nat), g[id]? = some gh → gh.blk = some b → QC V' ⟨b, 0, none⟩ ds) : cSV g V' (a4X id ds s) y := by
 cases s with
 | o c => exact cAt.cap h hv hq
 | g cs => obtain ⟨l, h1, h2⟩ := h; exact ⟨l, h1, h2.cap hv hq⟩
 | t l =>
  obtain ⟨ys, h1, h2, h3⟩ := h
  refine ⟨ys, h1, by simp [h2], fun j b cs v hj hv' => ?_⟩
  rw [List.getElem?_map] at hj
  cases hl : l[j]? with
  | none => rw [hl] at hj; cases hj
  | some p =>
   obtain ⟨b0, c0⟩ := p
   rw [hl] at hj
   simp only [Option.map_some, Option.some.injEq, Prod.mk.injEq] at hj
   obtain ⟨rfl, rfl⟩ := hj
   have := h3 j b0 c0 v hl hv'
   cases b0
   ·simp only [Bool.false_eq_true, if_false] at this ⊢; exact this.cap hv hq
   ·simp only [if_true] at this ⊢; obtain ⟨m, e, hm⟩ := this; exact ⟨m, e, hm.cap hv hq⟩
theorem pR {id : Nat} {ds : List D} {x : Gh} {b : HB} : aH x (a1j id ds b) = aH x b ∧ aK x (a1j id ds b) = aK x b := by cases b <;> exact ⟨rfl, rfl⟩
theorem Rel.cap {C : Ctx} (hr : Rel C g V st a w) {id ty : Nat} {cs : List At} {ds : List D} (h1 : st.h[id]? = some (.box ty cs)) (hd : kR st.h cs = some ds) :
    ∃ V', V.le V' ∧ Rel C g V' ⟨st.t.map (a4X id ds), (st.h.set id .gone).map (a1j id ds)⟩ a w ∧ ∀ (gh : Gh) (b : Nat), g[id]? = some gh → gh.blk = some b → QC V' ⟨b, 0, none⟩ ds := by
 obtain ⟨gh, hg, hok⟩ := hr.ghost h1
 obtain ⟨b, l, e1, e2, e3⟩ := hok
 obtain ⟨Ss, hl⟩ := a1W hr.hp hd e3
 have hroot : b ∈ aK gh (.box ty cs) := by simp [aK, e1]
 have hVb : V b = none := hr.hp.rt id _ gh h1 hg b hroot
 let V' : View := fun n => if n = b then some l else V n
 have hle : V.le V' := fun n cs hn => by
  have : n ≠ b := fun e => by rw [e, hVb] at hn; cases hn
  exact ⟨cs, by simp [V', this, hn], List.prefix_refl _⟩
 have hq : ∀ (gh' : Gh) (b' : Nat), g[id]? = some gh' → gh'.blk = some b' → QC V' ⟨b', 0, none⟩ ds := by
  intro gh' b' q1 q2 j d hj
  rw [hg] at q1
  cases q1
  rw [e1] at q2
  cases q2
  have hjl : j < l.length := by rw [hl.1]; exact (List.getElem?_eq_some_iff.1 hj).1
  have hjs : j < Ss.length := by rw [hl.2.1]; exact (List.getElem?_eq_some_iff.1 hj).1
  refine ⟨l[j], _, ?_, (hl.2.2 j d _ _ hj (List.getElem?_eq_getElem hjl) (List.getElem?_eq_getElem hjs)).mono hle⟩
  rw [Addr.add_lit, Nat.zero_add]
  simp [View.cell, V', hjl]
 have hp := hr.hp.drop id
 refine ⟨V', hle, ⟨⟨by simp [hr.sl.size], fun i s y q1 q2 => ?_, hr.sl.defers⟩, ⟨by simp [hr.hp.glen], ?_, ?_, ?_, ?_, ?_⟩, ?_, hr.fr, ?_⟩, hq⟩
 ·rw [List.getElem?_map] at q1
  cases hs : st.t[i]? with
  | none => rw [hs] at q1; cases q1
  | some s0 => rw [hs] at q1; cases q1; exact (hr.sl.slot i s0 y hs q2).cap hle hq
 all_goals
  have key : ∀ (i : Nat) (c : HB), ((st.h.set id .gone).map (a1j id ds))[i]? = some c → ∃ c0, (st.h.set id .gone)[i]? = some c0 ∧ c = a1j id ds c0 := by
   intro i c hc
   rw [List.getElem?_map] at hc
   cases hs : (st.h.set id .gone)[i]? with
   | none => rw [hs] at hc; cases hc
   | some c0 => rw [hs] at hc; cases hc; exact ⟨c0, rfl, rfl⟩
 ·intro i c y q1 q2
  obtain ⟨c0, r1, rfl⟩ := key i c q1
  have hok := hp.hb i c0 y r1 q2
  cases c0 with
  | box ty' cs' => obtain ⟨b', l', f1, f2, f3⟩ := hok; exact ⟨b', l', f1, f2, f3.cap hle hq⟩
  | row ty' sz rows lin => exact HBok.mono (g := g) (g' := g) (b := .row ty' sz rows lin) hok (GLe.refl g) hle (fun _ _ => rfl)
  | frz rows lin => exact HBok.mono (g := g) (g' := g) (w := w) (w' := w) (b := .frz rows lin) hok (GLe.refl g) hle (fun _ _ => rfl)
  | pin pb ty' ds' => exact HBok.mono (g := g) (g' := g) (w := w) (w' := w) (b := .pin pb ty' ds') hok (GLe.refl g) hle (fun _ _ => rfl)
  | gone => trivial
  | own tag sz rows => exact HBok.mono (g := g) (g' := g) (w := w) (w' := w) (b := .own tag sz rows) hok (GLe.refl g) hle (fun _ _ => rfl)
 ·intro i c y q1 q2
  obtain ⟨c0, r1, rfl⟩ := key i c q1
  rw [pR.1]; exact hp.nd i c0 y r1 q2
 ·intro i j c c' y y' hij q1 q2 q3 q4 n hn
  obtain ⟨c0, r1, rfl⟩ := key i c q1
  obtain ⟨c1, r2, rfl⟩ := key j c' q3
  rw [pR.1] at hn ⊢
  exact hp.dj i j c0 c1 y y' hij r1 q2 r2 q4 n hn
 ·intro i c y q1 q2 n hn
  obtain ⟨c0, r1, rfl⟩ := key i c q1
  rw [pR.1] at hn
  exact hp.lo i c0 y r1 q2 n hn
 ·intro i c y q1 q2 n hn
  obtain ⟨c0, r1, rfl⟩ := key i c q1
  rw [pR.2] at hn
  have hV := hp.rt i c0 y r1 q2 n hn
  have hne : n ≠ b := by
   rintro rfl
   by_cases hi : i = id
   ·subst hi
    rw [List.getElem?_set, if_pos rfl] at r1
    split at r1
    ·cases r1; simp [aK] at hn
    ·cases r1
   ·rw [List.getElem?_set, if_neg (fun e => hi e.symm)] at r1
    exact hr.hp.dj i id c0 _ y gh hi r1 q2 h1 hg n (aJ hn) (aJ hroot)
  simp [V', hne, hV]
 ·clear key
  intro n cs' hn
  by_cases e : n = b
  ·subst e
   simp [V'] at hn
   subst hn
   exact ⟨l.toArray, ty, (0, 0), e2, by simp⟩
  ·simp [V', e] at hn
   exact hr.mod n cs' hn
 ·clear key
  refine hr.vw.grow hle fun n cs' hn h0 => ?_
  by_cases e : n = b
  ·subst e; exact ⟨(hr.hp.lo id _ gh h1 hg n (aJ hroot)).1, l.toArray, ty, e2⟩
  ·simp [V', e] at hn
   rw [hn] at h0; cases h0
theorem qY : ∀ {caps : List Operand} {st st' : St} {g : List Gh} {V : View} {ds : List (List D)}, oM E st caps = some (st', ds) → Rel E.C g V st a w →
    ∃ g' V', GLe g g' ∧ V.le V' ∧ Rel E.C g' V' st' a w ∧ ds.length = caps.length ∧ ∀ (j : Nat) (c : List D) (x : Operand), ds[j]? = some c → caps[j]? = some x → ∃ p, a.eval x = .pointer (some p) ∧ QC V' p c
 | [], st, st', g, V, ds, h, hr => by
  simp only [oM, Option.some.injEq, Prod.mk.injEq] at h
  obtain ⟨rfl, rfl⟩ := h
  exact ⟨g, V, GLe.refl g, View.le.refl V, hr, rfl, fun j c x h => by simp at h⟩
 | x :: caps, st, st', g, V, ds, h, hr => by
  have hx := aY hr.sl x
  simp only [oM] at h
  split at h
  ·rename_i cs e
   rw [e] at hx
   simp only [Option.map_eq_some_iff, Prod.mk.injEq] at h
   obtain ⟨⟨s1, d1⟩, h1, rfl, rfl⟩ := h
   obtain ⟨g', V', k1, k2, k3, k4, k5⟩ := qY h1 hr
   refine ⟨g', V', k1, k2, k3, by simp [k4], fun j c y q1 q2 => ?_⟩
   cases j with
   | zero => simp at q1 q2; subst q1; subst q2; obtain ⟨p, hp, hq⟩ := hx; exact ⟨p, hp, hq.mono k2⟩
   | succ j => exact k5 j c y (by simpa using q1) (by simpa using q2)
  ·rename_i id e
   rw [e] at hx
   split at h
   ·rename_i ty b hbox
    split at h
    ·rename_i d hd
     simp only [Option.map_eq_some_iff, Prod.mk.injEq] at h
     obtain ⟨⟨s1, d1⟩, h1, rfl, rfl⟩ := h
     obtain ⟨g1, V1, hr1, hg1, hv1, hfl, hfo⟩ := dU (bL b) hr
     have hbox1 : (aQ st.h (bL b))[id]? = some (.box ty b) := frzH_box (aB hbox (by simp)) (bL b)
     obtain ⟨V2, hv2, hr2, hq⟩ := hr1.cap hbox1 hd
     rw [bD] at h1
     obtain ⟨g', V', k1, k2, k3, k4, k5⟩ := qY h1 hr2
     refine ⟨g', V', hg1.trans k1, (hv1.trans hv2).trans k2, k3, by simp [k4], fun j c y q1 q2 => ?_⟩
     cases j with
     | zero =>
      simp at q1 q2
      subst q1; subst q2
      obtain ⟨gh, bk, f1, f2, f3⟩ := hx
      obtain ⟨gh', f4, f5, _⟩ := hg1 id gh f1
      exact ⟨⟨bk, 0, none⟩, f3, (hq gh' bk f4 (f5.trans f2)).mono k2⟩
     | succ j => exact k5 j c y (by simpa using q1) (by simpa using q2)
    ·cases h
   ·cases h
  ·cases h
where
 frzH_box {id ty : Nat} {b : List At} : ∀ {h : List HB}, h[id]? = some (.box ty b) → ∀ (ids : List Nat), (aQ h ids)[id]? = some (.box ty b)
  | h, hh, [] => hh
  | h, hh, i :: ids => by
   simp only [aQ]
   split
   ·rename_i t s rows lin e
    refine frzH_box ?_ ids
    have hne : i ≠ id := fun e' => by
     subst e'
     have := aB e (by simp)
     rw [hh] at this; cases this
    rw [bD, List.getElem?_set, if_neg hne]
    exact hh
   ·exact frzH_box hh ids
theorem zU {f : Nat} {first caps : Array Operand} (ho : o.op = .makeFunc (.func f) first caps) (hf : first.toList = []) (h : kS E f caps.toList st k) (hr : Rel E.C g V st a w) (hK : dQ E o a k K) : o.wp E.P a w K Q := by
 unfold kS at h
 split at h
 ·rename_i st' ds hc
  obtain ⟨g', V', k1, k2, k3, k4, k5⟩ := qY hc hr
  have e1 : first = #[] := by simpa using hf
  subst e1
  refine aC (w' := w) (y := .func (.func f) #[] (caps.toList.map a.eval).toArray) ?_ (hK g' V' st' w (.o (.f f ds)) _ k3 ⟨caps.toList.map a.eval, rfl, by simp [k4], fun j c v q1 q2 => ?_⟩ h)
  ·simp only [execOp, ho, Instr.makeFunc]
   simp [← Array.toList_map]
  ·rw [List.getElem?_map] at q2
   cases hx : caps.toList[j]? with
   | none => rw [hx] at q2; cases q2
   | some x => rw [hx] at q2; cases q2; exact k5 j c x q1 hx
 ·exact h.elim
theorem a2G (hT : TyOK E.P E.T) {t id : Nat} {x : Operand} {lo hi : Option Operand} (ho : o.op = .slice t x lo hi none) (e1 : ev st x = .o (.s id)) (h : jV E t id lo hi st k) (hr : Rel E.C g V st a w) (hK : dQ E o a k K) : o.wp E.P a w K Q := by
 unfold jV at h
 split at h
 ·rename_i rows hrows
  split at h
  ·rename_i l hh e2 e3
   obtain ⟨h1, ht, hu, l0, l1, l2, hk⟩ := h
   obtain ⟨g', V', hr', hg', hv', hlen, _⟩ := dU [id] hr
   have hx := (aY hr.sl x).mono hg' hv'
   rw [e1] at hx
   obtain ⟨gh, hgh, hy, _⟩ := hx
   have hf : ∃ lin, (aQ st.h [id])[id]? = some (.frz rows lin) := by
    unfold jJ at hrows
    simp only at hrows
    simp only [aQ]
    split at hrows
    ·rename_i ty sz r lin e
     cases hrows
     rw [e]
     have := aB e (by simp)
     exact ⟨lin, by simp only []; rw [bD, List.getElem?_set]; simp [(List.getElem?_eq_some_iff.1 this).1]⟩
    ·rename_i r lin e
     cases hrows
     rw [e]
     exact ⟨lin, aB e (by simp)⟩
    ·cases hrows
   obtain ⟨lin, hf⟩ := hf
   obtain ⟨_, S, q1, _⟩ := hr'.hp.hb id _ gh hf hgh
   exact a1V (st := ⟨st.t, aQ st.h [id]⟩) hT ho e2 e3 h1 ht hu l0 l1 l2 ⟨S, by rw [hy]; exact q1⟩ hk hr' hK
  ·exact h.elim
 ·exact h.elim
theorem gM (hT : TyOK E.P E.T) (hE : ∀ t, E.eqk t ≠ [] → EqT E.P t (E.eqk t)) (h : bC E o.op st k) (hr : Rel E.C g V st a w) (hK : dQ E o a k K) : o.wp E.P a w K Q := by
 cases ho : o.op with
 | move x =>
  rw [ho] at h
  exact aC (w' := w) (by simp [execOp, ho]) (hK g V st w _ _ hr (aY hr.sl x) h)
 | assign x =>
  rw [ho] at h
  exact aC (w' := w) (by simp [execOp, ho]) (hK g V st w _ _ hr (aY hr.sl x) h)
 | pick c x y =>
  rw [ho] at h
  simp only [bC] at h
  unfold kL at h
  split at h
  ·rename_i b e
   have hc := aY hr.sl c
   rw [e] at hc
   obtain ⟨hc, _⟩ := aG hc
   cases b with
   | true => exact aC (w' := w) (by simp [execOp, ho, hc, asBool]) (hK g V st w _ _ hr (aY hr.sl x) (h.1 rfl))
   | false => exact aC (w' := w) (by simp [execOp, ho, hc, asBool]) (hK g V st w _ _ hr (aY hr.sl y) (h.2 rfl))
  ·exact h.elim
 | alloc t =>
  rw [ho] at h
  simp only [bC] at h
  obtain ⟨ht, hk⟩ := h
  obtain ⟨i, z, u, hg⟩ := hT.good ht
  obtain ⟨g', hr', hs⟩ := hr.newBox t (mZ hg.zc g V)
  rw [Array.toArray_toList] at hr'
  exact aC (w' := w.alloc (.cells z.cells t)) (y := .pointer (some ⟨w.heap.size, 0, none⟩)) (by simp [execOp, ho, Instr.alloc, hg.run_zero w, newVar, newRow]) (hK g' V _ _ _ _ hr' hs hk)
 | box t x =>
  rw [ho] at h
  simp only [bC] at h
  obtain ⟨hb, hk⟩ := h
  obtain ⟨g', hr', hs⟩ := hr.newBox t (iD (aY hr.sl x) hb)
  rw [Array.toArray_toList] at hr'
  exact aC (w' := w.alloc (.cells (a.eval x).cells t)) (y := .pointer (some ⟨w.heap.size, 0, none⟩)) (by simp [execOp, ho, Instr.box, newVar, newRow]) (hK g' V _ _ _ _ hr' hs hk)
 | load t x => rw [ho] at h; exact a4Y hT ho h hr hK
 | store t x v =>
  rw [ho] at h
  simp only [bC] at h
  split at h
  ·rename_i id sz i fo e; exact zS hT ho e h hr hK
  ·rename_i id sz i fo e; exact zT hT ho e h hr hK
  ·exact a3J hT ho h hr hK
 | fieldAddr t x f => rw [ho] at h; exact yF hT ho h hr hK
 | field t x f => rw [ho] at h; exact a3K hT ho h hr hK
 | indexAddr t x i => rw [ho] at h; exact yG hT ho h hr hK
 | index t x i => rw [ho] at h; exact a3L hT ho h hr hK
 | binOp op t x y ty => rw [ho] at h; exact a6l hT hE ho h hr hK
 | unOp op t x => rw [ho] at h; exact a7o ho h hr hK
 | convert s d x =>
  rw [ho] at h
  simp only [bC] at h
  split at h
  ·rename_i kd n e
   exact a5c hT ho (by rw [e]; exact h) hr hK
  ·exact a3C hT ho h hr hK
 | slice t x lo hi mx =>
  rw [ho] at h
  simp only [bC] at h
  split at h
  ·rename_i id e1
   exact a2G hT ho e1 h hr hK
  ·exact a3B hT ho h hr hK
 | extract x i => rw [ho] at h; exact a1l ho h hr hK
 | nilCheck x =>
  rw [ho] at h
  simp only [bC] at h
  unfold nA at h
  have hx := aY hr.sl x
  split at h
  ·rename_i id off e
   rw [e] at hx
   have hx0 := hx
   obtain ⟨gh, b, hg, hb, hp⟩ := hx
   exact aC (w' := w) (y := .pointer (some ⟨b, off, none⟩)) (by simp [execOp, ho, hp]) (hK g V st w _ _ hr (by rw [hp] at hx0; exact hx0) h)
  ·exact h.elim
 | build t parts => rw [ho] at h; exact a3A hT ho h hr hK
 | buildSlice t len parts => rw [ho] at h; exact vS hT ho h hr hK
 | makeSlice t l c => rw [ho] at h; exact a4R hT ho h hr hK
 | makeFunc fn first caps =>
  rw [ho] at h
  simp only [bC] at h
  split at h
  ·rename_i f
   exact zU ho h.1 h.2 hr hK
  ·exact h.elim
 | call c =>
  rw [ho] at h
  cases hc : c.callee with
  | value f => exact a5d ho hc h hr hK
  | invoke r m => simp [bC, eP, hc] at h
  | builtin b =>
   cases b with
   | len =>
    simp only [bC, eP, hc] at h
    split at h
    ·rename_i x t e1 e2
     exact a6j hT ho hc e1 e2 h hr hK
    ·exact h.elim
   | append =>
    simp only [bC, eP, hc] at h
    split at h
    ·rename_i s x t t' e1 e2
     obtain ⟨rfl, h⟩ := h
     exact a2F hT ho hc e1 e2 h hr hK
    ·exact h.elim
   | max =>
    simp only [bC, eP, hc] at h
    split at h
    ·rename_i x y e1
     exact a6i ho hc e1 h hr hK
    ·exact h.elim
   | _ => simp [bC, eP, hc] at h
 | _ => rw [ho] at h; exact h.elim
end
end Go.Sx
end
end
