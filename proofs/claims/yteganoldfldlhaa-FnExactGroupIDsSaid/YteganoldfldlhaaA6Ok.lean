/-
  'vcOp' is true of the model.
-/
import Derived.Test.YteganoldfldlhaaA5Vc
set_option linter.all false
namespace Go.Sx
open Go Go.RowKit

theorem wp_value {P : Program} {o : Oper} {a : Act} {w w' : World} {K : Act → World → Prop} {Q : Exit → Act → World → Prop} {y : Value}
    (h : (execOp a.eval o).run P w = .ok (.value y) w') (k : K (a.put o.dst y) w') : o.wp P a w K Q := by
  unfold Oper.wp
  rw [h]
  exact k
theorem wp_skipped {P : Program} {o : Oper} {a : Act} {w w' : World} {K : Act → World → Prop} {Q : Exit → Act → World → Prop}
    (h : (execOp a.eval o).run P w = .ok .skip w') (k : K (a.put o.dst undef) w') : o.wp P a w K Q := by
  unfold Oper.wp
  rw [h]
  exact k

section
variable {C : Ctx} {g : List Gh} {V : View} {st : St} {a : Act} {w : World}

theorem Rel.later {V' : View} {w' : World} (h : Rel C g V st a w) (hv : V.le V') (hm : Mod V' w') (hb : Below w.heap.size w w') (hn : ∀ b cs, V' b = some cs → V b = none → w.heap.size ≤ b ∧ Unf w' b) : Rel C g V' st a w' := by
  refine ⟨h.sl.mono (GLe.refl g) hv, h.hp.later hv hb.size (fun i b x h1 h2 n hn' => hb.block n (h.hp.lo i b x h1 h2 n hn').2) (fun i b x h1 h2 n hn' => ?_), hm, ?fr, ?vw⟩
  case vw =>
    refine (h.vw.move (w' := w') fun b cs hb' => hb.block b (h.mod.lt hb')).grow hv fun b cs h1 h2 => ?_
    have := hn b cs h1 h2
    have := h.fr.size
    exact ⟨.inl (by omega), (hn b cs h1 h2).2⟩
  · cases hc : V' n with
    | none => rfl
    | some cs =>
      have h3 := (hn n cs hc (h.hp.rt i b x h1 h2 n hn')).1
      have h4 := (h.hp.lo i b x h1 h2 n (rootB_own hn')).2
      omega
  · exact ⟨hb.os.trans h.fr.os, hb.tape.trans h.fr.tape, hb.output.trans h.fr.output, Nat.le_trans h.fr.size hb.size, fun k hk hx => (hb.block k (Nat.lt_of_lt_of_le hk h.fr.size)).trans (h.fr.block k hk hx)⟩

theorem below_alloc (w : World) (o : Obj) : Below w.heap.size w (w.alloc o) := (Below.refl _ _).alloc (Nat.le_refl _) o
theorem Mod.alloc {V : View} {w : World} (h : Mod V w) (o : Obj) : Mod V (w.alloc o) := fun b cs hb => by
  obtain ⟨c, ty, fz, h1, h2⟩ := h b cs hb
  exact ⟨c, ty, fz, by rw [Below.heap_alloc _ _ _ (Array.getElem?_eq_some_iff.1 h1).1]; exact h1, h2⟩
theorem Mod.fresh {V : View} {w : World} (h : Mod V w) {n : Nat} (hn : w.heap.size ≤ n) : V n = none := by
  cases hc : V n with
  | none => rfl
  | some cs => have := h.lt hc; omega

/-- A new block. -/
theorem Rel.newBox (h : Rel C g V st a w) (ty : Nat) {cs : List At} {l : List Value} (hc : cL g V cs l) :
    ∃ g', Rel C g' V (st.push (.box ty cs)) a (w.alloc (.cells l.toArray ty)) ∧ cSV g' V (.o (.p st.h.length 0)) (.pointer (some ⟨w.heap.size, 0, none⟩)) := by
  let x : Gh := ⟨some w.heap.size, undef, [], []⟩
  have hl := h.later (View.le.refl V) (h.mod.alloc (.cells l.toArray ty)) (below_alloc w _) (fun b cs h1 h2 => by rw [h1] at h2; cases h2)
  have hlen : g.length = st.h.length := h.hp.glen
  refine ⟨g ++ [x], ⟨hl.sl.mono (GLe.push _ _) (View.le.refl V), hl.hp.push ?_ ?_ ?_ ?_ ?_, hl.mod, hl.fr, hl.vw⟩, ?_⟩
  · exact ⟨w.heap.size, l, rfl, heap_alloc_new w _, hc.mono (GLe.push _ _) (View.le.refl V)⟩
  · simp [ownB, x]
  · intro n hn
    simp [ownB, x] at hn
    subst hn
    exact ⟨.inl h.fr.size, by simp⟩
  · intro i b' x' h1 h2 n hn hm
    simp [ownB, x] at hm
    subst hm
    exact Nat.lt_irrefl _ (h.hp.lo i b' x' h1 h2 _ hn).2
  · intro n hn
    simp [rootB, x] at hn
    subst hn
    exact h.mod.fresh (Nat.le_refl _)
  · exact ⟨x, w.heap.size, by rw [List.getElem?_append_right (by omega)]; simp [hlen], rfl, rfl⟩

/-- A store into a box. -/
theorem Rel.storeBox (h : Rel C g V st a w) {id ty : Nat} {cs r : List At} (hb : st.h[id]? = some (.box ty cs)) {x : Gh} {b : Nat} (hx : g[id]? = some x) (hxb : x.blk = some b)
    {l : List Value} (hc : cL g V r l) : Rel C g V ⟨st.t, st.h.set id (.box ty r)⟩ a (w.setRow b l.toArray) := by
  have hbok := h.hp.hb id _ x hb hx
  obtain ⟨b', l0, e1, e2, e3⟩ := hbok
  rw [hxb] at e1
  cases e1
  have hroot : ∀ n, n ∈ rootB x (.box ty cs) ↔ n = b := fun n => by simp [rootB, hxb, eq_comm]
  have hold : ¬ (b < C.w0.heap.size ∧ b ∉ C.X) := by
    intro hh
    have := (h.hp.lo id _ x hb hx b (rootB_own ((hroot b).2 rfl))).1
    rcases this with h1 | h1
    · omega
    · exact hh.2 h1
  have hsz : (w.setRow b l.toArray).heap.size = w.heap.size := by simp [World.setRow]
  refine ⟨h.sl, h.hp.set id hb hx (fun n hn => hn) (show (ownB x (.box ty cs)).Nodup from h.hp.nd id _ x hb hx) (fun n hn => hn) ⟨b, l, hxb, setRow_heap w b l0.toArray l.toArray ty (0, 0) e2, hc⟩ (fun n hn => setRow_other w b n _ (fun e => hn ((hroot n).2 e))) hsz, ?_, ?_, h.vw.move fun k cs' hk => setRow_other w b k _ fun e => by
    have := h.hp.rt id _ x hb hx b ((hroot b).2 rfl)
    rw [← e, hk] at this
    cases this⟩
  · intro k cs' hk
    obtain ⟨c, ty', fz, h1, h2⟩ := h.mod k cs' hk
    have hne : k ≠ b := fun e => by
      have := h.hp.rt id _ x hb hx b ((hroot b).2 rfl)
      rw [← e, hk] at this
      cases this
    exact ⟨c, ty', fz, by rw [setRow_other w b k _ hne]; exact h1, h2⟩
  · exact ⟨h.fr.os, h.fr.tape, h.fr.output, by rw [hsz]; exact h.fr.size, fun k hk hX => by
      rw [setRow_other w b k _ (fun e => hold (e ▸ ⟨hk, hX⟩))]; exact h.fr.block k hk hX⟩

theorem Rel.ghost (h : Rel C g V st a w) {id : Nat} {b : HB} (hb : st.h[id]? = some b) : ∃ x, g[id]? = some x ∧ HBok g V w x b := by
  have hl : id < g.length := by rw [h.hp.glen]; exact (List.getElem?_eq_some_iff.1 hb).1
  exact ⟨_, List.getElem?_eq_getElem hl, h.hp.hb id b _ hb (List.getElem?_eq_getElem hl)⟩
end

theorem nthH_some {l : List HB} {id : Nat} {b : HB} (h : nthH l id = b) (hb : b ≠ .gone) : l[id]? = some b := by
  rw [nthH_eq, List.getD_eq_getElem?_getD] at h
  cases hl : l[id]? with
  | none => rw [hl] at h; exact (hb h.symm).elim
  | some y => rw [hl] at h; exact congrArg some h

theorem pack_ok {g : List Gh} {V : View} {agg : Bool} {r : List At} {ys : List Value} (h : cL g V r ys) (h1 : agg = false → r.length = 1) :
    cSV g V (pack agg r) (if agg then .agg ys.toArray else ys.headD undef) := by
  cases agg with
  | true => exact ⟨ys, rfl, h⟩
  | false =>
    match r, h1 rfl with
    | [a], _ =>
      obtain ⟨y, l', rfl, hy, hl⟩ := h.cons_inv
      exact hy

section
variable {P : Program} {t : Nat} {d : Ty} {i : TypeInfo} {z : Value} {u : TypeDesc}
theorem TyGood.agg_size (h : TyGood P t d i z u) (ha : d.agg = false) : d.size = 1 := h.size1 fun e => by simp [Ty.agg, e] at ha

theorem run_loadAt (h : TyGood P t d i z u) (w : World) (ad : Addr) (ys : List Value) (hl : ys.length = d.size) (hc : ∀ (j : Nat) (y : Value), ys[j]? = some y → w.cell? (ad.add j) = some y) :
    (Instr.loadAt t (.pointer (some ad))).run P w = .ok (if d.agg then .agg ys.toArray else ys.headD undef) w := by
  simp only [Instr.loadAt, Instr.sureAddr, loadVar, Sem.run_bind, Sem.run_pure, Result.andThen_ok, h.run_agg w]
  cases ha : d.agg with
  | true =>
    simp only [if_true, Sem.run_bind, h.run_size w, Result.andThen_ok, ← hl, run_loadCells_list w ad ys hc, Sem.run_pure]
  | false =>
    have h1 := h.agg_size ha
    match ys, hl.trans h1 with
    | [y], _ =>
      have := hc 0 y rfl
      simp only [Addr.add, if_true] at this
      simp [this]

theorem run_storeAt (h : TyGood P t d i z u) (w : World) (b o : Nat) (ty : Nat) (cur : List Value) (v : Value) (hg : w.heap[b]? = some (.cells cur.toArray ty (0, 0)))
    (hs : v.cells.size = d.size) (hfit : o + v.cells.size ≤ cur.length) (h1 : ∀ y ∈ v.cells.toList, y.oneCell' = true) :
    (Instr.storeAt t (.pointer (some ⟨b, o, none⟩)) v).run P w = .ok () (w.setRow b (cur.take o ++ v.cells.toList ++ cur.drop (o + v.cells.size)).toArray) := by
  have hst := run_storeCells_at P b o ty v.cells.toList 0 cur.toArray w hg (by simpa using hfit) h1
  simp only [Nat.add_zero] at hst
  simp only [Instr.storeAt, Instr.sureAddr, storeVar, Sem.run_bind, Sem.run_pure, Result.andThen_ok, h.run_size w, hs]
  simpa [hs] using hst
end

theorem splice_c {g : List Gh} {V : View} {cs ys r : List At} {l m : List Value} {o : Nat} (h : splice cs o ys = some r) (hl : cL g V cs l) (hm : cL g V ys m) :
    cL g V r (l.take o ++ m ++ l.drop (o + m.length)) := by
  obtain ⟨e, hle, hk⟩ := splice_some h
  have e1 := hl.1
  have e2 := hm.1
  refine ⟨?_, fun k a y h1 h2 => ?_⟩
  · simp only [List.length_append, List.length_take, List.length_drop]
    omega
  · rw [hk] at h1
    rw [List.getElem?_append, List.getElem?_append] at h2
    simp only [List.length_append, List.length_take] at h2
    split at h1
    · rename_i hc
      rw [if_pos (by omega), if_neg (by omega), Nat.min_eq_left (by omega)] at h2
      exact hm.2 _ a y h1 h2
    · rename_i hc
      rcases Nat.lt_or_ge k o with hlt | hge
      · rw [if_pos (by omega), if_pos (by omega), List.getElem?_take, if_pos hlt] at h2
        exact hl.2 _ a y h1 h2
      · rw [if_neg (by omega), List.getElem?_drop] at h2
        have : o + m.length + (k - (min o l.length + m.length)) = k := by omega
        rw [this] at h2
        exact hl.2 _ a y h1 h2

theorem cSV_cells {g : List Gh} {V : View} {s : SV} {y : Value} (h : cSV g V s y) (hb : boxable s = true) : cL g V s.cells y.cells.toList := by
  cases s with
  | o a =>
    have : y.oneCell' = true := cAt.oneCell h (by simpa [boxable] using hb)
    have hc : y.cells = #[y] := by cases y <;> first | rfl | simp [Value.oneCell'] at this
    rw [hc]
    exact cL.cons h (cL.nil g V)
  | g cs => obtain ⟨l, rfl, h⟩ := h; exact h
  | t l => simp [boxable] at hb
theorem noU_one {g : List Gh} {V : View} {cs : List At} {l : List Value} (h : cL g V cs l) (hu : noU cs = true) : ∀ y ∈ l, y.oneCell' = true := by
  intro y hy
  obtain ⟨k, hk, e⟩ := List.mem_iff_getElem.1 hy
  have hk' : k < cs.length := by rw [← h.1]; exact hk
  have hu' := List.all_eq_true.1 hu _ (List.getElem_mem hk')
  exact (h.2 k _ y (List.getElem?_eq_getElem hk') (by rw [List.getElem?_eq_getElem hk, e])).oneCell (by simpa using hu')

theorem sub_c {g : List Gh} {V : View} {cs r : List At} {l : List Value} {o n : Nat} (h : sub cs o n = some r) (hl : cL g V cs l) : cL g V r ((l.drop o).take n) ∧ r.length = n ∧ ((l.drop o).take n).length = n := by
  obtain ⟨e, hle⟩ := sub_some h
  subst e
  have h1 := (hl.drop o).take n
  have h2 : ((cs.drop o).take n).length = n := by simp; omega
  exact ⟨h1, h2, h1.1.trans h2⟩

theorem flatten_len {α : Type} {rows : List (List α)} {sz : Nat} (h : ∀ r ∈ rows, r.length = sz) : rows.flatten.length = rows.length * sz := by
  induction rows with
  | nil => simp
  | cons r rs ih =>
    simp only [List.flatten_cons, List.length_append, List.length_cons, Nat.add_mul, Nat.one_mul]
    rw [ih fun x hx => h x (List.mem_cons_of_mem _ hx), h r (List.mem_cons_self ..)]
    omega
theorem flatten_row {α : Type} {rows : List (List α)} {sz : Nat} (h : ∀ r ∈ rows, r.length = sz) {n : Nat} (hn : n < rows.length) {j : Nat} {d : α} (hd : (rows[n])[j]? = some d) : rows.flatten[n * sz + j]? = some d := by
  induction rows generalizing n with
  | nil => simp at hn
  | cons r rs ih =>
    have hr := h r (List.mem_cons_self ..)
    simp only [List.flatten_cons]
    cases n with
    | zero =>
      simp only [List.getElem_cons_zero] at hd
      rw [Nat.zero_mul, Nat.zero_add, List.getElem?_append_left (List.getElem?_eq_some_iff.1 hd).1]
      exact hd
    | succ n =>
      simp only [List.getElem_cons_succ] at hd
      rw [Nat.add_mul, Nat.one_mul, List.getElem?_append_right (by omega)]
      have : n * sz + sz + j - r.length = n * sz + j := by omega
      rw [this]
      exact ih (fun x hx => h x (List.mem_cons_of_mem _ hx)) (by simpa using hn) hd
end Go.Sx
