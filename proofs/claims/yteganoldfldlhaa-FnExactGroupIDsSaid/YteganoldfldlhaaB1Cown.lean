/-
  Operations that make or write rows of the function's own are as 'vcOp' says.
-/
import Derived.Test.YteganoldfldlhaaB1Brows
set_option linter.all false
namespace Go.Sx
open Go Go.RowKit

theorem absR_flat {h : List HB} : ∀ {css : List (List At)} {rows : List (List D)} {lin : Bool}, absR h css = some (rows, lin) → absL h css.flatten = some (rows.flatten, lin) ∧ rows.length = css.length ∧ ∀ (k : Nat) (cs : List At) (r : List D), css[k]? = some cs → rows[k]? = some r → r.length = cs.length
  | [], rows, lin, h => by
    simp only [absR, Option.some.injEq, Prod.mk.injEq] at h
    obtain ⟨rfl, rfl⟩ := h
    exact ⟨rfl, rfl, fun k cs r h => by simp at h⟩
  | cs :: css, rows, lin, hh => by
    simp only [absR, Option.bind_eq_some_iff, Option.map_eq_some_iff] at hh
    obtain ⟨⟨r, l1⟩, h1, ⟨rs, l2⟩, h2, h3⟩ := hh
    simp only [Prod.mk.injEq] at h3
    obtain ⟨rfl, rfl⟩ := h3
    obtain ⟨e1, e2, e3⟩ := absR_flat h2
    refine ⟨?_, by simp [e2], fun k c q hk hq => ?_⟩
    · rw [List.flatten_cons, List.flatten_cons]
      exact absL_app h1 e1
    · cases k with
      | zero => simp at hk hq; subst hk; subst hq; exact absL_len h1
      | succ k => exact e3 k c q (by simpa using hk) (by simpa using hq)
where
  absL_len : ∀ {cs : List At} {r : List D} {l : Bool}, absL h cs = some (r, l) → r.length = cs.length
    | [], r, l, hh => by simp only [absL, Option.some.injEq, Prod.mk.injEq] at hh; obtain ⟨rfl, rfl⟩ := hh; rfl
    | c :: cs, r, l, hh => by
      simp only [absL, Option.bind_eq_some_iff, Option.map_eq_some_iff] at hh
      obtain ⟨x, h1, ⟨y1, y2⟩, h2, h3⟩ := hh
      simp only [Prod.mk.injEq] at h3
      obtain ⟨rfl, rfl⟩ := h3
      simp [absL_len h2]
  absL_app : ∀ {cs ds : List At} {r q : List D} {l m : Bool}, absL h cs = some (r, l) → absL h ds = some (q, m) → absL h (cs ++ ds) = some (r ++ q, l && m)
    | [], ds, r, q, l, m, h1, h2 => by simp only [absL, Option.some.injEq, Prod.mk.injEq] at h1; obtain ⟨rfl, rfl⟩ := h1; simpa using h2
    | c :: cs, ds, r, q, l, m, h1, h2 => by
      simp only [absL, Option.bind_eq_some_iff, Option.map_eq_some_iff] at h1
      obtain ⟨x, e1, ⟨y1, y2⟩, e2, e3⟩ := h1
      simp only [Prod.mk.injEq] at e3
      obtain ⟨rfl, rfl⟩ := e3
      have := absL_app e2 h2
      simp [absL, e1, this, Bool.and_assoc]

section
variable {E : Env} {o : Oper} {st : St} {k : St → SV → Prop} {g : List Gh} {V : View} {a : Act} {w : World} {K : Act → World → Prop} {Q : Exit → Act → World → Prop}

theorem partsC_ok (hr : Sl g V st.t a) : ∀ {parts : List (Nat × Operand)} {n : Nat} {css : List (List At)}, partsC st n parts = some css →
    css.length = parts.length ∧ (∀ (j : Nat) (i : Nat) (x : Operand), parts[j]? = some (i, x) → i = n + j) ∧ ∀ (j : Nat) (cs : List At) (p : Nat × Operand), css[j]? = some cs → parts[j]? = some p → cL g V cs (a.eval p.2).cells.toList
  | [], n, css, h => by
    simp only [partsC, Option.some.injEq] at h
    subst h
    exact ⟨rfl, fun j i x h => by simp at h, fun j cs p h => by simp at h⟩
  | (i, x) :: r, n, css, h => by
    simp only [partsC] at h
    split at h
    · rename_i hc
      obtain ⟨rfl, hb⟩ := hc
      simp only [Option.map_eq_some_iff] at h
      obtain ⟨css', h1, rfl⟩ := h
      obtain ⟨e1, e2, e3⟩ := partsC_ok hr h1
      refine ⟨by simp [e1], fun j i' x' hj => ?_, fun j cs p h1 h2 => ?_⟩
      · cases j with
        | zero => simp at hj; omega
        | succ j => have := e2 j i' x' (by simpa using hj); omega
      · cases j with
        | zero => simp at h1 h2; subst h1; subst h2; exact cSV_cells (ev_ok hr x) hb
        | succ j => exact e3 j cs p (by simpa using h1) (by simpa using h2)
    · cases h

/-- Parts laid one behind the other. -/
theorem fill_parts (sz : Nat) : ∀ (vs : List Value) (n : Nat) (cells : Array Value), (∀ v ∈ vs, v.cells.size = sz) → (n + vs.length) * sz ≤ cells.size →
    ∃ out : Array Value, Instr.fill (fun i => some (i * sz, sz)) cells (vs.zipIdx n |>.map fun p => (p.2, p.1)) = some out ∧ out.toList = cells.toList.take (n * sz) ++ (vs.map fun v => v.cells.toList).flatten ++ cells.toList.drop ((n + vs.length) * sz)
  | [], n, cells, _, _ => ⟨cells, rfl, by simp⟩
  | v :: vs, n, cells, hs, hle => by
    have hv := hs v (List.mem_cons_self ..)
    have hle' : n * sz + sz ≤ cells.size := by
      have : (n + 1) * sz ≤ (n + (v :: vs).length) * sz := Nat.mul_le_mul_right _ (by simp)
      rw [Nat.add_mul, Nat.one_mul] at this
      omega
    let cells' := v.cells.zipIdx.foldl (fun cs (p : Value × Nat) => cs.setIfInBounds (n * sz + p.2) p.1) cells
    have hfold : cells'.toList = cells.toList.take (n * sz) ++ v.cells.toList ++ cells.toList.drop (n * sz + sz) := by
      show (v.cells.zipIdx.foldl _ cells).toList = _
      rw [← Array.foldl_toList, Array.toList_zipIdx]
      obtain ⟨f1, f2⟩ := fold_set (n * sz) v.cells.toList 0 cells
      apply List.ext_getElem?
      intro j
      rw [Array.getElem?_toList, f2]
      simp only [Nat.add_zero, Array.length_toList, hv]
      rw [List.getElem?_append, List.getElem?_append]
      simp only [List.length_append, List.length_take, Array.length_toList, hv]
      by_cases h1 : j < n * sz
      · rw [if_neg (by omega), if_pos (by omega), if_pos (by omega), List.getElem?_take, if_pos h1, Array.getElem?_toList]
      · by_cases h2 : j < n * sz + sz
        · rw [if_pos ⟨by omega, h2, by omega⟩, if_pos (by omega), if_neg (by omega)]
          congr 1; omega
        · rw [if_neg (by omega), if_neg (by omega), List.getElem?_drop, Array.getElem?_toList]
          congr 1; omega
    have hsz' : cells'.size = cells.size := by
      have := congrArg List.length hfold
      simp only [Array.length_toList, List.length_append, List.length_take, List.length_drop, hv] at this
      omega
    obtain ⟨out, o1, o2⟩ := fill_parts sz vs (n + 1) cells' (fun x hx => hs x (List.mem_cons_of_mem _ hx)) (by rw [hsz']; simp at hle ⊢; rw [Nat.add_assoc, Nat.add_comm 1]; exact hle)
    refine ⟨out, ?_, ?_⟩
    · simp only [List.zipIdx_cons, List.map_cons, Instr.fill]
      rw [if_neg (by simp [hv]; omega)]
      exact o1
    · rw [o2, hfold]
      have e1 : (n + 1) * sz = n * sz + sz := by rw [Nat.add_mul, Nat.one_mul]
      have e2 : (n + 1 + vs.length) = n + (v :: vs).length := by simp; omega
      rw [e2, e1]
      have h3 : (cells.toList.take (n * sz) ++ v.cells.toList).length = n * sz + sz := by simp [hv]; omega
      rw [List.take_append_of_le_length (by omega), List.take_of_length_le (by omega)]
      rw [List.drop_append, h3, List.drop_of_length_le (by
        have : (n + 1) * sz ≤ (n + (v :: vs).length) * sz := Nat.mul_le_mul_right _ (by simp)
        omega), List.nil_append, List.drop_drop]
      simp only [List.map_cons, List.flatten_cons, List.append_assoc]
      congr 4
      have : (n + 1) * sz ≤ (n + (v :: vs).length) * sz := Nat.mul_le_mul_right _ (by simp)
      omega

theorem zipIdx_map_idx (parts : List (Nat × Operand)) (f : Operand → Value) (n : Nat) (h : ∀ (j : Nat) (i : Nat) (x : Operand), parts[j]? = some (i, x) → i = n + j) :
    parts.map (fun p => (p.1, f p.2)) = ((parts.map fun p => f p.2).zipIdx n).map fun p => (p.2, p.1) := by
  apply List.ext_getElem?
  intro j
  simp only [List.getElem?_map, List.getElem?_zipIdx]
  cases hj : parts[j]? with
  | none => simp
  | some p =>
    obtain ⟨i, x⟩ := p
    have := h j i x hj
    simp [this]

theorem buildSlice_ok (hT : TyOK E.P E.T) {t len : Nat} {parts : Array (Nat × Operand)} (ho : o.op = .buildSlice t len parts) (h : vcBuildSlice E t len parts.toList st k) (hr : Rel E.C g V st a w) (hK : Next' E o a k K) : o.wp E.P a w K Q := by
  obtain ⟨h1, h2, hlen, hbig, h⟩ := h
  obtain ⟨i, z, u, hgood⟩ := hT.good (t := t) (by rw [h1]; decide)
  obtain ⟨i', z', u', hge⟩ := hT.good h2
  split at h
  · rename_i css hparts
    obtain ⟨hnd, h⟩ := h
    split at h
    · rename_i rows lin habs
      obtain ⟨huni, hk⟩ := h
      obtain ⟨g1, V1, hr1, hg1, hv1, hfl, _⟩ := frzH_ok (idsL css.flatten) hr
      obtain ⟨p1, p2, p3⟩ := partsC_ok hr1.sl (show partsC ⟨st.t, frzH st.h (idsL css.flatten)⟩ 0 parts.toList = some css by rw [← hparts]; exact partsC_h ..)
      obtain ⟨f1, f2, f3⟩ := absR_flat habs
      let vs := parts.toList.map fun p => a.eval p.2
      have hvs : (vs.map fun v => v.cells.toList).flatten.length = css.flatten.length ∧ cL g1 V1 css.flatten (vs.map fun v => v.cells.toList).flatten := by
        have : cL g1 V1 css.flatten (vs.map fun v => v.cells.toList).flatten := by
          refine flat_cL (by simp [vs, p1]) fun j cs l e1 e2 => ?_
          simp only [List.getElem?_map, vs] at e2
          cases hp : parts.toList[j]? with
          | none => rw [hp] at e2; cases e2
          | some p => rw [hp] at e2; cases e2; exact p3 j cs p e1 hp
        exact ⟨this.1, this⟩
      have hcsz : ∀ v ∈ vs, v.cells.size = (E.T (E.T t).elem).size := by
        intro v hv
        obtain ⟨j, hj, e⟩ := List.mem_iff_getElem.1 hv
        have hj' : j < parts.toList.length := by simpa [vs] using hj
        have hjc : j < css.length := by rw [p1]; exact hj'
        have hjr : j < rows.length := by rw [f2]; exact hjc
        have q := p3 j css[j] parts.toList[j] (List.getElem?_eq_getElem hjc) (List.getElem?_eq_getElem hj')
        have e' : v = a.eval (parts.toList[j]).2 := by rw [← e]; simp [vs]
        have q1 := q.1
        have q2 := f3 j css[j] rows[j] (List.getElem?_eq_getElem hjc) (List.getElem?_eq_getElem hjr)
        have q3 := huni rows[j] (List.getElem_mem hjr)
        rw [e']
        simp only [Array.length_toList] at q1
        omega
      let zero : Array Value := if len * (E.T (E.T t).elem).size = 0 then #[] else z'.cells
      let arr : Array Value := (Array.range (len * (E.T (E.T t).elem).size)).map (zero[· % zero.size]!)
      have harr : arr.size = len * (E.T (E.T t).elem).size := by simp [arr]
      obtain ⟨out, o1, o2⟩ := fill_parts (E.T (E.T t).elem).size vs 0 arr hcsz (by rw [harr, hlen]; simp [vs])
      have hout : out.toList = (vs.map fun v => v.cells.toList).flatten := by
        rw [o2]
        simp only [Nat.zero_mul, List.take_zero, List.nil_append]
        rw [List.drop_of_length_le (by simp [harr, hlen, vs]), List.append_nil]
      have hrun : (Instr.buildSlice t len (parts.map fun (i, x) => (i, a.eval x))).run E.P w = .ok (.slice (some ⟨w.heap.size, 0, none⟩) len len) (w.alloc (.cells out (E.T t).elem)) := by
        have hfill : Instr.fill (fun i => some (i * (E.T (E.T t).elem).size, (E.T (E.T t).elem).size)) arr ((parts.map fun (i, x) => (i, a.eval x)).toList) = some out := by
          rw [← o1]
          congr 1
          rw [Array.toList_map]
          exact zipIdx_map_idx parts.toList a.eval 0 p2
        simp only [Instr.buildSlice, Sem.run_bind, hgood.run_und w, Result.andThen_ok, hgood.slice h1, hge.run_size w]
        rw [if_neg (by omega)]
        by_cases h0 : len * (E.T (E.T t).elem).size = 0
        · have hz : zero = #[] := by simp [zero, h0]
          simp only [h0, if_true, Sem.run_pure, Result.andThen_ok]
          have ha : arr = (Array.range 0).map ((#[] : Array Value)[· % (#[] : Array Value).size]!) := by simp [arr, h0]
          rw [ha] at hfill
          simp only [hfill, newRow, Sem.run_bind, run_newObj, Result.andThen_ok, Sem.run_pure]
          rfl
        · have hz : zero = z'.cells := by simp [zero, h0]
          simp only [h0, if_false, Sem.run_bind, hge.run_zero w, Sem.run_pure, Result.andThen_ok]
          have ha : arr = (Array.range (len * (E.T (E.T t).elem).size)).map (z'.cells[· % z'.cells.size]!) := by simp only [arr, hz]
          rw [ha] at hfill
          simp only [hfill, newRow, Sem.run_bind, run_newObj, Result.andThen_ok, Sem.run_pure]
          rfl
      have hrl : rows.length = len := by rw [f2, p1, hlen]
      obtain ⟨Ss, s1, s2⟩ := absL_ok hr1.hp f1 hvs.2
      have hys : (vs.map fun v => v.cells.toList).flatten.length = len * (E.T (E.T t).elem).size := by
        rw [s1.1, flatten_len huni, hrl]
      obtain ⟨g2, hr2, hg2, hs2⟩ := hr1.newRow (ids := idsL css.flatten) (ty := (E.T t).elem) (cap := len) (cur := out) huni s1 (fun hl => s2 hl hnd) (by omega) (by simp only [maxLen]; have := hge.pos; have : len ≤ len * (E.T (E.T t).elem).size := Nat.le_mul_of_pos_right _ (by omega); omega)
        (by rw [← Array.length_toList, hout, hys]) (by rw [hout]; exact List.prefix_refl _) ⟨rfl, rfl, rfl, rfl⟩
      refine wp_value (w' := w.alloc (.cells out (E.T t).elem)) (y := .slice (some ⟨w.heap.size, 0, none⟩) len len) ?_ (hK g2 V1 _ _ (.o (.s st.h.length)) _ hr2 ?_ hk)
      · simp only [execOp, ho]
        exact execOp_value _ _ _ _ _ hrun
      · rw [hrl] at hs2
        simp only at hs2
        rw [hfl] at hs2
        exact hs2
    · exact h.elim
  · exact h.elim
where
  partsC_h (h : List HB) : ∀ (n : Nat) (parts : List (Nat × Operand)), partsC ⟨st.t, h⟩ n parts = partsC st n parts
    | _, [] => rfl
    | n, (i, x) :: r => by
      have : ev ⟨st.t, h⟩ x = ev st x := by cases x <;> rfl
      simp only [partsC, this, partsC_h h (n + 1) r]
  flat_cL {g : List Gh} {V : View} : ∀ {css : List (List At)} {ls : List (List Value)}, ls.length = css.length → (∀ (j : Nat) (cs : List At) (l : List Value), css[j]? = some cs → ls[j]? = some l → cL g V cs l) → cL g V css.flatten ls.flatten
    | [], [], _, _ => cL.nil g V
    | c :: css, l :: ls, h, hk => by
      rw [List.flatten_cons, List.flatten_cons]
      exact (hk 0 c l rfl rfl).append (flat_cL (by simpa using h) fun j cs l e1 e2 => hk (j + 1) cs l (by simpa using e1) (by simpa using e2))
    | [], _ :: _, h, _ => by simp at h
    | _ :: _, [], h, _ => by simp at h
end
end Go.Sx
