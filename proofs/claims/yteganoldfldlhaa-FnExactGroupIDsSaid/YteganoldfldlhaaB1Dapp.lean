/-
  make and append are as 'vcOp' says.
-/
import Derived.Test.YteganoldfldlhaaB1Cown
set_option linter.all false
namespace Go.Sx
open Go Go.RowKit

section
variable {E : Env} {o : Oper} {st : St} {k : St → SV → Prop} {g : List Gh} {V : View} {a : Act} {w : World} {K : Act → World → Prop} {Q : Exit → Act → World → Prop}

theorem absL_nil_ids : ∀ {cs : List At} {ds : List D} {lin : Bool}, absL [] cs = some (ds, lin) → idsL cs = []
  | [], _, _, _ => rfl
  | c :: cs, ds, lin, h => by
    simp only [absL, Option.bind_eq_some_iff, Option.map_eq_some_iff] at h
    obtain ⟨x, h1, ⟨y1, y2⟩, h2, _⟩ := h
    have := absL_nil_ids h2
    cases c <;> simp_all [idsL, absA, nthH]

theorem madeCells_eq (z : Array Value) (n : Nat) : (madeCells z (n * z.size)).toList = (List.replicate n z.toList).flatten := by
  apply List.ext_getElem?
  intro j
  have hfl : (List.replicate n z.toList).flatten.length = n * z.size := by
    rw [flatten_len (sz := z.size) (fun r hr => by rw [(List.mem_replicate.1 hr).2]; simp)]
    simp
  rcases Nat.lt_or_ge j (n * z.size) with hj | hj
  · have hz : 0 < z.size := by
      rcases Nat.eq_zero_or_pos z.size with h | h
      · rw [h] at hj; simp at hj
      · exact h
    have hq : j / z.size < n := (Nat.div_lt_iff_lt_mul hz).2 hj
    have hr := Nat.mod_lt j hz
    have h1 : z.toList[j % z.size]? = some (z[j % z.size]'hr) := by simp [hr]
    have h2 := flatten_row (rows := List.replicate n z.toList) (sz := z.size) (fun r hr => by rw [(List.mem_replicate.1 hr).2]; simp) (n := j / z.size) (by simpa using hq) (j := j % z.size) (d := z[j % z.size]'hr) (by simpa using h1)
    rw [Nat.div_add_mod' j z.size] at h2
    rw [h2]
    simp [madeCells, hj, hr]
  · rw [List.getElem?_eq_none (by simp [madeCells]; omega), List.getElem?_eq_none (by omega)]

theorem layL_rep {V : View} {ds : List D} {ys : List Value} {Ss : List (List Nat)} (h : LayL V ds ys Ss) : ∀ n, LayL V (List.replicate n ds).flatten (List.replicate n ys).flatten (List.replicate n Ss).flatten
  | 0 => LayL.nil V
  | n + 1 => by simp only [List.replicate_succ, List.flatten_cons]; exact h.append (layL_rep h n)

theorem make_ok (hT : TyOK E.P E.T) {t : Nat} {l c : Operand} (ho : o.op = .makeSlice t l c) (h : vcMake E t (ev st l) (ev st c) st k) (hr : Rel E.C g V st a w) (hK : Next' E o a k K) : o.wp E.P a w K Q := by
  have hl := ev_ok hr.sl l
  have hc := ev_ok hr.sl c
  obtain ⟨h1, h2, h⟩ := h
  obtain ⟨i, z, u, hgood⟩ := hT.good (t := t) (by rw [h1]; decide)
  obtain ⟨i', z', u', hge⟩ := hT.good h2
  split at h
  · rename_i n m e1 e2
    rw [e1] at hl
    rw [e2] at hc
    obtain ⟨rfl, n0, nmax, nb, h⟩ := h
    obtain ⟨hl, _⟩ := cSV_scalar hl
    obtain ⟨hc, _⟩ := cSV_scalar hc
    split at h
    · rename_i zr lz habs
      obtain ⟨rfl, hk⟩ := h
      have hzc := zeroAre_c hge.zc ([] : List Gh) V
      have hp0 : Hp E.C [] V [] w := ⟨rfl, fun i b x h => by simp at h, fun i b x h => by simp at h, fun i j b b' x x' _ h => by simp at h, fun i b x h => by simp at h, fun i b x h => by simp at h⟩
      obtain ⟨Sz, s1, s2⟩ := absL_ok hp0 habs hzc
      have hid := absL_nil_ids habs
      obtain ⟨_, s4⟩ := s2 rfl (by rw [hid]; rfl)
      have hSz : ∀ b, b ∉ Sz.flatten := fun b hb => by
        obtain ⟨id, hid', _⟩ := s4 b hb
        rw [hid] at hid'; simp at hid'
      have hzs : z'.cells.size = (E.T (E.T t).elem).size := by have := hzc.1; simp at this; rw [this]; exact hge.zlen
      have hzr : zr.length = (E.T (E.T t).elem).size := by have := s1.1; simp at this; omega
      have hu : E.P.underlying t = some (.slice (E.T t).elem) := by rw [hgood.und, hgood.slice h1]
      have hbytes : (i'.bytes : Int) * n ≤ 281474976710656 := by
        rw [hge.bytes]
        have h3 : ((E.T (E.T t).elem).bytes : Int) * n = ((n.toNat * (E.T (E.T t).elem).bytes : Nat) : Int) := by rw [Int.natCast_mul, Int.toNat_of_nonneg n0, Int.mul_comm]
        rw [h3]
        omega
      have hrun := run_make (P := E.P) w t (E.T t).elem i' z' hu hge.info hge.zero .i64 .i64 n n n0 (Int.le_refl _) hbytes (by simp only [maxLen] at nmax; omega)
      rw [hge.size] at hrun
      have hmc : (madeCells z'.cells (n.toNat * (E.T (E.T t).elem).size)).toList = (List.replicate n.toNat z'.cells.toList).flatten := by rw [← hzs]; exact madeCells_eq _ _
      obtain ⟨g2, hr2, hg2, hs2⟩ := hr.newRow (ids := []) (ty := (E.T t).elem) (sz := (E.T (E.T t).elem).size) (cap := n.toNat) (rows := List.replicate n.toNat zr) (lin := true) (cur := madeCells z'.cells (n.toNat * (E.T (E.T t).elem).size))
        (fun r hr => by rw [(List.mem_replicate.1 hr).2]; exact hzr) (layL_rep s1 n.toNat)
        (fun _ => by
          have he : ((List.replicate n.toNat Sz).flatten).flatten = [] := by
            apply List.eq_nil_iff_forall_not_mem.2
            intro b hb
            obtain ⟨S, hS, hbS⟩ := List.mem_flatten.1 hb
            obtain ⟨T, hT, hST⟩ := List.mem_flatten.1 hS
            rw [(List.mem_replicate.1 hT).2] at hST
            exact hSz b (List.mem_flatten.2 ⟨S, hST, hbS⟩)
          rw [he]
          exact ⟨by simp, fun b hb => by simp at hb⟩) (by simp) nmax (by simp [madeCells]) (by rw [hmc]; exact List.prefix_refl _) ⟨rfl, rfl, rfl, rfl⟩
      refine wp_value (w' := _) (y := .slice (some ⟨w.heap.size, 0, none⟩) n.toNat n.toNat) ?_ (hK g2 V _ _ (.o (.s st.h.length)) _ hr2 (by simpa using hs2) (by simpa [goneH] using hk))
      simp only [execOp, ho, hl, hc]
      exact execOp_value _ _ _ _ _ hrun
    · exact h.elim
  · exact h.elim

theorem run_append_of_nil (P : Program) (w : World) (base : Nat) (t ty e : TypeId) (i : TypeInfo) (size : Nat) (ht : P.underlying t = some (.slice e)) (hi : P.info? e = some i)
    (v : Value) (n : Nat) (xs : List Value) (hown : w.ownsRow base e size v n xs) (c : Nat) : (Builtin.append_ #[t, t] ty #[v, .slice none 0 c]).run P w = .ok v w := by
  rcases hown.2 with ⟨rfl, rfl⟩ | ⟨g, cap, cur, rfl, _, _, hnc, _⟩
  · simp [Builtin.append_, run_underlying ht, sizeOf, typeInfo, hi, Builtin.lenOf, Builtin.firstCells]
  · simp [Builtin.append_, run_underlying ht, sizeOf, typeInfo, hi, Builtin.lenOf, Builtin.firstCells, hnc, storeCells]

/-- The source of an append: its cells, and whose what they lead to is. -/
theorem src_ok (hr : Rel E.C g V st a w) {x : Operand} {rows : List (List D)} {lin : Bool} {ids : List Nat} (h : srcR st (ev st x) = some (rows, lin, ids)) :
    ∃ g' V', Rel E.C g' V' ⟨st.t, frzH st.h ids⟩ a w ∧ GLe g g' ∧ V.le V' ∧ (frzH st.h ids).length = st.h.length ∧ (∀ (i : Nat), i ∉ ids → (frzH st.h ids)[i]? = st.h[i]?) ∧ ∃ (ys : List Value) (Ss : List (List Nat)), LayL V' rows.flatten ys Ss ∧
      (lin = true → Ss.flatten.Nodup ∧ ∀ b ∈ Ss.flatten, FromIds g' (frzH st.h ids) ids b) ∧
      ((a.eval x = .slice none 0 0 ∧ rows = []) ∨ ∃ ad cap, a.eval x = .slice (some ad) rows.length cap ∧ ∀ (j : Nat) (y : Value), ys[j]? = some y → w.cell? (ad.add j) = some y) := by
  have hx := ev_ok hr.sl x
  obtain ⟨g', V', h1, h2, h3, h4, h5⟩ := frzH_ok ids hr
  refine ⟨g', V', h1, h2, h3, h4, h5, ?_⟩
  have own : ∀ id, ev st x = .o (.s id) → ids = [id] → nthH (frzH st.h ids) id = .frz rows lin → ∃ (ys : List Value) (Ss : List (List Nat)), LayL V' rows.flatten ys Ss ∧
      (lin = true → Ss.flatten.Nodup ∧ ∀ b ∈ Ss.flatten, FromIds g' (frzH st.h ids) ids b) ∧
      ((a.eval x = .slice none 0 0 ∧ rows = []) ∨ ∃ ad cap, a.eval x = .slice (some ad) rows.length cap ∧ ∀ (j : Nat) (y : Value), ys[j]? = some y → w.cell? (ad.add j) = some y) := by
    intro id e1 e2 e3
    rw [e1] at hx
    have hx' := cAt.mono (a := .s id) hx h2 h3
    obtain ⟨gh, hg, hv, _⟩ := hx'
    have hi := nthH_some e3 (by simp)
    obtain ⟨_, S, q1, q2⟩ := h1.hp.hb id _ gh hi hg
    rcases lay_sl_inv q1 with ⟨hy, rfl⟩ | ⟨ad, cap, sz, ys, Ss, hy, _, _, _, hl, hc, hS⟩
    · exact ⟨[], [], LayL.nil _, fun _ => ⟨by simp, fun b hb => by simp at hb⟩, .inl ⟨by rw [hv, hy], rfl⟩⟩
    · refine ⟨ys, Ss, hl, fun hlin => ?_, .inr ⟨ad, cap, by rw [hv, hy], fun j y hj => h1.mod.cell (hc j y hj)⟩⟩
      subst hlin
      have hown : ownB gh (.frz rows true) = S := by simp [ownB, q2 rfl]
      have hnd := h1.hp.nd id _ gh hi hg
      rw [hown, hS] at hnd
      refine ⟨(List.nodup_append.1 hnd).2.1, fun b hb => ⟨id, by simp [e2], gh, rows, hi, hg, ?_⟩⟩
      rw [q2 rfl, hS]
      exact List.mem_append.2 (.inr hb)
  unfold srcR at h
  split at h
  · rename_i id e
    split at h
    · rename_i ty sz rows' lin' hrow
      simp only [Option.some.injEq, Prod.mk.injEq] at h
      obtain ⟨rfl, rfl, rfl⟩ := h
      refine own id e rfl ?_
      have hlt := (List.getElem?_eq_some_iff.1 (nthH_some hrow (by simp))).1
      simp [frzH, hrow, setH_eq, nthH_eq, hlt]
    · rename_i rows' lin' hrow
      simp only [Option.some.injEq, Prod.mk.injEq] at h
      obtain ⟨rfl, rfl, rfl⟩ := h
      refine own id e rfl ?_
      simp [frzH, hrow]
    · cases h
  · rename_i rows' e
    simp only [Option.some.injEq, Prod.mk.injEq] at h
    obtain ⟨rfl, rfl, rfl⟩ := h
    rw [e] at hx
    obtain ⟨S, q1⟩ := hx
    have q1 := q1.mono h3
    rcases lay_sl_inv q1 with ⟨hy, rfl⟩ | ⟨ad, cap, sz, ys, Ss, hy, _, _, _, hl, hc, hS⟩
    · exact ⟨[], [], LayL.nil _, fun _ => ⟨by simp, fun b hb => by simp at hb⟩, .inl ⟨hy, rfl⟩⟩
    · refine ⟨ys, Ss, hl, fun hlin => ?_, .inr ⟨ad, cap, hy, fun j y hj => h1.mod.cell (hc j y hj)⟩⟩
      have he : Ss.flatten = [] := by
        apply List.eq_nil_iff_forall_not_mem.2
        intro b hb
        obtain ⟨T, hT, hbT⟩ := List.mem_flatten.1 hb
        obtain ⟨j, hj, ej⟩ := List.mem_iff_getElem.1 hT
        have hjd : j < rows'.flatten.length := by rw [← hl.2.1]; exact hj
        have hjy : j < ys.length := by rw [hl.1]; exact hjd
        have hLay := hl.2.2 j _ _ T (List.getElem?_eq_getElem hjd) (List.getElem?_eq_getElem hjy) (by rw [List.getElem?_eq_getElem hj, ej])
        have hv : isV rows'.flatten[j] = true := by
          obtain ⟨r, hr', hm⟩ := List.mem_flatten.1 (List.getElem_mem hjd)
          exact List.all_eq_true.1 (List.all_eq_true.1 hlin r hr') _ hm
        cases hd : rows'.flatten[j] with
        | v q => rw [hd] at hLay; cases hLay; simp at hbT
        | sl q => rw [hd] at hv; simp [isV] at hv
      rw [he]
      exact ⟨by simp, fun b hb => by simp at hb⟩
  · rename_i e
    simp only [Option.some.injEq, Prod.mk.injEq] at h
    obtain ⟨rfl, rfl, rfl⟩ := h
    rw [e] at hx
    exact ⟨[], [], LayL.nil _, fun _ => ⟨by simp, fun b hb => by simp at hb⟩, .inl ⟨hx, rfl⟩⟩
  · cases h

/-! ### Forgetting one block's name -/

theorem cAt.kill {id : Nat} {x : At} {y : Value} (h : cAt g V x y) (x' : Gh) : cAt (g.set id x') V (killA id x) y := by
  have key : ∀ (j : Nat) (z : Gh), j ≠ id → g[j]? = some z → (g.set id x')[j]? = some z := fun j z hj hz => by rw [List.getElem?_set, if_neg (fun e => hj e.symm)]; exact hz
  cases x with
  | s j =>
    simp only [killA]
    split
    · trivial
    · rename_i e
      obtain ⟨gh, h1, h2, h3⟩ := h
      exact ⟨gh, key j gh e h1, h2, h3⟩
  | p j off =>
    simp only [killA]
    split
    · trivial
    · rename_i e
      obtain ⟨gh, b, h1, h2, h3⟩ := h
      exact ⟨gh, b, key j gh e h1, h2, h3⟩
  | r j sz i fo =>
    simp only [killA]
    split
    · trivial
    · rename_i e
      obtain ⟨gh, b, h1, h2, h3⟩ := h
      exact ⟨gh, b, key j gh e h1, h2, h3⟩
  | e j sz i fo =>
    simp only [killA]
    split
    · trivial
    · rename_i e
      obtain ⟨gh, b, n, c, h1, h2, h3⟩ := h
      exact ⟨gh, b, n, c, key j gh e h1, h2, h3⟩
  | n j sz i fo =>
    simp only [killA]
    split
    · trivial
    · rename_i e
      obtain ⟨gh, h1, h2, h3⟩ := h
      exact ⟨gh, key j gh e h1, h2, h3⟩
  | _ => exact h
theorem cL.kill {id : Nat} {cs : List At} {l : List Value} (h : cL g V cs l) (x' : Gh) : cL (g.set id x') V (cs.map (killA id)) l :=
  ⟨by simp [h.1], fun k c y h1 h2 => by
    rw [List.getElem?_map] at h1
    cases hk : cs[k]? with
    | none => rw [hk] at h1; cases h1
    | some c0 => rw [hk] at h1; cases h1; exact (h.2 k c0 y hk h2).kill x'⟩
theorem cSV.kill {id : Nat} {s : SV} {y : Value} (h : cSV g V s y) (x' : Gh) : cSV (g.set id x') V (killS id s) y := by
  cases s with
  | o c => exact cAt.kill h x'
  | g cs => obtain ⟨l, h1, h2⟩ := h; exact ⟨l, h1, h2.kill x'⟩
  | t l =>
    obtain ⟨ys, h1, h2, h3⟩ := h
    refine ⟨ys, h1, by simp [h2], fun j b cs v hj hv => ?_⟩
    rw [List.getElem?_map] at hj
    cases hl : l[j]? with
    | none => rw [hl] at hj; cases hj
    | some p =>
      obtain ⟨b0, c0⟩ := p
      rw [hl] at hj
      simp only [Option.map_some, Option.some.injEq, Prod.mk.injEq] at hj
      obtain ⟨rfl, rfl⟩ := hj
      have := h3 j b0 c0 v hl hv
      cases b0
      · simp only [Bool.false_eq_true, if_false] at this ⊢; exact this.kill x'
      · simp only [if_true] at this ⊢; obtain ⟨m, e, hm⟩ := this; exact ⟨m, e, hm.kill x'⟩

theorem killB_own {id : Nat} {x : Gh} {b : HB} : ownB x (killB id b) = ownB x b ∧ rootB x (killB id b) = rootB x b := by cases b <;> exact ⟨rfl, rfl⟩

/-- One block of the function's own gets another ghost (it was named nowhere else, or is not any more): the world may turn at its old root, and grow. -/
theorem Rel.renew (hr : Rel E.C g V st a w) (id : Nat) {b b' : HB} {x x' : Gh} (h1 : st.h[id]? = some b) (h2 : g[id]? = some x) {w' : World}
    (hb : HBok (g.set id x') V w' x' b') (hnd : (ownB x' b').Nodup)
    (hfree : ∀ n ∈ ownB x' b', (n ∈ ownB x b ∨ w.heap.size ≤ n ∨ ∀ (i : Nat) (c : HB) (y : Gh), st.h[i]? = some c → g[i]? = some y → n ∉ ownB y c) ∧ (E.C.w0.heap.size ≤ n ∨ n ∈ E.C.X) ∧ n < w'.heap.size)
    (hroot : ∀ n ∈ rootB x' b', V n = none) (hg : w.grownBy w' x.blk) (hbl : ∀ n, x.blk = some n → n ∈ rootB x b) :
    Rel E.C (g.set id x') V ⟨st.t.map (killS id), (st.h.map (killB id)).set id b'⟩ a w' := by
  have key : ∀ (i : Nat) (c : HB) (y : Gh), ((st.h.map (killB id)).set id b')[i]? = some c → (g.set id x')[i]? = some y → (i ≠ id ∧ ∃ c0, st.h[i]? = some c0 ∧ c = killB id c0 ∧ g[i]? = some y) ∨ (i = id ∧ c = b' ∧ y = x') := by
    intro i c y e1 e2
    rw [List.getElem?_set] at e1 e2
    by_cases e : id = i
    · subst e
      simp only [if_true] at e1 e2
      split at e1
      · split at e2
        · cases e1; cases e2; exact .inr ⟨rfl, rfl, rfl⟩
        · cases e2
      · cases e1
    · rw [if_neg e] at e1 e2
      rw [List.getElem?_map] at e1
      cases hc : st.h[i]? with
      | none => rw [hc] at e1; cases e1
      | some c0 => rw [hc] at e1; cases e1; exact .inl ⟨fun h => e h.symm, c0, rfl, rfl, e2⟩
  have hw : ∀ (i : Nat) (c : HB) (y : Gh), i ≠ id → st.h[i]? = some c → g[i]? = some y → ∀ n ∈ rootB y c, w'.heap[n]? = w.heap[n]? := fun i c y hi e1 e2 n hn =>
    hg.block n (hr.hp.lo i c y e1 e2 n (rootB_own hn)).2 fun e => hr.hp.dj i id c b y x hi e1 e2 h1 h2 n (rootB_own hn) (rootB_own (hbl n e.symm))
  refine ⟨⟨by simp [hr.sl.size], fun i s y e1 e2 => ?_, hr.sl.defers⟩, ⟨by simp [hr.hp.glen], ?_, ?_, ?_, ?_, ?_⟩, ?_, ?_, hr.vw.move fun n cs hn => hg.block n (hr.mod.lt hn) fun e => by
      have := hr.hp.rt id b x h1 h2 n (hbl n e.symm)
      rw [hn] at this; cases this⟩
  · rw [List.getElem?_map] at e1
    cases hs : st.t[i]? with
    | none => rw [hs] at e1; cases e1
    | some s0 => rw [hs] at e1; cases e1; exact (hr.sl.slot i s0 y hs e2).kill x'
  · intro i c y e1 e2
    rcases key i c y e1 e2 with ⟨hi, c0, q1, rfl, q2⟩ | ⟨_, rfl, rfl⟩
    · have hok := hr.hp.hb i c0 y q1 q2
      cases c0 with
      | box ty cs =>
        obtain ⟨bk, l, f1, f2, f3⟩ := hok
        exact ⟨bk, l, f1, by rw [hw i _ y hi q1 q2 bk (by simp [rootB, f1])]; exact f2, f3.kill x'⟩
      | row ty sz rows lin => exact HBok.mono (g := g) (g' := g) (b := .row ty sz rows lin) hok (GLe.refl g) (View.le.refl V) (hw i _ y hi q1 q2)
      | frz rows lin => exact hok
      | gone => trivial
      | own tag sz rows => exact HBok.mono (g := g) (g' := g) (b := .own tag sz rows) hok (GLe.refl g) (View.le.refl V) (hw i _ y hi q1 q2)
    · exact hb
  · intro i c y e1 e2
    rcases key i c y e1 e2 with ⟨hi, c0, q1, rfl, q2⟩ | ⟨_, rfl, rfl⟩
    · rw [killB_own.1]; exact hr.hp.nd i c0 y q1 q2
    · exact hnd
  · intro i j c c' y y' hij e1 e2 e3 e4 n hn
    rcases key i c y e1 e2 with ⟨hi, c0, q1, rfl, q2⟩ | ⟨rfl, rfl, rfl⟩
    · rw [killB_own.1] at hn
      rcases key j c' y' e3 e4 with ⟨hj, c1, q3, rfl, q4⟩ | ⟨rfl, rfl, rfl⟩
      · rw [killB_own.1]; exact hr.hp.dj i j c0 c1 y y' hij q1 q2 q3 q4 n hn
      · intro hn'
        rcases (hfree n hn').1 with h | h | h
        · exact hr.hp.dj i j c0 b y x hi q1 q2 h1 h2 n hn h
        · have := (hr.hp.lo i c0 y q1 q2 n hn).2; omega
        · exact h i c0 y q1 q2 hn
    · rcases key j c' y' e3 e4 with ⟨hj, c1, q3, rfl, q4⟩ | ⟨rfl, _, _⟩
      · rw [killB_own.1]
        intro hn'
        rcases (hfree n hn).1 with h | h | h
        · exact hr.hp.dj j i c1 b y' x hj q3 q4 h1 h2 n hn' h
        · have := (hr.hp.lo j c1 y' q3 q4 n hn').2; omega
        · exact h j c1 y' q3 q4 hn'
      · exact (hij rfl).elim
  · intro i c y e1 e2 n hn
    rcases key i c y e1 e2 with ⟨hi, c0, q1, rfl, q2⟩ | ⟨_, rfl, rfl⟩
    · rw [killB_own.1] at hn
      exact ⟨(hr.hp.lo i c0 y q1 q2 n hn).1, Nat.lt_of_lt_of_le (hr.hp.lo i c0 y q1 q2 n hn).2 hg.size⟩
    · exact (hfree n hn).2
  · intro i c y e1 e2 n hn
    rcases key i c y e1 e2 with ⟨hi, c0, q1, rfl, q2⟩ | ⟨_, rfl, rfl⟩
    · rw [killB_own.2] at hn
      exact hr.hp.rt i c0 y q1 q2 n hn
    · exact hroot n hn
  · intro n cs hn
    obtain ⟨c, ty, fz, f1, f2⟩ := hr.mod n cs hn
    exact ⟨c, ty, fz, by rw [hg.block n (Array.getElem?_eq_some_iff.1 f1).1 fun e => by
      have := hr.hp.rt id b x h1 h2 n (hbl n e.symm)
      rw [hn] at this; cases this]; exact f1, f2⟩
  · exact ⟨hg.os.trans hr.fr.os, hg.tape.trans hr.fr.tape, hg.output.trans hr.fr.output, Nat.le_trans hr.fr.size hg.size, fun n hn hX => by
      rw [hg.block n (Nat.lt_of_lt_of_le hn hr.fr.size) fun e => by
        rcases (hr.hp.lo id b x h1 h2 n (rootB_own (hbl n e.symm))).1 with h | h
        · omega
        · exact hX h]
      exact hr.fr.block n hn hX⟩
end
end Go.Sx
