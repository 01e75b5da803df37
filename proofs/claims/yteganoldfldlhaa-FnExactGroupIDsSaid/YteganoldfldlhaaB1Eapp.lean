/-
  append, stores into rows, captured variables are as 'vcOp' says; and all of 'vcOp'.
-/
import Derived.Test.YteganoldfldlhaaB1Dapp
import Derived.ArgAppend
set_option linter.all false
namespace Go.Sx
open Go Go.RowKit

section
variable {E : Env} {o : Oper} {st : St} {k : St → SV → Prop} {g : List Gh} {V : View} {a : Act} {w : World} {K : Act → World → Prop} {Q : Exit → Act → World → Prop}

theorem Rel.gone (hr : Rel E.C g V st a w) (ids : List Nat) : Rel E.C g V ⟨st.t, goneH st.h ids⟩ a w := ⟨hr.sl, goneH_ok ids hr.hp, hr.mod, hr.fr, hr.vw⟩

theorem append_ok (hT : TyOK E.P E.T) {c : Call} {s x : Operand} {t : Nat} (ho : o.op = .call c) (hc : c.callee = .builtin .append) (hx' : c.args.toList = [s, x]) (ht' : c.argTypes.toList = [t, t]) (h : vcAppend E t (ev st s) (ev st x) st k)
    (hr : Rel E.C g V st a w) (hK : Next' E o a k K) : o.wp E.P a w K Q := by
  have hs := ev_ok hr.sl s
  have hargs : c.args = #[s, x] := by rw [← Array.toArray_toList (xs := c.args), hx']
  have htys : c.argTypes = #[t, t] := by rw [← Array.toArray_toList (xs := c.argTypes), ht']
  have hrun : ∀ y w', (Builtin.append_ #[t, t] o.type #[a.eval s, a.eval x]).run E.P w = .ok y w' → (execOp a.eval o).run E.P w = .ok (.value y) w' := by
    intro y w' hy
    simp [execOp, ho, resolve, hc, hargs, htys, invoke, builtin, hy]
  obtain ⟨h1, h2, h⟩ := h
  obtain ⟨i, z, u, hgood⟩ := hT.good (t := t) (by rw [h1]; decide)
  obtain ⟨i', z', u', hge⟩ := hT.good h2
  have hu : E.P.underlying t = some (.slice (E.T t).elem) := by rw [hgood.und, hgood.slice h1]
  have hzs : z'.cells.size = (E.T (E.T t).elem).size := by have := (zeroAre_c hge.zc ([] : List Gh) V).1; simp at this; rw [this]; exact hge.zlen
  have hpos : 0 < (E.T (E.T t).elem).size := Nat.pos_of_ne_zero hge.pos
  split at h
  · rename_i rows2 lin2 ids hsrc
    obtain ⟨huni2, h⟩ := h
    obtain ⟨g1, V1, hr1, hg1, hv1, hfl, hfo, ys2, Ss2, hl2, hlin2, hsrcv⟩ := src_ok hr hsrc
    have hlen2 : ys2.length = rows2.length * (E.T (E.T t).elem).size := by rw [hl2.1, flatten_len huni2]
    -- the append's run, over an owned row
    have runs : ∀ (base n : Nat) (v : Value) (xs : List Value), w.ownsRow base (E.T t).elem (E.T (E.T t).elem).size v n xs → n + rows2.length ≤ maxLen → (n + rows2.length) * (E.T (E.T t).elem).bytes ≤ 140737488355328 → base ≤ w.heap.size → a.eval s = v →
        ∃ v' w', (Builtin.append_ #[t, t] o.type #[a.eval s, a.eval x]).run E.P w = .ok v' w' ∧ w'.ownsRow base (E.T t).elem (E.T (E.T t).elem).size v' (n + rows2.length) (xs ++ ys2) ∧ w.grownBy w' v.ownBlock ∧ (v'.ownBlock = v.ownBlock ∨ v'.ownBlock = some w.heap.size) := by
      intro base n v xs hown hmax hby hbase hev
      rcases hsrcv with ⟨hxv, rfl⟩ | ⟨ad, cap, hxv, hcells⟩
      · have : ys2 = [] := List.eq_nil_of_length_eq_zero (by simpa using hlen2)
        subst this
        exact ⟨v, w, by rw [hev, hxv]; exact run_append_of_nil E.P w base t _ _ i' _ hu hge.info v n xs hown 0, by simpa using hown, World.grownBy.refl w _, .inl rfl⟩
      · obtain ⟨v', w', r1, r2, r3, _, r5⟩ := run_append_own_at (P := E.P) w base t o.type (E.T t).elem i' z' (E.T (E.T t).elem).size (E.T (E.T t).elem).bytes hu hge.info hge.zero hge.size hge.bytes hzs hpos v n xs hown ad rows2.length cap ys2 hlen2 hcells hl2.oneCell hmax hby hbase
        exact ⟨v', w', by rw [hev, hxv]; exact r1, r2, r3, r5⟩
    have hlens : (⟨st.t, frzH st.h ids⟩ : St).h.length = st.h.length := hfl
    split at h
    · rename_i id es
      split at h
      · rename_i ty sz rows lin hrow
        obtain ⟨rfl, rfl, hmem, hmax, hby, hk⟩ := h
        have hid : id ∉ ids := fun hm => by rw [(memN_iff id ids).2 hm] at hmem; cases hmem
        have hi0 := nthH_some hrow (by simp)
        have hi : (frzH st.h ids)[id]? = some (.row (E.T t).elem (E.T (E.T t).elem).size rows lin) := by rw [hfo id hid]; exact hi0
        have hs1 : cSV g1 V1 (.o (.s id)) (a.eval s) := by rw [es] at hs; exact cSV.mono hs hg1 hv1
        obtain ⟨gh, hgh, hsv, _⟩ := hs1
        obtain ⟨huni, ys, Ss, q1, q2, q3⟩ := hr1.hp.hb id _ gh hi hgh
        have hlen : ys.length = rows.length * (E.T (E.T t).elem).size := by rw [q1.1, flatten_len huni]
        obtain ⟨v', w', r1, hh⟩ : ∃ v' w', (Builtin.append_ #[t, t] o.type #[a.eval s, a.eval x]).run E.P w = .ok v' w' ∧ ((w'.ownsRow 0 (E.T t).elem (E.T (E.T t).elem).size v' (rows.length + rows2.length) (ys ++ ys2) ∧ w.grownBy w' gh.blk ∧ (v'.ownBlock = gh.blk ∨ ∀ n, v'.ownBlock = some n → w.heap.size ≤ n)) ∨ (rows = [] ∧ rows2 = [] ∧ v' = gh.val ∧ gh.blk = none ∧ w' = w ∧ ∃ ao, gh.val = .slice ao 0 0)) := by
          have owned : w.ownsRow 0 (E.T t).elem (E.T (E.T t).elem).size gh.val rows.length ys → gh.val.ownBlock = gh.blk → ∃ v' w', (Builtin.append_ #[t, t] o.type #[a.eval s, a.eval x]).run E.P w = .ok v' w' ∧ ((w'.ownsRow 0 (E.T t).elem (E.T (E.T t).elem).size v' (rows.length + rows2.length) (ys ++ ys2) ∧ w.grownBy w' gh.blk ∧ (v'.ownBlock = gh.blk ∨ ∀ n, v'.ownBlock = some n → w.heap.size ≤ n)) ∨ (rows = [] ∧ rows2 = [] ∧ v' = gh.val ∧ gh.blk = none ∧ w' = w ∧ ∃ ao, gh.val = .slice ao 0 0)) := fun hown hblk => by
            obtain ⟨v', w', r1, r2, r3, r4⟩ := runs 0 rows.length gh.val ys hown hmax hby (Nat.zero_le _) hsv
            rw [hblk] at r3 r4
            exact ⟨v', w', r1, .inl ⟨r2, r3, r4.imp (fun h => h) fun e n hn => by rw [e] at hn; cases hn; exact Nat.le_refl _⟩⟩
          rcases q3 with ⟨e1, ⟨ao, e2⟩, e3⟩ | ⟨b, cap, cc, e1, e2, e3, e4, e5, e6, e7⟩
          · cases ao with
            | none => exact owned ⟨hlen, .inl ⟨e2, by rw [e3]; rfl⟩⟩ (by rw [e2, e1]; rfl)
            | some ad =>
              have hys0 : ys = [] := List.eq_nil_of_length_eq_zero (by rw [hlen, e3]; simp)
              by_cases h20 : rows2 = []
              · have hys2 : ys2 = [] := List.eq_nil_of_length_eq_zero (by rw [hlen2, h20]; simp)
                refine ⟨gh.val, w, ?_, .inr ⟨e3, h20, rfl, e1, rfl, _, e2⟩⟩
                rw [hsv, e2]
                rcases hsrcv with ⟨hxv, _⟩ | ⟨ad2, cap2, hxv, _⟩
                · rw [hxv]; simp [Builtin.append_, run_underlying hu, sizeOf, typeInfo, hge.info, Builtin.lenOf, Builtin.firstCells, storeCells]
                · have hl0 := run_loadCells_list (P := E.P) w ad2 [] (fun j u h => by simp at h)
                  simp only [List.length_nil] at hl0
                  rw [hxv, h20]; simp [Builtin.append_, run_underlying hu, sizeOf, typeInfo, hge.info, Builtin.lenOf, Builtin.firstCells, storeCells, hl0]
              · rcases hsrcv with ⟨_, e⟩ | ⟨ad2, cap2, hxv, hcells⟩
                · exact (h20 e).elim
                · have hpos2 : 0 < rows2.length := List.length_pos_iff.2 h20
                  obtain ⟨v', w', r1, r2, r3⟩ := run_append_arg_grows (P := E.P) w t o.type (E.T t).elem i' z' (E.T (E.T t).elem).size (E.T (E.T t).elem).bytes hu hge.info hge.zero hge.size hge.bytes hzs hpos ad 0 0 [] (by simp) (fun j u h => by simp at h) ad2 rows2.length cap2 ys2 hlen2 hcells (by omega) (by omega) (by rw [e3] at hby; simpa using hby)
                  have hblk' : ∀ n, v'.ownBlock = some n → w.heap.size ≤ n := fun n hn => (r2.lt n hn).1
                  refine ⟨v', w', by rw [hsv, e2, hxv]; exact r1, .inl ⟨?_, by rw [e1]; exact r3, .inr hblk'⟩⟩
                  rw [e3, hys0]
                  exact ⟨by simpa using r2.1, r2.2.imp (fun h => by simpa using h) fun ⟨g, cap, cur, q1, _, q⟩ => ⟨g, cap, cur, by simpa using q1, Nat.zero_le _, by simpa using q⟩⟩
          · refine owned ⟨hlen, .inr ⟨b, cap, cc, e2, Nat.zero_le _, e5, e3, e4, e6, ?_⟩⟩ (by rw [e2, e1]; rfl)
            obtain ⟨tl, htl⟩ := e7
            rw [← htl, ← hlen]
            simp
        rcases hh with hh | hh
        rotate_left
        · obtain ⟨a1, a2, a3, a4, a5, ao, a6⟩ := hh
          rw [a5, a3] at r1
          subst a1; subst a2
          have hSs : Ss = [] := by have := q1.2.1; simpa using this
          have hr2 := hr1.gone ids
          have hi2 : (goneH (frzH st.h ids) ids)[id]? = some (.row (E.T t).elem (E.T (E.T t).elem).size [] lin) := by rw [(goneH_get ids (frzH st.h ids) id).2, if_neg (fun h => hid h.2)]; exact hi
          have hok : HBok (g1.set id gh) V1 w gh (.row (E.T t).elem (E.T (E.T t).elem).size ([] ++ []) (lin && lin2)) :=
            ⟨fun r h => by simp at h, [], [], LayL.nil _, fun h => by rw [Bool.and_eq_true] at h; rw [q2 h.1, hSs], .inl ⟨a4, ⟨ao, a6⟩, rfl⟩⟩
          have htr : (lin && lin2) = true → gh.tr = [] := fun h => by rw [Bool.and_eq_true] at h; rw [q2 h.1, hSs]; rfl
          have hown0 : ownB gh (.row (E.T t).elem (E.T (E.T t).elem).size ([] ++ []) (lin && lin2)) = [] := by
            simp only [ownB, a4]
            split
            · rename_i h; rw [htr h]; rfl
            · rfl
          have hfin := hr2.renew (b' := .row (E.T t).elem (E.T (E.T t).elem).size ([] ++ []) (lin && lin2)) (x' := gh) id hi2 hgh hok (by rw [hown0]; simp) (fun n hn => by rw [hown0] at hn; simp at hn) (fun n hn => by have := rootB_own hn; rw [hown0] at this; simp at this) (World.grownBy.refl w _) (fun n e => by rw [a4] at e; cases e)
          refine wp_value (w' := w) (y := gh.val) (hrun _ _ r1) (hK _ V1 _ w (.o (.s id)) gh.val hfin ?_ (by rw [setH_eq] at hk; exact hk))
          have hidl : id < g1.length := (List.getElem?_eq_some_iff.1 hgh).1
          exact ⟨gh, by rw [List.getElem?_set, if_pos rfl, if_pos hidl], rfl, by rw [a6]; rfl⟩
        obtain ⟨r2, r3, r4⟩ := hh
        -- drop the absorbed rows, then renew
        have hr2 := hr1.gone ids
        have hgo : ∀ (j : Nat), (goneH (frzH st.h ids) ids)[j]? = if j < (frzH st.h ids).length ∧ j ∈ ids then some .gone else (frzH st.h ids)[j]? := fun j => (goneH_get ids (frzH st.h ids) j).2
        have hi2 : (goneH (frzH st.h ids) ids)[id]? = some (.row (E.T t).elem (E.T (E.T t).elem).size rows lin) := by rw [hgo, if_neg (fun h => hid h.2)]; exact hi
        let x' : Gh := ⟨v'.ownBlock, v', Ss.flatten ++ Ss2.flatten, []⟩
        have hrootold : ∀ n, gh.blk = some n → n ∈ rootB gh (.row (E.T t).elem (E.T (E.T t).elem).size rows lin) := fun n e => by simp [rootB, e]
        have hsplit : (lin && lin2) = true → lin = true ∧ lin2 = true := fun e => by simpa using e
        have hnew : ∀ n, v'.ownBlock = some n → n ∈ rootB gh (.row (E.T t).elem (E.T (E.T t).elem).size rows lin) ∨ (w.heap.size ≤ n ∧ n < w'.heap.size) := fun n e => by
          rcases r4 with r4 | r4
          · left; exact hrootold n (by rw [← r4]; exact e)
          · right
            exact ⟨r4 n e, (r2.lt _ e).2⟩
        have hok : HBok (g1.set id x') V1 w' x' (.row (E.T t).elem (E.T (E.T t).elem).size (rows ++ rows2) (lin && lin2)) := by
          refine ⟨fun r hr' => by
            rcases List.mem_append.1 hr' with h | h
            · exact huni r h
            · exact huni2 r h, ys ++ ys2, Ss ++ Ss2, by rw [List.flatten_append]; exact q1.append hl2, fun _ => by rw [List.flatten_append], ?_⟩
          rcases r2.2 with ⟨e1, e2⟩ | ⟨b, cap, cc, e1, e2, e3, e4, e5, e6, e7⟩
          · left
            refine ⟨by show v'.ownBlock = none; rw [e1]; rfl, ⟨none, e1⟩, ?_⟩
            have h0 : rows.length = 0 ∧ rows2.length = 0 := by omega
            rw [List.eq_nil_of_length_eq_zero h0.1, List.eq_nil_of_length_eq_zero h0.2]; rfl
          · right
            refine ⟨b, cap, cc, by show v'.ownBlock = _; rw [e1]; rfl, by rw [List.length_append]; exact e1, by rw [List.length_append]; exact e4, e5, e3, e6, ?_⟩
            rw [← e7]
            exact List.take_prefix _ _
        have hndold : lin = true → (gh.blk.toList ++ Ss.flatten).Nodup := fun hl => by
          have := hr1.hp.nd id _ gh hi hgh
          simpa [ownB, hl, q2 hl] using this
        have hfin := hr2.renew (b' := .row (E.T t).elem (E.T (E.T t).elem).size (rows ++ rows2) (lin && lin2)) (x' := x') id hi2 hgh hok ?_ ?_ ?_ r3 (fun n e => by simp [rootB, e])
        · refine wp_value (w' := w') (y := v') (hrun _ _ r1) (hK _ V1 _ w' (.o (.s id)) v' hfin ?_ (by rw [setH_eq] at hk; exact hk))
          have hidl : id < g1.length := (List.getElem?_eq_some_iff.1 hgh).1
          refine ⟨x', by rw [List.getElem?_set, if_pos rfl, if_pos hidl], rfl, ?_⟩
          rcases r2.2 with ⟨e1, _⟩ | ⟨b, cap, cc, e1, _⟩ <;> rw [e1] <;> rfl
        · -- no block twice
          show (x'.blk.toList ++ (if (lin && lin2) = true then x'.tr else [])).Nodup
          by_cases hll : (lin && lin2) = true
          · obtain ⟨hl, hl'⟩ := hsplit hll
            rw [if_pos hll]
            have n1 := hndold hl
            obtain ⟨n2, n3⟩ := hlin2 hl'
            have hS : Ss.flatten.Nodup := (List.nodup_append.1 n1).2.1
            have hd : ∀ b ∈ Ss.flatten, b ∉ Ss2.flatten := fun b hb hb2 => by
              have hf := (n3 b hb2).free hr1.hp
              exact hf.2 id _ gh hi2 hgh (by simp [ownB, hl, q2 hl]; right; simpa using hb)
            refine List.nodup_append.2 ⟨by cases x'.blk <;> simp, List.nodup_append.2 ⟨hS, n2, fun b hb c hc e => hd b hb (e ▸ hc)⟩, fun b hb c hc => ?_⟩
            rintro rfl
            have hbk : v'.ownBlock = some b := by
              have : b ∈ v'.ownBlock.toList := hb
              simpa using this
            rcases hnew b hbk with hb' | ⟨hb', _⟩
            · rcases List.mem_append.1 hc with hc | hc
              · have hbg : b ∈ gh.blk.toList := hb'
                exact (List.nodup_append.1 n1).2.2 b hbg b hc rfl
              · exact ((n3 b hc).free hr1.hp).2 id _ gh hi2 hgh (rootB_own hb')
            · have hlt : b < w.heap.size := by
                rcases List.mem_append.1 hc with hc | hc
                · exact (hr1.hp.lo id _ gh hi hgh b (by simp [ownB, hl, q2 hl]; right; simpa using hc)).2
                · exact ((n3 b hc).free hr1.hp).1.2
              omega
          · rw [if_neg hll, List.append_nil]
            cases x'.blk <;> simp
        · intro n hn
          have hn : n ∈ x'.blk.toList ++ (if (lin && lin2) = true then x'.tr else []) := hn
          rcases List.mem_append.1 hn with hn | hn
          · have hbk : v'.ownBlock = some n := by
              have : n ∈ v'.ownBlock.toList := hn
              simpa using this
            rcases hnew n hbk with hb' | ⟨hb', hlt⟩
            · have hlo := hr1.hp.lo id _ gh hi hgh n (rootB_own hb')
              exact ⟨.inl (rootB_own hb'), hlo.1, Nat.lt_of_lt_of_le hlo.2 r3.size⟩
            · exact ⟨.inr (.inl (by omega)), .inl (by have := hr.fr.size; omega), hlt⟩
          · split at hn
            · rename_i hll
              obtain ⟨hl, hl'⟩ := hsplit hll
              rcases List.mem_append.1 hn with hn | hn
              · have hno : n ∈ ownB gh (.row (E.T t).elem (E.T (E.T t).elem).size rows lin) := by simp [ownB, hl, q2 hl]; right; simpa using hn
                have hlo := hr1.hp.lo id _ gh hi hgh n hno
                exact ⟨.inl hno, hlo.1, Nat.lt_of_lt_of_le hlo.2 r3.size⟩
              · have hf := ((hlin2 hl').2 n hn).free hr1.hp
                exact ⟨.inr (.inr hf.2), hf.1.1, Nat.lt_of_lt_of_le hf.1.2 r3.size⟩
            · simp at hn
        · intro n hn
          have hbk : v'.ownBlock = some n := by
            have : n ∈ v'.ownBlock.toList := hn
            simpa using this
          rcases hnew n hbk with hb' | ⟨hb', _⟩
          · exact hr1.hp.rt id _ gh hi hgh n hb'
          · exact hr1.mod.fresh (by omega)
      · exact h.elim
    · rename_i es
      obtain ⟨hmax, hby, hk⟩ := h
      have hs0 : a.eval s = .slice none 0 0 := by rw [es] at hs; exact hs
      obtain ⟨v', w', r1, r2, r3, r4⟩ := runs w.heap.size 0 (.slice none 0 0) [] (World.ownsRow_nil w _ _ _) (by omega) (by rw [Nat.zero_add]; exact hby) (Nat.le_refl _) hs0
      have hbel : Below w.heap.size w w' := ⟨r3.os, r3.tape, r3.output, r3.size, fun n hn => r3.block n hn (by simp [Value.ownBlock])⟩
      have hmod' : Mod V1 w' := fun n cs hn => by
        obtain ⟨c0, ty, fz, f1, f2⟩ := hr1.mod n cs hn
        exact ⟨c0, ty, fz, by rw [hbel.block n (Array.getElem?_eq_some_iff.1 f1).1]; exact f1, f2⟩
      have hr2 := hr1.later (View.le.refl V1) hmod' hbel (fun b cs q1 q2 => by rw [q1] at q2; cases q2)
      let x' : Gh := ⟨v'.ownBlock, v', Ss2.flatten, []⟩
      have hgl : (goneH (frzH st.h ids) ids).length = st.h.length := by rw [(goneH_get ids _ 0).1, hfl]
      have hglen : g1.length = st.h.length := by rw [hr1.hp.glen]; exact hfl
      simp only [Nat.zero_add, List.nil_append] at r2
      have hblk : ∀ n ∈ v'.ownBlock.toList, w.heap.size ≤ n ∧ n < w'.heap.size := fun n hn => by
        have : v'.ownBlock = some n := by simpa using hn
        exact r2.lt n this
      have hpush : Hp E.C (g1 ++ [x']) V1 (goneH (frzH st.h ids) ids ++ [.row (E.T t).elem (E.T (E.T t).elem).size rows2 lin2]) w' := by
        refine (goneH_ok ids hr2.hp).push ⟨huni2, ys2, Ss2, hl2, fun _ => rfl, ?_⟩ ?_ ?_ ?_ ?_
        · rcases r2.2 with ⟨e1, e2⟩ | ⟨b, cap, cc, e1, e2, e3, e4, e5, e6, e7⟩
          · left; exact ⟨by show v'.ownBlock = none; rw [e1]; rfl, ⟨none, e1⟩, List.eq_nil_of_length_eq_zero e2⟩
          · right; exact ⟨b, cap, cc, by show v'.ownBlock = _; rw [e1]; rfl, e1, e4, e5, e3, e6, by rw [← e7]; exact List.take_prefix _ _⟩
        · show (x'.blk.toList ++ (if lin2 = true then x'.tr else [])).Nodup
          by_cases hl : lin2 = true
          · rw [if_pos hl]
            obtain ⟨n2, n3⟩ := hlin2 hl
            refine List.nodup_append.2 ⟨by cases x'.blk <;> simp, n2, fun b hb c hc => ?_⟩
            rintro rfl
            have := (hblk b hb).1
            have := ((n3 b hc).free hr1.hp).1.2
            omega
          · rw [if_neg hl, List.append_nil]
            cases x'.blk <;> simp
        · intro n hn
          have hn : n ∈ x'.blk.toList ++ (if lin2 = true then x'.tr else []) := hn
          rcases List.mem_append.1 hn with hn | hn
          · have := hblk n hn
            exact ⟨.inl (Nat.le_trans hr.fr.size this.1), this.2⟩
          · split at hn
            · have := ((hlin2 ‹_›).2 n hn).free hr1.hp
              exact ⟨this.1.1, Nat.lt_of_lt_of_le this.1.2 r3.size⟩
            · simp at hn
        · intro j c0 y e1 e2 n hn hn'
          have hn' : n ∈ x'.blk.toList ++ (if lin2 = true then x'.tr else []) := hn'
          rcases List.mem_append.1 hn' with hn' | hn'
          · have := (hblk n hn').1
            have := ((goneH_ok ids hr1.hp).lo j c0 y e1 e2 n hn).2
            omega
          · split at hn'
            · exact (((hlin2 ‹_›).2 n hn').free hr1.hp).2 j c0 y e1 e2 hn
            · simp at hn'
        · intro n hn
          exact hr1.mod.fresh (hblk n hn).1
      refine wp_value (w' := w') (y := v') (hrun _ _ r1) (hK (g1 ++ [x']) V1 ⟨st.t, goneH (frzH st.h ids) ids ++ [.row (E.T t).elem (E.T (E.T t).elem).size rows2 lin2]⟩ w' (.o (.s st.h.length)) v' ⟨hr2.sl.mono (GLe.push _ _) (View.le.refl V1), hpush, hr2.mod, hr2.fr, hr2.vw⟩ ?_ hk)
      refine ⟨x', by rw [List.getElem?_append_right (by omega)]; simp [hglen], rfl, ?_⟩
      rcases r2.2 with ⟨e1, _⟩ | ⟨b, cap, cc, e1, _⟩ <;> rw [e1] <;> rfl
    · exact h.elim
  · exact h.elim

theorem cut3 {α : Type} (l : List α) (o n : Nat) : l = l.take o ++ ((l.drop o).take n ++ l.drop (o + n)) := by
  rw [← List.drop_drop, List.take_append_drop, List.take_append_drop]

theorem storeRow_ok (hT : TyOK E.P E.T) {t id sz i fo : Nat} {x v : Operand} (ho : o.op = .store t x v) (hx : ev st x = .o (.r id sz i fo)) (h : vcStoreRow E t id sz i fo (ev st v) st k) (hr : Rel E.C g V st a w) (hK : Next' E o a k K) : o.wp E.P a w K Q := by
  have hxv := ev_ok hr.sl x
  rw [hx] at hxv
  obtain ⟨ht, hbx, hlen, hnd, hmem, h⟩ := h
  obtain ⟨ti, z, u, hgood⟩ := hT.good ht
  split at h
  · rename_i ty sz' rows lin ds l2 hrow habs
    split at h
    · rename_i r hsp
      obtain ⟨rfl, hi, hk⟩ := h
      have hid : id ∉ idsL (ev st v).cells := fun hm => by rw [(memN_iff id _).2 hm] at hmem; cases hmem
      obtain ⟨g1, V1, hr1, hg1, hv1, hfl, hfo⟩ := frzH_ok (idsL (ev st v).cells) hr
      have hi1 : (frzH st.h (idsL (ev st v).cells))[id]? = some (.row ty sz' rows lin) := by rw [hfo id hid]; exact nthH_some hrow (by simp)
      have hxv := cSV.mono (s := .o (.r id sz' i fo)) hxv hg1 hv1
      obtain ⟨gh, b, hgh, hb, hp⟩ := hxv
      have hvc := (cSV_cells (ev_ok hr.sl v) hbx).mono hg1 hv1
      obtain ⟨Sn, s1, s2⟩ := absL_ok hr1.hp habs hvc
      obtain ⟨huni, ys, Ss, q1, q2, q3⟩ := hr1.hp.hb id _ gh hi1 hgh
      rcases q3 with ⟨e1, _⟩ | ⟨b', cap, cc, e1, e2, e3, e4, e5, e6, e7⟩
      · rw [hb] at e1; cases e1
      · rw [hb] at e1
        cases e1
        have hrw : rwAt rows i = rows[i] := by simp [rwAt, List.getD_eq_getElem?_getD, hi]
        have hrl : (rwAt rows i).length = sz' := by rw [hrw]; exact huni _ (List.getElem_mem hi)
        obtain ⟨sp1, sp2, sp3⟩ := splice_some hsp
        have hdl : ds.length = (a.eval v).cells.size := by have := s1.1; simp at this; omega
        have hvsz : (a.eval v).cells.size = (E.T t).size := by have := hvc.1; simp at this; omega
        have hysl : ys.length = rows.length * sz' := by rw [q1.1, flatten_len huni]
        have hic : (i + 1) * sz' ≤ rows.length * sz' := Nat.mul_le_mul_right _ hi
        rw [Nat.add_mul, Nat.one_mul] at hic
        have hcc : rows.length * sz' ≤ cap * sz' := Nat.mul_le_mul_right _ e3
        let off := i * sz' + fo
        have hfit : off + ds.length ≤ rows.length * sz' := by simp only [off]; omega
        let news := (a.eval v).cells.toList
        have hnl : news.length = ds.length := by simp [news, hdl]
        have hnone : ∀ y ∈ news, y.oneCell' = true := s1.oneCell
        let cur' : List Value := cc.toList.take off ++ news ++ cc.toList.drop (off + (a.eval v).cells.size)
        have hrun := run_storeAt hgood w b off ty cc.toList (a.eval v) (by simpa using e5) hvsz (by simp [e6]; omega) hnone
        have hrow' : (rows.set i r).flatten.length = rows.length * sz' := by
          rw [flatten_len (sz := sz') (fun q hq => by
            rcases List.mem_or_eq_of_mem_set hq with h | h
            · exact huni q h
            · rw [h, sp1, hrl])]
          simp
        -- the flattened rows behind the store
        have hget : ∀ (j : Nat) (d : D), (rows.set i r).flatten[j]? = some d → if off ≤ j ∧ j < off + ds.length then ds[j - off]? = some d else rows.flatten[j]? = some d := by
          intro j d hj
          have hjl : j < rows.length * sz' := by rw [← hrow']; exact (List.getElem?_eq_some_iff.1 hj).1
          have hpos : 0 < sz' := by
            rcases Nat.eq_zero_or_pos sz' with h | h
            · rw [h] at hjl; simp at hjl
            · exact h
          have hq : j / sz' < rows.length := (Nat.div_lt_iff_lt_mul hpos).2 hjl
          have hm := Nat.mod_lt j hpos
          have hdm : j / sz' * sz' + j % sz' = j := Nat.div_add_mod' j sz'
          have huni' : ∀ q ∈ rows.set i r, q.length = sz' := fun q hq => by
            rcases List.mem_or_eq_of_mem_set hq with h | h
            · exact huni q h
            · rw [h, sp1, hrl]
          have hq' : j / sz' < (rows.set i r).length := by simpa using hq
          have hlenq : ((rows.set i r)[j / sz']).length = sz' := huni' _ (List.getElem_mem hq')
          have hcell : ((rows.set i r)[j / sz'])[j % sz']? = some d := by
            have h1 : ((rows.set i r)[j / sz'])[j % sz']? = some (((rows.set i r)[j / sz'])[j % sz']'(by omega)) := List.getElem?_eq_getElem _
            have h2 := flatten_row huni' hq' h1
            rw [hdm, hj] at h2
            rw [h1, h2]
          by_cases hji : j / sz' = i
          · have hset : (rows.set i r)[j / sz'] = r := by simp [hji]
            rw [hset, sp3] at hcell
            have hoff : off = i * sz' + fo := rfl
            rw [hji] at hdm
            split at hcell
            · rename_i hc
              rw [if_pos (by omega)]
              rw [← hcell]
              congr 1; omega
            · rename_i hc
              rw [if_neg (by omega)]
              rw [hrw] at hcell
              have := flatten_row huni hi hcell
              rw [hdm] at this
              exact this
          · have hset : (rows.set i r)[j / sz'] = rows[j / sz'] := List.getElem_set_ne (fun e => hji e.symm) _
            rw [hset] at hcell
            have h2 := flatten_row huni hq hcell
            rw [hdm] at h2
            have hne : ¬ (off ≤ j ∧ j < off + ds.length) := by
              intro hc
              apply hji
              have hoff : off = i * sz' + fo := rfl
              have h3 : i * sz' ≤ j := by omega
              have h4 : j < (i + 1) * sz' := by rw [Nat.add_mul, Nat.one_mul]; omega
              have h5 : j / sz' < i + 1 := (Nat.div_lt_iff_lt_mul hpos).2 h4
              have h6 : i ≤ j / sz' := (Nat.le_div_iff_mul_le hpos).2 h3
              omega
            rw [if_neg hne]
            exact h2
        let ys' := ys.take off ++ news ++ ys.drop (off + ds.length)
        let Ss' := Ss.take off ++ Sn ++ Ss.drop (off + ds.length)
        have hSsl : Ss.length = rows.length * sz' := by rw [q1.2.1, flatten_len huni]
        have hSnl : Sn.length = ds.length := s1.2.1
        have mid : ∀ {α : Type} (A N : List α) (n j : Nat) (x : α), N.length = n → off + n ≤ A.length → (A.take off ++ N ++ A.drop (off + n))[j]? = some x → if off ≤ j ∧ j < off + n then N[j - off]? = some x else A[j]? = some x := by
          intro α A N n j x hN hA hj
          rw [List.getElem?_append, List.getElem?_append] at hj
          simp only [List.length_append, List.length_take, Nat.min_eq_left (show off ≤ A.length by omega), hN] at hj
          by_cases h1 : j < off
          · rw [if_pos (by omega), if_pos h1, List.getElem?_take, if_pos h1] at hj
            rw [if_neg (by omega)]; exact hj
          · by_cases h2 : j < off + n
            · rw [if_pos h2, if_neg h1] at hj
              rw [if_pos ⟨by omega, h2⟩]; exact hj
            · rw [if_neg h2, List.getElem?_drop] at hj
              rw [if_neg (by omega), ← hj]
              congr 1; omega
        have hLay : LayL V1 (rows.set i r).flatten ys' Ss' := by
          refine ⟨?_, ?_, fun j d y S f1 f2 f3 => ?_⟩
          · rw [hrow']; simp only [ys', List.length_append, List.length_take, List.length_drop, hnl]; omega
          · rw [hrow']; simp only [Ss', List.length_append, List.length_take, List.length_drop, hSnl]; omega
          · have m1 := hget j d f1
            have m2 := mid ys news ds.length j y hnl (by omega) f2
            have m3 := mid Ss Sn ds.length j S hSnl (by omega) f3
            split at m1
            · rw [if_pos ‹_›] at m2 m3; exact s1.2.2 _ d y S m1 m2 m3
            · rw [if_neg ‹_›] at m2 m3; exact q1.2.2 _ d y S m1 m2 m3
        have hpre : ys' <+: cur' := by
          obtain ⟨tl, htl⟩ := e7
          refine ⟨tl, ?_⟩
          simp only [ys', cur', ← htl, ← hdl]
          rw [List.take_append_of_le_length (by omega), List.drop_append_of_le_length (by omega)]
          simp
        have hr2 := hr1.gone (idsL (ev st v).cells)
        have hgo : (goneH (frzH st.h (idsL (ev st v).cells)) (idsL (ev st v).cells))[id]? = some (.row ty sz' rows lin) := by
          rw [(goneH_get _ _ id).2, if_neg (fun h => hid h.2)]; exact hi1
        let x' : Gh := { gh with tr := Ss'.flatten }
        have hcurl : cur'.length = cc.size := by simp only [cur', List.length_append, List.length_take, List.length_drop, Array.length_toList, hnl]; omega
        have hheap : (w.setRow b cur'.toArray).heap[b]? = some (.cells cur'.toArray ty (0, 0)) := setRow_heap w b cc cur'.toArray ty (0, 0) e5
        have hsz : (w.setRow b cur'.toArray).heap.size = w.heap.size := by simp [World.setRow]
        have hroot : ∀ n, n ∈ rootB gh (.row ty sz' rows lin) ↔ n = b := fun n => by simp [rootB, hb, eq_comm]
        have hold : ¬ (b < E.C.w0.heap.size ∧ b ∉ E.C.X) := by
          intro hh
          rcases (hr1.hp.lo id _ gh hi1 hgh b (rootB_own ((hroot b).2 rfl))).1 with h1 | h1
          · omega
          · exact hh.2 h1
        have htr : ∀ n ∈ Ss'.flatten, n ∈ Ss.flatten ∨ n ∈ Sn.flatten := fun n hn => by
          obtain ⟨S, hS, hnS⟩ := List.mem_flatten.1 hn
          rcases List.mem_append.1 hS with hS | hS
          · rcases List.mem_append.1 hS with hS | hS
            · exact .inl (List.mem_flatten.2 ⟨S, List.mem_of_mem_take hS, hnS⟩)
            · exact .inr (List.mem_flatten.2 ⟨S, hS, hnS⟩)
          · exact .inl (List.mem_flatten.2 ⟨S, List.mem_of_mem_drop hS, hnS⟩)
        have hsplit : (lin && l2) = true → lin = true ∧ l2 = true := fun e => by simpa using e
        have hownold : lin = true → ownB gh (.row ty sz' rows lin) = b :: Ss.flatten := fun hl => by simp [ownB, hb, hl, q2 hl]
        have hswap : Hp E.C (g1.set id x') V1 ((goneH (frzH st.h (idsL (ev st v).cells)) (idsL (ev st v).cells)).set id (.row ty sz' (rows.set i r) (lin && l2))) (w.setRow b cur'.toArray) := by
          refine hr2.hp.swapG (x' := x') id hgo hgh rfl rfl rfl ?_ ?_ ?_ ?_ ?_ (by rw [hsz]; exact Nat.le_refl _)
          · -- nobody's block twice
            intro n hn
            have hn : n ∈ x'.blk.toList ++ (if (lin && l2) = true then x'.tr else []) := hn
            rcases List.mem_append.1 hn with hn | hn
            · have : n = b := by have : n ∈ gh.blk.toList := hn; rw [hb] at this; simpa using this
              exact .inl (rootB_own ((hroot n).2 this))
            · split at hn
              · obtain ⟨hl, hl'⟩ := hsplit ‹_›
                rcases htr n hn with h | h
                · left; rw [hownold hl]; exact List.mem_cons_of_mem _ h
                · right
                  have hf := ((s2 hl' hnd).2 n h).free hr1.hp
                  exact ⟨hf.1, hf.2⟩
              · simp at hn
          · show (x'.blk.toList ++ (if (lin && l2) = true then x'.tr else [])).Nodup
            by_cases hll : (lin && l2) = true
            · rw [if_pos hll]
              obtain ⟨hl, hl'⟩ := hsplit hll
              have n1 := hr1.hp.nd id _ gh hi1 hgh
              rw [hownold hl] at n1
              have n2 := (List.nodup_cons.1 n1).2
              obtain ⟨n3, n4⟩ := s2 hl' hnd
              have hxb : x'.blk = some b := hb
              rw [hxb]
              simp only [Option.toList_some, List.singleton_append]
              have hdis : ∀ n ∈ Sn.flatten, n ∉ Ss.flatten ∧ n ≠ b := fun n hn => by
                have hf := ((n4 n hn).free hr1.hp).2 id _ gh hgo hgh
                rw [hownold hl] at hf
                exact ⟨fun h => hf (List.mem_cons_of_mem _ h), fun h => hf (by rw [h]; exact List.mem_cons_self ..)⟩
              refine List.nodup_cons.2 ⟨fun hbm => ?_, ?_⟩
              · rcases htr b hbm with h | h
                · exact (List.nodup_cons.1 n1).1 h
                · exact (hdis b h).2 rfl
              · show ((Ss.take off ++ Sn ++ Ss.drop (off + ds.length)).flatten).Nodup
                have hS3 : Ss.flatten = (Ss.take off).flatten ++ (((Ss.drop off).take ds.length).flatten ++ (Ss.drop (off + ds.length)).flatten) := by
                  rw [← List.flatten_append, ← List.flatten_append]
                  exact congrArg List.flatten (cut3 Ss off ds.length)
                rw [hS3] at n2
                rw [List.flatten_append, List.flatten_append]
                have a1 := (List.nodup_append.1 n2).1
                have a2 := (List.nodup_append.1 (List.nodup_append.1 n2).2.1).2.1
                have a3 := (List.nodup_append.1 n2).2.2
                refine List.nodup_append.2 ⟨List.nodup_append.2 ⟨a1, n3, fun p hp q hq e => ?_⟩, a2, fun p hp q hq e => ?_⟩
                · subst e
                  exact (hdis p hq).1 (by rw [hS3]; exact List.mem_append.2 (.inl hp))
                · subst e
                  rcases List.mem_append.1 hp with hp | hp
                  · exact a3 p hp p (List.mem_append.2 (.inr hq)) rfl
                  · exact (hdis p hp).1 (by rw [hS3]; exact List.mem_append.2 (.inr (List.mem_append.2 (.inr hq))))
            · rw [if_neg hll, List.append_nil]
              have hxb : x'.blk = some b := hb
              rw [hxb]; simp
          · intro n hn
            exact hr1.hp.rt id _ gh hi1 hgh n hn
          · refine ⟨fun q hq => by
              rcases List.mem_or_eq_of_mem_set hq with h | h
              · exact huni q h
              · rw [h, sp1, hrl], ys', Ss', hLay, fun _ => rfl, .inr ⟨b, cap, cur'.toArray, hb, by rw [List.length_set]; exact e2, by rw [List.length_set]; exact e3, e4, hheap, by simp [hcurl, e6], by simpa using hpre⟩⟩
          · intro n _ hn
            exact setRow_other w b n _ (fun e => hn ((hroot n).2 e))
        refine wp_skipped (w' := w.setRow b cur'.toArray) ?_ (hK (g1.set id x') V1 ⟨st.t, (goneH (frzH st.h (idsL (ev st v).cells)) (idsL (ev st v).cells)).set id (.row ty sz' (rows.set i r) (lin && l2))⟩ _ (.t []) undef ⟨hr2.sl.mono (GLe.set hgh rfl rfl rfl) (View.le.refl V1), hswap, ?_, ?_, hr2.vw.move fun n cs hn => setRow_other w b n _ fun e => by
          have := hr1.hp.rt id _ gh hi1 hgh b ((hroot b).2 rfl)
          rw [← e, hn] at this; cases this⟩ (undef_ok _ _) (by rw [setH_eq] at hk; exact hk))
        · simp only [execOp, ho, hp, Sem.run_bind]
          refine (congrArg (fun r => Result.andThen r _) hrun).trans ?_
          rfl
        · intro n cs hn
          obtain ⟨c0, ty', fz, f1, f2⟩ := hr1.mod n cs hn
          have hne : n ≠ b := fun e => by
            have := hr1.hp.rt id _ gh hi1 hgh b ((hroot b).2 rfl)
            rw [← e, hn] at this; cases this
          exact ⟨c0, ty', fz, by rw [setRow_other w b n _ hne]; exact f1, f2⟩
        · exact ⟨hr1.fr.os, hr1.fr.tape, hr1.fr.output, by rw [hsz]; exact hr1.fr.size, fun n hn hX => by
            rw [setRow_other w b n _ (fun e => hold (e ▸ ⟨hn, hX⟩))]; exact hr1.fr.block n hn hX⟩
    · exact h.elim
  · exact h.elim
end
end Go.Sx
