/-
  Stores into owned trees.
-/
import Derived.Test.YteganoldfldlhaaB1Fstr
set_option linter.all false
namespace Go.Sx
open Go Go.RowKit

theorem add_of_spot {a : Addr} {n : Nat} (h : (a.add n).spot = none) : a.add n = ⟨a.block, a.off + n, none⟩ := by
  obtain ⟨b, o, s⟩ := a
  unfold Addr.add at h ⊢
  split at h
  · rename_i e
    subst e
    simp only at h
    subst h
    rfl
  · rename_i e
    rw [if_neg e]
theorem View.cell_some {V : View} {a : Addr} {y : Value} (h : V.cell a = some y) : a.spot = none ∧ ∃ cs, V a.block = some cs ∧ cs[a.off]? = some y := by
  unfold View.cell at h
  split at h
  · cases h
  · rename_i hs
    cases hb : V a.block with
    | none => simp [hb] at h
    | some cs =>
      rw [hb] at h
      exact ⟨by simpa using hs, cs, rfl, h⟩
theorem flatten_set {α : Type} {sz fo : Nat} (d : α) (hfo : fo < sz) : ∀ {rows : List (List α)} {i : Nat} (h : ∀ r ∈ rows, r.length = sz) (hi : i < rows.length), (rows.set i (rows[i].set fo d)).flatten = rows.flatten.set (i * sz + fo) d
  | [], _, _, hi => by simp at hi
  | r :: rs, 0, h, _ => by
    have hr := h r (List.mem_cons_self ..)
    simp only [List.set_cons_zero, List.getElem_cons_zero, List.flatten_cons, Nat.zero_mul, Nat.zero_add]
    rw [List.set_append_left _ _ (by omega)]
  | r :: rs, i + 1, h, hi => by
    have hr := h r (List.mem_cons_self ..)
    have ih := flatten_set d hfo (rows := rs) (i := i) (fun x hx => h x (List.mem_cons_of_mem _ hx)) (by simpa using hi)
    simp only [List.set_cons_succ, List.getElem_cons_succ, List.flatten_cons]
    rw [ih, List.set_append_right _ _ (by rw [Nat.add_mul]; omega)]
    congr 2
    rw [Nat.add_mul]; omega
theorem splice_one {α : Type} : ∀ {l : List α} {o : Nat} {d : α} {r : List α}, splice l o [d] = some r → r = l.set o d ∧ o < l.length
  | [], 0, d, r, h => by simp [splice] at h
  | x :: xs, 0, d, r, h => by
    simp only [splice, Option.map_eq_some_iff] at h
    obtain ⟨r', h1, rfl⟩ := h
    cases h1
    exact ⟨rfl, by simp⟩
  | [], o + 1, d, r, h => by simp [splice] at h
  | x :: xs, o + 1, d, r, h => by
    simp only [splice, Option.map_eq_some_iff] at h
    obtain ⟨r', h1, rfl⟩ := h
    obtain ⟨e, hl⟩ := splice_one h1
    subst e
    exact ⟨rfl, by simpa using hl⟩

/-- A scalar is stored into a cell of a tree. -/
theorem OwnR.store {w : World} {sz : Nat} {rows : List (List D)} {y : Value} {S : List Nat} {hd : List Value} (h : OwnR w sz rows y S hd) (hnd : S.Nodup) {ad : Addr} {ln cp : Nat} (hy : y = .slice (some ad) ln cp)
    {i fo : Nat} (hi : i < rows.length) {x0 x : Value} (hf : (rwAt rows i)[fo]? = some (.v x0)) (hx : scalar x = true) :
    ∃ (b off ty : Nat) (cur : List Value), ad.add (i * sz + fo) = ⟨b, off, none⟩ ∧ b ∈ S ∧ w.heap[b]? = some (.cells cur.toArray ty (0, 0)) ∧ off < cur.length ∧
      OwnR (w.setRow b (cur.take off ++ [x] ++ cur.drop (off + 1)).toArray) sz (rows.set i ((rwAt rows i).set fo (.v x))) y S hd := by
  obtain ⟨h0, U, ys, Ss, h1, h2, h3, h4, h5⟩ := h
  rw [rwAt_get rows hi] at hf ⊢
  have hflat := flatten_row h0 hi hf
  have hfo : fo < sz := by rw [← h0 _ (List.getElem_mem hi)]; exact (List.getElem?_eq_some_iff.1 hf).1
  have hpl : i * sz + fo < rows.flatten.length := (List.getElem?_eq_some_iff.1 hflat).1
  have hlt : i * sz + fo < ys.length := by rw [h3.1]; exact hpl
  have hlt2 : i * sz + fo < Ss.length := by rw [h3.2.1]; exact hpl
  have hfs := flatten_set (.v x) hfo h0 hi
  generalize hp : i * sz + fo = p at *
  have hz : ys[p]? = some ys[p] := List.getElem?_eq_getElem hlt
  rcases h5 with ⟨e, _, _⟩ | ⟨a, cap, e, hcap, hmax, hc, hS⟩
  · rw [hy] at e; cases e
  · rw [hy] at e
    injection e with e1 e2 e3
    cases e1; subst e2; subst e3
    obtain ⟨hsp, cs, hUb, hcs⟩ := View.cell_some (hc _ _ hz)
    have hadd := add_of_spot hsp
    rw [hadd] at hUb hcs
    simp only at hUb hcs
    obtain ⟨hbS, c0, ty0, hheap⟩ := h2 _ _ hUb
    obtain ⟨c, ty, fz, e1, hpre⟩ := h1 _ _ hUb
    rw [hheap] at e1; cases e1
    have hcur : c0.toList[ad.off + p]? = some ys[p] := prefix_get hpre hcs
    have hoff : ad.off + p < c0.toList.length := (List.getElem?_eq_some_iff.1 hcur).1
    have hne : rows.isEmpty = false := by cases rows <;> simp_all
    rw [hne] at hS
    simp only [Bool.false_eq_true, if_false, List.singleton_append] at hS
    have hbn : ad.block ∉ Ss.flatten := by rw [hS] at hnd; exact (List.nodup_cons.1 hnd).1
    have hget : ∀ k, (c0.toList.take (ad.off + p) ++ [x] ++ c0.toList.drop (ad.off + p + 1))[k]? = if k = ad.off + p then some x else c0.toList[k]? := fun k => by
      rw [List.getElem?_append, List.getElem?_append]
      simp only [List.length_append, List.length_take, List.length_cons, List.length_nil]
      have hm : min (ad.off + p) c0.toList.length = ad.off + p := by omega
      rw [hm]
      rcases Nat.lt_trichotomy k (ad.off + p) with hk | hk | hk
      · rw [if_pos (by omega), if_pos hk, List.getElem?_take, if_pos hk, if_neg (by omega)]
      · subst hk; rw [if_pos (by omega), if_neg (by omega), if_pos rfl]; simp
      · rw [if_neg (by omega), if_neg (by omega), List.getElem?_drop]
        congr 1; omega
    refine ⟨ad.block, ad.off + p, ty0, c0.toList, hadd, hbS, by simpa using hheap, hoff, ?_⟩
    generalize hcv : c0.toList.take (ad.off + p) ++ [x] ++ c0.toList.drop (ad.off + p + 1) = cur at *
    have hnew : (w.setRow ad.block cur.toArray).heap[ad.block]? = some (.cells cur.toArray ty0 (0, 0)) := setRow_heap w ad.block c0 cur.toArray ty0 (0, 0) hheap
    let U' : View := fun n => if n = ad.block then some cur else U n
    have hU'b : U' ad.block = some cur := by simp [U']
    have hU'n : ∀ n, n ≠ ad.block → U' n = U n := fun n hn => by simp [U', hn]
    refine ⟨fun r hr => ?_, U', ys.set p x, Ss, fun n cs' hn => ?_, fun n cs' hn => ?_, ⟨by rw [hfs]; simp [h3.1], by rw [hfs]; simp [h3.2.1], fun k d z T q1 q2 q3 => ?_⟩, fun k rs q => ?_, .inr ⟨ad, cp, by simpa using hy, by simpa using hcap, hmax, fun k z hk => ?_, ?_⟩⟩
    · rcases List.mem_or_eq_of_mem_set hr with hr | hr
      · exact h0 r hr
      · rw [hr, List.length_set]; exact h0 _ (List.getElem_mem hi)
    · by_cases hb : n = ad.block
      · subst hb; rw [hU'b] at hn; cases hn; exact ⟨_, _, _, hnew, by simp⟩
      · rw [hU'n n hb] at hn
        obtain ⟨c, ty, fz, g1, g2⟩ := h1 n cs' hn
        exact ⟨c, ty, fz, by rw [setRow_other w _ n _ hb]; exact g1, g2⟩
    · by_cases hb : n = ad.block
      · subst hb; exact ⟨hbS, _, _, hnew⟩
      · rw [hU'n n hb] at hn
        obtain ⟨g0, c, ty, g1⟩ := h2 n cs' hn
        exact ⟨g0, c, ty, by rw [setRow_other w _ n _ hb]; exact g1⟩
    · rw [hfs, List.getElem?_set] at q1
      rw [List.getElem?_set] at q2
      by_cases hk : p = k
      · subst hk
        rw [if_pos rfl, if_pos hpl] at q1
        rw [if_pos rfl, if_pos hlt] at q2
        cases q1; cases q2
        have hold := h3.2.2 p _ _ T hflat hz q3
        cases hold
        exact .v _ hx
      · rw [if_neg hk] at q1 q2
        refine (h3.2.2 k d z T q1 q2 q3).restrict fun b hb cs' hcs' => ⟨cs', ?_, List.prefix_refl _⟩
        rw [hU'n b fun e => hbn (e ▸ List.mem_flatten.2 ⟨T, List.mem_of_getElem? q3, hb⟩)]
        exact hcs'
    · rw [hfs, List.getElem?_set] at q
      by_cases hk : p = k
      · subst hk; rw [if_pos rfl, if_pos hpl] at q; cases q
      · rw [if_neg hk] at q
        rw [List.getElem?_set, if_neg hk]
        exact h4 k rs q
    · rw [List.getElem?_set] at hk
      have hcell : ∀ (kk : Nat) (z' : Value), ys[kk]? = some z' → ad.add kk = ⟨ad.block, ad.off + kk, none⟩ ∧ c0.toList[ad.off + kk]? = some z' := fun kk z' hz' => by
        obtain ⟨s1, cs1, s2, s3⟩ := View.cell_some (hc kk z' hz')
        have ha := add_of_spot s1
        rw [ha] at s2 s3
        simp only at s2 s3
        rw [hUb] at s2; cases s2
        exact ⟨ha, prefix_get hpre s3⟩
      by_cases hkp : p = k
      · subst hkp
        rw [if_pos rfl, if_pos hlt] at hk
        cases hk
        rw [hadd]
        simp [View.cell, hU'b, hget]
      · rw [if_neg hkp] at hk
        obtain ⟨ha, hg⟩ := hcell k z hk
        rw [ha]
        simp only [View.cell, hU'b, Option.isSome_none, Bool.false_eq_true, if_false, Option.bind_some]
        rw [hget, if_neg (by omega)]
        exact hg
    · have : (rows.set i (rows[i].set fo (.v x))).isEmpty = false := by cases rows <;> simp_all
      rw [this]; simpa using hS

section
variable {E : Env} {o : Oper} {st : St} {k : St → SV → Prop} {g : List Gh} {V : View} {a : Act} {w : World} {K : Act → World → Prop} {Q : Exit → Act → World → Prop}

theorem storeOwn_ok (hT : TyOK E.P E.T) {t : Nat} {x v : Operand} (ho : o.op = .store t x v) {id sz i fo : Nat} (e : ev st x = .o (.e id sz i fo)) (h : vcStoreOwn E t id sz i fo (ev st v) st k) (hr : Rel E.C g V st a w) (hK : Next' E o a k K) : o.wp E.P a w K Q := by
  have hx := ev_ok hr.sl x
  have hv := ev_ok hr.sl v
  rw [e] at hx
  obtain ⟨gh, ad, ln, cp, hg, hval, hp⟩ := hx
  unfold vcStoreOwn at h
  split at h
  · rename_i xv ev1
    rw [ev1] at hv
    obtain ⟨hv, hsc⟩ := cSV_scalar hv
    split at h
    · rename_i tag sz' rows hown
      split at h
      · rename_i x0 r hsub hspl
        obtain ⟨ht, hsz1, rfl, hin, hk⟩ := h
        obtain ⟨ty1, z, u, hgood⟩ := hT.good ht
        have hi := nthH_some hown (by simp)
        obtain ⟨htag, hO⟩ := hr.hp.hb id _ gh hi hg
        have hnd : gh.tr.Nodup := hr.hp.nd id _ gh hi hg
        obtain ⟨hr', hfl⟩ := splice_one hspl
        obtain ⟨b, off, ty, cur, ha, hbS, hheap, hoff, hO'⟩ := hO.store hnd hval hin (sub_get hsub) hsc
        rw [← hr'] at hO'
        have hcells : xv.cells = #[xv] := by cases xv <;> first | rfl | simp [scalar] at hsc
        have hone : xv.oneCell' = true := by cases xv <;> first | rfl | simp [scalar] at hsc
        have hrun := run_storeAt hgood w b off ty cur xv hheap (by rw [hcells]; simpa using hsz1.symm) (by rw [hcells]; simp; omega) (by rw [hcells]; simpa using hone)
        rw [hcells] at hrun
        simp only [List.size_toArray, List.length_cons, List.length_nil] at hrun
        have hVb : V b = none := hr.hp.rt id _ gh hi hg b hbS
        have hold : ¬ (b < E.C.w0.heap.size ∧ b ∉ E.C.X) := fun hh => by
          rcases (hr.hp.lo id _ gh hi hg b hbS).1 with h1 | h1
          · omega
          · exact hh.2 h1
        have hsz : (w.setRow b (cur.take off ++ [xv] ++ cur.drop (off + 1)).toArray).heap.size = w.heap.size := by simp [World.setRow]
        refine wp_skipped (w' := w.setRow b (cur.take off ++ [xv] ++ cur.drop (off + 1)).toArray) ?_ (hK g V ⟨st.t, setH st.h id (.own tag sz' (rows.set i r))⟩ _ (.t []) undef ⟨hr.sl, ?_, ?_, ?_, ?_⟩ (undef_ok g V) hk)
        · simp only [execOp, ho, hp, hv, ha, Sem.run_bind]
          refine (congrArg (fun r => Result.andThen r _) hrun).trans ?_
          rfl
        · rw [setH_eq]
          exact hr.hp.set id hi hg (fun n hn => hn) hnd (fun n hn => hn) ⟨htag, hO'⟩ (fun n hn => setRow_other w b n _ fun e => hn (by subst e; exact hbS)) hsz
        · intro n cs hn
          obtain ⟨c, ty', fz, f1, f2⟩ := hr.mod n cs hn
          exact ⟨c, ty', fz, by rw [setRow_other w b n _ fun e => by rw [e, hVb] at hn; cases hn]; exact f1, f2⟩
        · exact ⟨hr.fr.os, hr.fr.tape, hr.fr.output, by rw [hsz]; exact hr.fr.size, fun n hn hX => by
            rw [setRow_other w b n _ (fun e => hold (e ▸ ⟨hn, hX⟩))]; exact hr.fr.block n hn hX⟩
        · exact hr.vw.move fun n cs hn => setRow_other w b n _ fun e => by rw [e, hVb] at hn; cases hn
      · exact h.elim
    · exact h.elim
  · exact h.elim
end
end Go.Sx
