/-
  'vcOp' is true of the model, operation by operation (second part).
-/
import Derived.Test.YteganoldfldlhaaA7Sound
set_option linter.all false
namespace Go.Sx
open Go Go.RowKit

section
variable {E : Env} {o : Oper} {st : St} {k : St → SV → Prop} {g : List Gh} {V : View} {a : Act} {w : World} {K : Act → World → Prop} {Q : Exit → Act → World → Prop}

theorem undef_ok (g : List Gh) (V : View) : cSV g V (.t []) undef := ⟨[], rfl, rfl, fun k b cs v h => by simp at h⟩

theorem store_ok (hT : TyOK E.P E.T) {t : Nat} {x v : Operand} (ho : o.op = .store t x v) (h : vcStore E t (ev st x) (ev st v) st k) (hr : Rel E.C g V st a w) (hK : Next' E o a k K) : o.wp E.P a w K Q := by
  have hx := ev_ok hr.sl x
  have hv := ev_ok hr.sl v
  unfold vcStore at h
  split at h
  · rename_i id off heq
    rw [heq] at hx
    obtain ⟨gh, b, hg, hb, hp⟩ := hx
    split at h
    · rename_i ty cs hbox
      split at h
      · rename_i r hsp
        obtain ⟨ht, hbx, hu, hlen, hk⟩ := h
        obtain ⟨i, z, u, hgood⟩ := hT.good ht
        have hi := nthH_some hbox (by simp)
        obtain ⟨b', l, e1, e2, e3⟩ := hr.hp.hb id _ gh hi hg
        rw [hb] at e1
        cases e1
        have hvc := cSV_cells hv hbx
        have hsz : (a.eval v).cells.size = (E.T t).size := by have := hvc.1; simp at this; omega
        have hfit := (splice_some hsp).2.1
        have hrun := run_storeAt hgood w b off ty l (a.eval v) e2 hsz (by rw [e3.1]; omega) (noU_one hvc hu)
        have hc := splice_c hsp e3 hvc
        simp only [Array.length_toList] at hc
        refine wp_skipped (w' := _) ?_ (hK g V ⟨st.t, setH st.h id (.box ty r)⟩ _ (.t []) undef (by rw [setH_eq]; exact hr.storeBox hi hg hb hc) (undef_ok g V) hk)
        simp only [execOp, ho, hp, Sem.run_bind, hrun, Result.andThen_ok, Sem.run_pure]
      · exact h.elim
    · exact h.elim
  · exact h.elim

theorem fieldAddr_ok (hT : TyOK E.P E.T) {t : Nat} {x : Operand} {f : Nat} (ho : o.op = .fieldAddr t x f) (h : vcFieldAddr E t (ev st x) f st k) (hr : Rel E.C g V st a w) (hK : Next' E o a k K) : o.wp E.P a w K Q := by
  have hx := ev_ok hr.sl x
  unfold vcFieldAddr at h
  split at h
  · rename_i off ft hp
    obtain ⟨h1, h2, h3⟩ := h
    obtain ⟨i, z, u, hgood⟩ := hT.good (t := t) (by rw [h1]; decide)
    obtain ⟨i', z', u', hgf⟩ := hT.good h2
    obtain ⟨fs, rfl, hfs⟩ := hgood.struct h1
    rw [nthP_eq] at hp
    obtain ⟨fd, hfd, ho1, ho2⟩ := fldsAre_get hfs f _ hp
    simp only at ho1 ho2
    have hrun : ∀ ad : Addr, (Instr.fieldAt t (.pointer (some ad)) f).run E.P w = .ok (.pointer (some (ad.add off))) w := by
      intro ad
      have hfd' : fs[f]? = some fd := by simpa using hfd
      simp [Instr.fieldAt, hgood.run_und w, hfd', Instr.sureAddr, fieldPlace, ho1, ho2, hgf.run_size w, hgf.pos]
    split at h3
    · rename_i id o' heq
      rw [heq] at hx
      obtain ⟨gh, b, hg, hb, hpt⟩ := hx
      refine wp_value (w' := w) (y := .pointer (some ⟨b, o' + off, none⟩)) ?_ (hK g V st w (.o (.p id (o' + off))) _ hr ⟨gh, b, hg, hb, rfl⟩ h3)
      simp only [execOp, ho, hpt]
      exact execOp_value _ _ _ _ _ (by rw [hrun, Addr.add_lit])
    · rename_i cs heq
      rw [heq] at hx
      obtain ⟨p, hpt, hq⟩ := hx
      refine wp_value (w' := w) (y := .pointer (some (p.add off))) ?_ (hK g V st w (.o (.q (cs.drop off))) _ hr ⟨p.add off, rfl, hq.drop off⟩ h3)
      simp only [execOp, ho, hpt]
      exact execOp_value _ _ _ _ _ (hrun p)
    · rename_i id sz n fo heq
      rw [heq] at hx
      obtain ⟨gh, b, hg, hb, hpt⟩ := hx
      refine wp_value (w' := w) (y := .pointer (some ⟨b, n * sz + (fo + off), none⟩)) ?_ (hK g V st w (.o (.r id sz n (fo + off))) _ hr ⟨gh, b, hg, hb, rfl⟩ h3)
      simp only [execOp, ho, hpt]
      exact execOp_value _ _ _ _ _ (by rw [hrun, Addr.add_lit, Nat.add_assoc])
    · rename_i id sz n fo heq
      rw [heq] at hx
      obtain ⟨gh, ad, ln, cp, hg, hval, hpt⟩ := hx
      refine wp_value (w' := w) (y := .pointer (some (ad.add (n * sz + (fo + off))))) ?_ (hK g V st w (.o (.e id sz n (fo + off))) _ hr ⟨gh, ad, ln, cp, hg, hval, rfl⟩ h3)
      simp only [execOp, ho, hpt]
      exact execOp_value _ _ _ _ _ (by rw [hrun, add_add, Nat.add_assoc])
    · exact h3.elim
  · exact h.elim

theorem extract_sub (l : List Value) (o n : Nat) (h : o + n ≤ l.length) : l.toArray.extract o (o + n) = ((l.drop o).take n).toArray := by
  apply Array.ext'
  simp

theorem field_ok (hT : TyOK E.P E.T) {t : Nat} {x : Operand} {f : Nat} (ho : o.op = .field t x f) (h : vcField E t (ev st x) f st k) (hr : Rel E.C g V st a w) (hK : Next' E o a k K) : o.wp E.P a w K Q := by
  have hx := ev_ok hr.sl x
  unfold vcField at h
  split at h
  · rename_i off ft hp
    split at h
    · rename_i cs heq
      rw [heq] at hx
      obtain ⟨l, hl, hc⟩ := hx
      split at h
      · rename_i r hsub
        obtain ⟨h1, h2, hk⟩ := h
        obtain ⟨i, z, u, hgood⟩ := hT.good (t := t) (by rw [h1]; decide)
        obtain ⟨i', z', u', hgf⟩ := hT.good h2
        obtain ⟨fs, rfl, hfs⟩ := hgood.struct h1
        rw [nthP_eq] at hp
        obtain ⟨fd, hfd, ho1, ho2⟩ := fldsAre_get hfs f _ hp
        simp only at ho1 ho2
        have hfd' : fs[f]? = some fd := by simpa using hfd
        obtain ⟨c1, c2, c3⟩ := sub_c hsub hc
        have hle := (sub_some hsub).2
        refine wp_value (w' := w) (y := if (E.T ft).agg then .agg ((l.drop off).take (E.T ft).size).toArray else ((l.drop off).take (E.T ft).size).headD undef) ?_
          (hK g V st w _ _ hr (pack_ok c1 fun ha => by rw [c2]; exact hgf.agg_size ha) hk)
        simp only [execOp, ho, hl]
        refine execOp_value _ _ _ _ _ ?_
        simp only [Instr.field, Sem.run_bind, hgood.run_und w, Result.andThen_ok, hfd', asAgg, Sem.run_pure, part, ho1, ho2, hgf.run_agg w]
        cases ha : (E.T ft).agg with
        | true =>
          simp only [if_true, Sem.run_bind, hgf.run_size w, Result.andThen_ok, Sem.run_pure]
          rw [extract_sub _ _ _ (by rw [hc.1]; exact hle)]
        | false =>
          have h1' := hgf.agg_size ha
          rw [h1'] at hle
          have hlt : off < l.length := by rw [hc.1]; omega
          have hget : l.toArray[off]? = some l[off] := by simp [hlt]
          have htk : (l.drop off).take 1 = [l[off]] := by rw [List.drop_eq_getElem_cons hlt]; rfl
          rw [h1', htk]
          simp only [Bool.false_eq_true, if_false, hget, Sem.run_pure, List.headD_cons]
      · exact h.elim
    · exact h.elim
  · exact h.elim

theorem lay_sl_inv {V : View} {rows : List (List D)} {y : Value} {S : List Nat} (h : Lay V (.sl rows) y S) :
    (y = .slice none 0 0 ∧ rows = []) ∨ ∃ (ad : Addr) (cap sz : Nat) (ys : List Value) (Ss : List (List Nat)), y = .slice (some ad) rows.length cap ∧ (∀ r ∈ rows, r.length = sz) ∧ rows.length ≤ cap ∧ cap ≤ maxLen ∧
      LayL V rows.flatten ys Ss ∧ (∀ (k : Nat) (y : Value), ys[k]? = some y → V.cell (ad.add k) = some y) ∧ S = (if rows.isEmpty then [] else [ad.block]) ++ Ss.flatten := by
  cases h with
  | nil => exact .inl ⟨rfl, rfl⟩
  | sl _ ad cap sz ys Ss hsz hcap hmax hy hS hc hl => exact .inr ⟨ad, cap, sz, ys, Ss, rfl, hsz, hcap, hmax, ⟨hy, hS, hl⟩, hc, rfl⟩

/-- An element of a slice of data, by its address. -/
theorem lay_row {V : View} {rows : List (List D)} {ad : Addr} {sz : Nat} {ys : List Value} {Ss : List (List Nat)} (hsz : ∀ r ∈ rows, r.length = sz) (hl : LayL V rows.flatten ys Ss)
    (hc : ∀ (k : Nat) (y : Value), ys[k]? = some y → V.cell (ad.add k) = some y) {n : Nat} (hn : n < rows.length) : QC V (ad.add (n * sz)) (rwAt rows n) := by
  have hrw : rwAt rows n = rows[n] := by simp [rwAt, List.getD_eq_getElem?_getD, List.getElem?_eq_getElem hn]
  intro j d hj
  rw [hrw] at hj
  have hf := flatten_row hsz hn hj
  have hlt := (List.getElem?_eq_some_iff.1 hf).1
  have h1 : ys[n * sz + j]? = some (ys[n * sz + j]'(by rw [hl.1]; exact hlt)) := List.getElem?_eq_getElem _
  have h2 : Ss[n * sz + j]? = some (Ss[n * sz + j]'(by rw [hl.2.1]; exact hlt)) := List.getElem?_eq_getElem _
  exact ⟨_, _, by rw [add_add]; exact hc _ _ h1, hl.2.2 _ d _ _ hf h1 h2⟩

theorem run_indexAt {P : Program} {t : Nat} {d de : Ty} {i i' : TypeInfo} {z z' : Value} {u u' : TypeDesc} (hg : TyGood P t d i z u) (ht : d.tag = 2) (he : TyGood P d.elem de i' z' u') (w : World) (ad : Addr) (len cap : Nat) (kd : IntKind) (n : Int)
    (h0 : 0 ≤ n) (h1 : n.toNat < len) : (Instr.indexAt t (.slice (some ad) len cap) (.int kd n)).run P w = .ok (.pointer (some (ad.add (n.toNat * de.size)))) w := by
  have hu := hg.slice ht
  have : 0 ≤ n ∧ n < (len : Int) := ⟨h0, by omega⟩
  simp [Instr.indexAt, asIntOf, hg.run_und w, hu, this, he.run_size w]

theorem indexAddr_ok (hT : TyOK E.P E.T) {t : Nat} {x ix : Operand} (ho : o.op = .indexAddr t x ix) (h : vcIndexAddr E t (ev st x) (ev st ix) st k) (hr : Rel E.C g V st a w) (hK : Next' E o a k K) : o.wp E.P a w K Q := by
  have hx := ev_ok hr.sl x
  have hix := ev_ok hr.sl ix
  obtain ⟨h1, h2, h⟩ := h
  obtain ⟨i, z, u, hgood⟩ := hT.good (t := t) (by rw [h1]; decide)
  obtain ⟨i', z', u', hge⟩ := hT.good h2
  split at h
  · rename_i rows kd n e1 e2
    rw [e1] at hx
    rw [e2] at hix
    obtain ⟨n0, nl, hrow, hk⟩ := h
    obtain ⟨S, hx⟩ := hx
    obtain ⟨S', hix⟩ := hix
    generalize hev : a.eval ix = yi at hix
    cases hix
    rcases lay_sl_inv hx with ⟨_, rfl⟩ | ⟨ad, cap, sz, ys, Ss, hy, hsz, _, _, hl, hc, _⟩
    · simp at nl
    · have hrw : rwAt rows n.toNat = rows[n.toNat] := by simp [rwAt, List.getD_eq_getElem?_getD, List.getElem?_eq_getElem nl]
      have hsze : sz = (E.T (E.T t).elem).size := by rw [← hrow, hrw]; exact (hsz _ (List.getElem_mem nl)).symm
      refine wp_value (w' := w) (y := .pointer (some (ad.add (n.toNat * sz)))) ?_ (hK g V st w (.o (.q (rwAt rows n.toNat))) _ hr ⟨_, rfl, lay_row hsz hl hc nl⟩ hk)
      simp only [execOp, ho, hy, hev]
      exact execOp_value _ _ _ _ _ (by rw [run_indexAt hgood h1 hge w ad _ _ _ n n0 nl, hsze])
  · rename_i id kd n e1 e2
    rw [e1] at hx
    rw [e2] at hix
    obtain ⟨gh, hg, hy, _⟩ := hx
    obtain ⟨S', hix⟩ := hix
    generalize hev : a.eval ix = yi at hix
    cases hix
    split at h
    · rename_i ty sz rows lin hrow
      obtain ⟨n0, nl, hsze, hk⟩ := h
      obtain ⟨h0, ys, Ss, q1, q2, q3⟩ := hr.hp.hb id _ gh (nthH_some hrow (by simp)) hg
      rcases q3 with ⟨_, _, rfl⟩ | ⟨b, cap, c, p1, p2, p3, p4, p5, p6, p7⟩
      · simp at nl
      · refine wp_value (w' := w) (y := .pointer (some ⟨b, n.toNat * sz + 0, none⟩)) ?_ (hK g V st w (.o (.r id sz n.toNat 0)) _ hr ⟨gh, b, hg, p1, rfl⟩ hk)
        simp only [execOp, ho, hy, hev, p2]
        exact execOp_value _ _ _ _ _ (by rw [run_indexAt hgood h1 hge w _ _ _ _ n n0 nl, Addr.add_lit, hsze]; simp)
    · rename_i rows lin hrow
      obtain ⟨n0, nl, hrw', hk⟩ := h
      obtain ⟨_, S, q1, _⟩ := hr.hp.hb id _ gh (nthH_some hrow (by simp)) hg
      rcases lay_sl_inv q1 with ⟨_, rfl⟩ | ⟨ad, cap, sz, ys, Ss, hy', hsz, _, _, hl, hc, _⟩
      · simp at nl
      · have hrw : rwAt rows n.toNat = rows[n.toNat] := by simp [rwAt, List.getD_eq_getElem?_getD, List.getElem?_eq_getElem nl]
        have hsze : sz = (E.T (E.T t).elem).size := by rw [← hrw', hrw]; exact (hsz _ (List.getElem_mem nl)).symm
        refine wp_value (w' := w) (y := .pointer (some (ad.add (n.toNat * sz)))) ?_ (hK g V st w (.o (.q (rwAt rows n.toNat))) _ hr ⟨_, rfl, lay_row hsz hl hc nl⟩ hk)
        simp only [execOp, ho, hy, hev, hy']
        exact execOp_value _ _ _ _ _ (by rw [run_indexAt hgood h1 hge w ad _ _ _ n n0 nl, hsze])
    · rename_i tag sz rows hown
      obtain ⟨n0, nl, hsze, hk⟩ := h
      obtain ⟨_, hO⟩ := hr.hp.hb id _ gh (nthH_some hown (by simp)) hg
      obtain ⟨h0, U, ys, Ss, q1, q2, q3, q4, q5⟩ := hO
      rcases q5 with ⟨_, rfl, _⟩ | ⟨ad, cap, e, _⟩
      · simp at nl
      · refine wp_value (w' := w) (y := .pointer (some (ad.add (n.toNat * sz + 0)))) ?_ (hK g V st w (.o (.e id sz n.toNat 0)) _ hr ⟨gh, ad, _, _, hg, e, rfl⟩ hk)
        simp only [execOp, ho, hy, hev, e]
        exact execOp_value _ _ _ _ _ (by rw [run_indexAt hgood h1 hge w ad _ _ _ n n0 nl, hsze]; simp)
    · exact h.elim
  · exact h.elim

theorem cSV_scalar {g : List Gh} {V : View} {x y : Value} (h : cSV g V (.o (.d (.v x))) y) : y = x ∧ scalar x = true := by
  obtain ⟨S, h⟩ := h
  cases h with
  | v _ hs => exact ⟨rfl, hs⟩

theorem scalar_ok (g : List Gh) (V : View) (x : Value) (h : scalar x = true) : cSV g V (.o (.d (.v x))) x := ⟨[], .v x h⟩

theorem index_ok (hT : TyOK E.P E.T) {t : Nat} {x ix : Operand} (ho : o.op = .index t x ix) (h : vcIndex E t (ev st x) (ev st ix) st k) (hr : Rel E.C g V st a w) (hK : Next' E o a k K) : o.wp E.P a w K Q := by
  have hx := ev_ok hr.sl x
  have hix := ev_ok hr.sl ix
  unfold vcIndex at h
  split at h
  · rename_i s kd n e1 e2
    rw [e1] at hx
    rw [e2] at hix
    obtain ⟨h1, n0, nl, hk⟩ := h
    obtain ⟨i, z, u, hgood⟩ := hT.good (t := t) (by rw [h1]; decide)
    have hu := hgood.string h1
    obtain ⟨hx, _⟩ := cSV_scalar hx
    obtain ⟨hix, _⟩ := cSV_scalar hix
    refine wp_value (w' := w) (y := .int .u8 (byteAt s n.toNat)) ?_ (hK g V st w _ _ hr (scalar_ok g V _ rfl) hk)
    simp only [execOp, ho, hx, hix]
    refine execOp_value _ _ _ _ _ ?_
    have hb : s[n.toNat]? = some (s[n.toNat]'nl) := getElem?_pos s n.toNat nl
    have hbyte : byteAt s n.toNat = ((s[n.toNat]'nl).toNat : Int) := by
      have hl : n.toNat < s.data.toList.length := by simpa using nl
      unfold byteAt
      rw [List.getD_eq_getElem?_getD, List.getElem?_eq_getElem hl]
      rfl
    simp [Instr.index, asIntOf, hgood.run_und w, hu, n0, hb, hbyte]
  · exact h.elim

theorem len_ok (hT : TyOK E.P E.T) {c : Call} {x : Operand} {t : Nat} (ho : o.op = .call c) (hc : c.callee = .builtin .len) (hx' : c.args.toList = [x]) (ht' : c.argTypes.toList = [t]) (h : vcLen E t (ev st x) st k) (hr : Rel E.C g V st a w) (hK : Next' E o a k K) : o.wp E.P a w K Q := by
  have hx := ev_ok hr.sl x
  have hargs : c.args = #[x] := by rw [← Array.toArray_toList (xs := c.args), hx']
  have htys : c.argTypes = #[t] := by rw [← Array.toArray_toList (xs := c.argTypes), ht']
  have hrun : ∀ y, (Builtin.len_ #[t] o.type #[a.eval x]).run E.P w = .ok y w → (execOp a.eval o).run E.P w = .ok (.value y) w := by
    intro y hy
    simp [execOp, ho, resolve, hc, hargs, htys, invoke, builtin, hy]
  have hsl : (E.T t).tag = 2 → ∀ (b : Option Addr) (n c : Nat), (Builtin.len_ #[t] o.type #[.slice b n c]).run E.P w = .ok (.int .i64 n) w := by
    intro h1 b n c
    obtain ⟨i, z, u, hgood⟩ := hT.good (t := t) (by rw [h1]; decide)
    simp [Builtin.len_, hgood.run_und w, hgood.slice h1, goInt]
  unfold vcLen at h
  split at h
  · rename_i s e1
    rw [e1] at hx
    obtain ⟨h1, hk⟩ := h
    obtain ⟨i, z, u, hgood⟩ := hT.good (t := t) (by rw [h1]; decide)
    obtain ⟨hx, _⟩ := cSV_scalar hx
    refine wp_value (w' := w) (y := .int .i64 s.size) (hrun _ ?_) (hK g V st w _ _ hr (scalar_ok g V _ rfl) hk)
    simp [hx, Builtin.len_, hgood.run_und w, hgood.string h1, goInt]
  · rename_i rows e1
    rw [e1] at hx
    obtain ⟨h1, hk⟩ := h
    obtain ⟨S, hx⟩ := hx
    refine wp_value (w' := w) (y := .int .i64 rows.length) (hrun _ ?_) (hK g V st w _ _ hr (scalar_ok g V _ rfl) hk)
    rcases lay_sl_inv hx with ⟨hy, rfl⟩ | ⟨ad, cap, sz, ys, Ss, hy, _⟩
    · rw [hy]; exact hsl h1 _ _ _
    · rw [hy]; exact hsl h1 _ _ _
  · rename_i e1
    rw [e1] at hx
    obtain ⟨h1, hk⟩ := h
    refine wp_value (w' := w) (y := .int .i64 0) (hrun _ ?_) (hK g V st w _ _ hr (scalar_ok g V _ rfl) hk)
    have hx : a.eval x = .slice none 0 0 := hx
    rw [hx]; exact hsl h1 _ _ _
  · rename_i id e1
    rw [e1] at hx
    obtain ⟨h1, h⟩ := h
    obtain ⟨gh, hg, hy, _⟩ := hx
    split at h
    · rename_i ty sz rows lin hrow
      obtain ⟨h0, ys, Ss, q1, q2, q3⟩ := hr.hp.hb id _ gh (nthH_some hrow (by simp)) hg
      refine wp_value (w' := w) (y := .int .i64 rows.length) (hrun _ ?_) (hK g V st w _ _ hr (scalar_ok g V _ rfl) h)
      rcases q3 with ⟨_, ⟨ao, e⟩, rfl⟩ | ⟨b, cap, c', p1, p2, _⟩
      · rw [hy, e]; exact hsl h1 _ _ _
      · rw [hy, p2]; exact hsl h1 _ _ _
    · rename_i rows lin hrow
      obtain ⟨_, S, q1, _⟩ := hr.hp.hb id _ gh (nthH_some hrow (by simp)) hg
      refine wp_value (w' := w) (y := .int .i64 rows.length) (hrun _ ?_) (hK g V st w _ _ hr (scalar_ok g V _ rfl) h)
      rcases lay_sl_inv q1 with ⟨e, rfl⟩ | ⟨ad, cap, sz, ys, Ss, e, _⟩
      · rw [hy, e]; exact hsl h1 _ _ _
      · rw [hy, e]; exact hsl h1 _ _ _
    · rename_i tag sz rows hown
      obtain ⟨_, h0, U, ys, Ss, q1, q2, q3, q4, q5⟩ := hr.hp.hb id _ gh (nthH_some hown (by simp)) hg
      refine wp_value (w' := w) (y := .int .i64 rows.length) (hrun _ ?_) (hK g V st w _ _ hr (scalar_ok g V _ rfl) h)
      rcases q5 with ⟨e, rfl, _⟩ | ⟨ad, cap, e, _⟩
      · rw [hy, e]; exact hsl h1 _ _ _
      · rw [hy, e]; exact hsl h1 _ _ _
    · exact h.elim
  · exact h.elim
end
end Go.Sx
