/-
  'vcOp' is true of the model, operation by operation (third part), and all of it.
-/
import Derived.Test.YteganoldfldlhaaA8Sound
set_option linter.all false
namespace Go.Sx
open Go Go.RowKit

section
variable {E : Env} {o : Oper} {st : St} {k : St → SV → Prop} {g : List Gh} {V : View} {a : Act} {w : World} {K : Act → World → Prop} {Q : Exit → Act → World → Prop}

theorem bin_exec {op : BinOp} {t ty : Nat} {x y : Operand} {v : Value} (ho : o.op = .binOp op t x y ty) (P : Program) (hg : (eqGuard op t x y (a.eval x) (a.eval y)).run P w = .ok () w)
    (hv : (binOp op t (a.eval x) (a.eval y)).run P w = .ok v w) : (execOp a.eval o).run P w = .ok (.value v) w := by
  simp [execOp, ho, hg, hv]
theorem guard_int (op : BinOp) (t : Nat) (x y : Operand) (k k' : IntKind) (m n : Int) (P : Program) (w : World) : (eqGuard op t x y (.int k m) (.int k' n)).run P w = .ok () w := by
  cases op <;> simp [eqGuard]
theorem guard_string (op : BinOp) (t : Nat) (x y : Operand) (m n : ByteArray) (P : Program) (w : World) : (eqGuard op t x y (.string m) (.string n)).run P w = .ok () w := by
  cases op <;> simp [eqGuard]
theorem guard_bool (op : BinOp) (t : Nat) (x y : Operand) (m n : Bool) (P : Program) (w : World) : (eqGuard op t x y (.bool m) (.bool n)).run P w = .ok () w := by
  cases op <;> simp [eqGuard]

theorem beq_int (x y : Int) : (x == y) = decide (x = y) := by
  by_cases h : x = y <;> simp [h]
theorem beq_bytes (x y : ByteArray) : (x.toList == y.toList) = decide (x = y) := by
  rw [← beq_toListBytes]
  by_cases h : x = y
  · subst h
    simp only [decide_true]
    rw [beq_toListBytes]
    simp
  · simp only [h, decide_false]
    cases hb : (x == y) with
    | false => rfl
    | true =>
      rw [beq_toListBytes] at hb
      exfalso; apply h
      rw [ByteArray.toList_eq, ByteArray.toList_eq, beq_iff_eq] at hb
      cases x; cases y
      simp only at hb
      congr 1
      exact Array.toList_inj.1 hb

theorem binI_ok {op : BinOp} {t : Nat} {kd : IntKind} {m n : Int} {q : Prop → SV → Prop} (h : binI op kd m n q) (P : Program) (w : World) :
    ∃ p v, q p (.o (.d (.v v))) ∧ scalar v = true ∧ (p → (binOp op t (.int kd m) (.int kd n)).run P w = .ok v w) := by
  cases op <;> simp only [binI] at h
  case add => exact ⟨_, _, h, rfl, fun hp => by simp [binOp, Op.intArith, wrap_inR hp]⟩
  case sub => exact ⟨_, _, h, rfl, fun hp => by simp [binOp, Op.intArith, wrap_inR hp]⟩
  case mul => exact ⟨_, _, h, rfl, fun hp => by simp [binOp, Op.intArith, wrap_inR hp]⟩
  case quo => exact ⟨_, _, h, rfl, fun hp => by simp [binOp, Op.intDiv, hp.1, wrap_inR hp.2]⟩
  case rem => exact ⟨_, _, h, rfl, fun hp => by simp [binOp, Op.intDiv, hp]⟩
  case eql => exact ⟨_, _, h, rfl, fun _ => by simp [binOp, Op.intCmp, beq_int]⟩
  case neq => exact ⟨_, _, h, rfl, fun _ => by simp [binOp, Op.intCmp, bne, beq_int]⟩
  case lss => exact ⟨_, _, h, rfl, fun _ => by simp [binOp, Op.intCmp]⟩
  case leq => exact ⟨_, _, h, rfl, fun _ => by simp [binOp, Op.intCmp]⟩
  case gtr => exact ⟨_, _, h, rfl, fun _ => by simp [binOp, Op.intCmp]⟩
  case geq => exact ⟨_, _, h, rfl, fun _ => by simp [binOp, Op.intCmp]⟩

theorem binSt_ok {op : BinOp} {t : Nat} {m n : ByteArray} {q : Prop → SV → Prop} (h : binSt op m n q) (P : Program) (w : World) :
    ∃ p v, q p (.o (.d (.v v))) ∧ scalar v = true ∧ (p → (binOp op t (.string m) (.string n)).run P w = .ok v w) := by
  cases op <;> simp only [binSt] at h
  case add => exact ⟨_, _, h, rfl, fun hp => by
    have : ¬ (((m.size + n.size : Nat) : Int) > IntKind.i64.max) := by
      simp only [maxLen] at hp
      have : IntKind.i64.max = 9223372036854775807 := by decide
      omega
    simp only [binOp, Op.stringOp, if_neg this, Sem.run_pure]⟩
  case eql => exact ⟨_, _, h, rfl, fun _ => by simp only [binOp, Op.stringOp, beq_bytes, Sem.run_pure]⟩
  case neq => exact ⟨_, _, h, rfl, fun _ => by simp only [binOp, Op.stringOp, beq_bytes, Sem.run_pure]⟩
  case lss => exact ⟨_, _, h, rfl, fun _ => by simp only [binOp, Op.stringOp, strLt, Sem.run_pure]⟩
  case leq => exact ⟨_, _, h, rfl, fun _ => by simp only [binOp, Op.stringOp, strLt, beq_bytes, Sem.run_pure]⟩
  case gtr => exact ⟨_, _, h, rfl, fun _ => by simp only [binOp, Op.stringOp, strLt, beq_bytes, Sem.run_pure]⟩
  case geq => exact ⟨_, _, h, rfl, fun _ => by simp only [binOp, Op.stringOp, strLt, Sem.run_pure]⟩

theorem eqA_ok {g : List Gh} {V : View} {x y : At} {v v' : Value} (hx : cAt g V x v) (hy : cAt g V y v') (kx : kindA x ≠ 0) (ky : kindA y ≠ 0) : eqA x y = eqV v v' ∧ kindA x = kindV v ∧ kindA y = kindV v' := by
  have inv : ∀ {x : At} {v : Value}, cAt g V x v → kindA x ≠ 0 → x = .d (.v v) := by
    intro x v h hk
    cases x with
    | d d => cases d with
      | v z => obtain ⟨h, _⟩ := cSV_scalar (g := g) h; subst h; rfl
      | sl r => simp [kindA] at hk
    | _ => simp [kindA] at hk
  rw [inv hx kx, inv hy ky]
  exact ⟨rfl, rfl, rfl⟩
theorem eqAs_ok {g : List Gh} {V : View} {ks : List Nat} (hks : ks.all (· != 0) = true) : ∀ {xs ys : List At} {l m : List Value}, cL g V xs l → cL g V ys m → xs.map kindA = ks → ys.map kindA = ks →
    eqAs xs ys = eqVs l m ∧ l.map kindV = ks ∧ m.map kindV = ks := by
  induction ks with
  | nil =>
    intro xs ys l m hx hy k1 k2
    have e1 : xs = [] := by simpa using k1
    have e2 : ys = [] := by simpa using k2
    subst e1; subst e2
    rw [hx.nil_inv, hy.nil_inv]
    exact ⟨rfl, rfl, rfl⟩
  | cons k ks ih =>
    intro xs ys l m hx hy k1 k2
    simp only [List.all_cons, Bool.and_eq_true, bne_iff_ne] at hks
    match xs, ys, k1, k2 with
    | x :: xs, y :: ys, k1, k2 =>
      simp only [List.map_cons, List.cons.injEq] at k1 k2
      obtain ⟨v, l, rfl, hv, hl⟩ := hx.cons_inv
      obtain ⟨v', m, rfl, hv', hm⟩ := hy.cons_inv
      obtain ⟨i1, i2, i3⟩ := ih hks.2 hl hm k1.2 k2.2
      obtain ⟨j1, j2, j3⟩ := eqA_ok hv hv' (by rw [k1.1]; exact hks.1) (by rw [k2.1]; exact hks.1)
      refine ⟨?_, by simp [i2, ← j2, k1.1], by simp [i3, ← j3, k2.1]⟩
      cases xs with
      | nil =>
        have hys : ys = [] := by have h1 := k1.2; have h2 := k2.2; rw [← h1] at h2; simpa using h2
        subst hys
        rw [hl.nil_inv, hm.nil_inv]
        simp [eqAs, eqVs, j1]
      | cons x2 xs2 =>
        cases ys with
        | nil => have h1 := k1.2; have h2 := k2.2; rw [← h1] at h2; simp at h2
        | cons y2 ys2 =>
          show (eqA x y && eqAs (x2 :: xs2) (y2 :: ys2)) = (eqV v v' && eqVs l m)
          rw [i1, j1]

theorem binN_ok (hT : TyOK E.P E.T) (hE : ∀ t, E.eqk t ≠ [] → EqT E.P t (E.eqk t)) {op : BinOp} {t ty : Nat} {x y : Operand} (ho : o.op = .binOp op t x y ty) (h : vcBinN E op t (ev st x) (ev st y) st k) (hr : Rel E.C g V st a w) (hK : Next' E o a k K) : o.wp E.P a w K Q := by
  have hx := ev_ok hr.sl x
  have hy := ev_ok hr.sl y
  unfold vcBinN at h
  split at h
  · rename_i kx m ky n e1 e2
    rw [e1] at hx
    rw [e2] at hy
    obtain ⟨rfl, h⟩ := h
    obtain ⟨hx, _⟩ := cSV_scalar hx
    obtain ⟨hy, _⟩ := cSV_scalar hy
    obtain ⟨p, v, ⟨hp, hk⟩, hs, hrun⟩ := binI_ok (t := t) h E.P w
    exact wp_value (bin_exec ho _ (by rw [hx, hy]; exact guard_int ..) (by rw [hx, hy]; exact hrun hp)) (hK g V st w _ _ hr (scalar_ok g V v hs) hk)
  · rename_i m n e1 e2
    rw [e1] at hx
    rw [e2] at hy
    obtain ⟨hx, _⟩ := cSV_scalar hx
    obtain ⟨hy, _⟩ := cSV_scalar hy
    obtain ⟨p, v, ⟨hp, hk⟩, hs, hrun⟩ := binSt_ok (t := t) h E.P w
    exact wp_value (bin_exec ho _ (by rw [hx, hy]; exact guard_string ..) (by rw [hx, hy]; exact hrun hp)) (hK g V st w _ _ hr (scalar_ok g V v hs) hk)
  · rename_i m n e1 e2
    rw [e1] at hx
    rw [e2] at hy
    obtain ⟨h1, h⟩ := h
    obtain ⟨hx, _⟩ := cSV_scalar hx
    obtain ⟨hy, _⟩ := cSV_scalar hy
    obtain ⟨i, z, u, hgood⟩ := hT.good (t := t) (by rw [h1]; decide)
    have hu : E.P.underlying t = some .bool := by rw [hgood.und, hgood.bool h1]
    cases op <;> simp only [binB] at h
    case eql =>
      obtain ⟨_, hk⟩ := h
      exact wp_value (bin_exec ho _ (by rw [hx, hy]; exact guard_bool ..) (by rw [hx, hy]; exact run_eql_bool w t m n hu)) (hK g V st w _ _ hr (scalar_ok g V _ rfl) hk)
    case neq =>
      obtain ⟨_, hk⟩ := h
      exact wp_value (bin_exec ho _ (by rw [hx, hy]; exact guard_bool ..) (by rw [hx, hy]; exact run_neq_bool w t m n hu)) (hK g V st w _ _ hr (scalar_ok g V _ rfl) hk)
  · rename_i xs ys e1 e2
    rw [e1] at hx
    rw [e2] at hy
    obtain ⟨h0, h1, h2, h⟩ := h
    have he := hE t h0
    obtain ⟨l, hl, hcl⟩ := hx
    obtain ⟨m, hm, hcm⟩ := hy
    obtain ⟨q1, q2, q3⟩ := eqAs_ok he.pos hcl hcm h1 h2
    cases op <;> simp only at h
    case eql =>
      exact wp_value (bin_exec ho _ (by rw [hl, hm]; exact he.guard ..) (by rw [hl, hm]; exact he.eql w l m q2 q3)) (hK g V st w _ _ hr (scalar_ok g V _ rfl) (by rw [← q1]; exact h))
    case neq =>
      exact wp_value (bin_exec ho _ (by rw [hl, hm]; exact he.guard ..) (by rw [hl, hm]; exact he.neq w l m q2 q3)) (hK g V st w _ _ hr (scalar_ok g V _ rfl) (by rw [← q1]; exact h))
  · exact h.elim

theorem rowsOf_nil (hr : Rel E.C g V st a w) {x : SV} {v : Value} {rows : List (List D)} (hx : cSV g V x v) (h : rowsOf st x = some rows) : ∃ ao n c, v = .slice ao n c ∧ (ao.isNone = true → rows = []) := by
  unfold rowsOf at h
  split at h
  · cases h
    obtain ⟨S, hx⟩ := hx
    rcases lay_sl_inv hx with ⟨rfl, rfl⟩ | ⟨ad, cap, _, _, _, rfl, _⟩
    · exact ⟨none, 0, 0, rfl, fun _ => rfl⟩
    · exact ⟨some ad, _, cap, rfl, fun h => by cases h⟩
  · cases h
    obtain rfl : v = .slice none 0 0 := hx
    exact ⟨none, 0, 0, rfl, fun _ => rfl⟩
  · rename_i id
    obtain ⟨gh, hg, rfl, hone⟩ := hx
    have hlt : id < st.h.length := by rw [← hr.hp.glen]; exact (List.getElem?_eq_some_iff.1 hg).1
    have hb : st.h[id]? = some (nthH st.h id) := by rw [nthH_eq, List.getD_eq_getElem?_getD, List.getElem?_eq_getElem hlt]; rfl
    have hok := hr.hp.hb id _ gh hb hg
    split at h
    · rename_i e
      cases h
      rw [e] at hok
      obtain ⟨_, ys, Ss, _, _, h3⟩ := hok
      rcases h3 with ⟨_, ⟨ao, hv⟩, rfl⟩ | ⟨b, cap, c, _, hv, _⟩
      · exact ⟨ao, 0, 0, hv, fun _ => rfl⟩
      · exact ⟨some ⟨b, 0, none⟩, _, cap, hv, fun h => by cases h⟩
    · rename_i e
      cases h
      rw [e] at hok
      obtain ⟨_, S, hl, _⟩ := hok
      rcases lay_sl_inv hl with ⟨hv, rfl⟩ | ⟨ad, cap, _, _, _, hv, _⟩
      · exact ⟨none, 0, 0, hv, fun _ => rfl⟩
      · exact ⟨some ad, _, cap, hv, fun h => by cases h⟩
    · cases h
  · cases h
theorem run_eqNil (P : Program) (w : World) {t e : TypeId} (ao : Option Addr) (n c : Nat) (h : P.underlying t = some (.slice e)) (op : BinOp) (ho : op = .eql ∨ op = .neq) :
    (binOp op t (.slice ao n c) (.slice none 0 0)).run P w = .ok (.bool (if op = .eql then ao.isNone else !ao.isNone)) w := by
  have h1 : ∀ d : Nat, (Op.equalIn (d + 1) t (.slice ao n c) (.slice none 0 0)).run P w = .ok ao.isNone w := fun d => by
    cases ao <;> simp [Op.equalIn, run_underlying h]
  rcases ho with rfl | rfl
  · simp only [binOp]
    simp [Op.equal, Op.maxDepth, h1 9999]
  · simp only [binOp]
    simp [Op.equal, Op.maxDepth, h1 9999]
theorem guard_nil (op : BinOp) (t : Nat) (x y : Operand) (ao ao' : Option Addr) (n c n' c' : Nat) (P : Program) (w : World) : (eqGuard op t x y (.slice ao n c) (.slice ao' n' c')).run P w = .ok () w := by
  cases op <;> simp [eqGuard]
theorem bin_ok (hT : TyOK E.P E.T) (hE : ∀ t, E.eqk t ≠ [] → EqT E.P t (E.eqk t)) {op : BinOp} {t ty : Nat} {x y : Operand} (ho : o.op = .binOp op t x y ty) (h : vcBin E op t (ev st x) (ev st y) st k) (hr : Rel E.C g V st a w) (hK : Next' E o a k K) : o.wp E.P a w K Q := by
  unfold vcBin at h
  split at h
  · rename_i ey
    have hx := ev_ok hr.sl x
    have hy := ev_ok hr.sl y
    rw [ey] at hy
    have hy0 : a.eval y = .slice none 0 0 := hy
    unfold vcNil at h
    obtain ⟨htg, h⟩ := h
    obtain ⟨i, z, u, hgood⟩ := hT.good (t := t) (by rw [htg]; decide)
    have hu : E.P.underlying t = some (.slice (E.T t).elem) := by rw [hgood.und, hgood.slice htg]
    split at h
    · rename_i rows hrw
      obtain ⟨ao, n, c, hv, hn⟩ := rowsOf_nil hr hx hrw
      split at h
      · exact wp_value (bin_exec ho _ (by rw [hv, hy0]; exact guard_nil ..) (by rw [hv, hy0]; exact run_eqNil _ _ ao n c hu .eql (.inl rfl))) (hK g V st w _ _ hr (scalar_ok g V _ rfl) (h _ (fun hb => hn (by simpa using hb))))
      · exact wp_value (bin_exec ho _ (by rw [hv, hy0]; exact guard_nil ..) (by rw [hv, hy0]; exact run_eqNil _ _ ao n c hu .neq (.inr rfl))) (hK g V st w _ _ hr (scalar_ok g V _ rfl) (h _ (fun hb => hn (by simpa using hb))))
      · exact h.elim
    · exact h.elim
  · exact binN_ok hT hE ho h hr hK

theorem un_ok {op : UnOp} {t : Nat} {x : Operand} (ho : o.op = .unOp op t x) (h : vcUn op (ev st x) st k) (hr : Rel E.C g V st a w) (hK : Next' E o a k K) : o.wp E.P a w K Q := by
  have hx := ev_ok hr.sl x
  unfold vcUn at h
  split at h
  · rename_i b e1
    rw [e1] at hx
    obtain ⟨hx, _⟩ := cSV_scalar hx
    refine wp_value (w' := w) (y := .bool !b) ?_ (hK g V st w _ _ hr (scalar_ok g V _ rfl) h)
    simp only [execOp, ho, hx]
    exact execOp_value _ _ _ _ _ rfl
  · rename_i kd n e1
    rw [e1] at hx
    obtain ⟨hp, hk⟩ := h
    obtain ⟨hx, _⟩ := cSV_scalar hx
    refine wp_value (w' := w) (y := .int kd (0 - n)) ?_ (hK g V st w _ _ hr (scalar_ok g V _ rfl) hk)
    simp only [execOp, ho, hx]
    exact execOp_value _ _ _ _ _ (by simp only [Op.unary, Op.intArith, wrap_inR hp, Sem.run_pure])
  · exact h.elim

theorem conv_ok (hT : TyOK E.P E.T) {src dst : Nat} {x : Operand} (ho : o.op = .convert src dst x) (h : vcConv E src dst (ev st x) st k) (hr : Rel E.C g V st a w) (hK : Next' E o a k K) : o.wp E.P a w K Q := by
  have hx := ev_ok hr.sl x
  unfold vcConv at h
  split at h
  · rename_i kd n e1
    rw [e1] at hx
    obtain ⟨h1, h2, hp, hk⟩ := h
    obtain ⟨i, z, u, hs⟩ := hT.good (t := src) (by rw [h1]; decide)
    obtain ⟨i', z', u', hd⟩ := hT.good (t := dst) (by rw [h2]; decide)
    obtain ⟨hx, _⟩ := cSV_scalar hx
    refine wp_value (w' := w) (y := .int (E.T dst).kind n) ?_ (hK g V st w _ _ hr (scalar_ok g V _ rfl) hk)
    simp only [execOp, ho, hx]
    refine execOp_value _ _ _ _ _ ?_
    simp [convert, hs.run_und w, hd.run_und w, hd.int h2, Conv.intToInt, wrap_inR hp]
  · exact h.elim

theorem extract_ok {x : Operand} {ix : Nat} (ho : o.op = .extract x ix) (h : vcExtract (ev st x) ix st k) (hr : Rel E.C g V st a w) (hK : Next' E o a k K) : o.wp E.P a w K Q := by
  have hx := ev_ok hr.sl x
  unfold vcExtract at h
  split at h
  · rename_i l e1
    rw [e1] at hx
    obtain ⟨ys, hy, hlen, hc⟩ := hx
    split at h
    · rename_i b cs hl
      have hlt : ix < ys.length := by rw [hlen]; exact (List.getElem?_eq_some_iff.1 hl).1
      have hg : ys[ix]? = some ys[ix] := List.getElem?_eq_getElem hlt
      have hcc := hc ix b cs ys[ix] hl hg
      refine wp_value (w' := w) (y := ys[ix]) ?_ (hK g V st w (if b then .g cs else pack false cs) _ hr ?_ h)
      · simp only [execOp, ho, hy]
        refine execOp_value _ _ _ _ _ ?_
        simp [Instr.extract, hlt]
      · cases b with
        | true => simp only [if_true] at hcc ⊢; exact hcc
        | false =>
          simp only [Bool.false_eq_true, if_false] at hcc ⊢
          obtain ⟨c0, hc0⟩ : ∃ c0, cs = [c0] := by
            match cs, hcc.1 with
            | [c0], _ => exact ⟨c0, rfl⟩
          subst hc0
          exact hcc.2 0 c0 _ rfl rfl
    · exact h.elim
  · exact h.elim

theorem call_ok {c : Call} {f : Operand} (ho : o.op = .call c) (hc : c.callee = .value f) (h : vcCall E c st k) (hr : Rel E.C g V st a w) (hK : Next' E o a k K) : o.wp E.P a w K Q := by
  have hf := ev_ok hr.sl f
  unfold vcCall at h
  rw [hc] at h
  simp only at h
  split at h
  · rename_i fn caps e1
    rw [e1] at hf
    obtain ⟨l, hv, hlen, hcap⟩ := hf
    obtain ⟨henter, hcalls⟩ := h
    have := hcalls g V a w (c.args.toList.map a.eval ++ l) hr (by simp [hlen]) (fun i s y h1 h2 => by
      rw [List.getElem?_append] at h1 h2
      simp only [List.length_map] at h1 h2
      split at h1
      · rw [if_pos ‹_›] at h2; exact evs_ok hr.sl _ i s y h1 h2
      · rw [if_neg ‹_›] at h2
        rw [List.getElem?_map] at h1
        cases hcs : caps[i - c.args.toList.length]? with
        | none => rw [hcs] at h1; cases h1
        | some cs => rw [hcs] at h1; cases h1; exact hcap _ cs y hcs h2)
    unfold Oper.wp
    have hrun : (execOp a.eval o).run E.P w = .ok (.enter fn (c.args.toList.map a.eval ++ l).toArray) w := by
      have he : c.args.map a.eval ++ l.toArray = (c.args.toList.map a.eval ++ l).toArray := by
        apply Array.ext'
        simp
      simp only [execOp, ho, resolve, hc, Sem.run_bind, Deferred.ofValue, hv, Sem.run_pure, Result.andThen_ok, invoke]
      rw [Array.empty_append, he]
      exact henter _ w
    rw [hrun, Oper.upon_enter]
    refine this.mono ?_
    rintro e w' ⟨y, g', V', st', s, rfl, hr', hs, hk⟩
    exact hK g' V' st' w' s y hr' hs hk
  · exact h.elim

end
end Go.Sx
