/-
  A row's arguments, opened: what the initial world reads as, as data; and the end of a law's row.
  The rows of this seat: what all of them use.
-/
import Derived.Test.YtgglopecipbbfaaGreatL3
import Derived.ProofKit
import Derived.Test.YtgglopecipbbfaaGreatRows
import Derived.Test.YtgglopecipbbfaaGreatB6Base
import Derived.OpenShut
set_option linter.all false
section
set_option linter.all false
namespace Go.Sx
open Go Go.RowKit

def V0 (w : World) : View := fun b => match w.heap[b]? with
  | some (.cells c _ _) => some c.toList
  | _ => none
theorem V0_mod (w : World) : Mod (V0 w) w := fun b cs h => by
  unfold V0 at h
  split at h
  · rename_i c t f e
    cases h
    exact ⟨c, t, f, e, List.prefix_refl _⟩
  · cases h
theorem V0_cell {w : World} {a : Addr} {y : Value} (h : w.cell? a = some y) : (V0 w).cell a = some y := by
  unfold World.cell? at h
  unfold View.cell V0
  split at h
  · rename_i c t f e
    by_cases hs : a.spot.isSome
    · rw [if_pos hs] at h; cases h
    · rw [if_neg hs] at h ⊢
      rw [e]
      simpa using h
  · cases h

def tiles (T : Nat → Ty) : Nat → List (Nat × Nat) → Option Nat
  | o, [] => some o
  | o, p :: r => if p.1 = o ∧ (T p.2).tag ≠ 0 then tiles T (o + (T p.2).size) r else none
/-- The table is closed; a struct's fields lie one behind the other. -/
def Cl (T : Nat → Ty) : Prop := ∀ t, ((T t).tag = 1 → tiles T 0 (T t).flds = some (T t).size) ∧ ((T t).tag = 2 → (T (T t).elem).tag ≠ 0) ∧ ((T t).tag = 3 → (T t).kind = .i64 ∨ (T t).kind = .u8)
def clB (l : List Ty) (d : Ty) : Bool := match d.tag with
  | 1 => tiles (fun t => l.getD t .bad) 0 d.flds == some d.size
  | 2 => (l.getD d.elem .bad).tag != 0
  | 3 => d.kind == .i64 || d.kind == .u8
  | _ => true
theorem Cl.of_list {l : List Ty} (h : l.all (clB l) = true) : Cl (fun t => l.getD t .bad) := fun t => by
  have key : clB l (l.getD t .bad) = true := by
    rcases Nat.lt_or_ge t l.length with hl | hl
    · rw [List.getD_eq_getElem?_getD, List.getElem?_eq_getElem hl]
      exact List.all_eq_true.1 h _ (List.getElem_mem hl)
    · rw [List.getD_eq_getElem?_getD, List.getElem?_eq_none hl]; rfl
  unfold clB at key
  refine ⟨fun e => ?_, fun e => ?_, fun e => ?_⟩
  · simp only [e] at key; simpa using key
  · simp only [e] at key; simpa using key
  · simp only [e] at key; simpa using key

def ShFs (sh : Nat → List D → Prop) : List (Nat × Nat) → List D → Prop
  | [], ds => ds = []
  | p :: r, ds => ∃ a b, ds = a ++ b ∧ sh p.2 a ∧ ShFs sh r b
/-- Data of a type. -/
def ShD (T : Nat → Ty) : Nat → Nat → List D → Prop
  | 0, _, _ => False
  | n + 1, t, ds => match (T t).tag with
    | 1 => ShFs (ShD T n) (T t).flds ds
    | 2 => ∃ rows, ds = [.sl rows] ∧ rows.length ≤ maxLen ∧ ∀ r ∈ rows, ShD T n (T t).elem r
    | 3 => ∃ i, ds = [.v (.int (T t).kind i)] ∧ inR (T t).kind i
    | 4 => ∃ b, ds = [bv b]
    | 5 => ∃ s : ByteArray, ds = [sv s] ∧ s.size ≤ maxLen
    | _ => False

theorem mapM_some {α β : Type} {f : α → Option β} : ∀ {l : List α} {ys : List β}, l.mapM f = some ys → ∀ (i : Nat) (x : α), l[i]? = some x → ∃ y, f x = some y ∧ ys[i]? = some y
  | [], _, _, i, x, h => by simp at h
  | a :: l, ys, h, i, x, hx => by
    rw [List.mapM_cons] at h
    cases hfa : f a with
    | none => rw [hfa] at h; cases h
    | some b =>
      rw [hfa] at h
      cases hl : l.mapM f with
      | none => rw [hl] at h; cases h
      | some bs =>
        rw [hl] at h
        cases h
        cases i with
        | zero => simp at hx; subst hx; exact ⟨b, hfa, rfl⟩
        | succ i => simpa using mapM_some hl i x (by simpa using hx)
theorem mapM_len {α β : Type} {f : α → Option β} : ∀ {l : List α} {ys : List β}, l.mapM f = some ys → ys.length = l.length
  | [], ys, h => by cases h; rfl
  | a :: l, ys, h => by
    rw [List.mapM_cons] at h
    cases hfa : f a with
    | none => rw [hfa] at h; cases h
    | some b =>
      rw [hfa] at h
      cases hl : l.mapM f with
      | none => rw [hl] at h; cases h
      | some bs => rw [hl] at h; cases h; simp [mapM_len hl]

theorem rows_map {α : Type} (enc : α → List D) (wf : α → Prop) : ∀ {rows : List (List D)}, (∀ r ∈ rows, ∃ x, r = enc x ∧ wf x) → ∃ l : List α, rows = l.map enc ∧ ∀ x ∈ l, wf x
  | [], _ => ⟨[], rfl, fun x h => by cases h⟩
  | r :: rows, h => by
    obtain ⟨x, rfl, hx⟩ := h r (by simp)
    obtain ⟨l, rfl, hl⟩ := rows_map enc wf (rows := rows) fun r hr => h r (by simp [hr])
    exact ⟨x :: l, rfl, fun y hy => (List.mem_cons.1 hy).elim (fun e => e ▸ hx) (hl y)⟩

section
variable {H : Type} {enc : TypeId × Value → H} {P : Program} {w : World} {T : Nat → Ty}

theorem cells_some {base : Nat} {a : Addr} {n : Nat} {cs : List Value} (h : w.cells? base a n = some cs) : cs.length = n ∧ ∀ k y, cs[k]? = some y → (V0 w).cell (a.add k) = some y := by
  unfold World.cells? at h
  split at h
  · have hl := mapM_len h
    rw [List.length_range] at hl
    refine ⟨hl, fun k y hk => ?_⟩
    have hk' : k < n := by rw [← hl]; exact (List.getElem?_eq_some_iff.1 hk).1
    obtain ⟨y', h1, h2⟩ := mapM_some h k k (by simp [hk'])
    rw [hk] at h2; cases h2
    exact V0_cell h1
  · cases h

theorem TyGood.cells {t : Nat} {d : Ty} {i : TypeInfo} {z : Value} {u : TypeDesc} (h : TyGood P t d i z u) : P.cellsOf t = d.size := by
  simp [Program.cellsOf, h.info, h.size]
theorem TyOK.cells (hT : TyOK P T) {t : Nat} (ht : (T t).tag ≠ 0) : P.cellsOf t = (T t).size := by
  obtain ⟨i, z, u, h⟩ := hT.good ht; exact h.cells

theorem trod_flds (hT : TyOK P T) {n : Nat} {sh : Nat → List D → Prop} {spare : Nat → Bool}
    (ih : ∀ t cs d ps, (T t).tag ≠ 0 → DataW.trod enc P w 0 spare true n t cs = some (d, ps) → ∃ ds Ss, sh t ds ∧ LayL (V0 w) ds cs Ss) {cs : List Value} :
    ∀ {fs : List Field} {ps : List (Nat × Nat)} {o : Nat} {xs : List (DataW H × List MemPlace)}, fldsAre fs ps = true → tiles T o ps = some cs.length →
      (fs.mapM fun f => DataW.trod enc P w 0 spare true n f.type ((cs.drop f.offset).take (P.cellsOf f.type))) = some xs → ∃ ds Ss, ShFs sh ps ds ∧ LayL (V0 w) ds (cs.drop o) Ss
  | [], [], o, xs, _, ht, _ => by
    simp only [tiles, Option.some.injEq] at ht
    subst ht
    exact ⟨[], [], rfl, by rw [List.drop_length]; exact LayL.nil _⟩
  | f :: fs, p :: ps, o, xs, hf, ht, hm => by
    simp only [fldsAre, Bool.and_eq_true, beq_iff_eq] at hf
    simp only [tiles] at ht
    split at ht
    · rename_i hp
      rw [List.mapM_cons] at hm
      cases h1 : DataW.trod enc P w 0 spare true n f.type ((cs.drop f.offset).take (P.cellsOf f.type)) with
      | none => rw [h1] at hm; cases hm
      | some x =>
        rw [h1] at hm
        cases h2 : (fs.mapM fun f => DataW.trod enc P w 0 spare true n f.type ((cs.drop f.offset).take (P.cellsOf f.type))) with
        | none => rw [h2] at hm; cases hm
        | some ys =>
          obtain ⟨ds, Ss, q1, q2⟩ := ih _ _ x.1 x.2 (by rw [hf.1.2]; exact hp.2) h1
          obtain ⟨ds', Ss', q3, q4⟩ := trod_flds hT ih hf.2 ht h2
          rw [hf.1.2] at q1 q2
          rw [hT.cells hp.2, hf.1.1, hp.1] at q2
          refine ⟨ds ++ ds', Ss ++ Ss', ⟨ds, ds', rfl, q1, q3⟩, ?_⟩
          have e : cs.drop o = (cs.drop o).take (T p.2).size ++ cs.drop (o + (T p.2).size) := by
            rw [← List.drop_drop, List.take_append_drop]
          rw [e]
          exact q2.append q4
    · cases ht
  | [], _ :: _, _, _, h, _, _ => by simp [fldsAre] at h
  | _ :: _, [], _, _, h, _, _ => by simp [fldsAre] at h

theorem trod_rows {sh : List D → Prop} {a : Addr} {sz : Nat} {g : List Value → Option (DataW H × List MemPlace)}
    (ih : ∀ cs d ps, g cs = some (d, ps) → ∃ ds Ss, sh ds ∧ LayL (V0 w) ds cs Ss) :
    ∀ {n : Nat}, (∀ i, i < n → ∃ x, ((w.cells? 0 (a.add (i * sz)) sz).bind g) = some x) →
      ∃ (rows : List (List D)) (ys : List Value) (Ss : List (List Nat)), rows.length = n ∧ (∀ r ∈ rows, sh r ∧ r.length = sz) ∧ ys.length = n * sz ∧ (∀ k y, ys[k]? = some y → (V0 w).cell (a.add k) = some y) ∧ LayL (V0 w) rows.flatten ys Ss
  | 0, _ => ⟨[], [], [], rfl, fun r h => (by cases h), by simp, fun k y h => (by simp at h), LayL.nil _⟩
  | n + 1, h => by
    obtain ⟨rows, ys, Ss, r1, r2, r3, r4, r5⟩ := trod_rows ih (n := n) fun i hi => h i (by omega)
    obtain ⟨x, hx⟩ := h n (by omega)
    cases hc : w.cells? 0 (a.add (n * sz)) sz with
    | none => rw [hc] at hx; cases hx
    | some cs =>
      rw [hc] at hx
      obtain ⟨ds, Ss', q1, q2⟩ := ih cs x.1 x.2 hx
      obtain ⟨c1, c2⟩ := cells_some hc
      refine ⟨rows ++ [ds], ys ++ cs, Ss ++ Ss', by simp [r1], fun r hr => ?_, by simp [r3, c1, Nat.succ_mul], fun k y hk => ?_, by simpa using r5.append q2⟩
      · rcases List.mem_append.1 hr with hr | hr
        · exact r2 r hr
        · rw [List.mem_singleton] at hr; subst hr; exact ⟨q1, by rw [← q2.1, c1]⟩
      · rw [List.getElem?_append] at hk
        split at hk
        · exact r4 k y hk
        · rename_i hlt
          have := c2 _ y hk
          rw [add_add] at this
          rw [r3] at this hlt
          rwa [show n * sz + (k - n * sz) = k by omega] at this

theorem trod_sh (hT : TyOK P T) (hC : Cl T) : ∀ {n t : Nat} {cs : List Value} {d : DataW H} {ps : List MemPlace}, (T t).tag ≠ 0 → DataW.trod enc P w 0 (fun _ => true) true n t cs = some (d, ps) → ∃ ds Ss, ShD T n t ds ∧ LayL (V0 w) ds cs Ss
  | 0, _, _, _, _, _, h => by simp [DataW.trod] at h
  | n + 1, t, cs, d, ps, ht, h => by
    obtain ⟨i, z, u, hg⟩ := hT.good ht
    have one : ∀ {d : D} {y : Value}, (∃ S, Lay (V0 w) d y S) → ∃ Ss, LayL (V0 w) [d] [y] Ss := fun ⟨S, hS⟩ => ⟨[S], rfl, rfl, fun k d' y' S' h1 h2 h3 => by
      cases k with
      | zero => simp at h1 h2 h3; subst h1; subst h2; subst h3; exact hS
      | succ k => simp at h1⟩
    have hu := hg.und
    have huok := hg.uok
    by_cases e1 : (T t).tag = 1
    · obtain ⟨fs, rfl, hf⟩ := hg.struct e1
      simp only [DataW.trod, hu] at h
      split at h
      · rename_i hlen
        simp only [Option.map_eq_some_iff] at h
        obtain ⟨xs, hm, _⟩ := h
        rw [hg.cells] at hlen
        obtain ⟨ds, Ss, q1, q2⟩ := trod_flds (sh := ShD T n) hT (fun t cs d ps ht h => trod_sh hT hC ht h) hf (by rw [hlen]; exact (hC t).1 e1) hm
        exact ⟨ds, Ss, by simp only [ShD, e1]; exact q1, by simpa using q2⟩
      · cases h
    by_cases e2 : (T t).tag = 2
    · have := hg.slice e2
      subst this
      have he := (hC t).2.1 e2
      simp only [DataW.trod, hu] at h
      split at h <;> try (simp_all; done)
      · rename_i e' hh; injection hh with hh; injection hh with hh; subst hh
        obtain ⟨Ss, hL⟩ := one ⟨[], Lay.nil (V := V0 w)⟩
        exact ⟨[.sl []], Ss, by simp only [ShD, e2]; exact ⟨[], rfl, by simp, fun r h => by cases h⟩, hL⟩
      · rename_i e' a len cap hh
        injection hh with hh; injection hh with hh; subst hh
        split at h
        · rename_i hc
          simp only [Option.bind_eq_some_iff] at h
          obtain ⟨elems, hm, _⟩ := h
          have hcell := hT.cells he
          rw [hcell] at hm
          obtain ⟨rows, ys, Ss, r1, r2, r3, r4, r5⟩ := trod_rows (w := w) (a := a) (sz := (T (T t).elem).size) (sh := ShD T n (T t).elem) (g := DataW.trod enc P w 0 (fun _ => true) true n (T t).elem) (fun cs d ps h => trod_sh hT hC he h) (n := len) (fun i hi => by
            obtain ⟨y, h1, _⟩ := mapM_some hm i i (by simp [hi])
            exact ⟨y, h1⟩)
          obtain ⟨Ss', hL⟩ := one ⟨_, Lay.sl (V := V0 w) rows a cap (T (T t).elem).size ys Ss (fun r hr => (r2 r hr).2) (by omega) hc.2.2 (by rw [r5.1]) r5.2.1 r4 r5.2.2⟩
          rw [r1] at hL
          exact ⟨[.sl rows], Ss', by simp only [ShD, e2]; exact ⟨rows, rfl, by omega, fun r hr => (r2 r hr).1⟩, hL⟩
        · cases h
    by_cases e3 : (T t).tag = 3
    · have := hg.int e3
      subst this
      have hk := (hC t).2.2 e3
      simp only [DataW.trod, hu] at h
      split at h <;> try (simp_all; done)
      rename_i k k' m hh
      injection hh with hh; injection hh with hh; subst hh
      split at h
      · rename_i hw
        obtain ⟨rfl, hw⟩ := hw
        obtain ⟨Ss, hL⟩ := one ⟨[], Lay.v (V := V0 w) (.int _ m) rfl⟩
        have hin : inR (T t).kind m := by
          simp only [Lit.wf, Bool.and_eq_true, decide_eq_true_eq] at hw
          rcases hk with hk | hk <;> rw [hk] at hw ⊢ <;> simpa [inR, IntKind.min, IntKind.max, IntKind.bits, IntKind.signed] using hw
        exact ⟨_, Ss, by simp only [ShD, e3]; exact ⟨m, rfl, hin⟩, hL⟩
      · cases h
    by_cases e4 : (T t).tag = 4
    · have := hg.bool e4
      subst this
      simp only [DataW.trod, hu] at h
      split at h <;> try (simp_all; done)
      rename_i b _
      obtain ⟨Ss, hL⟩ := one ⟨[], Lay.v (V := V0 w) (.bool b) rfl⟩
      exact ⟨_, Ss, by simp only [ShD, e4]; exact ⟨b, rfl⟩, hL⟩
    by_cases e5 : (T t).tag = 5
    · have := hg.string e5
      subst this
      simp only [DataW.trod, hu] at h
      split at h <;> try (simp_all; done)
      rename_i s _
      split at h
      · rename_i hs
        obtain ⟨Ss, hL⟩ := one ⟨[], Lay.v (V := V0 w) (.string s) rfl⟩
        exact ⟨_, Ss, by simp only [ShD, e5]; exact ⟨s, rfl, hs⟩, hL⟩
      · cases h
    · exfalso
      unfold undIs at huok
      split at huok <;> simp_all

/-- The argument of a type, as the walk has it. -/
def pk (T : Nat → Ty) (t : Nat) (ds : List D) : SV := pack (T t).agg (ds.map .d)
def ShAll (T : Nat → Ty) : List Nat → List (List D) → Prop
  | [], [] => True
  | t :: ts, d :: ds => (∃ n, ShD T n t d) ∧ ShAll T ts ds
  | _, _ => False
def pks (T : Nat → Ty) : List Nat → List (List D) → List SV
  | t :: ts, d :: ds => pk T t d :: pks T ts ds
  | _, _ => []

theorem LayL_cL {V : View} {ds : List D} {ys : List Value} {Ss : List (List Nat)} (h : LayL V ds ys Ss) : cL [] V (ds.map .d) ys := by
  refine ⟨by simpa using h.1, fun k a y h1 h2 => ?_⟩
  rw [List.getElem?_map] at h1
  cases hd : ds[k]? with
  | none => rw [hd] at h1; cases h1
  | some d =>
    rw [hd] at h1; cases h1
    have hk : k < Ss.length := by rw [h.2.1]; exact (List.getElem?_eq_some_iff.1 hd).1
    exact ⟨_, h.2.2 k d y _ hd h2 (List.getElem?_eq_getElem hk)⟩

theorem open_arg (hT : TyOK P T) (hC : Cl T) {t : Nat} (ht : (T t).tag ≠ 0) {r : Reach} {base : Nat} {v : Value} {d : DataW H} {ps : List MemPlace}
    (hval : Value.okWide P w r base t v) (h : DataW.Trod enc P w 0 (fun _ => true) true t v d ps) : ∃ ds, (∃ n, ShD T n t ds) ∧ cSV [] (V0 w) (pk T t ds) v := by
  obtain ⟨n, h⟩ := h
  obtain ⟨i, z, u, hg⟩ := hT.good ht
  obtain ⟨ds, Ss, q1, q2⟩ := trod_sh hT hC ht h
  refine ⟨ds, ⟨n, q1⟩, ?_⟩
  have hu := hg.und
  unfold Value.okWide at hval
  by_cases e1 : (T t).tag = 1
  · obtain ⟨fs, rfl, hf⟩ := hg.struct e1
    rw [hu] at hval
    obtain ⟨cs, rfl, _⟩ := hval
    simp only [pk, Ty.agg, e1, pack]
    exact ⟨cs.toList, rfl, LayL_cL q2⟩
  · have hag : (T t).agg = false := by simp [Ty.agg, e1]
    have hv : v.cells.toList = [v] := by
      have huok := hg.uok
      cases v with
      | agg cs =>
        exfalso
        rw [hu] at hval
        unfold undIs at huok
        split at huok <;> simp_all [Cell.okWide, Cell.ok]
      | _ => rfl
    rw [hv] at q2
    obtain ⟨c1, c2⟩ := LayL_cL q2
    have hl : ds.length = 1 := by simpa using c1.symm
    match ds, hl with
    | [x], _ =>
      simp only [pk, hag, pack, List.map_cons, List.map_nil]
      exact c2 0 _ _ rfl rfl

theorem open_args (hT : TyOK P T) (hC : Cl T) {r : Reach} {base : Nat} : ∀ {ts : List Nat} {vs : List Value} {dd : List (DataW H)} {ps : List MemPlace}, (∀ t ∈ ts, (T t).tag ≠ 0) →
    (∀ (j : Nat) (t : Nat) (v : Value), ts[j]? = some t → vs[j]? = some v → Value.okWide P w r base t v) → DataW.TrodAll enc P w 0 (fun _ => true) true ts vs dd ps → ∃ dss, ShAll T ts dss ∧ cArgs (V0 w) (pks T ts dss) vs
  | [], [], [], _, _, _, _ => ⟨[], trivial, rfl, fun k s y h => by simp [pks] at h⟩
  | t :: ts, v :: vs, d :: dd, ps, ht, hval, h => by
    obtain ⟨p, q, h1, h2, _⟩ := h
    obtain ⟨ds, s1, s2⟩ := open_arg hT hC (ht t (by simp)) (hval 0 t v rfl rfl) h1
    obtain ⟨dss, s3, s4⟩ := open_args hT hC (fun t ht' => ht t (by simp [ht'])) (fun j t v a b => hval (j + 1) t v (by simpa using a) (by simpa using b)) h2
    refine ⟨ds :: dss, ⟨s1, s3⟩, by simp [pks, s4.1], fun k s y a b => ?_⟩
    cases k with
    | zero => simp [pks] at a b; subst a; subst b; exact s2
    | succ k => exact s4.2 k s y (by simpa [pks] using a) (by simpa using b)
  | [], _ :: _, _, _, _, _, h => by simp [DataW.TrodAll] at h
  | [], [], _ :: _, _, _, _, h => by simp [DataW.TrodAll] at h
  | _ :: _, [], _, _, _, _, h => by simp [DataW.TrodAll] at h
  | _ :: _, _ :: _, [], _, _, _, h => by simp [DataW.TrodAll] at h

theorem trodAll_below (hl : laidOutB P = true) {W' : World} (hb : Below w.heap.size w W') : ∀ {ts : List Nat} {vs : List Value} {dd : List (DataW H)} {ps : List MemPlace}, (∀ t ∈ ts, P.readableRec t = true ∧ t < P.types.size) →
    DataW.TrodAll enc P w 0 (fun _ => true) true ts vs dd ps → (∀ x ∈ ps, x.block < w.heap.size) → DataW.TrodAll enc P W' 0 (fun b => decide (b < w.heap.size)) true ts vs dd ps
  | [], [], [], _, _, h, _ => h
  | t :: ts, v :: vs, d :: dd, ps, ht, h, hlt => by
    obtain ⟨p, q, h1, h2, rfl⟩ := h
    obtain ⟨r1, r2⟩ := ht t (by simp)
    exact ⟨p, q, Below.trod hl r1 r2 h1 hb (fun x hx => hlt x (List.mem_append.2 (.inl hx))), trodAll_below hl hb (fun t ht' => ht t (by simp [ht'])) h2 (fun x hx => hlt x (List.mem_append.2 (.inr hx))), rfl⟩
  | [], _ :: _, _, _, _, h, _ => by simp [DataW.TrodAll] at h
  | [], [], _ :: _, _, _, h, _ => by simp [DataW.TrodAll] at h
  | _ :: _, [], _, _, _, h, _ => by simp [DataW.TrodAll] at h
  | _ :: _, _ :: _, [], _, _, h, _ => by simp [DataW.TrodAll] at h

theorem trodAll_len {W : World} {sp : Nat → Bool} {b : Nat} {hd : Bool} : ∀ {ts : List Nat} {vs : List Value} {dd : List (DataW H)} {ps : List MemPlace}, DataW.TrodAll enc P W b sp hd ts vs dd ps → dd.length = ts.length
  | [], [], [], _, _ => rfl
  | t :: ts, v :: vs, d :: dd, ps, h => by
    obtain ⟨p, q, _, h2, _⟩ := h
    simp [trodAll_len h2]
  | [], _ :: _, _, _, h => by simp [DataW.TrodAll] at h
  | [], [], _ :: _, _, h => by simp [DataW.TrodAll] at h
  | _ :: _, [], _, _, h => by simp [DataW.TrodAll] at h
  | _ :: _, _ :: _, [], _, h => by simp [DataW.TrodAll] at h

/-- A law's row: what 'returnsInHanded_of_change' asks of the calls. -/
theorem law_row {fresh : Bool} (hT : TyOK P T) (hC : Cl T) (hl : laidOutB P = true) {f : Nat} {fn : Func} {s : ChangeSpec} {tb : Nat} (hv : s.vars = []) (hs : ∀ dd : List (DataW H), dd.length = fn.params.toList.length → s.fn H dd = { results := [.lit (.bool true)], args := dd })
    (hrt : fn.resultTypes = #[tb]) (hb : P.underlying tb = some .bool) (ht : fn.params.toList.all (fun t => (T t).tag != 0 && P.readableRec t && decide (t < P.types.size)) = true)
    (hf : ∀ dss, ShAll T fn.params.toList dss → FnC P f (pks T fn.params.toList dss) (ob true))
    {W : World} {r : Reach} {base : Nat} {args : Array Value} {ds gs : List (DataW H)} {before : List MemPlace}
    (hval : ∀ (j : Nat) (t : Nat) (v : Value), fn.params[j]? = some t → args[j]? = some v → Value.okWide P W r base t v) (hW : DataW.Whole enc P fn.params.toList s.vars false W args.toList ds gs before) :
    Calls P f args W fun e W' => ∃ v, e = .returned v ∧ s.post enc P fn false fresh false false W args v W' := by
  have hW' := hW
  obtain ⟨p, q, hA, hV, rfl, _, _⟩ := hW
  rw [hv] at hV
  obtain ⟨rfl, rfl⟩ := ChangeShapes.trodVars_none hV
  have ht' : ∀ t ∈ fn.params.toList, (T t).tag ≠ 0 ∧ P.readableRec t = true ∧ t < P.types.size := fun t h => by
    have := List.all_eq_true.1 ht t h
    simpa [and_assoc] using this
  obtain ⟨dss, h1, h2⟩ := open_args hT hC (fun t h => (ht' t h).1) (fun j t v a b => hval j t v (by simpa using a) (by simpa using b)) hA
  have hc := (hf dss h1).calls (V0 W) W args.toList (V0_mod W) h2
  rw [Array.toArray_toList] at hc
  refine hc.mono fun e W' ⟨y, he, hd⟩ => ⟨y, he, ?_⟩
  have hy : y = .bool true := by
    obtain ⟨V', S, _, _, _, ⟨l, hs, hr⟩, _⟩ := hd.out
    obtain ⟨Ss, r1, r2, r3, r4⟩ := hr
    have hl : l = [y] := hs
    subst hl
    obtain ⟨_, T', hL⟩ := r4 0 (.d (bv true)) y _ rfl rfl (List.getElem?_eq_getElem (by rw [r2]; simp [SV.all]))
    cases hL; rfl
  subst hy
  have hbel := hd.below
  have hlen := trodAll_len hA
  have e : s.fn H (ds ++ []) = { results := [.lit (.bool true)], args := ds } := by rw [List.append_nil]; exact hs ds hlen
  refine ⟨ds, [], _, [], p, [], hW', ?_, ?_, ?_, hbel.frame _, fun h => by cases h⟩
  · rw [e, hrt]
    exact ChangeShapes.trodAll_mk1 (shut_bool hb true)
  · rw [e]
    exact trodAll_below hl hbel (fun t h => (ht' t h).2) hA (fun x hx => hW'.lt x (List.mem_append.2 (.inl hx)))
  · rw [e, hv]; rfl
end
end Go.Sx
end

section
set_option linter.all false
namespace Go.Proofs.YtgglopecipbbfaaGreat
open Go Go.Sx Go.RowKit

theorem ttCl : Cl tt := Cl.of_list (by kernel_rfl)
theorem own : ownKnob Tryz.prog.godebug = none := by kernel_rfl
theorem laidOut : laidOutB Tryz.prog = true := by kernel_rfl
end Go.Proofs.YtgglopecipbbfaaGreat
end
