/- Joined texts. -/
import Derived.Test.YtgfngchfmohhbaaDoorZ04
import Derived.ProofKit
import Derived.Test.YtgfngchfmohhbaaDoorRows
import Derived.Test.YtgfngchfmohhbaaDoorZ05
import Derived.OpenShut
set_option linter.all false
section
section
set_option linter.all false
namespace Go.Sx
open Go Go.RowKit
def V0 (w : World) : View := fun b => match w.heap[b]? with
 | some (.cells c _ _) => some c.toList
 | _ => none
theorem a4A (w : World) : Mod (V0 w) w := fun b cs h => by
 unfold V0 at h
 split at h
 ·rename_i c t f e
  cases h
  exact ⟨c, t, f, e, List.prefix_refl _⟩
 ·cases h
theorem a3x {w : World} {a : Addr} {y : Value} (h : w.cell? a = some y) : (V0 w).cell a = some y := by
 unfold World.cell? at h
 unfold View.cell V0
 split at h
 ·rename_i c t f e
  by_cases hs : a.spot.isSome
  ·rw [if_pos hs] at h; cases h
  ·rw [if_neg hs] at h ⊢
   rw [e]
   simpa using h
 ·cases h
def vU (T : Nat → Ty) : Nat → List (Nat × Nat) → Option Nat
 | o, [] => some o
 | o, p :: r => if p.1 = o ∧ (T p.2).tag ≠ 0 then vU T (o + (T p.2).size) r else none
def Cl (T : Nat → Ty) : Prop := ∀ t, ((T t).tag = 1 → vU T 0 (T t).flds = some (T t).size) ∧ ((T t).tag = 2 → (T (T t).elem).tag ≠ 0) ∧ ((T t).tag = 3 → (T t).kind = .i64 ∨ (T t).kind = .u8)
def clB (l : List Ty) (d : Ty) : Bool := match d.tag with
 | 1 => vU (fun t => l.getD t .bad) 0 d.flds == some d.size
 | 2 => (l.getD d.elem .bad).tag != 0
 | 3 => d.kind == .i64 || d.kind == .u8
 | _ => true
theorem Cl.of_list {l : List Ty} (h : l.all (clB l) = true) : Cl (fun t => l.getD t .bad) := fun t => by
 have key : clB l (l.getD t .bad) = true := by
  rcases Nat.lt_or_ge t l.length with hl | hl
  ·rw [List.getD_eq_getElem?_getD, List.getElem?_eq_getElem hl]
   exact List.all_eq_true.1 h _ (List.getElem_mem hl)
  ·rw [List.getD_eq_getElem?_getD, List.getElem?_eq_none hl]; rfl
 unfold clB at key
 refine ⟨fun e => ?_, fun e => ?_, fun e => ?_⟩
 ·simp only [e] at key; simpa using key
 ·simp only [e] at key; simpa using key
 ·simp only [e] at key; simpa using key
def ShFs (sh : Nat → List D → Prop) : List (Nat × Nat) → List D → Prop
 | [], ds => ds = []
 | p :: r, ds => ∃ a b, ds = a ++ b ∧ sh p.2 a ∧ ShFs sh r b
def ShD (T : Nat → Ty) : Nat → Nat → List D → Prop
 | 0, _, _ => False
 | n + 1, t, ds => match (T t).tag with
  | 1 => ShFs (ShD T n) (T t).flds ds
  | 2 => ∃ rows, ds = [.sl rows] ∧ rows.length ≤ maxLen ∧ ∀ r ∈ rows, ShD T n (T t).elem r
  | 3 => ∃ i, ds = [.v (.int (T t).kind i)] ∧ inR (T t).kind i
  | 4 => ∃ b, ds = [bv b]
  | 5 => ∃ s : ByteArray, ds = [sv s] ∧ s.size ≤ maxLen
  | _ => False
theorem oJ {α β : Type} {f : α → Option β} : ∀ {l : List α} {ys : List β}, l.mapM f = some ys → ∀ (i : Nat) (x : α), l[i]? = some x → ∃ y, f x = some y ∧ ys[i]? = some y
 | [], _, _, i, x, h => by simp at h
 | a :: l, ys, h, i, x, hx => by
  rw [List.mapM_cons] at h
  cases hfa : f a with
  | none => rw [hfa] at h; cases h
  | some b =>
   rw [hfa] at h
   cases hl : l.mapM f with
   | none => rw [hl] at h; cases h
   | some bs =>
    rw [hl] at h
    cases h
    cases i with
    | zero => simp at hx; subst hx; exact ⟨b, hfa, rfl⟩
    | succ i => simpa using oJ hl i x (by simpa using hx)
theorem yY {α β : Type} {f : α → Option β} : ∀ {l : List α} {ys : List β}, l.mapM f = some ys → ys.length = l.length
 | [], ys, h => by cases h; rfl
 | a :: l, ys, h => by
  rw [List.mapM_cons] at h
  cases hfa : f a with
  | none => rw [hfa] at h; cases h
  | some b =>
   rw [hfa] at h
   cases hl : l.mapM f with
   | none => rw [hl] at h; cases h
   | some bs => rw [hl] at h; cases h; simp [yY hl]
theorem kJ {α : Type} (enc : α → List D) (wf : α → Prop) : ∀ {rows : List (List D)}, (∀ r ∈ rows, ∃ x, r = enc x ∧ wf x) → ∃ l : List α, rows = l.map enc ∧ ∀ x ∈ l, wf x
 | [], _ => ⟨[], rfl, fun x h => by cases h⟩
 | r :: rows, h => by
  obtain ⟨x, rfl, hx⟩ := h r (by simp)
  obtain ⟨l, rfl, hl⟩ := kJ enc wf (rows := rows) fun r hr => h r (by simp [hr])
  exact ⟨x :: l, rfl, fun y hy => (List.mem_cons.1 hy).elim (fun e => e ▸ hx) (hl y)⟩
section
variable {H : Type} {enc : TypeId × Value → H} {P : Program} {w : World} {T : Nat → Ty}
theorem a0B {base : Nat} {a : Addr} {n : Nat} {cs : List Value} (h : w.cells? base a n = some cs) : cs.length = n ∧ ∀ k y, cs[k]? = some y → (V0 w).cell (a.add k) = some y := by
 unfold World.cells? at h
 split at h
 ·have hl := yY h
  rw [List.length_range] at hl
  refine ⟨hl, fun k y hk => ?_⟩
  have hk' : k < n := by rw [← hl]; exact (List.getElem?_eq_some_iff.1 hk).1
  obtain ⟨y', h1, h2⟩ := oJ h k k (by simp [hk'])
  rw [hk] at h2; cases h2
  exact a3x h1
 ·cases h
theorem TyGood.cells {t : Nat} {d : Ty} {i : TypeInfo} {z : Value} {u : TypeDesc} (h : TyGood P t d i z u) : P.cellsOf t = d.size := by
 simp [Program.cellsOf, h.info, h.size]
theorem TyOK.cells (hT : TyOK P T) {t : Nat} (ht : (T t).tag ≠ 0) : P.cellsOf t = (T t).size := by
 obtain ⟨i, z, u, h⟩ := hT.good ht; exact h.cells
theorem vV (hT : TyOK P T) {n : Nat} {sh : Nat → List D → Prop} {spare : Nat → Bool}
    (ih : ∀ t cs d ps, (T t).tag ≠ 0 → DataW.trod enc P w 0 spare true n t cs = some (d, ps) → ∃ ds Ss, sh t ds ∧ LayL (V0 w) ds cs Ss) {cs : List Value} :
    ∀ {fs : List Field} {ps : List (Nat × Nat)} {o : Nat} {xs : List (DataW H × List MemPlace)}, cZ fs ps = true → vU T o ps = some cs.length →
     (fs.mapM fun f => DataW.trod enc P w 0 spare true n f.type ((cs.drop f.offset).take (P.cellsOf f.type))) = some xs → ∃ ds Ss, ShFs sh ps ds ∧ LayL (V0 w) ds (cs.drop o) Ss
 | [], [], o, xs, _, ht, _ => by
  simp only [vU, Option.some.injEq] at ht
  subst ht
  exact ⟨[], [], rfl, by rw [List.drop_length]; exact LayL.nil _⟩
 | f :: fs, p :: ps, o, xs, hf, ht, hm => by
  simp only [cZ, Bool.and_eq_true, beq_iff_eq] at hf
  simp only [vU] at ht
  split at ht
  ·rename_i hp
   rw [List.mapM_cons] at hm
   cases h1 : DataW.trod enc P w 0 spare true n f.type ((cs.drop f.offset).take (P.cellsOf f.type)) with
   | none => rw [h1] at hm; cases hm
   | some x =>
    rw [h1] at hm
    cases h2 : (fs.mapM fun f => DataW.trod enc P w 0 spare true n f.type ((cs.drop f.offset).take (P.cellsOf f.type))) with
    | none => rw [h2] at hm; cases hm
    | some ys =>
     obtain ⟨ds, Ss, q1, q2⟩ := ih _ _ x.1 x.2 (by rw [hf.1.2]; exact hp.2) h1
     obtain ⟨ds', Ss', q3, q4⟩ := vV hT ih hf.2 ht h2
     rw [hf.1.2] at q1 q2
     rw [hT.cells hp.2, hf.1.1, hp.1] at q2
     refine ⟨ds ++ ds', Ss ++ Ss', ⟨ds, ds', rfl, q1, q3⟩, ?_⟩
     have e : cs.drop o = (cs.drop o).take (T p.2).size ++ cs.drop (o + (T p.2).size) := by
      rw [← List.drop_drop, List.take_append_drop]
     rw [e]
     exact q2.append q4
  ·cases ht
 | [], _ :: _, _, _, h, _, _ => by simp [cZ] at h
 | _ :: _, [], _, _, h, _, _ => by simp [cZ] at h
theorem vW {sh : List D → Prop} {a : Addr} {sz : Nat} {g : List Value → Option (DataW H × List MemPlace)}
    (ih : ∀ cs d ps, g cs = some (d, ps) → ∃ ds Ss, sh ds ∧ LayL (V0 w) ds cs Ss) :
    ∀ {n : Nat}, (∀ i, i < n → ∃ x, ((w.cells? 0 (a.add (i * sz)) sz).bind g) = some x) →
     ∃ (rows : List (List D)) (ys : List Value) (Ss : List (List Nat)), rows.length = n ∧ (∀ r ∈ rows, sh r ∧ r.length = sz) ∧ ys.length = n * sz ∧ (∀ k y, ys[k]? = some y → (V0 w).cell (a.add k) = some y) ∧ LayL (V0 w) rows.flatten ys Ss
 | 0, _ => ⟨[], [], [], rfl, fun r h => (by cases h), by simp, fun k y h => (by simp at h), LayL.nil _⟩
 | n + 1, h => by
  obtain ⟨rows, ys, Ss, r1, r2, r3, r4, r5⟩ := vW ih (n := n) fun i hi => h i (by omega)
  obtain ⟨x, hx⟩ := h n (by omega)
  cases hc : w.cells? 0 (a.add (n * sz)) sz with
  | none => rw [hc] at hx; cases hx
  | some cs =>
   rw [hc] at hx
   obtain ⟨ds, Ss', q1, q2⟩ := ih cs x.1 x.2 hx
   obtain ⟨c1, c2⟩ := a0B hc
   refine ⟨rows ++ [ds], ys ++ cs, Ss ++ Ss', by simp [r1], fun r hr => ?_, by simp [r3, c1, Nat.succ_mul], fun k y hk => ?_, by simpa using r5.append q2⟩
   ·rcases List.mem_append.1 hr with hr | hr
    ·exact r2 r hr
    ·rw [List.mem_singleton] at hr; subst hr; exact ⟨q1, by rw [← q2.1, c1]⟩
   ·rw [List.getElem?_append] at hk
    split at hk
    ·exact r4 k y hk
    ·rename_i hlt
     have := c2 _ y hk
     rw [mZ] at this
     rw [r3] at this hlt
     rwa [show n * sz + (k - n * sz) = k by omega] at this
theorem xJ (hT : TyOK P T) (hC : Cl T) : ∀ {n t : Nat} {cs : List Value} {d : DataW H} {ps : List MemPlace}, (T t).tag ≠ 0 → DataW.trod enc P w 0 (fun _ => true) true n t cs = some (d, ps) → ∃ ds Ss, ShD T n t ds ∧ LayL (V0 w) ds cs Ss
 | 0, _, _, _, _, _, h => by simp [DataW.trod] at h
 | n + 1, t, cs, d, ps, ht, h => by
  obtain ⟨i, z, u, hg⟩ := hT.good ht
  have one : ∀ {d : D} {y : Value}, (∃ S, Lay (V0 w) d y S) → ∃ Ss, LayL (V0 w) [d] [y] Ss := fun ⟨S, hS⟩ => ⟨[S], rfl, rfl, fun k d' y' S' h1 h2 h3 => by
   cases k with
   | zero => simp at h1 h2 h3; subst h1; subst h2; subst h3; exact hS
   | succ k => simp at h1⟩
  have hu := hg.und
  have huok := hg.uok
  by_cases e1 : (T t).tag = 1
  ·obtain ⟨fs, rfl, hf⟩ := hg.struct e1
   simp only [DataW.trod, hu] at h
   split at h
   ·rename_i hlen
    simp only [Option.map_eq_some_iff] at h
    obtain ⟨xs, hm, _⟩ := h
    rw [hg.cells] at hlen
    obtain ⟨ds, Ss, q1, q2⟩ := vV (sh := ShD T n) hT (fun t cs d ps ht h => xJ hT hC ht h) hf (by rw [hlen]; exact (hC t).1 e1) hm
    exact ⟨ds, Ss, by simp only [ShD, e1]; exact q1, by simpa using q2⟩
   ·cases h
  by_cases e2 : (T t).tag = 2
  ·have := hg.slice e2
   subst this
   have he := (hC t).2.1 e2
   simp only [DataW.trod, hu] at h
   split at h <;> try (simp_all; done)
   ·rename_i e' hh; injection hh with hh; injection hh with hh; subst hh
    obtain ⟨Ss, hL⟩ := one ⟨[], Lay.nil (V := V0 w)⟩
    exact ⟨[.sl []], Ss, by simp only [ShD, e2]; exact ⟨[], rfl, by simp, fun r h => by cases h⟩, hL⟩
   ·rename_i e' a len cap hh
    injection hh with hh; injection hh with hh; subst hh
    split at h
    ·rename_i hc
     simp only [Option.bind_eq_some_iff] at h
     obtain ⟨elems, hm, _⟩ := h
     have hcell := hT.cells he
     rw [hcell] at hm
     obtain ⟨rows, ys, Ss, r1, r2, r3, r4, r5⟩ := vW (w := w) (a := a) (sz := (T (T t).elem).size) (sh := ShD T n (T t).elem) (g := DataW.trod enc P w 0 (fun _ => true) true n (T t).elem) (fun cs d ps h => xJ hT hC he h) (n := len) (fun i hi => by
      obtain ⟨y, h1, _⟩ := oJ hm i i (by simp [hi])
      exact ⟨y, h1⟩)
     obtain ⟨Ss', hL⟩ := one ⟨_, Lay.sl (V := V0 w) rows a cap (T (T t).elem).size ys Ss (fun r hr => (r2 r hr).2) (by omega) hc.2.2 (by rw [r5.1]) r5.2.1 r4 r5.2.2⟩
     rw [r1] at hL
     exact ⟨[.sl rows], Ss', by simp only [ShD, e2]; exact ⟨rows, rfl, by omega, fun r hr => (r2 r hr).1⟩, hL⟩
    ·cases h
  by_cases e3 : (T t).tag = 3
  ·have := hg.int e3
   subst this
   have hk := (hC t).2.2 e3
   simp only [DataW.trod, hu] at h
   split at h <;> try (simp_all; done)
   rename_i k k' m hh
   injection hh with hh; injection hh with hh; subst hh
   split at h
   ·rename_i hw
    obtain ⟨rfl, hw⟩ := hw
    obtain ⟨Ss, hL⟩ := one ⟨[], Lay.v (V := V0 w) (.int _ m) rfl⟩
    have hin : inR (T t).kind m := by
     simp only [Lit.wf, Bool.and_eq_true, decide_eq_true_eq] at hw
     rcases hk with hk | hk <;> rw [hk] at hw ⊢ <;> simpa [inR, IntKind.min, IntKind.max, IntKind.bits, IntKind.signed] using hw
    exact ⟨_, Ss, by simp only [ShD, e3]; exact ⟨m, rfl, hin⟩, hL⟩
   ·cases h
  by_cases e4 : (T t).tag = 4
  ·have := hg.bool e4
   subst this
   simp only [DataW.trod, hu] at h
   split at h <;> try (simp_all; done)
   rename_i b _
   obtain ⟨Ss, hL⟩ := one ⟨[], Lay.v (V := V0 w) (.bool b) rfl⟩
   exact ⟨_, Ss, by simp only [ShD, e4]; exact ⟨b, rfl⟩, hL⟩
  by_cases e5 : (T t).tag = 5
  ·have := hg.string e5
   subst this
   simp only [DataW.trod, hu] at h
   split at h <;> try (simp_all; done)
   rename_i s _
   split at h
   ·rename_i hs
    obtain ⟨Ss, hL⟩ := one ⟨[], Lay.v (V := V0 w) (.string s) rfl⟩
    exact ⟨_, Ss, by simp only [ShD, e5]; exact ⟨s, rfl, hs⟩, hL⟩
   ·cases h
  ·exfalso
   unfold kG at huok
   split at huok <;> simp_all
def pk (T : Nat → Ty) (t : Nat) (ds : List D) : SV := pY (T t).agg (ds.map .d)
def ShAll (T : Nat → Ty) : List Nat → List (List D) → Prop
 | [], [] => True
 | t :: ts, d :: ds => (∃ n, ShD T n t d) ∧ ShAll T ts ds
 | _, _ => False
def pks (T : Nat → Ty) : List Nat → List (List D) → List SV
 | t :: ts, d :: ds => pk T t d :: pks T ts ds
 | _, _ => []
theorem a0W {V : View} {ds : List D} {ys : List Value} {Ss : List (List Nat)} (h : LayL V ds ys Ss) : cL [] V (ds.map .d) ys := by
 refine ⟨by simpa using h.1, fun k a y h1 h2 => ?_⟩
 rw [List.getElem?_map] at h1
 cases hd : ds[k]? with
 | none => rw [hd] at h1; cases h1
 | some d =>
  rw [hd] at h1; cases h1
  have hk : k < Ss.length := by rw [h.2.1]; exact (List.getElem?_eq_some_iff.1 hd).1
  exact ⟨_, h.2.2 k d y _ hd h2 (List.getElem?_eq_getElem hk)⟩
theorem a2D (hT : TyOK P T) (hC : Cl T) {t : Nat} (ht : (T t).tag ≠ 0) {r : Reach} {base : Nat} {v : Value} {d : DataW H} {ps : List MemPlace}
    (hval : Value.okWide P w r base t v) (h : DataW.Trod enc P w 0 (fun _ => true) true t v d ps) : ∃ ds, (∃ n, ShD T n t ds) ∧ cSV [] (V0 w) (pk T t ds) v := by
 obtain ⟨n, h⟩ := h
 obtain ⟨i, z, u, hg⟩ := hT.good ht
 obtain ⟨ds, Ss, q1, q2⟩ := xJ hT hC ht h
 refine ⟨ds, ⟨n, q1⟩, ?_⟩
 have hu := hg.und
 unfold Value.okWide at hval
 by_cases e1 : (T t).tag = 1
 ·obtain ⟨fs, rfl, hf⟩ := hg.struct e1
  rw [hu] at hval
  obtain ⟨cs, rfl, _⟩ := hval
  simp only [pk, Ty.agg, e1, pY]
  exact ⟨cs.toList, rfl, a0W q2⟩
 ·have hag : (T t).agg = false := by simp [Ty.agg, e1]
  have hv : v.cells.toList = [v] := by
   have huok := hg.uok
   cases v with
   | agg cs =>
    exfalso
    rw [hu] at hval
    unfold kG at huok
    split at huok <;> simp_all [Cell.okWide, Cell.ok]
   | _ => rfl
  rw [hv] at q2
  obtain ⟨c1, c2⟩ := a0W q2
  have hl : ds.length = 1 := by simpa using c1.symm
  match ds, hl with
  | [x], _ =>
   simp only [pk, hag, pY, List.map_cons, List.map_nil]
   exact c2 0 _ _ rfl rfl
theorem vX (hT : TyOK P T) (hC : Cl T) {r : Reach} {base : Nat} : ∀ {ts : List Nat} {vs : List Value} {dd : List (DataW H)} {ps : List MemPlace}, (∀ t ∈ ts, (T t).tag ≠ 0) →
    (∀ (j : Nat) (t : Nat) (v : Value), ts[j]? = some t → vs[j]? = some v → Value.okWide P w r base t v) → DataW.TrodAll enc P w 0 (fun _ => true) true ts vs dd ps → ∃ dss, ShAll T ts dss ∧ vF (V0 w) (pks T ts dss) vs
 | [], [], [], _, _, _, _ => ⟨[], trivial, rfl, fun k s y h => by simp [pks] at h⟩
 | t :: ts, v :: vs, d :: dd, ps, ht, hval, h => by
  obtain ⟨p, q, h1, h2, _⟩ := h
  obtain ⟨ds, s1, s2⟩ := a2D hT hC (ht t (by simp)) (hval 0 t v rfl rfl) h1
  obtain ⟨dss, s3, s4⟩ := vX hT hC (fun t ht' => ht t (by simp [ht'])) (fun j t v a b => hval (j + 1) t v (by simpa using a) (by simpa using b)) h2
  refine ⟨ds :: dss, ⟨s1, s3⟩, by simp [pks, s4.1], fun k s y a b => ?_⟩
  cases k with
  | zero => simp [pks] at a b; subst a; subst b; exact s2
  | succ k => exact s4.2 k s y (by simpa [pks] using a) (by simpa using b)
 | [], _ :: _, _, _, _, _, h => by simp [DataW.TrodAll] at h
 | [], [], _ :: _, _, _, _, h => by simp [DataW.TrodAll] at h
 | _ :: _, [], _, _, _, _, h => by simp [DataW.TrodAll] at h
 | _ :: _, _ :: _, [], _, _, _, h => by simp [DataW.TrodAll] at h
theorem lF (hl : laidOutB P = true) {W' : World} (hb : Below w.heap.size w W') : ∀ {ts : List Nat} {vs : List Value} {dd : List (DataW H)} {ps : List MemPlace}, (∀ t ∈ ts, P.readableRec t = true ∧ t < P.types.size) →
    DataW.TrodAll enc P w 0 (fun _ => true) true ts vs dd ps → (∀ x ∈ ps, x.block < w.heap.size) → DataW.TrodAll enc P W' 0 (fun b => decide (b < w.heap.size)) true ts vs dd ps
 | [], [], [], _, _, h, _ => h
 | t :: ts, v :: vs, d :: dd, ps, ht, h, hlt => by
  obtain ⟨p, q, h1, h2, rfl⟩ := h
  obtain ⟨r1, r2⟩ := ht t (by simp)
  exact ⟨p, q, Below.trod hl r1 r2 h1 hb (fun x hx => hlt x (List.mem_append.2 (.inl hx))), lF hl hb (fun t ht' => ht t (by simp [ht'])) h2 (fun x hx => hlt x (List.mem_append.2 (.inr hx))), rfl⟩
 | [], _ :: _, _, _, _, h, _ => by simp [DataW.TrodAll] at h
 | [], [], _ :: _, _, _, h, _ => by simp [DataW.TrodAll] at h
 | _ :: _, [], _, _, _, h, _ => by simp [DataW.TrodAll] at h
 | _ :: _, _ :: _, [], _, _, h, _ => by simp [DataW.TrodAll] at h
theorem pR {W : World} {sp : Nat → Bool} {b : Nat} {hd : Bool} : ∀ {ts : List Nat} {vs : List Value} {dd : List (DataW H)} {ps : List MemPlace}, DataW.TrodAll enc P W b sp hd ts vs dd ps → dd.length = ts.length
 | [], [], [], _, _ => rfl
 | t :: ts, v :: vs, d :: dd, ps, h => by
  obtain ⟨p, q, _, h2, _⟩ := h
  simp [pR h2]
 | [], _ :: _, _, _, h => by simp [DataW.TrodAll] at h
 | [], [], _ :: _, _, h => by simp [DataW.TrodAll] at h
 | _ :: _, [], _, _, h => by simp [DataW.TrodAll] at h
 | _ :: _, _ :: _, [], _, h => by simp [DataW.TrodAll] at h
theorem nI {fresh : Bool} (hT : TyOK P T) (hC : Cl T) (hl : laidOutB P = true) {f : Nat} {fn : Func} {s : ChangeSpec} {tb : Nat} (hv : s.vars = []) (hs : ∀ dd : List (DataW H), dd.length = fn.params.toList.length → s.fn H dd = { results := [.lit (.bool true)], args := dd })
    (hrt : fn.resultTypes = #[tb]) (hb : P.underlying tb = some .bool) (ht : fn.params.toList.all (fun t => (T t).tag != 0 && P.readableRec t && decide (t < P.types.size)) = true)
    (hf : ∀ dss, ShAll T fn.params.toList dss → FnC P f (pks T fn.params.toList dss) (ob true))
    {W : World} (htab : tabOK W []) {r : Reach} {base : Nat} {args : Array Value} {ds gs : List (DataW H)} {before : List MemPlace}
    (hval : ∀ (j : Nat) (t : Nat) (v : Value), fn.params[j]? = some t → args[j]? = some v → Value.okWide P W r base t v) (hW : DataW.Whole enc P fn.params.toList s.vars false W args.toList ds gs before) :
    Calls P f args W fun e W' => ∃ v, e = .returned v ∧ s.post enc P fn false fresh false false W args v W' := by
 have hW' := hW
 obtain ⟨p, q, hA, hV, rfl, _, _⟩ := hW
 rw [hv] at hV
 obtain ⟨rfl, rfl⟩ := ChangeShapes.trodVars_none hV
 have ht' : ∀ t ∈ fn.params.toList, (T t).tag ≠ 0 ∧ P.readableRec t = true ∧ t < P.types.size := fun t h => by
  have := List.all_eq_true.1 ht t h
  simpa [and_assoc] using this
 obtain ⟨dss, h1, h2⟩ := vX hT hC (fun t h => (ht' t h).1) (fun j t v a b => hval j t v (by simpa using a) (by simpa using b)) hA
 have hc := (hf dss h1).calls (V0 W) W args.toList htab (a4A W) h2
 rw [Array.toArray_toList] at hc
 refine hc.mono fun e W' ⟨y, he, hd⟩ => ⟨y, he, ?_⟩
 have hy : y = .bool true := by
  obtain ⟨V', S, _, _, _, ⟨l, hs, hr⟩, _⟩ := hd.out
  obtain ⟨Ss, r1, r2, r3, r4⟩ := hr
  have hl : l = [y] := hs
  subst hl
  obtain ⟨_, T', hL⟩ := r4 0 (.d (bv true)) y _ rfl rfl (List.getElem?_eq_getElem (by rw [r2]; simp [SV.all]))
  cases hL; rfl
 subst hy
 have hbel := hd.below
 have hlen := pR hA
 have e : s.fn H (ds ++ []) = { results := [.lit (.bool true)], args := ds } := by rw [List.append_nil]; exact hs ds hlen
 refine ⟨ds, [], _, [], p, [], hW', ?_, ?_, ?_, hbel.frame _, fun h => by cases h⟩
 ·rw [e, hrt]
  exact ChangeShapes.trodAll_mk1 (shut_bool hb true)
 ·rw [e]
  exact lF hl hbel (fun t h => (ht' t h).2) hA (fun x hx => hW'.lt x (List.mem_append.2 (.inl hx)))
 ·rw [e, hv]; rfl
end
end Go.Sx
end
section
set_option linter.all false
namespace Go.Proofs.YtgfngchfmohhbaaDoor
open Go Go.Sx Go.RowKit
theorem a2E : Cl tt := Cl.of_list (by kernel_rfl)
theorem own : ownKnob Tryd.prog.godebug = none := by kernel_rfl
theorem nJ : laidOutB Tryd.prog = true := by kernel_rfl
end Go.Proofs.YtgfngchfmohhbaaDoor
end
end
section
section
set_option linter.all false
namespace Go.Proofs.YtgfngchfmohhbaaDoor
open Go Go.Sx Go.RowKit Go.Proofs
def bF (n : Int) (w : Nat) : Int := if n - w < 0 then -1 else n - w
theorem aT {n : Int} {w : Nat} (h : n - w < 0) : bF n w = -1 := if_pos h
theorem bE {n : Int} {w : Nat} (h : ¬ n - w < 0) : bF n w = n - w := if_neg h
theorem kH {n : Int} {w : Nat} (h : ¬ bF n w < 0) : w ≤ n := by
 unfold bF at h
 split at h <;> omega
def wsum {α : Type} (w : α → Nat) : List α → Nat
 | [] => 0
 | x :: l => w x + wsum w l
theorem dK {α : Type} (w : α → Nat) : ∀ (l : List α) {k : Nat} (h : k < l.length), w l[k] ≤ wsum w l
 | [], _, h => by simp at h
 | x :: l, 0, _ => by simp [wsum]
 | x :: l, k + 1, h => by
  have := dK w l (k := k) (by simpa using h)
  simp only [List.getElem_cons_succ, wsum]; omega
theorem kX {α : Type} (w : α → Nat) : ∀ (l : List α) {k : Nat} (h : k < l.length), wsum w (l.take (k + 1)) = wsum w (l.take k) + w l[k]
 | [], _, h => by simp at h
 | x :: l, 0, _ => by simp [wsum]
 | x :: l, k + 1, h => by
  have := kX w l (k := k) (by simpa using h)
  simp only [List.take_succ_cons, List.getElem_cons_succ, wsum]; omega
theorem qR {α : Type} (w : α → Nat) : ∀ (l : List α) (k : Nat), wsum w (l.take k) ≤ wsum w l
 | [], k => by simp
 | x :: l, 0 => by simp [wsum]
 | x :: l, k + 1 => by
  have := qR w l k
  simp only [List.take_succ_cons, wsum]; omega
@[go_sem] def bN (n : Int) : List D := [iv n]
@[go_sem] def eH (s : ByteArray) : List D := [sv s]
abbrev slI (l : List Int) : D := .sl (l.map bN)
abbrev slS (l : List ByteArray) : D := .sl (l.map eH)
def a5o (l : List ByteArray) : Nat := l.length + wsum ByteArray.size l
def bO (l : List Int) : Prop := l.length ≤ 9223372036854775807 ∧ ∀ i ∈ l, inR .i64 i
def a4K (l : List ByteArray) : Prop := l.length ≤ 9223372036854775807 ∧ ∀ s ∈ l, s.size ≤ 9223372036854775807
theorem xH {n : Nat} {r : List D} (h : ShD tt n 3 r) : ∃ i, r = bN i ∧ inR .i64 i := by
 match n, h with
 | n + 1, ⟨i, h, hi⟩ => exact ⟨i, h, hi⟩
theorem a3u {n : Nat} {r : List D} (h : ShD tt n 9 r) : ∃ s : ByteArray, r = eH s ∧ s.size ≤ 9223372036854775807 := by
 match n, h with
 | n + 1, ⟨s, h, hs⟩ => exact ⟨s, h, hs⟩
theorem a6i {n : Nat} {r : List D} (h : ShD tt n 4 r) : ∃ b : Bool, r = [bv b] := by
 match n, h with
 | n + 1, ⟨b, h⟩ => exact ⟨b, h⟩
theorem qU {n : Nat} {r : List D} (h : ShD tt n 44 r) : ∃ l : List Int, r = [slI l] ∧ bO l := by
 match n, h with
 | n + 1, ⟨rows, h, hm, hr⟩ =>
  obtain ⟨l, rfl, hl⟩ := kJ bN (inR .i64) (fun r h => xH (hr r h))
  exact ⟨l, h, by unfold maxLen at hm; simpa using hm, hl⟩
theorem eZ (l : List Int) (hl : l.length ≤ 1048576) : FnC Tryd.prog 21 [.o (.d (slI l))] (.o (.w 3 1 (l.map bN))) := by
 refine ent Tryd.func21 rfl Tryd.call21 rfl (fun C => ?_); simp only [go_sem, st0, Tryd.ntmps21]
 refine aH ?_
 refine bB (α := Nat) (fun k => [(4, oi k)]) (fun k => [(0, .row 3 1 (gJ bN [iv 0] l k) true)]) (fun k => k ≤ l.length) (fun k => l.length - k) 0 (fun _ => ?_) ?_ ?_ (fun k hk => ?_)
 ·simp only [go_sem]
 ·simp only [go_sem]; simp [iY]
 ·simp
 ·simp only [go_sem]
  refine aH ?_
  refine cnd rfl (fun h => ?_) (fun h => ?_)
  ·simp only [decide_eq_true_eq, Int.ofNat_lt] at h
   have q0 := @h; refine gD ?_
   refine aM (k + 1) ?_ ?_ ?_
   ·simp only [go_sem]; simp [← kT, h, bN]
   ·omega
   ·omega
  ·simp only [decide_eq_false_iff_not] at h
   have e : k = l.length := by omega
   subst e
   refine aH ?_
   exact aA ⟨⟨_, rfl, by simp only [go_sem, kU]⟩, trivial⟩
theorem jL (l : List Int) (hl : l.length ≤ 1048576) : FnC Tryd.prog 21 [.o (.d (slI l))] (.o (.d (slI l))) := (eZ l hl).pu (by simp only [go_sem, and_self])
theorem eD (l : List Int) (hl : l.length ≤ 67108864) : FnC Tryd.prog 24 [.o (.d (slI l)), .o (.d (slI l))] (ob true) := by
 refine ent Tryd.func24 rfl Tryd.call24 rfl (fun C => ?_); simp only [go_sem, st0, Tryd.ntmps24]
 refine aH ?_
 refine bB (α := Nat) (fun k => [(5, oi k)]) (fun _ => []) (fun k => k ≤ l.length) (fun k => l.length - k) 0 (fun _ => ?_) ?_ ?_ (fun k hk => ?_)
 ·simp only [go_sem]
 ·simp only [go_sem]; simp
 ·simp
 ·simp only [go_sem]
  refine aH ?_
  refine cnd rfl (fun h => ?_) (fun h => ?_)
  ·simp only [decide_eq_true_eq, Int.ofNat_lt] at h
   have q0 := @h; refine gD ?_
   refine aM (k + 1) ?_ ?_ ?_
   ·simp only [go_sem]; simp
   ·omega
   ·omega
  ·simp only [decide_eq_false_iff_not] at h
   refine aH ?_
   exact aA ⟨⟨_, rfl, by simp only [go_sem]⟩, trivial⟩
end Go.Proofs.YtgfngchfmohhbaaDoor
end
section
set_option linter.all false
set_option maxHeartbeats 1000000
namespace Go.Proofs.YtgfngchfmohhbaaDoor
open Go Go.Sx Go.RowKit Go.Proofs
structure TValue where
 fKind : Int
 fInt : Int
 fStr : ByteArray
@[go_sem] def a2w (x : TValue) : List D := [iv x.fKind, iv x.fInt, sv x.fStr]
@[go_sem] def fA (x : TValue) : SV := .g [.d (iv x.fKind), .d (iv x.fInt), .d (sv x.fStr)]
def dL (x : TValue) : Nat := x.fStr.size
def jM (x : TValue) : Prop := inR .i64 x.fKind ∧ inR .i64 x.fInt ∧ x.fStr.size ≤ 9223372036854775807
def a5M (l : List TValue) : Nat := l.length + wsum dL l
def a5p (l : List TValue) : Prop := l.length ≤ 9223372036854775807 ∧ ∀ x ∈ l, jM x
theorem a2x {n : Nat} {r : List D} (h : ShD tt n 23 r) : ∃ x : TValue, r = a2w x ∧ jM x := by
 match n, h with
 | n + 1, ⟨a0, b0, e0, h0, a1, b1, e1, h1, a2, b2, e2, h2, ee⟩ =>
  obtain ⟨x0, rfl, p0⟩ := xH h0
  obtain ⟨x1, rfl, p1⟩ := xH h1
  obtain ⟨x2, rfl, p2⟩ := a3u h2
  have ee' : b2 = [] := ee
  subst ee' e2 e1 e0
  exact ⟨⟨x0, x1, x2⟩, rfl, p0, p1, p2⟩
theorem sN (x : TValue) (n : Int) (h0 : 0 ≤ n ∧ n ≤ 1048576) (hw : jM x) : FnC Tryd.prog 9 [fA x, oi n] (oi (bF n (dL x))) := by
 refine ent Tryd.func9 rfl Tryd.call9 rfl (fun C => ?_); simp only [go_sem, st0, Tryd.ntmps9]
 unfold jM at hw
 by_cases hc0 : n - (x.fStr.size : Nat) < 0
 ·have e : bF n (dL x) = -1 := by rw [aT (by unfold dL; omega)]
  have q0 := @hc0; refine gD ?_
  exact aA ⟨⟨_, rfl, by simp only [go_sem, e]⟩, trivial⟩
 have e : bF n (dL x) = n - (x.fStr.size : Nat) := by rw [bE (by unfold dL; omega)]; unfold dL; omega
 have q0 := @hc0; refine gD ?_
 exact aA ⟨⟨_, rfl, by simp only [go_sem, e]⟩, trivial⟩
theorem a0s (x : TValue) (hx : dL x ≤ 1048576) : FnC Tryd.prog 11 [fA x] (fA x) := by
 unfold dL at hx
 refine ent Tryd.func11 rfl Tryd.call11 rfl (fun C => ?_); simp only [go_sem, st0, Tryd.ntmps11]
 refine aH ?_
 exact aA ⟨⟨_, rfl, by simp only [go_sem]⟩, trivial⟩
theorem a0t (x : TValue) (hx : dL x ≤ 67108864) : FnC Tryd.prog 88 [fA x, fA x] (ob true) := by
 unfold dL at hx
 refine ent Tryd.func88 rfl Tryd.call88 rfl (fun C => ?_); simp only [go_sem, st0, Tryd.ntmps88]
 refine aH ?_
 exact aA ⟨⟨_, rfl, by simp only [go_sem]⟩, trivial⟩
end Go.Proofs.YtgfngchfmohhbaaDoor
end
section
set_option linter.all false
set_option maxHeartbeats 1000000
namespace Go.Proofs.YtgfngchfmohhbaaDoor
open Go Go.Sx Go.RowKit Go.Proofs
structure TField where
 fName : ByteArray
 fKind : Int
@[go_sem] def aQ (x : TField) : List D := [sv x.fName, iv x.fKind]
@[go_sem] def sO (x : TField) : SV := .g [.d (sv x.fName), .d (iv x.fKind)]
def wField (x : TField) : Nat := x.fName.size
def nD (x : TField) : Prop := x.fName.size ≤ 9223372036854775807 ∧ inR .i64 x.fKind
def bL (l : List TField) : Nat := l.length + wsum wField l
def nE (l : List TField) : Prop := l.length ≤ 9223372036854775807 ∧ ∀ x ∈ l, nD x
theorem a2y {n : Nat} {r : List D} (h : ShD tt n 107 r) : ∃ x : TField, r = aQ x ∧ nD x := by
 match n, h with
 | n + 1, ⟨a0, b0, e0, h0, a1, b1, e1, h1, ee⟩ =>
  obtain ⟨x0, rfl, p0⟩ := a3u h0
  obtain ⟨x1, rfl, p1⟩ := xH h1
  have ee' : b1 = [] := ee
  subst ee' e1 e0
  exact ⟨⟨x0, x1⟩, rfl, p0, p1⟩
theorem a1C {n : Nat} {r : List D} (h : ShD tt n 40 r) : ∃ l : List TField, r = [.sl (l.map aQ)] ∧ nE l := by
 match n, h with
 | n + 1, ⟨rows, h, hm, hr⟩ =>
  obtain ⟨l, rfl, hl⟩ := kJ aQ nD (fun r h => a2y (hr r h))
  exact ⟨l, h, by unfold maxLen at hm; simpa using hm, hl⟩
theorem sP (x : TField) (n : Int) (h0 : 0 ≤ n ∧ n ≤ 1048576) (hw : nD x) : FnC Tryd.prog 71 [sO x, oi n] (oi (bF n (wField x))) := by
 refine ent Tryd.func71 rfl Tryd.call71 rfl (fun C => ?_); simp only [go_sem, st0, Tryd.ntmps71]
 unfold nD at hw
 by_cases hc0 : n - (x.fName.size : Nat) < 0
 ·have e : bF n (wField x) = -1 := by rw [aT (by unfold wField; omega)]
  have q0 := @hc0; refine gD ?_
  exact aA ⟨⟨_, rfl, by simp only [go_sem, e]⟩, trivial⟩
 have e : bF n (wField x) = n - (x.fName.size : Nat) := by rw [bE (by unfold wField; omega)]; unfold wField; omega
 have q0 := @hc0; refine gD ?_
 exact aA ⟨⟨_, rfl, by simp only [go_sem, e]⟩, trivial⟩
theorem a0u (x : TField) (hx : wField x ≤ 1048576) : FnC Tryd.prog 72 [sO x] (sO x) := by
 unfold wField at hx
 refine ent Tryd.func72 rfl Tryd.call72 rfl (fun C => ?_); simp only [go_sem, st0, Tryd.ntmps72]
 refine aH ?_
 exact aA ⟨⟨_, rfl, by simp only [go_sem]⟩, trivial⟩
theorem a0v (x : TField) (hx : wField x ≤ 67108864) : FnC Tryd.prog 73 [sO x, sO x] (ob true) := by
 unfold wField at hx
 refine ent Tryd.func73 rfl Tryd.call73 rfl (fun C => ?_); simp only [go_sem, st0, Tryd.ntmps73]
 refine aH ?_
 exact aA ⟨⟨_, rfl, by simp only [go_sem]⟩, trivial⟩
theorem yT (l : List TField) (hl : bL l ≤ 1048576) : FnC Tryd.prog 47 [.o (.d (.sl (l.map aQ)))] (.o (.w 108 2 (l.map aQ))) := by
 unfold bL at hl
 refine ent Tryd.func47 rfl Tryd.call47 rfl (fun C => ?_); simp only [go_sem, st0, Tryd.ntmps47]
 refine aH ?_
 refine bB (α := Nat) (fun k => [(4, oi k)]) (fun k => [(0, .row 108 2 (gJ aQ [sv ⟨#[]⟩, iv 0] l k) true)]) (fun k => k ≤ l.length) (fun k => l.length - k) 0 (fun _ => ?_) ?_ ?_ (fun k hk => ?_)
 ·simp only [go_sem]
 ·simp only [go_sem]; simp [iY]
 ·simp
 ·simp only [go_sem]
  refine aH ?_
  refine cnd rfl (fun h => ?_) (fun h => ?_)
  ·simp only [decide_eq_true_eq, Int.ofNat_lt] at h
   have hw := dK wField l h
   have q0 := @h; refine jK (a0u l[k] (by omega)) ?_
   refine aM (k + 1) ?_ ?_ ?_
   ·simp only [go_sem]; simp [← kT, h, aQ]
   ·omega
   ·omega
  ·simp only [decide_eq_false_iff_not] at h
   have e : k = l.length := by omega
   subst e
   refine aH ?_
   exact aA ⟨⟨_, rfl, by simp only [go_sem, kU]⟩, trivial⟩
theorem yU (l : List TField) (hl : bL l ≤ 67108864) : FnC Tryd.prog 50 [.o (.d (.sl (l.map aQ))), .o (.d (.sl (l.map aQ)))] (ob true) := by
 unfold bL at hl
 refine ent Tryd.func50 rfl Tryd.call50 rfl (fun C => ?_); simp only [go_sem, st0, Tryd.ntmps50]
 refine aH ?_
 refine bB (α := Nat) (fun k => [(5, oi k)]) (fun _ => []) (fun k => k ≤ l.length) (fun k => l.length - k) 0 (fun _ => ?_) ?_ ?_ (fun k hk => ?_)
 ·simp only [go_sem]
 ·simp only [go_sem]; simp
 ·simp
 ·simp only [go_sem]
  refine aH ?_
  refine cnd rfl (fun h => ?_) (fun h => ?_)
  ·simp only [decide_eq_true_eq, Int.ofNat_lt] at h
   have hw := dK wField l h
   have q0 := @h; refine jK (a0v l[k] (by omega)) ?_
   refine aM (k + 1) ?_ ?_ ?_
   ·simp only [go_sem]; simp
   ·omega
   ·omega
  ·simp only [decide_eq_false_iff_not] at h
   refine aH ?_
   exact aA ⟨⟨_, rfl, by simp only [go_sem]⟩, trivial⟩
theorem kI (l : List TField) (n : Int) (h0 : 0 ≤ n ∧ n ≤ 1048576) (hw : nE l) : FnC Tryd.prog 45 [.o (.d (.sl (l.map aQ))), oi n] (oi (bF n (bL l))) := by
 unfold nE at hw
 refine ent Tryd.func45 rfl Tryd.call45 rfl (fun C => ?_); simp only [go_sem, st0, Tryd.ntmps45]
 by_cases hc : n - (l.length : Nat) < 0
 ·have e : bF n (bL l) = -1 := by rw [aT (by unfold bL; omega)]
  have q0 := @hc; refine gD ?_
  exact aA ⟨⟨_, rfl, by simp only [go_sem, e]⟩, trivial⟩
 have q0 := @hc; refine gD ?_
 refine bB (α := Nat) (fun k => [(5, oi k), (1, oi (n - (l.length : Nat) - (wsum wField (l.take k) : Nat)))]) (fun _ => []) (fun k => k ≤ l.length ∧ 0 ≤ n - (l.length : Nat) - (wsum wField (l.take k) : Nat)) (fun k => l.length - k) 0 (fun _ => ?_) ?_ ?_ (fun k hk => ?_)
 ·simp only [go_sem]
 ·simp only [go_sem]; simp [wsum]
 ·simp [wsum]; omega
 ·obtain ⟨hk, hn⟩ := hk
  simp only [go_sem]
  refine aH ?_
  refine cnd rfl (fun h => ?_) (fun h => ?_)
  ·simp only [decide_eq_true_eq, Int.ofNat_lt] at h
   have hs := kX wField l h
   have ht := qR wField l (k + 1)
   by_cases h2 : n - (l.length : Nat) - (wsum wField (l.take k) : Nat) - (wField l[k] : Nat) < 0
   ·have e : bF n (bL l) = -1 := by rw [aT (by unfold bL; omega)]
    have q0 := @h; have q1 := aT h2; refine xG (sP l[k] _ ⟨hn, by omega⟩ (hw.2 _ (List.getElem_mem h))) ?_
    exact aA ⟨⟨_, rfl, by simp only [go_sem, e]⟩, trivial⟩
   ·have q0 := @h; have q1 := bE h2; have q2 := @h2; refine qC (sP l[k] _ ⟨hn, by omega⟩ (hw.2 _ (List.getElem_mem h))) ?_
    refine aM (k + 1) ?_ ?_ ?_
    ·simp only [go_sem]; simp; omega
    ·omega
    ·omega
  ·simp only [decide_eq_false_iff_not] at h
   have e0 : k = l.length := by omega
   subst e0
   rw [List.take_length] at hn
   have e : bF n (bL l) = n - (l.length : Nat) - (wsum wField l : Nat) := by rw [bE (by unfold bL; omega)]; unfold bL; omega
   refine aH ?_
   exact aA ⟨⟨_, rfl, by simp only [go_sem, e, List.take_length]⟩, trivial⟩
end Go.Proofs.YtgfngchfmohhbaaDoor
end
section
set_option linter.all false
set_option maxHeartbeats 1000000
namespace Go.Proofs.YtgfngchfmohhbaaDoor
open Go Go.Sx Go.RowKit Go.Proofs
structure TAttr where
 fName : ByteArray
 fValue : TValue
@[go_sem] def aY (x : TAttr) : List D := [sv x.fName, iv x.fValue.fKind, iv x.fValue.fInt, sv x.fValue.fStr]
@[go_sem] def yV (x : TAttr) : SV := .g [.d (sv x.fName), .d (iv x.fValue.fKind), .d (iv x.fValue.fInt), .d (sv x.fValue.fStr)]
def wAttr (x : TAttr) : Nat := x.fName.size + dL x.fValue
def sQ (x : TAttr) : Prop := x.fName.size ≤ 9223372036854775807 ∧ jM x.fValue
def bK (l : List TAttr) : Nat := l.length + wsum wAttr l
def nG (l : List TAttr) : Prop := l.length ≤ 9223372036854775807 ∧ ∀ x ∈ l, sQ x
theorem a3v {n : Nat} {r : List D} (h : ShD tt n 91 r) : ∃ x : TAttr, r = aY x ∧ sQ x := by
 match n, h with
 | n + 1, ⟨a0, b0, e0, h0, a1, b1, e1, h1, ee⟩ =>
  obtain ⟨x0, rfl, p0⟩ := a3u h0
  obtain ⟨x1, rfl, p1⟩ := a2x h1
  have ee' : b1 = [] := ee
  subst ee' e1 e0
  exact ⟨⟨x0, x1⟩, rfl, p0, p1⟩
theorem a2z {n : Nat} {r : List D} (h : ShD tt n 29 r) : ∃ l : List TAttr, r = [.sl (l.map aY)] ∧ nG l := by
 match n, h with
 | n + 1, ⟨rows, h, hm, hr⟩ =>
  obtain ⟨l, rfl, hl⟩ := kJ aY sQ (fun r h => a3v (hr r h))
  exact ⟨l, h, by unfold maxLen at hm; simpa using hm, hl⟩
theorem vS (x : TAttr) (n : Int) (h0 : 0 ≤ n ∧ n ≤ 1048576) (hw : sQ x) : FnC Tryd.prog 63 [yV x, oi n] (oi (bF n (wAttr x))) := by
 refine ent Tryd.func63 rfl Tryd.call63 rfl (fun C => ?_); simp only [go_sem, st0, Tryd.ntmps63]
 unfold sQ at hw
 by_cases hc0 : n - (x.fName.size : Nat) < 0
 ·have e : bF n (wAttr x) = -1 := by rw [aT (by unfold wAttr; omega)]
  have q0 := @hc0; refine gD ?_
  exact aA ⟨⟨_, rfl, by simp only [go_sem, e]⟩, trivial⟩
 by_cases hc1 : n - (x.fName.size : Nat) - (dL x.fValue : Nat) < 0
 ·have e : bF n (wAttr x) = -1 := by rw [aT (by unfold wAttr; omega)]
  have q0 := @hc0; have q1 := aT hc1; have q2 := @hc1; refine qC (sN x.fValue (n - (x.fName.size : Nat)) (by omega) hw.2) ?_
  exact aA ⟨⟨_, rfl, by simp only [go_sem, e]⟩, trivial⟩
 have e : bF n (wAttr x) = n - (x.fName.size : Nat) - (dL x.fValue : Nat) := by rw [bE (by unfold wAttr; omega)]; unfold wAttr; omega
 have q0 := @hc0; have q1 := bE hc1; have q2 := @hc1; refine qC (sN x.fValue (n - (x.fName.size : Nat)) (by omega) hw.2) ?_
 exact aA ⟨⟨_, rfl, by simp only [go_sem, e]⟩, trivial⟩
theorem a1D (x : TAttr) (hx : wAttr x ≤ 1048576) : FnC Tryd.prog 65 [yV x] (yV x) := by
 unfold wAttr at hx
 refine ent Tryd.func65 rfl Tryd.call65 rfl (fun C => ?_); simp only [go_sem, st0, Tryd.ntmps65]
 refine qB (a0s x.fValue (by omega)) ?_
 exact aA ⟨⟨_, rfl, by simp only [go_sem]⟩, trivial⟩
theorem a1E (x : TAttr) (hx : wAttr x ≤ 67108864) : FnC Tryd.prog 70 [yV x, yV x] (ob true) := by
 unfold wAttr at hx
 refine ent Tryd.func70 rfl Tryd.call70 rfl (fun C => ?_); simp only [go_sem, st0, Tryd.ntmps70]
 refine qB (a0t x.fValue (by omega)) ?_
 exact aA ⟨⟨_, rfl, by simp only [go_sem]⟩, trivial⟩
theorem a0w (l : List TAttr) (hl : bK l ≤ 1048576) : FnC Tryd.prog 41 [.o (.d (.sl (l.map aY)))] (.o (.w 70 4 (l.map aY))) := by
 unfold bK at hl
 refine ent Tryd.func41 rfl Tryd.call41 rfl (fun C => ?_); simp only [go_sem, st0, Tryd.ntmps41]
 refine aH ?_
 refine bB (α := Nat) (fun k => [(4, oi k)]) (fun k => [(0, .row 70 4 (gJ aY [sv ⟨#[]⟩, iv 0, iv 0, sv ⟨#[]⟩] l k) true)]) (fun k => k ≤ l.length) (fun k => l.length - k) 0 (fun _ => ?_) ?_ ?_ (fun k hk => ?_)
 ·simp only [go_sem]
 ·simp only [go_sem]; simp [iY]
 ·simp
 ·simp only [go_sem]
  refine aH ?_
  refine cnd rfl (fun h => ?_) (fun h => ?_)
  ·simp only [decide_eq_true_eq, Int.ofNat_lt] at h
   have hw := dK wAttr l h
   have q0 := @h; refine jK (a1D l[k] (by omega)) ?_
   refine aM (k + 1) ?_ ?_ ?_
   ·simp only [go_sem]; simp [← kT, h, aY]
   ·omega
   ·omega
  ·simp only [decide_eq_false_iff_not] at h
   have e : k = l.length := by omega
   subst e
   refine aH ?_
   exact aA ⟨⟨_, rfl, by simp only [go_sem, kU]⟩, trivial⟩
theorem a0x (l : List TAttr) (hl : bK l ≤ 67108864) : FnC Tryd.prog 44 [.o (.d (.sl (l.map aY))), .o (.d (.sl (l.map aY)))] (ob true) := by
 unfold bK at hl
 refine ent Tryd.func44 rfl Tryd.call44 rfl (fun C => ?_); simp only [go_sem, st0, Tryd.ntmps44]
 refine aH ?_
 refine bB (α := Nat) (fun k => [(5, oi k)]) (fun _ => []) (fun k => k ≤ l.length) (fun k => l.length - k) 0 (fun _ => ?_) ?_ ?_ (fun k hk => ?_)
 ·simp only [go_sem]
 ·simp only [go_sem]; simp
 ·simp
 ·simp only [go_sem]
  refine aH ?_
  refine cnd rfl (fun h => ?_) (fun h => ?_)
  ·simp only [decide_eq_true_eq, Int.ofNat_lt] at h
   have hw := dK wAttr l h
   have q0 := @h; refine jK (a1E l[k] (by omega)) ?_
   refine aM (k + 1) ?_ ?_ ?_
   ·simp only [go_sem]; simp
   ·omega
   ·omega
  ·simp only [decide_eq_false_iff_not] at h
   refine aH ?_
   exact aA ⟨⟨_, rfl, by simp only [go_sem]⟩, trivial⟩
theorem sS (l : List TAttr) (n : Int) (h0 : 0 ≤ n ∧ n ≤ 1048576) (hw : nG l) : FnC Tryd.prog 39 [.o (.d (.sl (l.map aY))), oi n] (oi (bF n (bK l))) := by
 unfold nG at hw
 refine ent Tryd.func39 rfl Tryd.call39 rfl (fun C => ?_); simp only [go_sem, st0, Tryd.ntmps39]
 by_cases hc : n - (l.length : Nat) < 0
 ·have e : bF n (bK l) = -1 := by rw [aT (by unfold bK; omega)]
  have q0 := @hc; refine gD ?_
  exact aA ⟨⟨_, rfl, by simp only [go_sem, e]⟩, trivial⟩
 have q0 := @hc; refine gD ?_
 refine bB (α := Nat) (fun k => [(5, oi k), (1, oi (n - (l.length : Nat) - (wsum wAttr (l.take k) : Nat)))]) (fun _ => []) (fun k => k ≤ l.length ∧ 0 ≤ n - (l.length : Nat) - (wsum wAttr (l.take k) : Nat)) (fun k => l.length - k) 0 (fun _ => ?_) ?_ ?_ (fun k hk => ?_)
 ·simp only [go_sem]
 ·simp only [go_sem]; simp [wsum]
 ·simp [wsum]; omega
 ·obtain ⟨hk, hn⟩ := hk
  simp only [go_sem]
  refine aH ?_
  refine cnd rfl (fun h => ?_) (fun h => ?_)
  ·simp only [decide_eq_true_eq, Int.ofNat_lt] at h
   have hs := kX wAttr l h
   have ht := qR wAttr l (k + 1)
   by_cases h2 : n - (l.length : Nat) - (wsum wAttr (l.take k) : Nat) - (wAttr l[k] : Nat) < 0
   ·have e : bF n (bK l) = -1 := by rw [aT (by unfold bK; omega)]
    have q0 := @h; have q1 := aT h2; refine xG (vS l[k] _ ⟨hn, by omega⟩ (hw.2 _ (List.getElem_mem h))) ?_
    exact aA ⟨⟨_, rfl, by simp only [go_sem, e]⟩, trivial⟩
   ·have q0 := @h; have q1 := bE h2; have q2 := @h2; refine qC (vS l[k] _ ⟨hn, by omega⟩ (hw.2 _ (List.getElem_mem h))) ?_
    refine aM (k + 1) ?_ ?_ ?_
    ·simp only [go_sem]; simp; omega
    ·omega
    ·omega
  ·simp only [decide_eq_false_iff_not] at h
   have e0 : k = l.length := by omega
   subst e0
   rw [List.take_length] at hn
   have e : bF n (bK l) = n - (l.length : Nat) - (wsum wAttr l : Nat) := by rw [bE (by unfold bK; omega)]; unfold bK; omega
   refine aH ?_
   exact aA ⟨⟨_, rfl, by simp only [go_sem, e, List.take_length]⟩, trivial⟩
end Go.Proofs.YtgfngchfmohhbaaDoor
end
section
set_option linter.all false
set_option maxHeartbeats 1000000
namespace Go.Proofs.YtgfngchfmohhbaaDoor
open Go Go.Sx Go.RowKit Go.Proofs
structure TFile where
 fID : Int
 fOwner : Int
 fShared : Bool
 fLink : Int
 fAttrs : List TAttr
@[go_sem] def aZ (x : TFile) : List D := [iv x.fID, iv x.fOwner, bv x.fShared, iv x.fLink, .sl (x.fAttrs.map aY)]
@[go_sem] def fQ (x : TFile) : SV := .g [.d (iv x.fID), .d (iv x.fOwner), .d (bv x.fShared), .d (iv x.fLink), .d (.sl (x.fAttrs.map aY))]
@[go_sem] def yX (x : TFile) : SV := .g [.d (iv x.fID), .d (iv x.fOwner), .d (bv x.fShared), .d (iv x.fLink), .w 70 4 (x.fAttrs.map aY)]
def wFile (x : TFile) : Nat := bK x.fAttrs
def iG (x : TFile) : Prop := inR .i64 x.fID ∧ inR .i64 x.fOwner ∧ True ∧ inR .i64 x.fLink ∧ nG x.fAttrs
def bP (l : List TFile) : Nat := l.length + wsum wFile l
def qV (l : List TFile) : Prop := l.length ≤ 9223372036854775807 ∧ ∀ x ∈ l, iG x
theorem a0V {n : Nat} {r : List D} (h : ShD tt n 31 r) : ∃ x : TFile, r = aZ x ∧ iG x := by
 match n, h with
 | n + 1, ⟨a0, b0, e0, h0, a1, b1, e1, h1, a2, b2, e2, h2, a3, b3, e3, h3, a4, b4, e4, h4, ee⟩ =>
  obtain ⟨x0, rfl, p0⟩ := xH h0
  obtain ⟨x1, rfl, p1⟩ := xH h1
  obtain ⟨x2, rfl⟩ := a6i h2
  obtain ⟨x3, rfl, p3⟩ := xH h3
  obtain ⟨x4, rfl, p4⟩ := a2z h4
  have ee' : b4 = [] := ee
  subst ee' e4 e3 e2 e1 e0
  exact ⟨⟨x0, x1, x2, x3, x4⟩, rfl, p0, p1, trivial, p3, p4⟩
theorem a2A {n : Nat} {r : List D} (h : ShD tt n 41 r) : ∃ l : List TFile, r = [.sl (l.map aZ)] ∧ qV l := by
 match n, h with
 | n + 1, ⟨rows, h, hm, hr⟩ =>
  obtain ⟨l, rfl, hl⟩ := kJ aZ iG (fun r h => a0V (hr r h))
  exact ⟨l, h, by unfold maxLen at hm; simpa using hm, hl⟩
theorem oG (x : TFile) (n : Int) (h0 : 0 ≤ n ∧ n ≤ 1048576) (hw : iG x) : FnC Tryd.prog 13 [fQ x, oi n] (oi (bF n (wFile x))) := by
 refine ent Tryd.func13 rfl Tryd.call13 rfl (fun C => ?_); simp only [go_sem, st0, Tryd.ntmps13]
 unfold iG at hw
 by_cases hc0 : n - (bK x.fAttrs : Nat) < 0
 ·have e : bF n (wFile x) = -1 := by rw [aT (by unfold wFile; omega)]
  have q0 := aT hc0; have q1 := @hc0; refine xG (sS x.fAttrs (n) (by omega) hw.2.2.2.2) ?_
  exact aA ⟨⟨_, rfl, by simp only [go_sem, e]⟩, trivial⟩
 have e : bF n (wFile x) = n - (bK x.fAttrs : Nat) := by rw [bE (by unfold wFile; omega)]; unfold wFile; omega
 have q0 := bE hc0; have q1 := @hc0; refine xG (sS x.fAttrs (n) (by omega) hw.2.2.2.2) ?_
 exact aA ⟨⟨_, rfl, by simp only [go_sem, e]⟩, trivial⟩
theorem oI (x : TFile) (hx : wFile x ≤ 1048576) : FnC Tryd.prog 15 [fQ x] (yX x) := by
 unfold wFile at hx
 refine ent Tryd.func15 rfl Tryd.call15 rfl (fun C => ?_); simp only [go_sem, st0, Tryd.ntmps15]
 refine qB (a0w x.fAttrs (by omega)) ?_
 exact aA ⟨⟨_, rfl, by simp only [go_sem]⟩, trivial⟩
theorem a0y (x : TFile) (hx : wFile x ≤ 1048576) : FnC Tryd.prog 15 [fQ x] (fQ x) := (oI x hx).pu (by simp only [go_sem, and_self])
theorem vT (x : TFile) (hx : wFile x ≤ 67108864) : FnC Tryd.prog 17 [fQ x, fQ x] (ob true) := by
 unfold wFile at hx
 refine ent Tryd.func17 rfl Tryd.call17 rfl (fun C => ?_); simp only [go_sem, st0, Tryd.ntmps17]
 refine qB (a0x x.fAttrs (by omega)) ?_
 exact aA ⟨⟨_, rfl, by simp only [go_sem]⟩, trivial⟩
theorem a0z (l : List TFile) (hl : bP l ≤ 1048576) : FnC Tryd.prog 48 [.o (.d (.sl (l.map aZ)))] (.o (.w 36 5 (l.map aZ))) := by
 unfold bP at hl
 refine ent Tryd.func48 rfl Tryd.call48 rfl (fun C => ?_); simp only [go_sem, st0, Tryd.ntmps48]
 refine aH ?_
 refine bB (α := Nat) (fun k => [(4, oi k)]) (fun k => [(0, .row 36 5 (gJ aZ [iv 0, iv 0, bv false, iv 0, .sl []] l k) true)]) (fun k => k ≤ l.length) (fun k => l.length - k) 0 (fun _ => ?_) ?_ ?_ (fun k hk => ?_)
 ·simp only [go_sem]
 ·simp only [go_sem]; simp [iY]
 ·simp
 ·simp only [go_sem]
  refine aH ?_
  refine cnd rfl (fun h => ?_) (fun h => ?_)
  ·simp only [decide_eq_true_eq, Int.ofNat_lt] at h
   have hw := dK wFile l h
   have q0 := @h; refine jK (oI l[k] (by omega)) ?_
   refine aM (k + 1) ?_ ?_ ?_
   ·simp only [go_sem]; simp [← kT, h, aZ]
   ·omega
   ·omega
  ·simp only [decide_eq_false_iff_not] at h
   have e : k = l.length := by omega
   subst e
   refine aH ?_
   exact aA ⟨⟨_, rfl, by simp only [go_sem, kU]⟩, trivial⟩
theorem a0A (l : List TFile) (hl : bP l ≤ 67108864) : FnC Tryd.prog 51 [.o (.d (.sl (l.map aZ))), .o (.d (.sl (l.map aZ)))] (ob true) := by
 unfold bP at hl
 refine ent Tryd.func51 rfl Tryd.call51 rfl (fun C => ?_); simp only [go_sem, st0, Tryd.ntmps51]
 refine aH ?_
 refine bB (α := Nat) (fun k => [(5, oi k)]) (fun _ => []) (fun k => k ≤ l.length) (fun k => l.length - k) 0 (fun _ => ?_) ?_ ?_ (fun k hk => ?_)
 ·simp only [go_sem]
 ·simp only [go_sem]; simp
 ·simp
 ·simp only [go_sem]
  refine aH ?_
  refine cnd rfl (fun h => ?_) (fun h => ?_)
  ·simp only [decide_eq_true_eq, Int.ofNat_lt] at h
   have hw := dK wFile l h
   have q0 := @h; refine jK (vT l[k] (by omega)) ?_
   refine aM (k + 1) ?_ ?_ ?_
   ·simp only [go_sem]; simp
   ·omega
   ·omega
  ·simp only [decide_eq_false_iff_not] at h
   refine aH ?_
   exact aA ⟨⟨_, rfl, by simp only [go_sem]⟩, trivial⟩
theorem sU (l : List TFile) (n : Int) (h0 : 0 ≤ n ∧ n ≤ 1048576) (hw : qV l) : FnC Tryd.prog 46 [.o (.d (.sl (l.map aZ))), oi n] (oi (bF n (bP l))) := by
 unfold qV at hw
 refine ent Tryd.func46 rfl Tryd.call46 rfl (fun C => ?_); simp only [go_sem, st0, Tryd.ntmps46]
 by_cases hc : n - (l.length : Nat) < 0
 ·have e : bF n (bP l) = -1 := by rw [aT (by unfold bP; omega)]
  have q0 := @hc; refine gD ?_
  exact aA ⟨⟨_, rfl, by simp only [go_sem, e]⟩, trivial⟩
 have q0 := @hc; refine gD ?_
 refine bB (α := Nat) (fun k => [(5, oi k), (1, oi (n - (l.length : Nat) - (wsum wFile (l.take k) : Nat)))]) (fun _ => []) (fun k => k ≤ l.length ∧ 0 ≤ n - (l.length : Nat) - (wsum wFile (l.take k) : Nat)) (fun k => l.length - k) 0 (fun _ => ?_) ?_ ?_ (fun k hk => ?_)
 ·simp only [go_sem]
 ·simp only [go_sem]; simp [wsum]
 ·simp [wsum]; omega
 ·obtain ⟨hk, hn⟩ := hk
  simp only [go_sem]
  refine aH ?_
  refine cnd rfl (fun h => ?_) (fun h => ?_)
  ·simp only [decide_eq_true_eq, Int.ofNat_lt] at h
   have hs := kX wFile l h
   have ht := qR wFile l (k + 1)
   by_cases h2 : n - (l.length : Nat) - (wsum wFile (l.take k) : Nat) - (wFile l[k] : Nat) < 0
   ·have e : bF n (bP l) = -1 := by rw [aT (by unfold bP; omega)]
    have q0 := @h; have q1 := aT h2; refine xG (oG l[k] _ ⟨hn, by omega⟩ (hw.2 _ (List.getElem_mem h))) ?_
    exact aA ⟨⟨_, rfl, by simp only [go_sem, e]⟩, trivial⟩
   ·have q0 := @h; have q1 := bE h2; have q2 := @h2; refine qC (oG l[k] _ ⟨hn, by omega⟩ (hw.2 _ (List.getElem_mem h))) ?_
    refine aM (k + 1) ?_ ?_ ?_
    ·simp only [go_sem]; simp; omega
    ·omega
    ·omega
  ·simp only [decide_eq_false_iff_not] at h
   have e0 : k = l.length := by omega
   subst e0
   rw [List.take_length] at hn
   have e : bF n (bP l) = n - (l.length : Nat) - (wsum wFile l : Nat) := by rw [bE (by unfold bP; omega)]; unfold bP; omega
   refine aH ?_
   exact aA ⟨⟨_, rfl, by simp only [go_sem, e, List.take_length]⟩, trivial⟩
end Go.Proofs.YtgfngchfmohhbaaDoor
end
section
set_option linter.all false
set_option maxHeartbeats 1000000
namespace Go.Proofs.YtgfngchfmohhbaaDoor
open Go Go.Sx Go.RowKit Go.Proofs
structure TStore where
 fSchema : List TField
 fFiles : List TFile
 fNextID : Int
@[go_sem] def a2B (x : TStore) : List D := [.sl (x.fSchema.map aQ), .sl (x.fFiles.map aZ), iv x.fNextID]
@[go_sem] def bH (x : TStore) : SV := .g [.d (.sl (x.fSchema.map aQ)), .d (.sl (x.fFiles.map aZ)), .d (iv x.fNextID)]
@[go_sem] def a4x (x : TStore) : SV := .g [.w 108 2 (x.fSchema.map aQ), .w 36 5 (x.fFiles.map aZ), .d (iv x.fNextID)]
def aJ (x : TStore) : Nat := bL x.fSchema + bP x.fFiles
def fG (x : TStore) : Prop := nE x.fSchema ∧ qV x.fFiles ∧ inR .i64 x.fNextID
def a5N (l : List TStore) : Nat := l.length + wsum aJ l
def a5q (l : List TStore) : Prop := l.length ≤ 9223372036854775807 ∧ ∀ x ∈ l, fG x
theorem nH {n : Nat} {r : List D} (h : ShD tt n 43 r) : ∃ x : TStore, r = a2B x ∧ fG x := by
 match n, h with
 | n + 1, ⟨a0, b0, e0, h0, a1, b1, e1, h1, a2, b2, e2, h2, ee⟩ =>
  obtain ⟨x0, rfl, p0⟩ := a1C h0
  obtain ⟨x1, rfl, p1⟩ := a2A h1
  obtain ⟨x2, rfl, p2⟩ := xH h2
  have ee' : b2 = [] := ee
  subst ee' e2 e1 e0
  exact ⟨⟨x0, x1, x2⟩, rfl, p0, p1, p2⟩
theorem jN (x : TStore) (n : Int) (h0 : 0 ≤ n ∧ n ≤ 1048576) (hw : fG x) : FnC Tryd.prog 18 [bH x, oi n] (oi (bF n (aJ x))) := by
 refine ent Tryd.func18 rfl Tryd.call18 rfl (fun C => ?_); simp only [go_sem, st0, Tryd.ntmps18]
 unfold fG at hw
 by_cases hc0 : n - (bL x.fSchema : Nat) < 0
 ·have e : bF n (aJ x) = -1 := by rw [aT (by unfold aJ; omega)]
  have q0 := aT hc0; have q1 := @hc0; refine xG (kI x.fSchema (n) (by omega) hw.1) ?_
  exact aA ⟨⟨_, rfl, by simp only [go_sem, e]⟩, trivial⟩
 by_cases hc1 : n - (bL x.fSchema : Nat) - (bP x.fFiles : Nat) < 0
 ·have e : bF n (aJ x) = -1 := by rw [aT (by unfold aJ; omega)]
  have q0 := bE hc0; have q1 := @hc0; have q2 := aT hc1; have q3 := @hc1; refine a1w (kI x.fSchema (n) (by omega) hw.1) (sU x.fFiles (n - (bL x.fSchema : Nat)) (by omega) hw.2.1) ?_
  exact aA ⟨⟨_, rfl, by simp only [go_sem, e]⟩, trivial⟩
 have e : bF n (aJ x) = n - (bL x.fSchema : Nat) - (bP x.fFiles : Nat) := by rw [bE (by unfold aJ; omega)]; unfold aJ; omega
 have q0 := bE hc0; have q1 := @hc0; have q2 := bE hc1; have q3 := @hc1; refine a1w (kI x.fSchema (n) (by omega) hw.1) (sU x.fFiles (n - (bL x.fSchema : Nat)) (by omega) hw.2.1) ?_
 exact aA ⟨⟨_, rfl, by simp only [go_sem, e]⟩, trivial⟩
theorem dW (x : TStore) (hx : aJ x ≤ 1048576) : FnC Tryd.prog 20 [bH x] (a4x x) := by
 unfold aJ at hx
 refine ent Tryd.func20 rfl Tryd.call20 rfl (fun C => ?_); simp only [go_sem, st0, Tryd.ntmps20]
 refine a4p (yT x.fSchema (by omega)) (a0z x.fFiles (by omega)) ?_
 exact aA ⟨⟨_, rfl, by simp only [go_sem]⟩, trivial⟩
theorem gY (x : TStore) (hx : aJ x ≤ 1048576) : FnC Tryd.prog 20 [bH x] (bH x) := (dW x hx).pu (by simp only [go_sem, and_self])
theorem fB (x : TStore) (hx : aJ x ≤ 67108864) : FnC Tryd.prog 23 [bH x, bH x] (ob true) := by
 unfold aJ at hx
 refine ent Tryd.func23 rfl Tryd.call23 rfl (fun C => ?_); simp only [go_sem, st0, Tryd.ntmps23]
 refine a4p (yU x.fSchema (by omega)) (a0A x.fFiles (by omega)) ?_
 exact aA ⟨⟨_, rfl, by simp only [go_sem]⟩, trivial⟩
end Go.Proofs.YtgfngchfmohhbaaDoor
end
section
set_option linter.all false
set_option maxHeartbeats 1000000
namespace Go.Proofs.YtgfngchfmohhbaaDoor
open Go Go.Sx Go.RowKit Go.Proofs
structure TNode where
 fOp : Int
 fLeft : Int
 fRight : Int
 fName : ByteArray
 fValue : TValue
@[go_sem] def qW (x : TNode) : List D := [iv x.fOp, iv x.fLeft, iv x.fRight, sv x.fName, iv x.fValue.fKind, iv x.fValue.fInt, sv x.fValue.fStr]
@[go_sem] def a6u (x : TNode) : SV := .g [.d (iv x.fOp), .d (iv x.fLeft), .d (iv x.fRight), .d (sv x.fName), .d (iv x.fValue.fKind), .d (iv x.fValue.fInt), .d (sv x.fValue.fStr)]
def a5r (x : TNode) : Nat := x.fName.size + dL x.fValue
def a4y (x : TNode) : Prop := inR .i64 x.fOp ∧ inR .i64 x.fLeft ∧ inR .i64 x.fRight ∧ x.fName.size ≤ 9223372036854775807 ∧ jM x.fValue
def a4z (l : List TNode) : Nat := l.length + wsum a5r l
def a3w (l : List TNode) : Prop := l.length ≤ 9223372036854775807 ∧ ∀ x ∈ l, a4y x
end Go.Proofs.YtgfngchfmohhbaaDoor
end
section
set_option linter.all false
set_option maxHeartbeats 1000000
namespace Go.Proofs.YtgfngchfmohhbaaDoor
open Go Go.Sx Go.RowKit Go.Proofs
structure TDir where
 fName : ByteArray
 fQuery : List TNode
@[go_sem] def xI (x : TDir) : List D := [sv x.fName, .sl (x.fQuery.map qW)]
@[go_sem] def a6z (x : TDir) : SV := .g [.d (sv x.fName), .d (.sl (x.fQuery.map qW))]
def a5s (x : TDir) : Nat := x.fName.size + a4z x.fQuery
def a3K (x : TDir) : Prop := x.fName.size ≤ 9223372036854775807 ∧ a3w x.fQuery
def a3L (l : List TDir) : Nat := l.length + wsum a5s l
def a2C (l : List TDir) : Prop := l.length ≤ 9223372036854775807 ∧ ∀ x ∈ l, a3K x
end Go.Proofs.YtgfngchfmohhbaaDoor
end
end
section
section
set_option linter.all false
set_option maxHeartbeats 1000000
namespace Go.Proofs.YtgfngchfmohhbaaDoor
open Go Go.Sx Go.RowKit Go.Proofs
structure TResult where
 fName : ByteArray
 fIDs : List Int
@[go_sem] def vP (x : TResult) : List D := [sv x.fName, .sl (x.fIDs.map bN)]
@[go_sem] def a5C (x : TResult) : SV := .g [.d (sv x.fName), .d (.sl (x.fIDs.map bN))]
@[go_sem] def a5D (x : TResult) : SV := .g [.d (sv x.fName), .w 3 1 (x.fIDs.map bN)]
def a3r (x : TResult) : Nat := x.fName.size + x.fIDs.length
def a2s (x : TResult) : Prop := x.fName.size ≤ 9223372036854775807 ∧ bO x.fIDs
def a2t (l : List TResult) : Nat := l.length + wsum a3r l
def a1z (l : List TResult) : Prop := l.length ≤ 9223372036854775807 ∧ ∀ x ∈ l, a2s x
end Go.Proofs.YtgfngchfmohhbaaDoor
end
section
set_option linter.all false
set_option maxHeartbeats 1000000
namespace Go.Proofs.YtgfngchfmohhbaaDoor
open Go Go.Sx Go.RowKit Go.Proofs
structure TDiff where
 fName : ByteArray
 fAdded : List Int
 fRemoved : List Int
@[go_sem] def a5E (x : TDiff) : List D := [sv x.fName, .sl (x.fAdded.map bN), .sl (x.fRemoved.map bN)]
@[go_sem] def a6p (x : TDiff) : SV := .g [.d (sv x.fName), .d (.sl (x.fAdded.map bN)), .d (.sl (x.fRemoved.map bN))]
@[go_sem] def a6q (x : TDiff) : SV := .g [.d (sv x.fName), .w 3 1 (x.fAdded.map bN), .w 3 1 (x.fRemoved.map bN)]
def a5h (x : TDiff) : Nat := x.fName.size + x.fAdded.length + x.fRemoved.length
def a4q (x : TDiff) : Prop := x.fName.size ≤ 9223372036854775807 ∧ bO x.fAdded ∧ bO x.fRemoved
def a6d (l : List TDiff) : Nat := l.length + wsum a5h l
def a5F (l : List TDiff) : Prop := l.length ≤ 9223372036854775807 ∧ ∀ x ∈ l, a4q x
end Go.Proofs.YtgfngchfmohhbaaDoor
end
section
set_option linter.all false
set_option maxHeartbeats 1000000
namespace Go.Proofs.YtgfngchfmohhbaaDoor
open Go Go.Sx Go.RowKit Go.Proofs
structure TCatalog where
 fStore : TStore
 fDirs : List TDir
 fResults : List TResult
@[go_sem] def a4r (x : TCatalog) : List D := [.sl (x.fStore.fSchema.map aQ), .sl (x.fStore.fFiles.map aZ), iv x.fStore.fNextID, .sl (x.fDirs.map xI), .sl (x.fResults.map vP)]
@[go_sem] def a5i (x : TCatalog) : SV := .g [.d (.sl (x.fStore.fSchema.map aQ)), .d (.sl (x.fStore.fFiles.map aZ)), .d (iv x.fStore.fNextID), .d (.sl (x.fDirs.map xI)), .d (.sl (x.fResults.map vP))]
def a2u (x : TCatalog) : Nat := aJ x.fStore + a3L x.fDirs + a2t x.fResults
def a1A (x : TCatalog) : Prop := fG x.fStore ∧ a2C x.fDirs ∧ a1z x.fResults
def a4G (l : List TCatalog) : Nat := l.length + wsum a2u l
def a4s (l : List TCatalog) : Prop := l.length ≤ 9223372036854775807 ∧ ∀ x ∈ l, a1A x
end Go.Proofs.YtgfngchfmohhbaaDoor
end
section
set_option linter.all false
set_option maxHeartbeats 1000000
namespace Go.Proofs.YtgfngchfmohhbaaDoor
open Go Go.Sx Go.RowKit Go.Proofs
structure TGroup where
 fValue : TValue
 fIDs : List Int
@[go_sem] def a5j (x : TGroup) : List D := [iv x.fValue.fKind, iv x.fValue.fInt, sv x.fValue.fStr, .sl (x.fIDs.map bN)]
@[go_sem] def a6e (x : TGroup) : SV := .g [.d (iv x.fValue.fKind), .d (iv x.fValue.fInt), .d (sv x.fValue.fStr), .d (.sl (x.fIDs.map bN))]
@[go_sem] def a6f (x : TGroup) : SV := .g [.d (iv x.fValue.fKind), .d (iv x.fValue.fInt), .d (sv x.fValue.fStr), .w 3 1 (x.fIDs.map bN)]
def a4t (x : TGroup) : Nat := dL x.fValue + x.fIDs.length
def a3s (x : TGroup) : Prop := jM x.fValue ∧ bO x.fIDs
def a5G (l : List TGroup) : Nat := l.length + wsum a4t l
def a5k (l : List TGroup) : Prop := l.length ≤ 9223372036854775807 ∧ ∀ x ∈ l, a3s x
end Go.Proofs.YtgfngchfmohhbaaDoor
end
section
set_option linter.all false
set_option maxHeartbeats 1000000
namespace Go.Proofs.YtgfngchfmohhbaaDoor
open Go Go.Sx Go.RowKit Go.Proofs
structure TEdit where
 fOK : Bool
 fSet : List TAttr
@[go_sem] def a5H (x : TEdit) : List D := [bv x.fOK, .sl (x.fSet.map aY)]
@[go_sem] def a6r (x : TEdit) : SV := .g [.d (bv x.fOK), .d (.sl (x.fSet.map aY))]
@[go_sem] def a6s (x : TEdit) : SV := .g [.d (bv x.fOK), .w 70 4 (x.fSet.map aY)]
def a5l (x : TEdit) : Nat := bK x.fSet
def a4u (x : TEdit) : Prop := True ∧ nG x.fSet
def a6g (l : List TEdit) : Nat := l.length + wsum a5l l
def a5I (l : List TEdit) : Prop := l.length ≤ 9223372036854775807 ∧ ∀ x ∈ l, a4u x
end Go.Proofs.YtgfngchfmohhbaaDoor
end
section
set_option linter.all false
set_option maxHeartbeats 1000000
namespace Go.Proofs.YtgfngchfmohhbaaDoor
open Go Go.Sx Go.RowKit Go.Proofs
structure TChange where
 fKind : Int
 fFile : TFile
 fID : Int
 fDir : TDir
@[go_sem] def a4H (x : TChange) : List D := [iv x.fKind, iv x.fFile.fID, iv x.fFile.fOwner, bv x.fFile.fShared, iv x.fFile.fLink, .sl (x.fFile.fAttrs.map aY), iv x.fID, sv x.fDir.fName, .sl (x.fDir.fQuery.map qW)]
@[go_sem] def a5J (x : TChange) : SV := .g [.d (iv x.fKind), .d (iv x.fFile.fID), .d (iv x.fFile.fOwner), .d (bv x.fFile.fShared), .d (iv x.fFile.fLink), .d (.sl (x.fFile.fAttrs.map aY)), .d (iv x.fID), .d (sv x.fDir.fName), .d (.sl (x.fDir.fQuery.map qW))]
def a3t (x : TChange) : Nat := wFile x.fFile + a5s x.fDir
def a2v (x : TChange) : Prop := inR .i64 x.fKind ∧ iG x.fFile ∧ inR .i64 x.fID ∧ a3K x.fDir
def a5m (l : List TChange) : Nat := l.length + wsum a3t l
def a4I (l : List TChange) : Prop := l.length ≤ 9223372036854775807 ∧ ∀ x ∈ l, a2v x
end Go.Proofs.YtgfngchfmohhbaaDoor
end
section
set_option linter.all false
set_option maxHeartbeats 1000000
namespace Go.Proofs.YtgfngchfmohhbaaDoor
open Go Go.Sx Go.RowKit Go.Proofs
structure TSnapshot where
 fStore : TStore
 fDirs : List TDir
@[go_sem] def a3I (x : TSnapshot) : List D := [.sl (x.fStore.fSchema.map aQ), .sl (x.fStore.fFiles.map aZ), iv x.fStore.fNextID, .sl (x.fDirs.map xI)]
@[go_sem] def a4J (x : TSnapshot) : SV := .g [.d (.sl (x.fStore.fSchema.map aQ)), .d (.sl (x.fStore.fFiles.map aZ)), .d (iv x.fStore.fNextID), .d (.sl (x.fDirs.map xI))]
def a1B (x : TSnapshot) : Nat := aJ x.fStore + a3L x.fDirs
def a0r (x : TSnapshot) : Prop := fG x.fStore ∧ a2C x.fDirs
def a4v (l : List TSnapshot) : Nat := l.length + wsum a1B l
def a3J (l : List TSnapshot) : Prop := l.length ≤ 9223372036854775807 ∧ ∀ x ∈ l, a0r x
end Go.Proofs.YtgfngchfmohhbaaDoor
end
section
set_option linter.all false
set_option maxHeartbeats 1000000
namespace Go.Proofs.YtgfngchfmohhbaaDoor
open Go Go.Sx Go.RowKit Go.Proofs
structure TDisk where
 fSlotA : ByteArray
 fSlotB : ByteArray
@[go_sem] def a5K (x : TDisk) : List D := [sv x.fSlotA, sv x.fSlotB]
@[go_sem] def a6t (x : TDisk) : SV := .g [.d (sv x.fSlotA), .d (sv x.fSlotB)]
def a5n (x : TDisk) : Nat := x.fSlotA.size + x.fSlotB.size
def a4w (x : TDisk) : Prop := x.fSlotA.size ≤ 9223372036854775807 ∧ x.fSlotB.size ≤ 9223372036854775807
def a6h (l : List TDisk) : Nat := l.length + wsum a5n l
def a5L (l : List TDisk) : Prop := l.length ≤ 9223372036854775807 ∧ ∀ x ∈ l, a4w x
end Go.Proofs.YtgfngchfmohhbaaDoor
end
section
set_option linter.all false
namespace Go.Proofs.YtgfngchfmohhbaaDoor
open Go Go.Sx Go.RowKit Go.Proofs
def inB (n a b : Int) : Bool := decide (a ≤ n) && decide (n ≤ b)
theorem oF (n a b : Int) : FnC Tryd.prog 83 [oi n, oi a, oi b] (ob (inB n a b)) := by
 refine ent Tryd.func83 rfl Tryd.call83 rfl (fun C => ?_); simp only [go_sem, st0, Tryd.ntmps83]
 by_cases h0 : a ≤ n <;> by_cases h1 : n ≤ b
 all_goals
  have q0 := @h0; have q1 := @h1; have q2 := @decide_false; refine yS ?_
  refine aA ⟨⟨_, rfl, ?_⟩, ?_⟩
  ·simp only [go_sem]; simp [inB, h0, h1]
  ·trivial
theorem sM (n a b : Int) : FnC Tryd.prog 81 [oi n, oi a, oi b] (ob (inB n a b)) := by
 refine ent Tryd.func81 rfl Tryd.call81 rfl (fun C => ?_); simp only [go_sem, st0, Tryd.ntmps81]
 by_cases h0 : a ≤ n <;> by_cases h1 : n ≤ b
 all_goals
  have q0 := @h0; have q1 := @h1; have q2 := @decide_false; refine yS ?_
  refine aA ⟨⟨_, rfl, ?_⟩, ?_⟩
  ·simp only [go_sem]; simp [inB, h0, h1]
  ·trivial
end Go.Proofs.YtgfngchfmohhbaaDoor
end
section
set_option linter.all false
set_option maxHeartbeats 1000000
namespace Go.Proofs.YtgfngchfmohhbaaDoor
open Go Go.Sx Go.RowKit Go.Proofs
theorem vR (l : List ByteArray) (hl : l.length ≤ 67108864) : FnC Tryd.prog 29 [.o (.d (.sl (l.map eH))), .o (.d (.sl (l.map eH)))] (ob true) := by
 refine ent Tryd.func29 rfl Tryd.call29 rfl (fun C => ?_); simp only [go_sem, st0, Tryd.ntmps29]
 refine aH ?_
 refine bB (α := Nat) (fun k => [(5, oi k)]) (fun _ => []) (fun k => k ≤ l.length) (fun k => l.length - k) 0 (fun _ => ?_) ?_ ?_ (fun k hk => ?_)
 ·simp only [go_sem]
 ·simp only [go_sem]; simp
 ·simp
 ·simp only [go_sem]
  refine aH ?_
  refine cnd rfl (fun h => ?_) (fun h => ?_)
  ·simp only [decide_eq_true_eq, Int.ofNat_lt] at h
   have q0 := @h; refine gD ?_
   refine aM (k + 1) ?_ ?_ ?_
   ·simp only [go_sem]; simp
   ·omega
   ·omega
  ·simp only [decide_eq_false_iff_not] at h
   refine aH ?_
   exact aA ⟨⟨_, rfl, by simp only [go_sem]⟩, trivial⟩
end Go.Proofs.YtgfngchfmohhbaaDoor
end
end
