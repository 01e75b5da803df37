/- Joined texts. -/
import Derived.Test.YtgpoopjfkplilaaGreatDoorZ04
import Derived.ProofKit
import Derived.Test.YtgpoopjfkplilaaGreatDoorRows
import Derived.Test.YtgpoopjfkplilaaGreatDoorZ06
import Derived.OpenShut
set_option linter.all false
section
section
set_option linter.all false
namespace Go.Sx
open Go Go.RowKit
def V0 (w : World) : View := fun b => match w.heap[b]? with
 | some (.cells c _ _) => some c.toList
 | _ => none
theorem b6D (w : World) : Mod (V0 w) w := fun b cs h => by
 unfold V0 at h
 split at h
 ·rename_i c t f e
  cases h
  exact ⟨c, t, f, e, List.prefix_refl _⟩
 ·cases h
theorem b5g {w : World} {a : Addr} {y : Value} (h : w.cell? a = some y) : (V0 w).cell a = some y := by
 unfold World.cell? at h
 unfold View.cell V0
 split at h
 ·rename_i c t f e
  by_cases hs : a.spot.isSome
  ·rw [if_pos hs] at h; cases h
  ·rw [if_neg hs] at h ⊢
   rw [e]
   simpa using h
 ·cases h
def a4A (T : Nat → Ty) : Nat → List (Nat × Nat) → Option Nat
 | o, [] => some o
 | o, p :: r => if p.1 = o ∧ (T p.2).tag ≠ 0 then a4A T (o + (T p.2).size) r else none
def Cl (T : Nat → Ty) : Prop := ∀ t, ((T t).tag = 1 → a4A T 0 (T t).flds = some (T t).size) ∧ ((T t).tag = 2 → (T (T t).elem).tag ≠ 0) ∧ ((T t).tag = 3 → (T t).kind = .i64 ∨ (T t).kind = .u8)
def clB (l : List Ty) (d : Ty) : Bool := match d.tag with
 | 1 => a4A (fun t => l.getD t .bad) 0 d.flds == some d.size
 | 2 => (l.getD d.elem .bad).tag != 0
 | 3 => d.kind == .i64 || d.kind == .u8
 | _ => true
theorem Cl.of_list {l : List Ty} (h : l.all (clB l) = true) : Cl (fun t => l.getD t .bad) := fun t => by
 have key : clB l (l.getD t .bad) = true := by
  rcases Nat.lt_or_ge t l.length with hl | hl
  ·rw [List.getD_eq_getElem?_getD, List.getElem?_eq_getElem hl]
   exact List.all_eq_true.1 h _ (List.getElem_mem hl)
  ·rw [List.getD_eq_getElem?_getD, List.getElem?_eq_none hl]; rfl
 unfold clB at key
 refine ⟨fun e => ?_, fun e => ?_, fun e => ?_⟩
 ·simp only [e] at key; simpa using key
 ·simp only [e] at key; simpa using key
 ·simp only [e] at key; simpa using key
def ShFs (sh : Nat → List D → Prop) : List (Nat × Nat) → List D → Prop
 | [], ds => ds = []
 | p :: r, ds => ∃ a b, ds = a ++ b ∧ sh p.2 a ∧ ShFs sh r b
def ShD (T : Nat → Ty) : Nat → Nat → List D → Prop
 | 0, _, _ => False
 | n + 1, t, ds => match (T t).tag with
  | 1 => ShFs (ShD T n) (T t).flds ds
  | 2 => ∃ rows, ds = [.sl rows] ∧ rows.length ≤ maxLen ∧ ∀ r ∈ rows, ShD T n (T t).elem r
  | 3 => ∃ i, ds = [.v (.int (T t).kind i)] ∧ inR (T t).kind i
  | 4 => ∃ b, ds = [bv b]
  | 5 => ∃ s : ByteArray, ds = [sv s] ∧ s.size ≤ maxLen
  | _ => False
theorem a0F {α β : Type} {f : α → Option β} : ∀ {l : List α} {ys : List β}, l.mapM f = some ys → ∀ (i : Nat) (x : α), l[i]? = some x → ∃ y, f x = some y ∧ ys[i]? = some y
 | [], _, _, i, x, h => by simp at h
 | a :: l, ys, h, i, x, hx => by
  rw [List.mapM_cons] at h
  cases hfa : f a with
  | none => rw [hfa] at h; cases h
  | some b =>
   rw [hfa] at h
   cases hl : l.mapM f with
   | none => rw [hl] at h; cases h
   | some bs =>
    rw [hl] at h
    cases h
    cases i with
    | zero => simp at hx; subst hx; exact ⟨b, hfa, rfl⟩
    | succ i => simpa using a0F hl i x (by simpa using hx)
theorem a7x {α β : Type} {f : α → Option β} : ∀ {l : List α} {ys : List β}, l.mapM f = some ys → ys.length = l.length
 | [], ys, h => by cases h; rfl
 | a :: l, ys, h => by
  rw [List.mapM_cons] at h
  cases hfa : f a with
  | none => rw [hfa] at h; cases h
  | some b =>
   rw [hfa] at h
   cases hl : l.mapM f with
   | none => rw [hl] at h; cases h
   | some bs => rw [hl] at h; cases h; simp [a7x hl]
theorem qZ {α : Type} (enc : α → List D) (wf : α → Prop) : ∀ {rows : List (List D)}, (∀ r ∈ rows, ∃ x, r = enc x ∧ wf x) → ∃ l : List α, rows = l.map enc ∧ ∀ x ∈ l, wf x
 | [], _ => ⟨[], rfl, fun x h => by cases h⟩
 | r :: rows, h => by
  obtain ⟨x, rfl, hx⟩ := h r (by simp)
  obtain ⟨l, rfl, hl⟩ := qZ enc wf (rows := rows) fun r hr => h r (by simp [hr])
  exact ⟨x :: l, rfl, fun y hy => (List.mem_cons.1 hy).elim (fun e => e ▸ hx) (hl y)⟩
section
variable {H : Type} {enc : TypeId × Value → H} {P : Program} {w : World} {T : Nat → Ty}
theorem a9o {base : Nat} {a : Addr} {n : Nat} {cs : List Value} (h : w.cells? base a n = some cs) : cs.length = n ∧ ∀ k y, cs[k]? = some y → (V0 w).cell (a.add k) = some y := by
 unfold World.cells? at h
 split at h
 ·have hl := a7x h
  rw [List.length_range] at hl
  refine ⟨hl, fun k y hk => ?_⟩
  have hk' : k < n := by rw [← hl]; exact (List.getElem?_eq_some_iff.1 hk).1
  obtain ⟨y', h1, h2⟩ := a0F h k k (by simp [hk'])
  rw [hk] at h2; cases h2
  exact b5g h1
 ·cases h
theorem TyGood.cells {t : Nat} {d : Ty} {i : TypeInfo} {z : Value} {u : TypeDesc} (h : TyGood P t d i z u) : P.cellsOf t = d.size := by
 simp [Program.cellsOf, h.info, h.size]
theorem TyOK.cells (hT : TyOK P T) {t : Nat} (ht : (T t).tag ≠ 0) : P.cellsOf t = (T t).size := by
 obtain ⟨i, z, u, h⟩ := hT.good ht; exact h.cells
theorem a4B (hT : TyOK P T) {n : Nat} {sh : Nat → List D → Prop} {spare : Nat → Bool}
    (ih : ∀ t cs d ps, (T t).tag ≠ 0 → DataW.trod enc P w 0 spare true n t cs = some (d, ps) → ∃ ds Ss, sh t ds ∧ LayL (V0 w) ds cs Ss) {cs : List Value} :
    ∀ {fs : List Field} {ps : List (Nat × Nat)} {o : Nat} {xs : List (DataW H × List MemPlace)}, iI fs ps = true → a4A T o ps = some cs.length →
     (fs.mapM fun f => DataW.trod enc P w 0 spare true n f.type ((cs.drop f.offset).take (P.cellsOf f.type))) = some xs → ∃ ds Ss, ShFs sh ps ds ∧ LayL (V0 w) ds (cs.drop o) Ss
 | [], [], o, xs, _, ht, _ => by
  simp only [a4A, Option.some.injEq] at ht
  subst ht
  exact ⟨[], [], rfl, by rw [List.drop_length]; exact LayL.nil _⟩
 | f :: fs, p :: ps, o, xs, hf, ht, hm => by
  simp only [iI, Bool.and_eq_true, beq_iff_eq] at hf
  simp only [a4A] at ht
  split at ht
  ·rename_i hp
   rw [List.mapM_cons] at hm
   cases h1 : DataW.trod enc P w 0 spare true n f.type ((cs.drop f.offset).take (P.cellsOf f.type)) with
   | none => rw [h1] at hm; cases hm
   | some x =>
    rw [h1] at hm
    cases h2 : (fs.mapM fun f => DataW.trod enc P w 0 spare true n f.type ((cs.drop f.offset).take (P.cellsOf f.type))) with
    | none => rw [h2] at hm; cases hm
    | some ys =>
     obtain ⟨ds, Ss, q1, q2⟩ := ih _ _ x.1 x.2 (by rw [hf.1.2]; exact hp.2) h1
     obtain ⟨ds', Ss', q3, q4⟩ := a4B hT ih hf.2 ht h2
     rw [hf.1.2] at q1 q2
     rw [hT.cells hp.2, hf.1.1, hp.1] at q2
     refine ⟨ds ++ ds', Ss ++ Ss', ⟨ds, ds', rfl, q1, q3⟩, ?_⟩
     have e : cs.drop o = (cs.drop o).take (T p.2).size ++ cs.drop (o + (T p.2).size) := by
      rw [← List.drop_drop, List.take_append_drop]
     rw [e]
     exact q2.append q4
  ·cases ht
 | [], _ :: _, _, _, h, _, _ => by simp [iI] at h
 | _ :: _, [], _, _, h, _, _ => by simp [iI] at h
theorem a4C {sh : List D → Prop} {a : Addr} {sz : Nat} {g : List Value → Option (DataW H × List MemPlace)}
    (ih : ∀ cs d ps, g cs = some (d, ps) → ∃ ds Ss, sh ds ∧ LayL (V0 w) ds cs Ss) :
    ∀ {n : Nat}, (∀ i, i < n → ∃ x, ((w.cells? 0 (a.add (i * sz)) sz).bind g) = some x) →
     ∃ (rows : List (List D)) (ys : List Value) (Ss : List (List Nat)), rows.length = n ∧ (∀ r ∈ rows, sh r ∧ r.length = sz) ∧ ys.length = n * sz ∧ (∀ k y, ys[k]? = some y → (V0 w).cell (a.add k) = some y) ∧ LayL (V0 w) rows.flatten ys Ss
 | 0, _ => ⟨[], [], [], rfl, fun r h => (by cases h), by simp, fun k y h => (by simp at h), LayL.nil _⟩
 | n + 1, h => by
  obtain ⟨rows, ys, Ss, r1, r2, r3, r4, r5⟩ := a4C ih (n := n) fun i hi => h i (by omega)
  obtain ⟨x, hx⟩ := h n (by omega)
  cases hc : w.cells? 0 (a.add (n * sz)) sz with
  | none => rw [hc] at hx; cases hx
  | some cs =>
   rw [hc] at hx
   obtain ⟨ds, Ss', q1, q2⟩ := ih cs x.1 x.2 hx
   obtain ⟨c1, c2⟩ := a9o hc
   refine ⟨rows ++ [ds], ys ++ cs, Ss ++ Ss', by simp [r1], fun r hr => ?_, by simp [r3, c1, Nat.succ_mul], fun k y hk => ?_, by simpa using r5.append q2⟩
   ·rcases List.mem_append.1 hr with hr | hr
    ·exact r2 r hr
    ·rw [List.mem_singleton] at hr; subst hr; exact ⟨q1, by rw [← q2.1, c1]⟩
   ·rw [List.getElem?_append] at hk
    split at hk
    ·exact r4 k y hk
    ·rename_i hlt
     have := c2 _ y hk
     rw [zF] at this
     rw [r3] at this hlt
     rwa [show n * sz + (k - n * sz) = k by omega] at this
theorem a5X (hT : TyOK P T) (hC : Cl T) : ∀ {n t : Nat} {cs : List Value} {d : DataW H} {ps : List MemPlace}, (T t).tag ≠ 0 → DataW.trod enc P w 0 (fun _ => true) true n t cs = some (d, ps) → ∃ ds Ss, ShD T n t ds ∧ LayL (V0 w) ds cs Ss
 | 0, _, _, _, _, _, h => by simp [DataW.trod] at h
 | n + 1, t, cs, d, ps, ht, h => by
  obtain ⟨i, z, u, hg⟩ := hT.good ht
  have one : ∀ {d : D} {y : Value}, (∃ S, Lay (V0 w) d y S) → ∃ Ss, LayL (V0 w) [d] [y] Ss := fun ⟨S, hS⟩ => ⟨[S], rfl, rfl, fun k d' y' S' h1 h2 h3 => by
   cases k with
   | zero => simp at h1 h2 h3; subst h1; subst h2; subst h3; exact hS
   | succ k => simp at h1⟩
  have hu := hg.und
  have huok := hg.uok
  by_cases e1 : (T t).tag = 1
  ·obtain ⟨fs, rfl, hf⟩ := hg.struct e1
   simp only [DataW.trod, hu] at h
   split at h
   ·rename_i hlen
    simp only [Option.map_eq_some_iff] at h
    obtain ⟨xs, hm, _⟩ := h
    rw [hg.cells] at hlen
    obtain ⟨ds, Ss, q1, q2⟩ := a4B (sh := ShD T n) hT (fun t cs d ps ht h => a5X hT hC ht h) hf (by rw [hlen]; exact (hC t).1 e1) hm
    exact ⟨ds, Ss, by simp only [ShD, e1]; exact q1, by simpa using q2⟩
   ·cases h
  by_cases e2 : (T t).tag = 2
  ·have := hg.slice e2
   subst this
   have he := (hC t).2.1 e2
   simp only [DataW.trod, hu] at h
   split at h <;> try (simp_all; done)
   ·rename_i e' hh; injection hh with hh; injection hh with hh; subst hh
    obtain ⟨Ss, hL⟩ := one ⟨[], Lay.nil (V := V0 w)⟩
    exact ⟨[.sl []], Ss, by simp only [ShD, e2]; exact ⟨[], rfl, by simp, fun r h => by cases h⟩, hL⟩
   ·rename_i e' a len cap hh
    injection hh with hh; injection hh with hh; subst hh
    split at h
    ·rename_i hc
     simp only [Option.bind_eq_some_iff] at h
     obtain ⟨elems, hm, _⟩ := h
     have hcell := hT.cells he
     rw [hcell] at hm
     obtain ⟨rows, ys, Ss, r1, r2, r3, r4, r5⟩ := a4C (w := w) (a := a) (sz := (T (T t).elem).size) (sh := ShD T n (T t).elem) (g := DataW.trod enc P w 0 (fun _ => true) true n (T t).elem) (fun cs d ps h => a5X hT hC he h) (n := len) (fun i hi => by
      obtain ⟨y, h1, _⟩ := a0F hm i i (by simp [hi])
      exact ⟨y, h1⟩)
     obtain ⟨Ss', hL⟩ := one ⟨_, Lay.sl (V := V0 w) rows a cap (T (T t).elem).size ys Ss (fun r hr => (r2 r hr).2) (by omega) hc.2.2 (by rw [r5.1]) r5.2.1 r4 r5.2.2⟩
     rw [r1] at hL
     exact ⟨[.sl rows], Ss', by simp only [ShD, e2]; exact ⟨rows, rfl, by omega, fun r hr => (r2 r hr).1⟩, hL⟩
    ·cases h
  by_cases e3 : (T t).tag = 3
  ·have := hg.int e3
   subst this
   have hk := (hC t).2.2 e3
   simp only [DataW.trod, hu] at h
   split at h <;> try (simp_all; done)
   rename_i k k' m hh
   injection hh with hh; injection hh with hh; subst hh
   split at h
   ·rename_i hw
    obtain ⟨rfl, hw⟩ := hw
    obtain ⟨Ss, hL⟩ := one ⟨[], Lay.v (V := V0 w) (.int _ m) rfl⟩
    have hin : inR (T t).kind m := by
     simp only [Lit.wf, Bool.and_eq_true, decide_eq_true_eq] at hw
     rcases hk with hk | hk <;> rw [hk] at hw ⊢ <;> simpa [inR, IntKind.min, IntKind.max, IntKind.bits, IntKind.signed] using hw
    exact ⟨_, Ss, by simp only [ShD, e3]; exact ⟨m, rfl, hin⟩, hL⟩
   ·cases h
  by_cases e4 : (T t).tag = 4
  ·have := hg.bool e4
   subst this
   simp only [DataW.trod, hu] at h
   split at h <;> try (simp_all; done)
   rename_i b _
   obtain ⟨Ss, hL⟩ := one ⟨[], Lay.v (V := V0 w) (.bool b) rfl⟩
   exact ⟨_, Ss, by simp only [ShD, e4]; exact ⟨b, rfl⟩, hL⟩
  by_cases e5 : (T t).tag = 5
  ·have := hg.string e5
   subst this
   simp only [DataW.trod, hu] at h
   split at h <;> try (simp_all; done)
   rename_i s _
   split at h
   ·rename_i hs
    obtain ⟨Ss, hL⟩ := one ⟨[], Lay.v (V := V0 w) (.string s) rfl⟩
    exact ⟨_, Ss, by simp only [ShD, e5]; exact ⟨s, rfl, hs⟩, hL⟩
   ·cases h
  ·exfalso
   unfold uP at huok
   split at huok <;> simp_all
def pk (T : Nat → Ty) (t : Nat) (ds : List D) : SV := a1p (T t).agg (ds.map .d)
def ShAll (T : Nat → Ty) : List Nat → List (List D) → Prop
 | [], [] => True
 | t :: ts, d :: ds => (∃ n, ShD T n t d) ∧ ShAll T ts ds
 | _, _ => False
def pks (T : Nat → Ty) : List Nat → List (List D) → List SV
 | t :: ts, d :: ds => pk T t d :: pks T ts ds
 | _, _ => []
theorem b0q {V : View} {ds : List D} {ys : List Value} {Ss : List (List Nat)} (h : LayL V ds ys Ss) : cL [] V (ds.map .d) ys := by
 refine ⟨by simpa using h.1, fun k a y h1 h2 => ?_⟩
 rw [List.getElem?_map] at h1
 cases hd : ds[k]? with
 | none => rw [hd] at h1; cases h1
 | some d =>
  rw [hd] at h1; cases h1
  have hk : k < Ss.length := by rw [h.2.1]; exact (List.getElem?_eq_some_iff.1 hd).1
  exact ⟨_, h.2.2 k d y _ hd h2 (List.getElem?_eq_getElem hk)⟩
theorem b3w (hT : TyOK P T) (hC : Cl T) {t : Nat} (ht : (T t).tag ≠ 0) {r : Reach} {base : Nat} {v : Value} {d : DataW H} {ps : List MemPlace}
    (hval : Value.okWide P w r base t v) (h : DataW.Trod enc P w 0 (fun _ => true) true t v d ps) : ∃ ds, (∃ n, ShD T n t ds) ∧ cSV [] (V0 w) (pk T t ds) v := by
 obtain ⟨n, h⟩ := h
 obtain ⟨i, z, u, hg⟩ := hT.good ht
 obtain ⟨ds, Ss, q1, q2⟩ := a5X hT hC ht h
 refine ⟨ds, ⟨n, q1⟩, ?_⟩
 have hu := hg.und
 unfold Value.okWide at hval
 by_cases e1 : (T t).tag = 1
 ·obtain ⟨fs, rfl, hf⟩ := hg.struct e1
  rw [hu] at hval
  obtain ⟨cs, rfl, _⟩ := hval
  simp only [pk, Ty.agg, e1, a1p]
  exact ⟨cs.toList, rfl, b0q q2⟩
 ·have hag : (T t).agg = false := by simp [Ty.agg, e1]
  have hv : v.cells.toList = [v] := by
   have huok := hg.uok
   cases v with
   | agg cs =>
    exfalso
    rw [hu] at hval
    unfold uP at huok
    split at huok <;> simp_all [Cell.okWide, Cell.ok]
   | _ => rfl
  rw [hv] at q2
  obtain ⟨c1, c2⟩ := b0q q2
  have hl : ds.length = 1 := by simpa using c1.symm
  match ds, hl with
  | [x], _ =>
   simp only [pk, hag, a1p, List.map_cons, List.map_nil]
   exact c2 0 _ _ rfl rfl
theorem a4D (hT : TyOK P T) (hC : Cl T) {r : Reach} {base : Nat} : ∀ {ts : List Nat} {vs : List Value} {dd : List (DataW H)} {ps : List MemPlace}, (∀ t ∈ ts, (T t).tag ≠ 0) →
    (∀ (j : Nat) (t : Nat) (v : Value), ts[j]? = some t → vs[j]? = some v → Value.okWide P w r base t v) → DataW.TrodAll enc P w 0 (fun _ => true) true ts vs dd ps → ∃ dss, ShAll T ts dss ∧ tF (V0 w) (pks T ts dss) vs
 | [], [], [], _, _, _, _ => ⟨[], trivial, rfl, fun k s y h => by simp [pks] at h⟩
 | t :: ts, v :: vs, d :: dd, ps, ht, hval, h => by
  obtain ⟨p, q, h1, h2, _⟩ := h
  obtain ⟨ds, s1, s2⟩ := b3w hT hC (ht t (by simp)) (hval 0 t v rfl rfl) h1
  obtain ⟨dss, s3, s4⟩ := a4D hT hC (fun t ht' => ht t (by simp [ht'])) (fun j t v a b => hval (j + 1) t v (by simpa using a) (by simpa using b)) h2
  refine ⟨ds :: dss, ⟨s1, s3⟩, by simp [pks, s4.1], fun k s y a b => ?_⟩
  cases k with
  | zero => simp [pks] at a b; subst a; subst b; exact s2
  | succ k => exact s4.2 k s y (by simpa [pks] using a) (by simpa using b)
 | [], _ :: _, _, _, _, _, h => by simp [DataW.TrodAll] at h
 | [], [], _ :: _, _, _, _, h => by simp [DataW.TrodAll] at h
 | _ :: _, [], _, _, _, _, h => by simp [DataW.TrodAll] at h
 | _ :: _, _ :: _, [], _, _, _, h => by simp [DataW.TrodAll] at h
theorem wL (hl : laidOutB P = true) {W' : World} (hb : Below w.heap.size w W') : ∀ {ts : List Nat} {vs : List Value} {dd : List (DataW H)} {ps : List MemPlace}, (∀ t ∈ ts, P.readableRec t = true ∧ t < P.types.size) →
    DataW.TrodAll enc P w 0 (fun _ => true) true ts vs dd ps → (∀ x ∈ ps, x.block < w.heap.size) → DataW.TrodAll enc P W' 0 (fun b => decide (b < w.heap.size)) true ts vs dd ps
 | [], [], [], _, _, h, _ => h
 | t :: ts, v :: vs, d :: dd, ps, ht, h, hlt => by
  obtain ⟨p, q, h1, h2, rfl⟩ := h
  obtain ⟨r1, r2⟩ := ht t (by simp)
  exact ⟨p, q, Below.trod hl r1 r2 h1 hb (fun x hx => hlt x (List.mem_append.2 (.inl hx))), wL hl hb (fun t ht' => ht t (by simp [ht'])) h2 (fun x hx => hlt x (List.mem_append.2 (.inr hx))), rfl⟩
 | [], _ :: _, _, _, _, h, _ => by simp [DataW.TrodAll] at h
 | [], [], _ :: _, _, _, h, _ => by simp [DataW.TrodAll] at h
 | _ :: _, [], _, _, _, h, _ => by simp [DataW.TrodAll] at h
 | _ :: _, _ :: _, [], _, _, h, _ => by simp [DataW.TrodAll] at h
theorem a1f {W : World} {sp : Nat → Bool} {b : Nat} {hd : Bool} : ∀ {ts : List Nat} {vs : List Value} {dd : List (DataW H)} {ps : List MemPlace}, DataW.TrodAll enc P W b sp hd ts vs dd ps → dd.length = ts.length
 | [], [], [], _, _ => rfl
 | t :: ts, v :: vs, d :: dd, ps, h => by
  obtain ⟨p, q, _, h2, _⟩ := h
  simp [a1f h2]
 | [], _ :: _, _, _, h => by simp [DataW.TrodAll] at h
 | [], [], _ :: _, _, h => by simp [DataW.TrodAll] at h
 | _ :: _, [], _, _, h => by simp [DataW.TrodAll] at h
 | _ :: _, _ :: _, [], _, h => by simp [DataW.TrodAll] at h
theorem a5Y {fresh : Bool} (hT : TyOK P T) (hC : Cl T) (hl : laidOutB P = true) {f : Nat} {fn : Func} {s : ChangeSpec} {tb : Nat} (hv : s.vars = []) (hs : ∀ dd : List (DataW H), dd.length = fn.params.toList.length → s.fn H dd = { results := [.lit (.bool true)], args := dd })
    (hrt : fn.resultTypes = #[tb]) (hb : P.underlying tb = some .bool) (ht : fn.params.toList.all (fun t => (T t).tag != 0 && P.readableRec t && decide (t < P.types.size)) = true)
    (hf : ∀ dss, ShAll T fn.params.toList dss → FnC P f (pks T fn.params.toList dss) (ob true))
    {W : World} (htab : tabOK W []) {r : Reach} {base : Nat} {args : Array Value} {ds gs : List (DataW H)} {before : List MemPlace}
    (hval : ∀ (j : Nat) (t : Nat) (v : Value), fn.params[j]? = some t → args[j]? = some v → Value.okWide P W r base t v) (hW : DataW.Whole enc P fn.params.toList s.vars false W args.toList ds gs before) :
    Calls P f args W fun e W' => ∃ v, e = .returned v ∧ s.post enc P fn false fresh false false W args v W' := by
 have hW' := hW
 obtain ⟨p, q, hA, hV, rfl, _, _⟩ := hW
 rw [hv] at hV
 obtain ⟨rfl, rfl⟩ := ChangeShapes.trodVars_none hV
 have ht' : ∀ t ∈ fn.params.toList, (T t).tag ≠ 0 ∧ P.readableRec t = true ∧ t < P.types.size := fun t h => by
  have := List.all_eq_true.1 ht t h
  simpa [and_assoc] using this
 obtain ⟨dss, h1, h2⟩ := a4D hT hC (fun t h => (ht' t h).1) (fun j t v a b => hval j t v (by simpa using a) (by simpa using b)) hA
 have hc := (hf dss h1).calls (V0 W) W args.toList htab (b6D W) h2
 rw [Array.toArray_toList] at hc
 refine hc.mono fun e W' ⟨y, he, hd⟩ => ⟨y, he, ?_⟩
 have hy : y = .bool true := by
  obtain ⟨V', S, _, _, _, ⟨l, hs, hr⟩, _⟩ := hd.out
  obtain ⟨Ss, r1, r2, r3, r4⟩ := hr
  have hl : l = [y] := hs
  subst hl
  obtain ⟨_, T', hL⟩ := r4 0 (.d (bv true)) y _ rfl rfl (List.getElem?_eq_getElem (by rw [r2]; simp [SV.all]))
  cases hL; rfl
 subst hy
 have hbel := hd.below
 have hlen := a1f hA
 have e : s.fn H (ds ++ []) = { results := [.lit (.bool true)], args := ds } := by rw [List.append_nil]; exact hs ds hlen
 refine ⟨ds, [], _, [], p, [], hW', ?_, ?_, ?_, hbel.frame _, fun h => by cases h⟩
 ·rw [e, hrt]
  exact ChangeShapes.trodAll_mk1 (shut_bool hb true)
 ·rw [e]
  exact wL hl hbel (fun t h => (ht' t h).2) hA (fun x hx => hW'.lt x (List.mem_append.2 (.inl hx)))
 ·rw [e, hv]; rfl
end
end Go.Sx
end
section
set_option linter.all false
namespace Go.Proofs.YtgpoopjfkplilaaGreatDoor
open Go Go.Sx Go.RowKit
theorem b6E : Cl tt := Cl.of_list (by kernel_rfl)
theorem own : ownKnob Tryz.prog.godebug = none := by kernel_rfl
theorem a5Z : laidOutB Tryz.prog = true := by kernel_rfl
end Go.Proofs.YtgpoopjfkplilaaGreatDoor
end
end
section
section
set_option linter.all false
namespace Go.Proofs.YtgpoopjfkplilaaGreatDoor
open Go Go.Sx Go.RowKit Go.Proofs
def bV (n : Int) (w : Nat) : Int := if n - w < 0 then -1 else n - w
theorem aZ {n : Int} {w : Nat} (h : n - w < 0) : bV n w = -1 := if_pos h
theorem bM {n : Int} {w : Nat} (h : ¬ n - w < 0) : bV n w = n - w := if_neg h
theorem a2K {n : Int} {w : Nat} (h : ¬ bV n w < 0) : w ≤ n := by
 unfold bV at h
 split at h <;> omega
def wsum {α : Type} (w : α → Nat) : List α → Nat
 | [] => 0
 | x :: l => w x + wsum w l
theorem dB {α : Type} (w : α → Nat) : ∀ (l : List α) {k : Nat} (h : k < l.length), w l[k] ≤ wsum w l
 | [], _, h => by simp at h
 | x :: l, 0, _ => by simp [wsum]
 | x :: l, k + 1, h => by
  have := dB w l (k := k) (by simpa using h)
  simp only [List.getElem_cons_succ, wsum]; omega
theorem lU {α : Type} (w : α → Nat) : ∀ (l : List α) {k : Nat} (h : k < l.length), wsum w (l.take (k + 1)) = wsum w (l.take k) + w l[k]
 | [], _, h => by simp at h
 | x :: l, 0, _ => by simp [wsum]
 | x :: l, k + 1, h => by
  have := lU w l (k := k) (by simpa using h)
  simp only [List.take_succ_cons, List.getElem_cons_succ, wsum]; omega
theorem vT {α : Type} (w : α → Nat) : ∀ (l : List α) (k : Nat), wsum w (l.take k) ≤ wsum w l
 | [], k => by simp
 | x :: l, 0 => by simp [wsum]
 | x :: l, k + 1 => by
  have := vT w l k
  simp only [List.take_succ_cons, wsum]; omega
@[go_sem] def zN (n : Int) : List D := [iv n]
@[go_sem] def bN (s : ByteArray) : List D := [sv s]
abbrev slI (l : List Int) : D := .sl (l.map zN)
abbrev slS (l : List ByteArray) : D := .sl (l.map bN)
def b7D (l : List ByteArray) : Nat := l.length + wsum ByteArray.size l
def a5W (l : List Int) : Prop := l.length ≤ 9223372036854775807 ∧ ∀ i ∈ l, inR .i64 i
def b6Z (l : List ByteArray) : Prop := l.length ≤ 9223372036854775807 ∧ ∀ s ∈ l, s.size ≤ 9223372036854775807
theorem a3C {n : Nat} {r : List D} (h : ShD tt n 3 r) : ∃ i, r = zN i ∧ inR .i64 i := by
 match n, h with
 | n + 1, ⟨i, h, hi⟩ => exact ⟨i, h, hi⟩
theorem a7r {n : Nat} {r : List D} (h : ShD tt n 9 r) : ∃ s : ByteArray, r = bN s ∧ s.size ≤ 9223372036854775807 := by
 match n, h with
 | n + 1, ⟨s, h, hs⟩ => exact ⟨s, h, hs⟩
theorem b8I {n : Nat} {r : List D} (h : ShD tt n 4 r) : ∃ b : Bool, r = [bv b] := by
 match n, h with
 | n + 1, ⟨b, h⟩ => exact ⟨b, h⟩
end Go.Proofs.YtgpoopjfkplilaaGreatDoor
end
section
set_option linter.all false
set_option maxHeartbeats 1000000
namespace Go.Proofs.YtgpoopjfkplilaaGreatDoor
open Go Go.Sx Go.RowKit Go.Proofs
structure TValue where
 fKind : Int
 fInt : Int
 fStr : ByteArray
@[go_sem] def b3n (x : TValue) : List D := [iv x.fKind, iv x.fInt, sv x.fStr]
@[go_sem] def jD (x : TValue) : SV := .g [.d (iv x.fKind), .d (iv x.fInt), .d (sv x.fStr)]
def gB (x : TValue) : Nat := x.fStr.size
def nC (x : TValue) : Prop := inR .i64 x.fKind ∧ inR .i64 x.fInt ∧ x.fStr.size ≤ 9223372036854775807
def b8e (l : List TValue) : Nat := l.length + wsum gB l
def b7E (l : List TValue) : Prop := l.length ≤ 9223372036854775807 ∧ ∀ x ∈ l, nC x
theorem a7s {n : Nat} {r : List D} (h : ShD tt n 201 r) : ∃ x : TValue, r = b3n x ∧ nC x := by
 match n, h with
 | n + 1, ⟨a0, b0, e0, h0, a1, b1, e1, h1, a2, b2, e2, h2, ee⟩ =>
  obtain ⟨x0, rfl, p0⟩ := a3C h0
  obtain ⟨x1, rfl, p1⟩ := a3C h1
  obtain ⟨x2, rfl, p2⟩ := a7r h2
  have ee' : b2 = [] := ee
  subst ee' e2 e1 e0
  exact ⟨⟨x0, x1, x2⟩, rfl, p0, p1, p2⟩
theorem sG (x : TValue) (n : Int) (h0 : 0 ≤ n ∧ n ≤ 1048576) (hw : nC x) : FnC Tryz.prog 220 [jD x, oi n] (oi (bV n (gB x))) := by
 refine ent Tryz.func220 rfl Tryz.call220 rfl (fun C => ?_); simp only [go_sem, st0, Tryz.ntmps220]
 unfold nC at hw
 by_cases hc0 : n - (x.fStr.size : Nat) < 0
 ·have e : bV n (gB x) = -1 := by rw [aZ (by unfold gB; omega)]
  have q0 := @hc0; refine iG ?_
  exact aA ⟨⟨_, rfl, by simp only [go_sem, e]⟩, trivial⟩
 have e : bV n (gB x) = n - (x.fStr.size : Nat) := by rw [bM (by unfold gB; omega)]; unfold gB; omega
 have q0 := @hc0; refine iG ?_
 exact aA ⟨⟨_, rfl, by simp only [go_sem, e]⟩, trivial⟩
theorem a2L (x : TValue) (hx : gB x ≤ 1048576) : FnC Tryz.prog 222 [jD x] (jD x) := by
 unfold gB at hx
 refine ent Tryz.func222 rfl Tryz.call222 rfl (fun C => ?_); simp only [go_sem, st0, Tryz.ntmps222]
 refine aH ?_
 exact aA ⟨⟨_, rfl, by simp only [go_sem]⟩, trivial⟩
theorem a2M (x : TValue) (hx : gB x ≤ 67108864) : FnC Tryz.prog 218 [jD x, jD x] (ob true) := by
 unfold gB at hx
 refine ent Tryz.func218 rfl Tryz.call218 rfl (fun C => ?_); simp only [go_sem, st0, Tryz.ntmps218]
 refine aH ?_
 exact aA ⟨⟨_, rfl, by simp only [go_sem]⟩, trivial⟩
end Go.Proofs.YtgpoopjfkplilaaGreatDoor
end
section
set_option linter.all false
set_option maxHeartbeats 1000000
namespace Go.Proofs.YtgpoopjfkplilaaGreatDoor
open Go Go.Sx Go.RowKit Go.Proofs
structure TField where
 fName : ByteArray
 fKind : Int
@[go_sem] def aY (x : TField) : List D := [sv x.fName, iv x.fKind]
@[go_sem] def sH (x : TField) : SV := .g [.d (sv x.fName), .d (iv x.fKind)]
def wField (x : TField) : Nat := x.fName.size
def zO (x : TField) : Prop := x.fName.size ≤ 9223372036854775807 ∧ inR .i64 x.fKind
def aP (l : List TField) : Nat := l.length + wsum wField l
def zP (l : List TField) : Prop := l.length ≤ 9223372036854775807 ∧ ∀ x ∈ l, zO x
theorem b3o {n : Nat} {r : List D} (h : ShD tt n 157 r) : ∃ x : TField, r = aY x ∧ zO x := by
 match n, h with
 | n + 1, ⟨a0, b0, e0, h0, a1, b1, e1, h1, ee⟩ =>
  obtain ⟨x0, rfl, p0⟩ := a7r h0
  obtain ⟨x1, rfl, p1⟩ := a3C h1
  have ee' : b1 = [] := ee
  subst ee' e1 e0
  exact ⟨⟨x0, x1⟩, rfl, p0, p1⟩
theorem b1M {n : Nat} {r : List D} (h : ShD tt n 39 r) : ∃ l : List TField, r = [.sl (l.map aY)] ∧ zP l := by
 match n, h with
 | n + 1, ⟨rows, h, hm, hr⟩ =>
  obtain ⟨l, rfl, hl⟩ := qZ aY zO (fun r h => b3o (hr r h))
  exact ⟨l, h, by unfold maxLen at hm; simpa using hm, hl⟩
theorem a2N (x : TField) (n : Int) (h0 : 0 ≤ n ∧ n ≤ 1048576) (hw : zO x) : FnC Tryz.prog 118 [sH x, oi n] (oi (bV n (wField x))) := by
 refine ent Tryz.func118 rfl Tryz.call118 rfl (fun C => ?_); simp only [go_sem, st0, Tryz.ntmps118]
 unfold zO at hw
 by_cases hc0 : n - (x.fName.size : Nat) < 0
 ·have e : bV n (wField x) = -1 := by rw [aZ (by unfold wField; omega)]
  have q0 := @hc0; refine iG ?_
  exact aA ⟨⟨_, rfl, by simp only [go_sem, e]⟩, trivial⟩
 have e : bV n (wField x) = n - (x.fName.size : Nat) := by rw [bM (by unfold wField; omega)]; unfold wField; omega
 have q0 := @hc0; refine iG ?_
 exact aA ⟨⟨_, rfl, by simp only [go_sem, e]⟩, trivial⟩
theorem a9e (x : TField) (hx : wField x ≤ 1048576) : FnC Tryz.prog 122 [sH x] (sH x) := by
 unfold wField at hx
 refine ent Tryz.func122 rfl Tryz.call122 rfl (fun C => ?_); simp only [go_sem, st0, Tryz.ntmps122]
 refine aH ?_
 exact aA ⟨⟨_, rfl, by simp only [go_sem]⟩, trivial⟩
theorem a9f (x : TField) (hx : wField x ≤ 67108864) : FnC Tryz.prog 113 [sH x, sH x] (ob true) := by
 unfold wField at hx
 refine ent Tryz.func113 rfl Tryz.call113 rfl (fun C => ?_); simp only [go_sem, st0, Tryz.ntmps113]
 refine aH ?_
 exact aA ⟨⟨_, rfl, by simp only [go_sem]⟩, trivial⟩
theorem a7t (l : List TField) (hl : aP l ≤ 1048576) : FnC Tryz.prog 80 [.o (.d (.sl (l.map aY)))] (.o (.w 81 2 (l.map aY))) := by
 unfold aP at hl
 refine ent Tryz.func80 rfl Tryz.call80 rfl (fun C => ?_); simp only [go_sem, st0, Tryz.ntmps80]
 refine aH ?_
 refine bD (α := Nat) (fun k => [(4, oi k)]) (fun k => [(0, .row 81 2 (mR aY [sv ⟨#[]⟩, iv 0] l k) true)]) (fun k => k ≤ l.length) (fun k => l.length - k) 0 (fun _ => ?_) ?_ ?_ (fun k hk => ?_)
 ·simp only [go_sem]
 ·simp only [go_sem]; simp [nZ]
 ·simp
 ·simp only [go_sem]
  refine aH ?_
  refine cnd rfl (fun h => ?_) (fun h => ?_)
  ·simp only [decide_eq_true_eq, Int.ofNat_lt] at h
   have hw := dB wField l h
   have q0 := @h; refine iX (a9e l[k] (by omega)) ?_
   refine aD (k + 1) ?_ ?_ ?_
   ·simp only [go_sem]; simp [← qP, h, aY]
   ·omega
   ·omega
  ·simp only [decide_eq_false_iff_not] at h
   have e : k = l.length := by omega
   subst e
   refine aH ?_
   exact aA ⟨⟨_, rfl, by simp only [go_sem, qQ]⟩, trivial⟩
theorem a7u (l : List TField) (hl : aP l ≤ 67108864) : FnC Tryz.prog 65 [.o (.d (.sl (l.map aY))), .o (.d (.sl (l.map aY)))] (ob true) := by
 unfold aP at hl
 refine ent Tryz.func65 rfl Tryz.call65 rfl (fun C => ?_); simp only [go_sem, st0, Tryz.ntmps65]
 refine aH ?_
 refine bD (α := Nat) (fun k => [(5, oi k)]) (fun _ => []) (fun k => k ≤ l.length) (fun k => l.length - k) 0 (fun _ => ?_) ?_ ?_ (fun k hk => ?_)
 ·simp only [go_sem]
 ·simp only [go_sem]; simp
 ·simp
 ·simp only [go_sem]
  refine aH ?_
  refine cnd rfl (fun h => ?_) (fun h => ?_)
  ·simp only [decide_eq_true_eq, Int.ofNat_lt] at h
   have hw := dB wField l h
   have q0 := @h; refine iX (a9f l[k] (by omega)) ?_
   refine aD (k + 1) ?_ ?_ ?_
   ·simp only [go_sem]; simp
   ·omega
   ·omega
  ·simp only [decide_eq_false_iff_not] at h
   refine aH ?_
   exact aA ⟨⟨_, rfl, by simp only [go_sem]⟩, trivial⟩
theorem uT (l : List TField) (n : Int) (h0 : 0 ≤ n ∧ n ≤ 1048576) (hw : zP l) : FnC Tryz.prog 74 [.o (.d (.sl (l.map aY))), oi n] (oi (bV n (aP l))) := by
 unfold zP at hw
 refine ent Tryz.func74 rfl Tryz.call74 rfl (fun C => ?_); simp only [go_sem, st0, Tryz.ntmps74]
 by_cases hc : n - (l.length : Nat) < 0
 ·have e : bV n (aP l) = -1 := by rw [aZ (by unfold aP; omega)]
  have q0 := @hc; refine iG ?_
  exact aA ⟨⟨_, rfl, by simp only [go_sem, e]⟩, trivial⟩
 have q0 := @hc; refine iG ?_
 refine bD (α := Nat) (fun k => [(5, oi k), (1, oi (n - (l.length : Nat) - (wsum wField (l.take k) : Nat)))]) (fun _ => []) (fun k => k ≤ l.length ∧ 0 ≤ n - (l.length : Nat) - (wsum wField (l.take k) : Nat)) (fun k => l.length - k) 0 (fun _ => ?_) ?_ ?_ (fun k hk => ?_)
 ·simp only [go_sem]
 ·simp only [go_sem]; simp [wsum]
 ·simp [wsum]; omega
 ·obtain ⟨hk, hn⟩ := hk
  simp only [go_sem]
  refine aH ?_
  refine cnd rfl (fun h => ?_) (fun h => ?_)
  ·simp only [decide_eq_true_eq, Int.ofNat_lt] at h
   have hs := lU wField l h
   have ht := vT wField l (k + 1)
   by_cases h2 : n - (l.length : Nat) - (wsum wField (l.take k) : Nat) - (wField l[k] : Nat) < 0
   ·have e : bV n (aP l) = -1 := by rw [aZ (by unfold aP; omega)]
    have q0 := @h; have q1 := aZ h2; refine uR (a2N l[k] _ ⟨hn, by omega⟩ (hw.2 _ (List.getElem_mem h))) ?_
    exact aA ⟨⟨_, rfl, by simp only [go_sem, e]⟩, trivial⟩
   ·have q0 := @h; have q1 := bM h2; have q2 := @h2; refine gX (a2N l[k] _ ⟨hn, by omega⟩ (hw.2 _ (List.getElem_mem h))) ?_
    refine aD (k + 1) ?_ ?_ ?_
    ·simp only [go_sem]; simp; omega
    ·omega
    ·omega
  ·simp only [decide_eq_false_iff_not] at h
   have e0 : k = l.length := by omega
   subst e0
   rw [List.take_length] at hn
   have e : bV n (aP l) = n - (l.length : Nat) - (wsum wField l : Nat) := by rw [bM (by unfold aP; omega)]; unfold aP; omega
   refine aH ?_
   exact aA ⟨⟨_, rfl, by simp only [go_sem, e, List.take_length]⟩, trivial⟩
end Go.Proofs.YtgpoopjfkplilaaGreatDoor
end
section
set_option linter.all false
set_option maxHeartbeats 1000000
namespace Go.Proofs.YtgpoopjfkplilaaGreatDoor
open Go Go.Sx Go.RowKit Go.Proofs
structure TAttr where
 fName : ByteArray
 fValue : TValue
@[go_sem] def dL (x : TAttr) : List D := [sv x.fName, iv x.fValue.fKind, iv x.fValue.fInt, sv x.fValue.fStr]
@[go_sem] def a7v (x : TAttr) : SV := .g [.d (sv x.fName), .d (iv x.fValue.fKind), .d (iv x.fValue.fInt), .d (sv x.fValue.fStr)]
def wAttr (x : TAttr) : Nat := x.fName.size + gB x.fValue
def a2O (x : TAttr) : Prop := x.fName.size ≤ 9223372036854775807 ∧ nC x.fValue
def eF (l : List TAttr) : Nat := l.length + wsum wAttr l
def zQ (l : List TAttr) : Prop := l.length ≤ 9223372036854775807 ∧ ∀ x ∈ l, a2O x
theorem b5c {n : Nat} {r : List D} (h : ShD tt n 240 r) : ∃ x : TAttr, r = dL x ∧ a2O x := by
 match n, h with
 | n + 1, ⟨a0, b0, e0, h0, a1, b1, e1, h1, ee⟩ =>
  obtain ⟨x0, rfl, p0⟩ := a7r h0
  obtain ⟨x1, rfl, p1⟩ := a7s h1
  have ee' : b1 = [] := ee
  subst ee' e1 e0
  exact ⟨⟨x0, x1⟩, rfl, p0, p1⟩
theorem b3p {n : Nat} {r : List D} (h : ShD tt n 159 r) : ∃ l : List TAttr, r = [.sl (l.map dL)] ∧ zQ l := by
 match n, h with
 | n + 1, ⟨rows, h, hm, hr⟩ =>
  obtain ⟨l, rfl, hl⟩ := qZ dL a2O (fun r h => b5c (hr r h))
  exact ⟨l, h, by unfold maxLen at hm; simpa using hm, hl⟩
theorem a4v (x : TAttr) (n : Int) (h0 : 0 ≤ n ∧ n ≤ 1048576) (hw : a2O x) : FnC Tryz.prog 219 [a7v x, oi n] (oi (bV n (wAttr x))) := by
 refine ent Tryz.func219 rfl Tryz.call219 rfl (fun C => ?_); simp only [go_sem, st0, Tryz.ntmps219]
 unfold a2O at hw
 by_cases hc0 : n - (x.fName.size : Nat) < 0
 ·have e : bV n (wAttr x) = -1 := by rw [aZ (by unfold wAttr; omega)]
  have q0 := @hc0; refine iG ?_
  exact aA ⟨⟨_, rfl, by simp only [go_sem, e]⟩, trivial⟩
 by_cases hc1 : n - (x.fName.size : Nat) - (gB x.fValue : Nat) < 0
 ·have e : bV n (wAttr x) = -1 := by rw [aZ (by unfold wAttr; omega)]
  have q0 := @hc0; have q1 := aZ hc1; have q2 := @hc1; refine gX (sG x.fValue (n - (x.fName.size : Nat)) (by omega) hw.2) ?_
  exact aA ⟨⟨_, rfl, by simp only [go_sem, e]⟩, trivial⟩
 have e : bV n (wAttr x) = n - (x.fName.size : Nat) - (gB x.fValue : Nat) := by rw [bM (by unfold wAttr; omega)]; unfold wAttr; omega
 have q0 := @hc0; have q1 := bM hc1; have q2 := @hc1; refine gX (sG x.fValue (n - (x.fName.size : Nat)) (by omega) hw.2) ?_
 exact aA ⟨⟨_, rfl, by simp only [go_sem, e]⟩, trivial⟩
theorem b1N (x : TAttr) (hx : wAttr x ≤ 1048576) : FnC Tryz.prog 221 [a7v x] (a7v x) := by
 unfold wAttr at hx
 refine ent Tryz.func221 rfl Tryz.call221 rfl (fun C => ?_); simp only [go_sem, st0, Tryz.ntmps221]
 refine lC (a2L x.fValue (by omega)) ?_
 exact aA ⟨⟨_, rfl, by simp only [go_sem]⟩, trivial⟩
theorem b1O (x : TAttr) (hx : wAttr x ≤ 67108864) : FnC Tryz.prog 217 [a7v x, a7v x] (ob true) := by
 unfold wAttr at hx
 refine ent Tryz.func217 rfl Tryz.call217 rfl (fun C => ?_); simp only [go_sem, st0, Tryz.ntmps217]
 refine lC (a2M x.fValue (by omega)) ?_
 exact aA ⟨⟨_, rfl, by simp only [go_sem]⟩, trivial⟩
theorem a9g (l : List TAttr) (hl : eF l ≤ 1048576) : FnC Tryz.prog 172 [.o (.d (.sl (l.map dL)))] (.o (.w 124 4 (l.map dL))) := by
 unfold eF at hl
 refine ent Tryz.func172 rfl Tryz.call172 rfl (fun C => ?_); simp only [go_sem, st0, Tryz.ntmps172]
 refine aH ?_
 refine bD (α := Nat) (fun k => [(4, oi k)]) (fun k => [(0, .row 124 4 (mR dL [sv ⟨#[]⟩, iv 0, iv 0, sv ⟨#[]⟩] l k) true)]) (fun k => k ≤ l.length) (fun k => l.length - k) 0 (fun _ => ?_) ?_ ?_ (fun k hk => ?_)
 ·simp only [go_sem]
 ·simp only [go_sem]; simp [nZ]
 ·simp
 ·simp only [go_sem]
  refine aH ?_
  refine cnd rfl (fun h => ?_) (fun h => ?_)
  ·simp only [decide_eq_true_eq, Int.ofNat_lt] at h
   have hw := dB wAttr l h
   have q0 := @h; refine iX (b1N l[k] (by omega)) ?_
   refine aD (k + 1) ?_ ?_ ?_
   ·simp only [go_sem]; simp [← qP, h, dL]
   ·omega
   ·omega
  ·simp only [decide_eq_false_iff_not] at h
   have e : k = l.length := by omega
   subst e
   refine aH ?_
   exact aA ⟨⟨_, rfl, by simp only [go_sem, qQ]⟩, trivial⟩
theorem a9h (l : List TAttr) (hl : eF l ≤ 67108864) : FnC Tryz.prog 168 [.o (.d (.sl (l.map dL))), .o (.d (.sl (l.map dL)))] (ob true) := by
 unfold eF at hl
 refine ent Tryz.func168 rfl Tryz.call168 rfl (fun C => ?_); simp only [go_sem, st0, Tryz.ntmps168]
 refine aH ?_
 refine bD (α := Nat) (fun k => [(5, oi k)]) (fun _ => []) (fun k => k ≤ l.length) (fun k => l.length - k) 0 (fun _ => ?_) ?_ ?_ (fun k hk => ?_)
 ·simp only [go_sem]
 ·simp only [go_sem]; simp
 ·simp
 ·simp only [go_sem]
  refine aH ?_
  refine cnd rfl (fun h => ?_) (fun h => ?_)
  ·simp only [decide_eq_true_eq, Int.ofNat_lt] at h
   have hw := dB wAttr l h
   have q0 := @h; refine iX (b1O l[k] (by omega)) ?_
   refine aD (k + 1) ?_ ?_ ?_
   ·simp only [go_sem]; simp
   ·omega
   ·omega
  ·simp only [decide_eq_false_iff_not] at h
   refine aH ?_
   exact aA ⟨⟨_, rfl, by simp only [go_sem]⟩, trivial⟩
theorem a2P (l : List TAttr) (n : Int) (h0 : 0 ≤ n ∧ n ≤ 1048576) (hw : zQ l) : FnC Tryz.prog 170 [.o (.d (.sl (l.map dL))), oi n] (oi (bV n (eF l))) := by
 unfold zQ at hw
 refine ent Tryz.func170 rfl Tryz.call170 rfl (fun C => ?_); simp only [go_sem, st0, Tryz.ntmps170]
 by_cases hc : n - (l.length : Nat) < 0
 ·have e : bV n (eF l) = -1 := by rw [aZ (by unfold eF; omega)]
  have q0 := @hc; refine iG ?_
  exact aA ⟨⟨_, rfl, by simp only [go_sem, e]⟩, trivial⟩
 have q0 := @hc; refine iG ?_
 refine bD (α := Nat) (fun k => [(5, oi k), (1, oi (n - (l.length : Nat) - (wsum wAttr (l.take k) : Nat)))]) (fun _ => []) (fun k => k ≤ l.length ∧ 0 ≤ n - (l.length : Nat) - (wsum wAttr (l.take k) : Nat)) (fun k => l.length - k) 0 (fun _ => ?_) ?_ ?_ (fun k hk => ?_)
 ·simp only [go_sem]
 ·simp only [go_sem]; simp [wsum]
 ·simp [wsum]; omega
 ·obtain ⟨hk, hn⟩ := hk
  simp only [go_sem]
  refine aH ?_
  refine cnd rfl (fun h => ?_) (fun h => ?_)
  ·simp only [decide_eq_true_eq, Int.ofNat_lt] at h
   have hs := lU wAttr l h
   have ht := vT wAttr l (k + 1)
   by_cases h2 : n - (l.length : Nat) - (wsum wAttr (l.take k) : Nat) - (wAttr l[k] : Nat) < 0
   ·have e : bV n (eF l) = -1 := by rw [aZ (by unfold eF; omega)]
    have q0 := @h; have q1 := aZ h2; refine uR (a4v l[k] _ ⟨hn, by omega⟩ (hw.2 _ (List.getElem_mem h))) ?_
    exact aA ⟨⟨_, rfl, by simp only [go_sem, e]⟩, trivial⟩
   ·have q0 := @h; have q1 := bM h2; have q2 := @h2; refine gX (a4v l[k] _ ⟨hn, by omega⟩ (hw.2 _ (List.getElem_mem h))) ?_
    refine aD (k + 1) ?_ ?_ ?_
    ·simp only [go_sem]; simp; omega
    ·omega
    ·omega
  ·simp only [decide_eq_false_iff_not] at h
   have e0 : k = l.length := by omega
   subst e0
   rw [List.take_length] at hn
   have e : bV n (eF l) = n - (l.length : Nat) - (wsum wAttr l : Nat) := by rw [bM (by unfold eF; omega)]; unfold eF; omega
   refine aH ?_
   exact aA ⟨⟨_, rfl, by simp only [go_sem, e, List.take_length]⟩, trivial⟩
end Go.Proofs.YtgpoopjfkplilaaGreatDoor
end
section
set_option linter.all false
set_option maxHeartbeats 1000000
namespace Go.Proofs.YtgpoopjfkplilaaGreatDoor
open Go Go.Sx Go.RowKit Go.Proofs
structure TFile where
 fID : Int
 fOwner : Int
 fShared : Bool
 fLink : Int
 fAttrs : List TAttr
@[go_sem] def bR (x : TFile) : List D := [iv x.fID, iv x.fOwner, bv x.fShared, iv x.fLink, .sl (x.fAttrs.map dL)]
@[go_sem] def wK (x : TFile) : SV := .g [.d (iv x.fID), .d (iv x.fOwner), .d (bv x.fShared), .d (iv x.fLink), .d (.sl (x.fAttrs.map dL))]
@[go_sem] def b7F (x : TFile) : SV := .g [.d (iv x.fID), .d (iv x.fOwner), .d (bv x.fShared), .d (iv x.fLink), .w 124 4 (x.fAttrs.map dL)]
def wFile (x : TFile) : Nat := eF x.fAttrs
def mP (x : TFile) : Prop := inR .i64 x.fID ∧ inR .i64 x.fOwner ∧ True ∧ inR .i64 x.fLink ∧ zQ x.fAttrs
def fF (l : List TFile) : Nat := l.length + wsum wFile l
def a1M (l : List TFile) : Prop := l.length ≤ 9223372036854775807 ∧ ∀ x ∈ l, mP x
theorem b5d {n : Nat} {r : List D} (h : ShD tt n 161 r) : ∃ x : TFile, r = bR x ∧ mP x := by
 match n, h with
 | n + 1, ⟨a0, b0, e0, h0, a1, b1, e1, h1, a2, b2, e2, h2, a3, b3, e3, h3, a4, b4, e4, h4, ee⟩ =>
  obtain ⟨x0, rfl, p0⟩ := a3C h0
  obtain ⟨x1, rfl, p1⟩ := a3C h1
  obtain ⟨x2, rfl⟩ := b8I h2
  obtain ⟨x3, rfl, p3⟩ := a3C h3
  obtain ⟨x4, rfl, p4⟩ := b3p h4
  have ee' : b4 = [] := ee
  subst ee' e4 e3 e2 e1 e0
  exact ⟨⟨x0, x1, x2, x3, x4⟩, rfl, p0, p1, trivial, p3, p4⟩
theorem b3q {n : Nat} {r : List D} (h : ShD tt n 40 r) : ∃ l : List TFile, r = [.sl (l.map bR)] ∧ a1M l := by
 match n, h with
 | n + 1, ⟨rows, h, hm, hr⟩ =>
  obtain ⟨l, rfl, hl⟩ := qZ bR mP (fun r h => b5d (hr r h))
  exact ⟨l, h, by unfold maxLen at hm; simpa using hm, hl⟩
theorem a4w (x : TFile) (n : Int) (h0 : 0 ≤ n ∧ n ≤ 1048576) (hw : mP x) : FnC Tryz.prog 119 [wK x, oi n] (oi (bV n (wFile x))) := by
 refine ent Tryz.func119 rfl Tryz.call119 rfl (fun C => ?_); simp only [go_sem, st0, Tryz.ntmps119]
 unfold mP at hw
 by_cases hc0 : n - (eF x.fAttrs : Nat) < 0
 ·have e : bV n (wFile x) = -1 := by rw [aZ (by unfold wFile; omega)]
  have q0 := aZ hc0; have q1 := @hc0; refine uR (a2P x.fAttrs (n) (by omega) hw.2.2.2.2) ?_
  exact aA ⟨⟨_, rfl, by simp only [go_sem, e]⟩, trivial⟩
 have e : bV n (wFile x) = n - (eF x.fAttrs : Nat) := by rw [bM (by unfold wFile; omega)]; unfold wFile; omega
 have q0 := bM hc0; have q1 := @hc0; refine uR (a2P x.fAttrs (n) (by omega) hw.2.2.2.2) ?_
 exact aA ⟨⟨_, rfl, by simp only [go_sem, e]⟩, trivial⟩
theorem b1P (x : TFile) (hx : wFile x ≤ 1048576) : FnC Tryz.prog 123 [wK x] (b7F x) := by
 unfold wFile at hx
 refine ent Tryz.func123 rfl Tryz.call123 rfl (fun C => ?_); simp only [go_sem, st0, Tryz.ntmps123]
 refine lC (a9g x.fAttrs (by omega)) ?_
 exact aA ⟨⟨_, rfl, by simp only [go_sem]⟩, trivial⟩
theorem b1Q (x : TFile) (hx : wFile x ≤ 67108864) : FnC Tryz.prog 114 [wK x, wK x] (ob true) := by
 unfold wFile at hx
 refine ent Tryz.func114 rfl Tryz.call114 rfl (fun C => ?_); simp only [go_sem, st0, Tryz.ntmps114]
 refine lC (a9h x.fAttrs (by omega)) ?_
 exact aA ⟨⟨_, rfl, by simp only [go_sem]⟩, trivial⟩
theorem a9i (l : List TFile) (hl : fF l ≤ 1048576) : FnC Tryz.prog 81 [.o (.d (.sl (l.map bR)))] (.o (.w 86 5 (l.map bR))) := by
 unfold fF at hl
 refine ent Tryz.func81 rfl Tryz.call81 rfl (fun C => ?_); simp only [go_sem, st0, Tryz.ntmps81]
 refine aH ?_
 refine bD (α := Nat) (fun k => [(4, oi k)]) (fun k => [(0, .row 86 5 (mR bR [iv 0, iv 0, bv false, iv 0, .sl []] l k) true)]) (fun k => k ≤ l.length) (fun k => l.length - k) 0 (fun _ => ?_) ?_ ?_ (fun k hk => ?_)
 ·simp only [go_sem]
 ·simp only [go_sem]; simp [nZ]
 ·simp
 ·simp only [go_sem]
  refine aH ?_
  refine cnd rfl (fun h => ?_) (fun h => ?_)
  ·simp only [decide_eq_true_eq, Int.ofNat_lt] at h
   have hw := dB wFile l h
   have q0 := @h; refine iX (b1P l[k] (by omega)) ?_
   refine aD (k + 1) ?_ ?_ ?_
   ·simp only [go_sem]; simp [← qP, h, bR]
   ·omega
   ·omega
  ·simp only [decide_eq_false_iff_not] at h
   have e : k = l.length := by omega
   subst e
   refine aH ?_
   exact aA ⟨⟨_, rfl, by simp only [go_sem, qQ]⟩, trivial⟩
theorem a9j (l : List TFile) (hl : fF l ≤ 67108864) : FnC Tryz.prog 66 [.o (.d (.sl (l.map bR))), .o (.d (.sl (l.map bR)))] (ob true) := by
 unfold fF at hl
 refine ent Tryz.func66 rfl Tryz.call66 rfl (fun C => ?_); simp only [go_sem, st0, Tryz.ntmps66]
 refine aH ?_
 refine bD (α := Nat) (fun k => [(5, oi k)]) (fun _ => []) (fun k => k ≤ l.length) (fun k => l.length - k) 0 (fun _ => ?_) ?_ ?_ (fun k hk => ?_)
 ·simp only [go_sem]
 ·simp only [go_sem]; simp
 ·simp
 ·simp only [go_sem]
  refine aH ?_
  refine cnd rfl (fun h => ?_) (fun h => ?_)
  ·simp only [decide_eq_true_eq, Int.ofNat_lt] at h
   have hw := dB wFile l h
   have q0 := @h; refine iX (b1Q l[k] (by omega)) ?_
   refine aD (k + 1) ?_ ?_ ?_
   ·simp only [go_sem]; simp
   ·omega
   ·omega
  ·simp only [decide_eq_false_iff_not] at h
   refine aH ?_
   exact aA ⟨⟨_, rfl, by simp only [go_sem]⟩, trivial⟩
theorem a2Q (l : List TFile) (n : Int) (h0 : 0 ≤ n ∧ n ≤ 1048576) (hw : a1M l) : FnC Tryz.prog 75 [.o (.d (.sl (l.map bR))), oi n] (oi (bV n (fF l))) := by
 unfold a1M at hw
 refine ent Tryz.func75 rfl Tryz.call75 rfl (fun C => ?_); simp only [go_sem, st0, Tryz.ntmps75]
 by_cases hc : n - (l.length : Nat) < 0
 ·have e : bV n (fF l) = -1 := by rw [aZ (by unfold fF; omega)]
  have q0 := @hc; refine iG ?_
  exact aA ⟨⟨_, rfl, by simp only [go_sem, e]⟩, trivial⟩
 have q0 := @hc; refine iG ?_
 refine bD (α := Nat) (fun k => [(5, oi k), (1, oi (n - (l.length : Nat) - (wsum wFile (l.take k) : Nat)))]) (fun _ => []) (fun k => k ≤ l.length ∧ 0 ≤ n - (l.length : Nat) - (wsum wFile (l.take k) : Nat)) (fun k => l.length - k) 0 (fun _ => ?_) ?_ ?_ (fun k hk => ?_)
 ·simp only [go_sem]
 ·simp only [go_sem]; simp [wsum]
 ·simp [wsum]; omega
 ·obtain ⟨hk, hn⟩ := hk
  simp only [go_sem]
  refine aH ?_
  refine cnd rfl (fun h => ?_) (fun h => ?_)
  ·simp only [decide_eq_true_eq, Int.ofNat_lt] at h
   have hs := lU wFile l h
   have ht := vT wFile l (k + 1)
   by_cases h2 : n - (l.length : Nat) - (wsum wFile (l.take k) : Nat) - (wFile l[k] : Nat) < 0
   ·have e : bV n (fF l) = -1 := by rw [aZ (by unfold fF; omega)]
    have q0 := @h; have q1 := aZ h2; refine uR (a4w l[k] _ ⟨hn, by omega⟩ (hw.2 _ (List.getElem_mem h))) ?_
    exact aA ⟨⟨_, rfl, by simp only [go_sem, e]⟩, trivial⟩
   ·have q0 := @h; have q1 := bM h2; have q2 := @h2; refine gX (a4w l[k] _ ⟨hn, by omega⟩ (hw.2 _ (List.getElem_mem h))) ?_
    refine aD (k + 1) ?_ ?_ ?_
    ·simp only [go_sem]; simp; omega
    ·omega
    ·omega
  ·simp only [decide_eq_false_iff_not] at h
   have e0 : k = l.length := by omega
   subst e0
   rw [List.take_length] at hn
   have e : bV n (fF l) = n - (l.length : Nat) - (wsum wFile l : Nat) := by rw [bM (by unfold fF; omega)]; unfold fF; omega
   refine aH ?_
   exact aA ⟨⟨_, rfl, by simp only [go_sem, e, List.take_length]⟩, trivial⟩
end Go.Proofs.YtgpoopjfkplilaaGreatDoor
end
section
set_option linter.all false
set_option maxHeartbeats 1000000
namespace Go.Proofs.YtgpoopjfkplilaaGreatDoor
open Go Go.Sx Go.RowKit Go.Proofs
structure TStore where
 fSchema : List TField
 fFiles : List TFile
 fNextID : Int
@[go_sem] def b3r (x : TStore) : List D := [.sl (x.fSchema.map aY), .sl (x.fFiles.map bR), iv x.fNextID]
@[go_sem] def a0D (x : TStore) : SV := .g [.d (.sl (x.fSchema.map aY)), .d (.sl (x.fFiles.map bR)), .d (iv x.fNextID)]
@[go_sem] def b6B (x : TStore) : SV := .g [.w 81 2 (x.fSchema.map aY), .w 86 5 (x.fFiles.map bR), .d (iv x.fNextID)]
def dC (x : TStore) : Nat := aP x.fSchema + fF x.fFiles
def vU (x : TStore) : Prop := zP x.fSchema ∧ a1M x.fFiles ∧ inR .i64 x.fNextID
def b8f (l : List TStore) : Nat := l.length + wsum dC l
def b7G (l : List TStore) : Prop := l.length ≤ 9223372036854775807 ∧ ∀ x ∈ l, vU x
theorem b3s {n : Nat} {r : List D} (h : ShD tt n 42 r) : ∃ x : TStore, r = b3r x ∧ vU x := by
 match n, h with
 | n + 1, ⟨a0, b0, e0, h0, a1, b1, e1, h1, a2, b2, e2, h2, ee⟩ =>
  obtain ⟨x0, rfl, p0⟩ := b1M h0
  obtain ⟨x1, rfl, p1⟩ := b3q h1
  obtain ⟨x2, rfl, p2⟩ := a3C h2
  have ee' : b2 = [] := ee
  subst ee' e2 e1 e0
  exact ⟨⟨x0, x1, x2⟩, rfl, p0, p1, p2⟩
theorem xN (x : TStore) (n : Int) (h0 : 0 ≤ n ∧ n ≤ 1048576) (hw : vU x) : FnC Tryz.prog 39 [a0D x, oi n] (oi (bV n (dC x))) := by
 refine ent Tryz.func39 rfl Tryz.call39 rfl (fun C => ?_); simp only [go_sem, st0, Tryz.ntmps39]
 unfold vU at hw
 by_cases hc0 : n - (aP x.fSchema : Nat) < 0
 ·have e : bV n (dC x) = -1 := by rw [aZ (by unfold dC; omega)]
  have q0 := aZ hc0; have q1 := @hc0; refine uR (uT x.fSchema (n) (by omega) hw.1) ?_
  exact aA ⟨⟨_, rfl, by simp only [go_sem, e]⟩, trivial⟩
 by_cases hc1 : n - (aP x.fSchema : Nat) - (fF x.fFiles : Nat) < 0
 ·have e : bV n (dC x) = -1 := by rw [aZ (by unfold dC; omega)]
  have q0 := bM hc0; have q1 := @hc0; have q2 := aZ hc1; have q3 := @hc1; refine xM (uT x.fSchema (n) (by omega) hw.1) (a2Q x.fFiles (n - (aP x.fSchema : Nat)) (by omega) hw.2.1) ?_
  exact aA ⟨⟨_, rfl, by simp only [go_sem, e]⟩, trivial⟩
 have e : bV n (dC x) = n - (aP x.fSchema : Nat) - (fF x.fFiles : Nat) := by rw [bM (by unfold dC; omega)]; unfold dC; omega
 have q0 := bM hc0; have q1 := @hc0; have q2 := bM hc1; have q3 := @hc1; refine xM (uT x.fSchema (n) (by omega) hw.1) (a2Q x.fFiles (n - (aP x.fSchema : Nat)) (by omega) hw.2.1) ?_
 exact aA ⟨⟨_, rfl, by simp only [go_sem, e]⟩, trivial⟩
theorem a9k (x : TStore) (hx : dC x ≤ 1048576) : FnC Tryz.prog 42 [a0D x] (b6B x) := by
 unfold dC at hx
 refine ent Tryz.func42 rfl Tryz.call42 rfl (fun C => ?_); simp only [go_sem, st0, Tryz.ntmps42]
 refine b3h (a7t x.fSchema (by omega)) (a9i x.fFiles (by omega)) ?_
 exact aA ⟨⟨_, rfl, by simp only [go_sem]⟩, trivial⟩
theorem a9l (x : TStore) (hx : dC x ≤ 67108864) : FnC Tryz.prog 33 [a0D x, a0D x] (ob true) := by
 unfold dC at hx
 refine ent Tryz.func33 rfl Tryz.call33 rfl (fun C => ?_); simp only [go_sem, st0, Tryz.ntmps33]
 refine b3h (a7u x.fSchema (by omega)) (a9j x.fFiles (by omega)) ?_
 exact aA ⟨⟨_, rfl, by simp only [go_sem]⟩, trivial⟩
end Go.Proofs.YtgpoopjfkplilaaGreatDoor
end
section
set_option linter.all false
set_option maxHeartbeats 1000000
namespace Go.Proofs.YtgpoopjfkplilaaGreatDoor
open Go Go.Sx Go.RowKit Go.Proofs
structure TNode where
 fOp : Int
 fLeft : Int
 fRight : Int
 fName : ByteArray
 fValue : TValue
@[go_sem] def bE (x : TNode) : List D := [iv x.fOp, iv x.fLeft, iv x.fRight, sv x.fName, iv x.fValue.fKind, iv x.fValue.fInt, sv x.fValue.fStr]
@[go_sem] def a1e (x : TNode) : SV := .g [.d (iv x.fOp), .d (iv x.fLeft), .d (iv x.fRight), .d (sv x.fName), .d (iv x.fValue.fKind), .d (iv x.fValue.fInt), .d (sv x.fValue.fStr)]
def wNode (x : TNode) : Nat := x.fName.size + gB x.fValue
def a0E (x : TNode) : Prop := inR .i64 x.fOp ∧ inR .i64 x.fLeft ∧ inR .i64 x.fRight ∧ x.fName.size ≤ 9223372036854775807 ∧ nC x.fValue
def wNodeS (l : List TNode) : Nat := l.length + wsum wNode l
def a1N (l : List TNode) : Prop := l.length ≤ 9223372036854775807 ∧ ∀ x ∈ l, a0E x
theorem b5e {n : Nat} {r : List D} (h : ShD tt n 203 r) : ∃ x : TNode, r = bE x ∧ a0E x := by
 match n, h with
 | n + 1, ⟨a0, b0, e0, h0, a1, b1, e1, h1, a2, b2, e2, h2, a3, b3, e3, h3, a4, b4, e4, h4, ee⟩ =>
  obtain ⟨x0, rfl, p0⟩ := a3C h0
  obtain ⟨x1, rfl, p1⟩ := a3C h1
  obtain ⟨x2, rfl, p2⟩ := a3C h2
  obtain ⟨x3, rfl, p3⟩ := a7r h3
  obtain ⟨x4, rfl, p4⟩ := a7s h4
  have ee' : b4 = [] := ee
  subst ee' e4 e3 e2 e1 e0
  exact ⟨⟨x0, x1, x2, x3, x4⟩, rfl, p0, p1, p2, p3, p4⟩
theorem b3t {n : Nat} {r : List D} (h : ShD tt n 108 r) : ∃ l : List TNode, r = [.sl (l.map bE)] ∧ a1N l := by
 match n, h with
 | n + 1, ⟨rows, h, hm, hr⟩ =>
  obtain ⟨l, rfl, hl⟩ := qZ bE a0E (fun r h => b5e (hr r h))
  exact ⟨l, h, by unfold maxLen at hm; simpa using hm, hl⟩
theorem a4x (x : TNode) (n : Int) (h0 : 0 ≤ n ∧ n ≤ 1048576) (hw : a0E x) : FnC Tryz.prog 171 [a1e x, oi n] (oi (bV n (wNode x))) := by
 refine ent Tryz.func171 rfl Tryz.call171 rfl (fun C => ?_); simp only [go_sem, st0, Tryz.ntmps171]
 unfold a0E at hw
 by_cases hc0 : n - (x.fName.size : Nat) < 0
 ·have e : bV n (wNode x) = -1 := by rw [aZ (by unfold wNode; omega)]
  have q0 := @hc0; refine iG ?_
  exact aA ⟨⟨_, rfl, by simp only [go_sem, e]⟩, trivial⟩
 by_cases hc1 : n - (x.fName.size : Nat) - (gB x.fValue : Nat) < 0
 ·have e : bV n (wNode x) = -1 := by rw [aZ (by unfold wNode; omega)]
  have q0 := @hc0; have q1 := aZ hc1; have q2 := @hc1; refine gX (sG x.fValue (n - (x.fName.size : Nat)) (by omega) hw.2.2.2.2) ?_
  exact aA ⟨⟨_, rfl, by simp only [go_sem, e]⟩, trivial⟩
 have e : bV n (wNode x) = n - (x.fName.size : Nat) - (gB x.fValue : Nat) := by rw [bM (by unfold wNode; omega)]; unfold wNode; omega
 have q0 := @hc0; have q1 := bM hc1; have q2 := @hc1; refine gX (sG x.fValue (n - (x.fName.size : Nat)) (by omega) hw.2.2.2.2) ?_
 exact aA ⟨⟨_, rfl, by simp only [go_sem, e]⟩, trivial⟩
theorem b1R (x : TNode) (hx : wNode x ≤ 1048576) : FnC Tryz.prog 173 [a1e x] (a1e x) := by
 unfold wNode at hx
 refine ent Tryz.func173 rfl Tryz.call173 rfl (fun C => ?_); simp only [go_sem, st0, Tryz.ntmps173]
 refine lC (a2L x.fValue (by omega)) ?_
 exact aA ⟨⟨_, rfl, by simp only [go_sem]⟩, trivial⟩
theorem b1S (x : TNode) (hx : wNode x ≤ 67108864) : FnC Tryz.prog 169 [a1e x, a1e x] (ob true) := by
 unfold wNode at hx
 refine ent Tryz.func169 rfl Tryz.call169 rfl (fun C => ?_); simp only [go_sem, st0, Tryz.ntmps169]
 refine lC (a2M x.fValue (by omega)) ?_
 exact aA ⟨⟨_, rfl, by simp only [go_sem]⟩, trivial⟩
theorem a9m (l : List TNode) (hl : wNodeS l ≤ 1048576) : FnC Tryz.prog 124 [.o (.d (.sl (l.map bE)))] (.o (.w 155 7 (l.map bE))) := by
 unfold wNodeS at hl
 refine ent Tryz.func124 rfl Tryz.call124 rfl (fun C => ?_); simp only [go_sem, st0, Tryz.ntmps124]
 refine aH ?_
 refine bD (α := Nat) (fun k => [(4, oi k)]) (fun k => [(0, .row 155 7 (mR bE [iv 0, iv 0, iv 0, sv ⟨#[]⟩, iv 0, iv 0, sv ⟨#[]⟩] l k) true)]) (fun k => k ≤ l.length) (fun k => l.length - k) 0 (fun _ => ?_) ?_ ?_ (fun k hk => ?_)
 ·simp only [go_sem]
 ·simp only [go_sem]; simp [nZ]
 ·simp
 ·simp only [go_sem]
  refine aH ?_
  refine cnd rfl (fun h => ?_) (fun h => ?_)
  ·simp only [decide_eq_true_eq, Int.ofNat_lt] at h
   have hw := dB wNode l h
   have q0 := @h; refine iX (b1R l[k] (by omega)) ?_
   refine aD (k + 1) ?_ ?_ ?_
   ·simp only [go_sem]; simp [← qP, h, bE]
   ·omega
   ·omega
  ·simp only [decide_eq_false_iff_not] at h
   have e : k = l.length := by omega
   subst e
   refine aH ?_
   exact aA ⟨⟨_, rfl, by simp only [go_sem, qQ]⟩, trivial⟩
theorem a9n (l : List TNode) (hl : wNodeS l ≤ 67108864) : FnC Tryz.prog 115 [.o (.d (.sl (l.map bE))), .o (.d (.sl (l.map bE)))] (ob true) := by
 unfold wNodeS at hl
 refine ent Tryz.func115 rfl Tryz.call115 rfl (fun C => ?_); simp only [go_sem, st0, Tryz.ntmps115]
 refine aH ?_
 refine bD (α := Nat) (fun k => [(5, oi k)]) (fun _ => []) (fun k => k ≤ l.length) (fun k => l.length - k) 0 (fun _ => ?_) ?_ ?_ (fun k hk => ?_)
 ·simp only [go_sem]
 ·simp only [go_sem]; simp
 ·simp
 ·simp only [go_sem]
  refine aH ?_
  refine cnd rfl (fun h => ?_) (fun h => ?_)
  ·simp only [decide_eq_true_eq, Int.ofNat_lt] at h
   have hw := dB wNode l h
   have q0 := @h; refine iX (b1S l[k] (by omega)) ?_
   refine aD (k + 1) ?_ ?_ ?_
   ·simp only [go_sem]; simp
   ·omega
   ·omega
  ·simp only [decide_eq_false_iff_not] at h
   refine aH ?_
   exact aA ⟨⟨_, rfl, by simp only [go_sem]⟩, trivial⟩
theorem a2R (l : List TNode) (n : Int) (h0 : 0 ≤ n ∧ n ≤ 1048576) (hw : a1N l) : FnC Tryz.prog 120 [.o (.d (.sl (l.map bE))), oi n] (oi (bV n (wNodeS l))) := by
 unfold a1N at hw
 refine ent Tryz.func120 rfl Tryz.call120 rfl (fun C => ?_); simp only [go_sem, st0, Tryz.ntmps120]
 by_cases hc : n - (l.length : Nat) < 0
 ·have e : bV n (wNodeS l) = -1 := by rw [aZ (by unfold wNodeS; omega)]
  have q0 := @hc; refine iG ?_
  exact aA ⟨⟨_, rfl, by simp only [go_sem, e]⟩, trivial⟩
 have q0 := @hc; refine iG ?_
 refine bD (α := Nat) (fun k => [(5, oi k), (1, oi (n - (l.length : Nat) - (wsum wNode (l.take k) : Nat)))]) (fun _ => []) (fun k => k ≤ l.length ∧ 0 ≤ n - (l.length : Nat) - (wsum wNode (l.take k) : Nat)) (fun k => l.length - k) 0 (fun _ => ?_) ?_ ?_ (fun k hk => ?_)
 ·simp only [go_sem]
 ·simp only [go_sem]; simp [wsum]
 ·simp [wsum]; omega
 ·obtain ⟨hk, hn⟩ := hk
  simp only [go_sem]
  refine aH ?_
  refine cnd rfl (fun h => ?_) (fun h => ?_)
  ·simp only [decide_eq_true_eq, Int.ofNat_lt] at h
   have hs := lU wNode l h
   have ht := vT wNode l (k + 1)
   by_cases h2 : n - (l.length : Nat) - (wsum wNode (l.take k) : Nat) - (wNode l[k] : Nat) < 0
   ·have e : bV n (wNodeS l) = -1 := by rw [aZ (by unfold wNodeS; omega)]
    have q0 := @h; have q1 := aZ h2; refine uR (a4x l[k] _ ⟨hn, by omega⟩ (hw.2 _ (List.getElem_mem h))) ?_
    exact aA ⟨⟨_, rfl, by simp only [go_sem, e]⟩, trivial⟩
   ·have q0 := @h; have q1 := bM h2; have q2 := @h2; refine gX (a4x l[k] _ ⟨hn, by omega⟩ (hw.2 _ (List.getElem_mem h))) ?_
    refine aD (k + 1) ?_ ?_ ?_
    ·simp only [go_sem]; simp; omega
    ·omega
    ·omega
  ·simp only [decide_eq_false_iff_not] at h
   have e0 : k = l.length := by omega
   subst e0
   rw [List.take_length] at hn
   have e : bV n (wNodeS l) = n - (l.length : Nat) - (wsum wNode l : Nat) := by rw [bM (by unfold wNodeS; omega)]; unfold wNodeS; omega
   refine aH ?_
   exact aA ⟨⟨_, rfl, by simp only [go_sem, e, List.take_length]⟩, trivial⟩
end Go.Proofs.YtgpoopjfkplilaaGreatDoor
end
section
set_option linter.all false
set_option maxHeartbeats 1000000
namespace Go.Proofs.YtgpoopjfkplilaaGreatDoor
open Go Go.Sx Go.RowKit Go.Proofs
structure TDir where
 fName : ByteArray
 fQuery : List TNode
@[go_sem] def bX (x : TDir) : List D := [sv x.fName, .sl (x.fQuery.map bE)]
@[go_sem] def b1T (x : TDir) : SV := .g [.d (sv x.fName), .d (.sl (x.fQuery.map bE))]
@[go_sem] def b8J (x : TDir) : SV := .g [.d (sv x.fName), .w 155 7 (x.fQuery.map bE)]
def wDir (x : TDir) : Nat := x.fName.size + wNodeS x.fQuery
def a4y (x : TDir) : Prop := x.fName.size ≤ 9223372036854775807 ∧ a1N x.fQuery
def fK (l : List TDir) : Nat := l.length + wsum wDir l
def a2S (l : List TDir) : Prop := l.length ≤ 9223372036854775807 ∧ ∀ x ∈ l, a4y x
theorem b6C {n : Nat} {r : List D} (h : ShD tt n 110 r) : ∃ x : TDir, r = bX x ∧ a4y x := by
 match n, h with
 | n + 1, ⟨a0, b0, e0, h0, a1, b1, e1, h1, ee⟩ =>
  obtain ⟨x0, rfl, p0⟩ := a7r h0
  obtain ⟨x1, rfl, p1⟩ := b3t h1
  have ee' : b1 = [] := ee
  subst ee' e1 e0
  exact ⟨⟨x0, x1⟩, rfl, p0, p1⟩
theorem b5f {n : Nat} {r : List D} (h : ShD tt n 43 r) : ∃ l : List TDir, r = [.sl (l.map bX)] ∧ a2S l := by
 match n, h with
 | n + 1, ⟨rows, h, hm, hr⟩ =>
  obtain ⟨l, rfl, hl⟩ := qZ bX a4y (fun r h => b6C (hr r h))
  exact ⟨l, h, by unfold maxLen at hm; simpa using hm, hl⟩
theorem a7w (x : TDir) (n : Int) (h0 : 0 ≤ n ∧ n ≤ 1048576) (hw : a4y x) : FnC Tryz.prog 76 [b1T x, oi n] (oi (bV n (wDir x))) := by
 refine ent Tryz.func76 rfl Tryz.call76 rfl (fun C => ?_); simp only [go_sem, st0, Tryz.ntmps76]
 unfold a4y at hw
 by_cases hc0 : n - (x.fName.size : Nat) < 0
 ·have e : bV n (wDir x) = -1 := by rw [aZ (by unfold wDir; omega)]
  have q0 := @hc0; refine iG ?_
  exact aA ⟨⟨_, rfl, by simp only [go_sem, e]⟩, trivial⟩
 by_cases hc1 : n - (x.fName.size : Nat) - (wNodeS x.fQuery : Nat) < 0
 ·have e : bV n (wDir x) = -1 := by rw [aZ (by unfold wDir; omega)]
  have q0 := @hc0; have q1 := aZ hc1; have q2 := @hc1; refine gX (a2R x.fQuery (n - (x.fName.size : Nat)) (by omega) hw.2) ?_
  exact aA ⟨⟨_, rfl, by simp only [go_sem, e]⟩, trivial⟩
 have e : bV n (wDir x) = n - (x.fName.size : Nat) - (wNodeS x.fQuery : Nat) := by rw [bM (by unfold wDir; omega)]; unfold wDir; omega
 have q0 := @hc0; have q1 := bM hc1; have q2 := @hc1; refine gX (a2R x.fQuery (n - (x.fName.size : Nat)) (by omega) hw.2) ?_
 exact aA ⟨⟨_, rfl, by simp only [go_sem, e]⟩, trivial⟩
theorem b3u (x : TDir) (hx : wDir x ≤ 1048576) : FnC Tryz.prog 82 [b1T x] (b8J x) := by
 unfold wDir at hx
 refine ent Tryz.func82 rfl Tryz.call82 rfl (fun C => ?_); simp only [go_sem, st0, Tryz.ntmps82]
 refine lC (a9m x.fQuery (by omega)) ?_
 exact aA ⟨⟨_, rfl, by simp only [go_sem]⟩, trivial⟩
theorem b3v (x : TDir) (hx : wDir x ≤ 67108864) : FnC Tryz.prog 67 [b1T x, b1T x] (ob true) := by
 unfold wDir at hx
 refine ent Tryz.func67 rfl Tryz.call67 rfl (fun C => ?_); simp only [go_sem, st0, Tryz.ntmps67]
 refine lC (a9n x.fQuery (by omega)) ?_
 exact aA ⟨⟨_, rfl, by simp only [go_sem]⟩, trivial⟩
theorem b1U (l : List TDir) (hl : fK l ≤ 1048576) : FnC Tryz.prog 43 [.o (.d (.sl (l.map bX)))] (.o (.w 90 2 (l.map bX))) := by
 unfold fK at hl
 refine ent Tryz.func43 rfl Tryz.call43 rfl (fun C => ?_); simp only [go_sem, st0, Tryz.ntmps43]
 refine aH ?_
 refine bD (α := Nat) (fun k => [(4, oi k)]) (fun k => [(0, .row 90 2 (mR bX [sv ⟨#[]⟩, .sl []] l k) true)]) (fun k => k ≤ l.length) (fun k => l.length - k) 0 (fun _ => ?_) ?_ ?_ (fun k hk => ?_)
 ·simp only [go_sem]
 ·simp only [go_sem]; simp [nZ]
 ·simp
 ·simp only [go_sem]
  refine aH ?_
  refine cnd rfl (fun h => ?_) (fun h => ?_)
  ·simp only [decide_eq_true_eq, Int.ofNat_lt] at h
   have hw := dB wDir l h
   have q0 := @h; refine iX (b3u l[k] (by omega)) ?_
   refine aD (k + 1) ?_ ?_ ?_
   ·simp only [go_sem]; simp [← qP, h, bX]
   ·omega
   ·omega
  ·simp only [decide_eq_false_iff_not] at h
   have e : k = l.length := by omega
   subst e
   refine aH ?_
   exact aA ⟨⟨_, rfl, by simp only [go_sem, qQ]⟩, trivial⟩
theorem b1V (l : List TDir) (hl : fK l ≤ 67108864) : FnC Tryz.prog 34 [.o (.d (.sl (l.map bX))), .o (.d (.sl (l.map bX)))] (ob true) := by
 unfold fK at hl
 refine ent Tryz.func34 rfl Tryz.call34 rfl (fun C => ?_); simp only [go_sem, st0, Tryz.ntmps34]
 refine aH ?_
 refine bD (α := Nat) (fun k => [(5, oi k)]) (fun _ => []) (fun k => k ≤ l.length) (fun k => l.length - k) 0 (fun _ => ?_) ?_ ?_ (fun k hk => ?_)
 ·simp only [go_sem]
 ·simp only [go_sem]; simp
 ·simp
 ·simp only [go_sem]
  refine aH ?_
  refine cnd rfl (fun h => ?_) (fun h => ?_)
  ·simp only [decide_eq_true_eq, Int.ofNat_lt] at h
   have hw := dB wDir l h
   have q0 := @h; refine iX (b3v l[k] (by omega)) ?_
   refine aD (k + 1) ?_ ?_ ?_
   ·simp only [go_sem]; simp
   ·omega
   ·omega
  ·simp only [decide_eq_false_iff_not] at h
   refine aH ?_
   exact aA ⟨⟨_, rfl, by simp only [go_sem]⟩, trivial⟩
theorem a4z (l : List TDir) (n : Int) (h0 : 0 ≤ n ∧ n ≤ 1048576) (hw : a2S l) : FnC Tryz.prog 40 [.o (.d (.sl (l.map bX))), oi n] (oi (bV n (fK l))) := by
 unfold a2S at hw
 refine ent Tryz.func40 rfl Tryz.call40 rfl (fun C => ?_); simp only [go_sem, st0, Tryz.ntmps40]
 by_cases hc : n - (l.length : Nat) < 0
 ·have e : bV n (fK l) = -1 := by rw [aZ (by unfold fK; omega)]
  have q0 := @hc; refine iG ?_
  exact aA ⟨⟨_, rfl, by simp only [go_sem, e]⟩, trivial⟩
 have q0 := @hc; refine iG ?_
 refine bD (α := Nat) (fun k => [(5, oi k), (1, oi (n - (l.length : Nat) - (wsum wDir (l.take k) : Nat)))]) (fun _ => []) (fun k => k ≤ l.length ∧ 0 ≤ n - (l.length : Nat) - (wsum wDir (l.take k) : Nat)) (fun k => l.length - k) 0 (fun _ => ?_) ?_ ?_ (fun k hk => ?_)
 ·simp only [go_sem]
 ·simp only [go_sem]; simp [wsum]
 ·simp [wsum]; omega
 ·obtain ⟨hk, hn⟩ := hk
  simp only [go_sem]
  refine aH ?_
  refine cnd rfl (fun h => ?_) (fun h => ?_)
  ·simp only [decide_eq_true_eq, Int.ofNat_lt] at h
   have hs := lU wDir l h
   have ht := vT wDir l (k + 1)
   by_cases h2 : n - (l.length : Nat) - (wsum wDir (l.take k) : Nat) - (wDir l[k] : Nat) < 0
   ·have e : bV n (fK l) = -1 := by rw [aZ (by unfold fK; omega)]
    have q0 := @h; have q1 := aZ h2; refine uR (a7w l[k] _ ⟨hn, by omega⟩ (hw.2 _ (List.getElem_mem h))) ?_
    exact aA ⟨⟨_, rfl, by simp only [go_sem, e]⟩, trivial⟩
   ·have q0 := @h; have q1 := bM h2; have q2 := @h2; refine gX (a7w l[k] _ ⟨hn, by omega⟩ (hw.2 _ (List.getElem_mem h))) ?_
    refine aD (k + 1) ?_ ?_ ?_
    ·simp only [go_sem]; simp; omega
    ·omega
    ·omega
  ·simp only [decide_eq_false_iff_not] at h
   have e0 : k = l.length := by omega
   subst e0
   rw [List.take_length] at hn
   have e : bV n (fK l) = n - (l.length : Nat) - (wsum wDir l : Nat) := by rw [bM (by unfold fK; omega)]; unfold fK; omega
   refine aH ?_
   exact aA ⟨⟨_, rfl, by simp only [go_sem, e, List.take_length]⟩, trivial⟩
end Go.Proofs.YtgpoopjfkplilaaGreatDoor
end
end
