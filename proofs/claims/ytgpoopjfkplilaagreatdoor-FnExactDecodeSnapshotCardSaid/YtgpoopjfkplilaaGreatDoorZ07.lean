/- Joined texts. -/
import Derived.Test.YtgpoopjfkplilaaGreatDoorZ04
import Derived.ProofKit
import Derived.Test.YtgpoopjfkplilaaGreatDoorRows
import Derived.Test.YtgpoopjfkplilaaGreatDoorZ06
import Derived.OpenShut
set_option linter.all false
section
section
set_option linter.all false
namespace Go.Sx
open Go Go.RowKit
def V0 (w : World) : View := fun b => match w.heap[b]? with
 | some (.cells c _ _) => some c.toList
 | _ => none
theorem b4Z (w : World) : Mod (V0 w) w := fun b cs h => by
 unfold V0 at h
 split at h
 ·rename_i c t f e
  cases h
  exact ⟨c, t, f, e, List.prefix_refl _⟩
 ·cases h
theorem b3x {w : World} {a : Addr} {y : Value} (h : w.cell? a = some y) : (V0 w).cell a = some y := by
 unfold World.cell? at h
 unfold View.cell V0
 split at h
 ·rename_i c t f e
  by_cases hs : a.spot.isSome
  ·rw [if_pos hs] at h; cases h
  ·rw [if_neg hs] at h ⊢
   rw [e]
   simpa using h
 ·cases h
def a3A (T : Nat → Ty) : Nat → List (Nat × Nat) → Option Nat
 | o, [] => some o
 | o, p :: r => if p.1 = o ∧ (T p.2).tag ≠ 0 then a3A T (o + (T p.2).size) r else none
def Cl (T : Nat → Ty) : Prop := ∀ t, ((T t).tag = 1 → a3A T 0 (T t).flds = some (T t).size) ∧ ((T t).tag = 2 → (T (T t).elem).tag ≠ 0) ∧ ((T t).tag = 3 → (T t).kind = .i64 ∨ (T t).kind = .u8)
def clB (l : List Ty) (d : Ty) : Bool := match d.tag with
 | 1 => a3A (fun t => l.getD t .bad) 0 d.flds == some d.size
 | 2 => (l.getD d.elem .bad).tag != 0
 | 3 => d.kind == .i64 || d.kind == .u8
 | _ => true
theorem Cl.of_list {l : List Ty} (h : l.all (clB l) = true) : Cl (fun t => l.getD t .bad) := fun t => by
 have key : clB l (l.getD t .bad) = true := by
  rcases Nat.lt_or_ge t l.length with hl | hl
  ·rw [List.getD_eq_getElem?_getD, List.getElem?_eq_getElem hl]
   exact List.all_eq_true.1 h _ (List.getElem_mem hl)
  ·rw [List.getD_eq_getElem?_getD, List.getElem?_eq_none hl]; rfl
 unfold clB at key
 refine ⟨fun e => ?_, fun e => ?_, fun e => ?_⟩
 ·simp only [e] at key; simpa using key
 ·simp only [e] at key; simpa using key
 ·simp only [e] at key; simpa using key
def ShFs (sh : Nat → List D → Prop) : List (Nat × Nat) → List D → Prop
 | [], ds => ds = []
 | p :: r, ds => ∃ a b, ds = a ++ b ∧ sh p.2 a ∧ ShFs sh r b
def ShD (T : Nat → Ty) : Nat → Nat → List D → Prop
 | 0, _, _ => False
 | n + 1, t, ds => match (T t).tag with
  | 1 => ShFs (ShD T n) (T t).flds ds
  | 2 => ∃ rows, ds = [.sl rows] ∧ rows.length ≤ maxLen ∧ ∀ r ∈ rows, ShD T n (T t).elem r
  | 3 => ∃ i, ds = [.v (.int (T t).kind i)] ∧ inR (T t).kind i
  | 4 => ∃ b, ds = [bv b]
  | 5 => ∃ s : ByteArray, ds = [sv s] ∧ s.size ≤ maxLen
  | _ => False
theorem zY {α β : Type} {f : α → Option β} : ∀ {l : List α} {ys : List β}, l.mapM f = some ys → ∀ (i : Nat) (x : α), l[i]? = some x → ∃ y, f x = some y ∧ ys[i]? = some y
 | [], _, _, i, x, h => by simp at h
 | a :: l, ys, h, i, x, hx => by
  rw [List.mapM_cons] at h
  cases hfa : f a with
  | none => rw [hfa] at h; cases h
  | some b =>
   rw [hfa] at h
   cases hl : l.mapM f with
   | none => rw [hl] at h; cases h
   | some bs =>
    rw [hl] at h
    cases h
    cases i with
    | zero => simp at hx; subst hx; exact ⟨b, hfa, rfl⟩
    | succ i => simpa using zY hl i x (by simpa using hx)
theorem a6g {α β : Type} {f : α → Option β} : ∀ {l : List α} {ys : List β}, l.mapM f = some ys → ys.length = l.length
 | [], ys, h => by cases h; rfl
 | a :: l, ys, h => by
  rw [List.mapM_cons] at h
  cases hfa : f a with
  | none => rw [hfa] at h; cases h
  | some b =>
   rw [hfa] at h
   cases hl : l.mapM f with
   | none => rw [hl] at h; cases h
   | some bs => rw [hl] at h; cases h; simp [a6g hl]
theorem a6h {α : Type} (enc : α → List D) (wf : α → Prop) : ∀ {rows : List (List D)}, (∀ r ∈ rows, ∃ x, r = enc x ∧ wf x) → ∃ l : List α, rows = l.map enc ∧ ∀ x ∈ l, wf x
 | [], _ => ⟨[], rfl, fun x h => by cases h⟩
 | r :: rows, h => by
  obtain ⟨x, rfl, hx⟩ := h r (by simp)
  obtain ⟨l, rfl, hl⟩ := a6h enc wf (rows := rows) fun r hr => h r (by simp [hr])
  exact ⟨x :: l, rfl, fun y hy => (List.mem_cons.1 hy).elim (fun e => e ▸ hx) (hl y)⟩
section
variable {H : Type} {enc : TypeId × Value → H} {P : Program} {w : World} {T : Nat → Ty}
theorem a7S {base : Nat} {a : Addr} {n : Nat} {cs : List Value} (h : w.cells? base a n = some cs) : cs.length = n ∧ ∀ k y, cs[k]? = some y → (V0 w).cell (a.add k) = some y := by
 unfold World.cells? at h
 split at h
 ·have hl := a6g h
  rw [List.length_range] at hl
  refine ⟨hl, fun k y hk => ?_⟩
  have hk' : k < n := by rw [← hl]; exact (List.getElem?_eq_some_iff.1 hk).1
  obtain ⟨y', h1, h2⟩ := zY h k k (by simp [hk'])
  rw [hk] at h2; cases h2
  exact b3x h1
 ·cases h
theorem TyGood.cells {t : Nat} {d : Ty} {i : TypeInfo} {z : Value} {u : TypeDesc} (h : TyGood P t d i z u) : P.cellsOf t = d.size := by
 simp [Program.cellsOf, h.info, h.size]
theorem TyOK.cells (hT : TyOK P T) {t : Nat} (ht : (T t).tag ≠ 0) : P.cellsOf t = (T t).size := by
 obtain ⟨i, z, u, h⟩ := hT.good ht; exact h.cells
theorem a3B (hT : TyOK P T) {n : Nat} {sh : Nat → List D → Prop} {spare : Nat → Bool}
    (ih : ∀ t cs d ps, (T t).tag ≠ 0 → DataW.trod enc P w 0 spare true n t cs = some (d, ps) → ∃ ds Ss, sh t ds ∧ LayL (V0 w) ds cs Ss) {cs : List Value} :
    ∀ {fs : List Field} {ps : List (Nat × Nat)} {o : Nat} {xs : List (DataW H × List MemPlace)}, iA fs ps = true → a3A T o ps = some cs.length →
     (fs.mapM fun f => DataW.trod enc P w 0 spare true n f.type ((cs.drop f.offset).take (P.cellsOf f.type))) = some xs → ∃ ds Ss, ShFs sh ps ds ∧ LayL (V0 w) ds (cs.drop o) Ss
 | [], [], o, xs, _, ht, _ => by
  simp only [a3A, Option.some.injEq] at ht
  subst ht
  exact ⟨[], [], rfl, by rw [List.drop_length]; exact LayL.nil _⟩
 | f :: fs, p :: ps, o, xs, hf, ht, hm => by
  simp only [iA, Bool.and_eq_true, beq_iff_eq] at hf
  simp only [a3A] at ht
  split at ht
  ·rename_i hp
   rw [List.mapM_cons] at hm
   cases h1 : DataW.trod enc P w 0 spare true n f.type ((cs.drop f.offset).take (P.cellsOf f.type)) with
   | none => rw [h1] at hm; cases hm
   | some x =>
    rw [h1] at hm
    cases h2 : (fs.mapM fun f => DataW.trod enc P w 0 spare true n f.type ((cs.drop f.offset).take (P.cellsOf f.type))) with
    | none => rw [h2] at hm; cases hm
    | some ys =>
     obtain ⟨ds, Ss, q1, q2⟩ := ih _ _ x.1 x.2 (by rw [hf.1.2]; exact hp.2) h1
     obtain ⟨ds', Ss', q3, q4⟩ := a3B hT ih hf.2 ht h2
     rw [hf.1.2] at q1 q2
     rw [hT.cells hp.2, hf.1.1, hp.1] at q2
     refine ⟨ds ++ ds', Ss ++ Ss', ⟨ds, ds', rfl, q1, q3⟩, ?_⟩
     have e : cs.drop o = (cs.drop o).take (T p.2).size ++ cs.drop (o + (T p.2).size) := by
      rw [← List.drop_drop, List.take_append_drop]
     rw [e]
     exact q2.append q4
  ·cases ht
 | [], _ :: _, _, _, h, _, _ => by simp [iA] at h
 | _ :: _, [], _, _, h, _, _ => by simp [iA] at h
theorem a3C {sh : List D → Prop} {a : Addr} {sz : Nat} {g : List Value → Option (DataW H × List MemPlace)}
    (ih : ∀ cs d ps, g cs = some (d, ps) → ∃ ds Ss, sh ds ∧ LayL (V0 w) ds cs Ss) :
    ∀ {n : Nat}, (∀ i, i < n → ∃ x, ((w.cells? 0 (a.add (i * sz)) sz).bind g) = some x) →
     ∃ (rows : List (List D)) (ys : List Value) (Ss : List (List Nat)), rows.length = n ∧ (∀ r ∈ rows, sh r ∧ r.length = sz) ∧ ys.length = n * sz ∧ (∀ k y, ys[k]? = some y → (V0 w).cell (a.add k) = some y) ∧ LayL (V0 w) rows.flatten ys Ss
 | 0, _ => ⟨[], [], [], rfl, fun r h => (by cases h), by simp, fun k y h => (by simp at h), LayL.nil _⟩
 | n + 1, h => by
  obtain ⟨rows, ys, Ss, r1, r2, r3, r4, r5⟩ := a3C ih (n := n) fun i hi => h i (by omega)
  obtain ⟨x, hx⟩ := h n (by omega)
  cases hc : w.cells? 0 (a.add (n * sz)) sz with
  | none => rw [hc] at hx; cases hx
  | some cs =>
   rw [hc] at hx
   obtain ⟨ds, Ss', q1, q2⟩ := ih cs x.1 x.2 hx
   obtain ⟨c1, c2⟩ := a7S hc
   refine ⟨rows ++ [ds], ys ++ cs, Ss ++ Ss', by simp [r1], fun r hr => ?_, by simp [r3, c1, Nat.succ_mul], fun k y hk => ?_, by simpa using r5.append q2⟩
   ·rcases List.mem_append.1 hr with hr | hr
    ·exact r2 r hr
    ·rw [List.mem_singleton] at hr; subst hr; exact ⟨q1, by rw [← q2.1, c1]⟩
   ·rw [List.getElem?_append] at hk
    split at hk
    ·exact r4 k y hk
    ·rename_i hlt
     have := c2 _ y hk
     rw [yD] at this
     rw [r3] at this hlt
     rwa [show n * sz + (k - n * sz) = k by omega] at this
theorem a4T (hT : TyOK P T) (hC : Cl T) : ∀ {n t : Nat} {cs : List Value} {d : DataW H} {ps : List MemPlace}, (T t).tag ≠ 0 → DataW.trod enc P w 0 (fun _ => true) true n t cs = some (d, ps) → ∃ ds Ss, ShD T n t ds ∧ LayL (V0 w) ds cs Ss
 | 0, _, _, _, _, _, h => by simp [DataW.trod] at h
 | n + 1, t, cs, d, ps, ht, h => by
  obtain ⟨i, z, u, hg⟩ := hT.good ht
  have one : ∀ {d : D} {y : Value}, (∃ S, Lay (V0 w) d y S) → ∃ Ss, LayL (V0 w) [d] [y] Ss := fun ⟨S, hS⟩ => ⟨[S], rfl, rfl, fun k d' y' S' h1 h2 h3 => by
   cases k with
   | zero => simp at h1 h2 h3; subst h1; subst h2; subst h3; exact hS
   | succ k => simp at h1⟩
  have hu := hg.und
  have huok := hg.uok
  by_cases e1 : (T t).tag = 1
  ·obtain ⟨fs, rfl, hf⟩ := hg.struct e1
   simp only [DataW.trod, hu] at h
   split at h
   ·rename_i hlen
    simp only [Option.map_eq_some_iff] at h
    obtain ⟨xs, hm, _⟩ := h
    rw [hg.cells] at hlen
    obtain ⟨ds, Ss, q1, q2⟩ := a3B (sh := ShD T n) hT (fun t cs d ps ht h => a4T hT hC ht h) hf (by rw [hlen]; exact (hC t).1 e1) hm
    exact ⟨ds, Ss, by simp only [ShD, e1]; exact q1, by simpa using q2⟩
   ·cases h
  by_cases e2 : (T t).tag = 2
  ·have := hg.slice e2
   subst this
   have he := (hC t).2.1 e2
   simp only [DataW.trod, hu] at h
   split at h <;> try (simp_all; done)
   ·rename_i e' hh; injection hh with hh; injection hh with hh; subst hh
    obtain ⟨Ss, hL⟩ := one ⟨[], Lay.nil (V := V0 w)⟩
    exact ⟨[.sl []], Ss, by simp only [ShD, e2]; exact ⟨[], rfl, by simp, fun r h => by cases h⟩, hL⟩
   ·rename_i e' a len cap hh
    injection hh with hh; injection hh with hh; subst hh
    split at h
    ·rename_i hc
     simp only [Option.bind_eq_some_iff] at h
     obtain ⟨elems, hm, _⟩ := h
     have hcell := hT.cells he
     rw [hcell] at hm
     obtain ⟨rows, ys, Ss, r1, r2, r3, r4, r5⟩ := a3C (w := w) (a := a) (sz := (T (T t).elem).size) (sh := ShD T n (T t).elem) (g := DataW.trod enc P w 0 (fun _ => true) true n (T t).elem) (fun cs d ps h => a4T hT hC he h) (n := len) (fun i hi => by
      obtain ⟨y, h1, _⟩ := zY hm i i (by simp [hi])
      exact ⟨y, h1⟩)
     obtain ⟨Ss', hL⟩ := one ⟨_, Lay.sl (V := V0 w) rows a cap (T (T t).elem).size ys Ss (fun r hr => (r2 r hr).2) (by omega) hc.2.2 (by rw [r5.1]) r5.2.1 r4 r5.2.2⟩
     rw [r1] at hL
     exact ⟨[.sl rows], Ss', by simp only [ShD, e2]; exact ⟨rows, rfl, by omega, fun r hr => (r2 r hr).1⟩, hL⟩
    ·cases h
  by_cases e3 : (T t).tag = 3
  ·have := hg.int e3
   subst this
   have hk := (hC t).2.2 e3
   simp only [DataW.trod, hu] at h
   split at h <;> try (simp_all; done)
   rename_i k k' m hh
   injection hh with hh; injection hh with hh; subst hh
   split at h
   ·rename_i hw
    obtain ⟨rfl, hw⟩ := hw
    obtain ⟨Ss, hL⟩ := one ⟨[], Lay.v (V := V0 w) (.int _ m) rfl⟩
    have hin : inR (T t).kind m := by
     simp only [Lit.wf, Bool.and_eq_true, decide_eq_true_eq] at hw
     rcases hk with hk | hk <;> rw [hk] at hw ⊢ <;> simpa [inR, IntKind.min, IntKind.max, IntKind.bits, IntKind.signed] using hw
    exact ⟨_, Ss, by simp only [ShD, e3]; exact ⟨m, rfl, hin⟩, hL⟩
   ·cases h
  by_cases e4 : (T t).tag = 4
  ·have := hg.bool e4
   subst this
   simp only [DataW.trod, hu] at h
   split at h <;> try (simp_all; done)
   rename_i b _
   obtain ⟨Ss, hL⟩ := one ⟨[], Lay.v (V := V0 w) (.bool b) rfl⟩
   exact ⟨_, Ss, by simp only [ShD, e4]; exact ⟨b, rfl⟩, hL⟩
  by_cases e5 : (T t).tag = 5
  ·have := hg.string e5
   subst this
   simp only [DataW.trod, hu] at h
   split at h <;> try (simp_all; done)
   rename_i s _
   split at h
   ·rename_i hs
    obtain ⟨Ss, hL⟩ := one ⟨[], Lay.v (V := V0 w) (.string s) rfl⟩
    exact ⟨_, Ss, by simp only [ShD, e5]; exact ⟨s, rfl, hs⟩, hL⟩
   ·cases h
  ·exfalso
   unfold tO at huok
   split at huok <;> simp_all
def pk (T : Nat → Ty) (t : Nat) (ds : List D) : SV := a0F (T t).agg (ds.map .d)
def ShAll (T : Nat → Ty) : List Nat → List (List D) → Prop
 | [], [] => True
 | t :: ts, d :: ds => (∃ n, ShD T n t d) ∧ ShAll T ts ds
 | _, _ => False
def pks (T : Nat → Ty) : List Nat → List (List D) → List SV
 | t :: ts, d :: ds => pk T t d :: pks T ts ds
 | _, _ => []
theorem a8L {V : View} {ds : List D} {ys : List Value} {Ss : List (List Nat)} (h : LayL V ds ys Ss) : cL [] V (ds.map .d) ys := by
 refine ⟨by simpa using h.1, fun k a y h1 h2 => ?_⟩
 rw [List.getElem?_map] at h1
 cases hd : ds[k]? with
 | none => rw [hd] at h1; cases h1
 | some d =>
  rw [hd] at h1; cases h1
  have hk : k < Ss.length := by rw [h.2.1]; exact (List.getElem?_eq_some_iff.1 hd).1
  exact ⟨_, h.2.2 k d y _ hd h2 (List.getElem?_eq_getElem hk)⟩
theorem b1O (hT : TyOK P T) (hC : Cl T) {t : Nat} (ht : (T t).tag ≠ 0) {r : Reach} {base : Nat} {v : Value} {d : DataW H} {ps : List MemPlace}
    (hval : Value.okWide P w r base t v) (h : DataW.Trod enc P w 0 (fun _ => true) true t v d ps) : ∃ ds, (∃ n, ShD T n t ds) ∧ cSV [] (V0 w) (pk T t ds) v := by
 obtain ⟨n, h⟩ := h
 obtain ⟨i, z, u, hg⟩ := hT.good ht
 obtain ⟨ds, Ss, q1, q2⟩ := a4T hT hC ht h
 refine ⟨ds, ⟨n, q1⟩, ?_⟩
 have hu := hg.und
 unfold Value.okWide at hval
 by_cases e1 : (T t).tag = 1
 ·obtain ⟨fs, rfl, hf⟩ := hg.struct e1
  rw [hu] at hval
  obtain ⟨cs, rfl, _⟩ := hval
  simp only [pk, Ty.agg, e1, a0F]
  exact ⟨cs.toList, rfl, a8L q2⟩
 ·have hag : (T t).agg = false := by simp [Ty.agg, e1]
  have hv : v.cells.toList = [v] := by
   have huok := hg.uok
   cases v with
   | agg cs =>
    exfalso
    rw [hu] at hval
    unfold tO at huok
    split at huok <;> simp_all [Cell.okWide, Cell.ok]
   | _ => rfl
  rw [hv] at q2
  obtain ⟨c1, c2⟩ := a8L q2
  have hl : ds.length = 1 := by simpa using c1.symm
  match ds, hl with
  | [x], _ =>
   simp only [pk, hag, a0F, List.map_cons, List.map_nil]
   exact c2 0 _ _ rfl rfl
theorem a3D (hT : TyOK P T) (hC : Cl T) {r : Reach} {base : Nat} : ∀ {ts : List Nat} {vs : List Value} {dd : List (DataW H)} {ps : List MemPlace}, (∀ t ∈ ts, (T t).tag ≠ 0) →
    (∀ (j : Nat) (t : Nat) (v : Value), ts[j]? = some t → vs[j]? = some v → Value.okWide P w r base t v) → DataW.TrodAll enc P w 0 (fun _ => true) true ts vs dd ps → ∃ dss, ShAll T ts dss ∧ rZ (V0 w) (pks T ts dss) vs
 | [], [], [], _, _, _, _ => ⟨[], trivial, rfl, fun k s y h => by simp [pks] at h⟩
 | t :: ts, v :: vs, d :: dd, ps, ht, hval, h => by
  obtain ⟨p, q, h1, h2, _⟩ := h
  obtain ⟨ds, s1, s2⟩ := b1O hT hC (ht t (by simp)) (hval 0 t v rfl rfl) h1
  obtain ⟨dss, s3, s4⟩ := a3D hT hC (fun t ht' => ht t (by simp [ht'])) (fun j t v a b => hval (j + 1) t v (by simpa using a) (by simpa using b)) h2
  refine ⟨ds :: dss, ⟨s1, s3⟩, by simp [pks, s4.1], fun k s y a b => ?_⟩
  cases k with
  | zero => simp [pks] at a b; subst a; subst b; exact s2
  | succ k => exact s4.2 k s y (by simpa [pks] using a) (by simpa using b)
 | [], _ :: _, _, _, _, _, h => by simp [DataW.TrodAll] at h
 | [], [], _ :: _, _, _, _, h => by simp [DataW.TrodAll] at h
 | _ :: _, [], _, _, _, _, h => by simp [DataW.TrodAll] at h
 | _ :: _, _ :: _, [], _, _, _, h => by simp [DataW.TrodAll] at h
theorem vK (hl : laidOutB P = true) {W' : World} (hb : Below w.heap.size w W') : ∀ {ts : List Nat} {vs : List Value} {dd : List (DataW H)} {ps : List MemPlace}, (∀ t ∈ ts, P.readableRec t = true ∧ t < P.types.size) →
    DataW.TrodAll enc P w 0 (fun _ => true) true ts vs dd ps → (∀ x ∈ ps, x.block < w.heap.size) → DataW.TrodAll enc P W' 0 (fun b => decide (b < w.heap.size)) true ts vs dd ps
 | [], [], [], _, _, h, _ => h
 | t :: ts, v :: vs, d :: dd, ps, ht, h, hlt => by
  obtain ⟨p, q, h1, h2, rfl⟩ := h
  obtain ⟨r1, r2⟩ := ht t (by simp)
  exact ⟨p, q, Below.trod hl r1 r2 h1 hb (fun x hx => hlt x (List.mem_append.2 (.inl hx))), vK hl hb (fun t ht' => ht t (by simp [ht'])) h2 (fun x hx => hlt x (List.mem_append.2 (.inr hx))), rfl⟩
 | [], _ :: _, _, _, _, h, _ => by simp [DataW.TrodAll] at h
 | [], [], _ :: _, _, _, h, _ => by simp [DataW.TrodAll] at h
 | _ :: _, [], _, _, _, h, _ => by simp [DataW.TrodAll] at h
 | _ :: _, _ :: _, [], _, _, h, _ => by simp [DataW.TrodAll] at h
theorem a0x {W : World} {sp : Nat → Bool} {b : Nat} {hd : Bool} : ∀ {ts : List Nat} {vs : List Value} {dd : List (DataW H)} {ps : List MemPlace}, DataW.TrodAll enc P W b sp hd ts vs dd ps → dd.length = ts.length
 | [], [], [], _, _ => rfl
 | t :: ts, v :: vs, d :: dd, ps, h => by
  obtain ⟨p, q, _, h2, _⟩ := h
  simp [a0x h2]
 | [], _ :: _, _, _, h => by simp [DataW.TrodAll] at h
 | [], [], _ :: _, _, h => by simp [DataW.TrodAll] at h
 | _ :: _, [], _, _, h => by simp [DataW.TrodAll] at h
 | _ :: _, _ :: _, [], _, h => by simp [DataW.TrodAll] at h
theorem b3y {fresh : Bool} (hT : TyOK P T) (hC : Cl T) (hl : laidOutB P = true) {f : Nat} {fn : Func} {s : ChangeSpec} {tb : Nat} (hv : s.vars = []) (hs : ∀ dd : List (DataW H), dd.length = fn.params.toList.length → s.fn H dd = { results := [.lit (.bool true)], args := dd })
    (hrt : fn.resultTypes = #[tb]) (hb : P.underlying tb = some .bool) (ht : fn.params.toList.all (fun t => (T t).tag != 0 && P.readableRec t && decide (t < P.types.size)) = true)
    (hf : ∀ dss, ShAll T fn.params.toList dss → FnC P f (pks T fn.params.toList dss) (ob true))
    {W : World} (htab : tabOK W []) {r : Reach} {base : Nat} {args : Array Value} {ds gs : List (DataW H)} {before : List MemPlace}
    (hval : ∀ (j : Nat) (t : Nat) (v : Value), fn.params[j]? = some t → args[j]? = some v → Value.okWide P W r base t v) (hW : DataW.Whole enc P fn.params.toList s.vars false W args.toList ds gs before) :
    Calls P f args W fun e W' => ∃ v, e = .returned v ∧ s.post enc P fn false fresh false false W args v W' := by
 have hW' := hW
 obtain ⟨p, q, hA, hV, rfl, _, _⟩ := hW
 rw [hv] at hV
 obtain ⟨rfl, rfl⟩ := ChangeShapes.trodVars_none hV
 have ht' : ∀ t ∈ fn.params.toList, (T t).tag ≠ 0 ∧ P.readableRec t = true ∧ t < P.types.size := fun t h => by
  have := List.all_eq_true.1 ht t h
  simpa [and_assoc] using this
 obtain ⟨dss, h1, h2⟩ := a3D hT hC (fun t h => (ht' t h).1) (fun j t v a b => hval j t v (by simpa using a) (by simpa using b)) hA
 have hc := (hf dss h1).calls (V0 W) W args.toList htab (b4Z W) h2
 rw [Array.toArray_toList] at hc
 refine hc.mono fun e W' ⟨y, he, hd⟩ => ⟨y, he, ?_⟩
 have hy : y = .bool true := by
  obtain ⟨V', S, _, _, _, ⟨l, hs, hr⟩, _⟩ := hd.out
  obtain ⟨Ss, r1, r2, r3, r4⟩ := hr
  have hl : l = [y] := hs
  subst hl
  obtain ⟨_, T', hL⟩ := r4 0 (.d (bv true)) y _ rfl rfl (List.getElem?_eq_getElem (by rw [r2]; simp [SV.all]))
  cases hL; rfl
 subst hy
 have hbel := hd.below
 have hlen := a0x hA
 have e : s.fn H (ds ++ []) = { results := [.lit (.bool true)], args := ds } := by rw [List.append_nil]; exact hs ds hlen
 refine ⟨ds, [], _, [], p, [], hW', ?_, ?_, ?_, hbel.frame _, fun h => by cases h⟩
 ·rw [e, hrt]
  exact ChangeShapes.trodAll_mk1 (shut_bool hb true)
 ·rw [e]
  exact vK hl hbel (fun t h => (ht' t h).2) hA (fun x hx => hW'.lt x (List.mem_append.2 (.inl hx)))
 ·rw [e, hv]; rfl
end
end Go.Sx
end
section
set_option linter.all false
namespace Go.Proofs.YtgpoopjfkplilaaGreatDoor
open Go Go.Sx Go.RowKit
theorem b7j : Cl tt := Cl.of_list (by kernel_rfl)
theorem own : ownKnob Tryz.prog.godebug = none := by kernel_rfl
theorem b3z : laidOutB Tryz.prog = true := by kernel_rfl
end Go.Proofs.YtgpoopjfkplilaaGreatDoor
end
end
section
section
set_option linter.all false
namespace Go.Proofs.YtgpoopjfkplilaaGreatDoor
open Go Go.Sx Go.RowKit Go.Proofs
def yM (n : Int) (w : Nat) : Int := if n - w < 0 then -1 else n - w
theorem a3y {n : Int} {w : Nat} (h : n - w < 0) : yM n w = -1 := if_pos h
theorem b0k {n : Int} {w : Nat} (h : ¬ n - w < 0) : yM n w = n - w := if_neg h
theorem b1J {n : Int} {w : Nat} (h : ¬ yM n w < 0) : w ≤ n := by
 unfold yM at h
 split at h <;> omega
def eQ {α : Type} (w : α → Nat) : List α → Nat
 | [] => 0
 | x :: l => w x + eQ w l
theorem dK {α : Type} (w : α → Nat) : ∀ (l : List α) {k : Nat} (h : k < l.length), w l[k] ≤ eQ w l
 | [], _, h => by simp at h
 | x :: l, 0, _ => by simp [eQ]
 | x :: l, k + 1, h => by
  have := dK w l (k := k) (by simpa using h)
  simp only [List.getElem_cons_succ, eQ]; omega
theorem a3z {α : Type} (w : α → Nat) : ∀ (l : List α) {k : Nat} (h : k < l.length), eQ w (l.take (k + 1)) = eQ w (l.take k) + w l[k]
 | [], _, h => by simp at h
 | x :: l, 0, _ => by simp [eQ]
 | x :: l, k + 1, h => by
  have := a3z w l (k := k) (by simpa using h)
  simp only [List.take_succ_cons, List.getElem_cons_succ, eQ]; omega
theorem a8J {α : Type} (w : α → Nat) : ∀ (l : List α) (k : Nat), eQ w (l.take k) ≤ eQ w l
 | [], k => by simp
 | x :: l, 0 => by simp [eQ]
 | x :: l, k + 1 => by
  have := a8J w l k
  simp only [List.take_succ_cons, eQ]; omega
@[go_sem] def zV (n : Int) : List D := [iv n]
@[go_sem] def bD (s : ByteArray) : List D := [sv s]
abbrev slI (l : List Int) : D := .sl (l.map zV)
abbrev slS (l : List ByteArray) : D := .sl (l.map bD)
def fB (l : List ByteArray) : Nat := l.length + eQ ByteArray.size l
def a4Q (l : List Int) : Prop := l.length ≤ 9223372036854775807 ∧ ∀ i ∈ l, inR .i64 i
def uO (l : List ByteArray) : Prop := l.length ≤ 9223372036854775807 ∧ ∀ s ∈ l, s.size ≤ 9223372036854775807
theorem b7h {n : Nat} {r : List D} (h : ShD tt n 9 r) : ∃ s : ByteArray, r = bD s ∧ s.size ≤ 9223372036854775807 := by
 match n, h with
 | n + 1, ⟨s, h, hs⟩ => exact ⟨s, h, hs⟩
theorem a7M {n : Nat} {r : List D} (h : ShD tt n 53 r) : ∃ l : List ByteArray, r = [slS l] ∧ uO l := by
 match n, h with
 | n + 1, ⟨rows, h, hm, hr⟩ =>
  obtain ⟨l, rfl, hl⟩ := a6h bD (fun s => s.size ≤ 9223372036854775807) (fun r h => b7h (hr r h))
  exact ⟨l, h, by unfold maxLen at hm; simpa using hm, hl⟩
end Go.Proofs.YtgpoopjfkplilaaGreatDoor
end
section
set_option linter.all false
set_option maxHeartbeats 1000000
namespace Go.Proofs.YtgpoopjfkplilaaGreatDoor
open Go Go.Sx Go.RowKit Go.Proofs
structure TValue where
 fKind : Int
 fInt : Int
 fStr : ByteArray
@[go_sem] def b6a (x : TValue) : List D := [iv x.fKind, iv x.fInt, sv x.fStr]
@[go_sem] def kN (x : TValue) : SV := .g [.d (iv x.fKind), .d (iv x.fInt), .d (sv x.fStr)]
def lW (x : TValue) : Nat := x.fStr.size
def uP (x : TValue) : Prop := inR .i64 x.fKind ∧ inR .i64 x.fInt ∧ x.fStr.size ≤ 9223372036854775807
def b6D (l : List TValue) : Nat := l.length + eQ lW l
def b6b (l : List TValue) : Prop := l.length ≤ 9223372036854775807 ∧ ∀ x ∈ l, uP x
theorem a1Y (x : TValue) (hx : lW x ≤ 67108864) : FnC Tryz.prog 218 [kN x, kN x] (ob true) := by
 unfold lW at hx
 refine ent Tryz.func218 rfl Tryz.call218 rfl (fun C => ?_); simp only [go_sem, st0, Tryz.ntmps218]
 refine aJ ?_
 exact aA ⟨⟨_, rfl, by simp only [go_sem]⟩, trivial⟩
end Go.Proofs.YtgpoopjfkplilaaGreatDoor
end
section
set_option linter.all false
set_option maxHeartbeats 1000000
namespace Go.Proofs.YtgpoopjfkplilaaGreatDoor
open Go Go.Sx Go.RowKit Go.Proofs
structure TField where
 fName : ByteArray
 fKind : Int
@[go_sem] def bF (x : TField) : List D := [sv x.fName, iv x.fKind]
@[go_sem] def zW (x : TField) : SV := .g [.d (sv x.fName), .d (iv x.fKind)]
def lD (x : TField) : Nat := x.fName.size
def b3t (x : TField) : Prop := x.fName.size ≤ 9223372036854775807 ∧ inR .i64 x.fKind
def bA (l : List TField) : Nat := l.length + eQ lD l
def b1K (l : List TField) : Prop := l.length ≤ 9223372036854775807 ∧ ∀ x ∈ l, b3t x
theorem a7N (x : TField) (hx : lD x ≤ 67108864) : FnC Tryz.prog 113 [zW x, zW x] (ob true) := by
 unfold lD at hx
 refine ent Tryz.func113 rfl Tryz.call113 rfl (fun C => ?_); simp only [go_sem, st0, Tryz.ntmps113]
 refine aJ ?_
 exact aA ⟨⟨_, rfl, by simp only [go_sem]⟩, trivial⟩
theorem a6e (l : List TField) (hl : bA l ≤ 67108864) : FnC Tryz.prog 65 [.o (.d (.sl (l.map bF))), .o (.d (.sl (l.map bF)))] (ob true) := by
 unfold bA at hl
 refine ent Tryz.func65 rfl Tryz.call65 rfl (fun C => ?_); simp only [go_sem, st0, Tryz.ntmps65]
 refine aJ ?_
 refine bE (α := Nat) (fun k => [(5, oi k)]) (fun _ => []) (fun k => k ≤ l.length) (fun k => l.length - k) 0 (fun _ => ?_) ?_ ?_ (fun k hk => ?_)
 ·simp only [go_sem]
 ·simp only [go_sem]; simp
 ·simp
 ·simp only [go_sem]
  refine aJ ?_
  refine cnd rfl (fun h => ?_) (fun h => ?_)
  ·simp only [decide_eq_true_eq, Int.ofNat_lt] at h
   have hw := dK lD l h
   have q0 := @h; refine kM (a7N l[k] (by omega)) ?_
   refine aH (k + 1) ?_ ?_ ?_
   ·simp only [go_sem]; simp
   ·omega
   ·omega
  ·simp only [decide_eq_false_iff_not] at h
   refine aJ ?_
   exact aA ⟨⟨_, rfl, by simp only [go_sem]⟩, trivial⟩
end Go.Proofs.YtgpoopjfkplilaaGreatDoor
end
section
set_option linter.all false
set_option maxHeartbeats 1000000
namespace Go.Proofs.YtgpoopjfkplilaaGreatDoor
open Go Go.Sx Go.RowKit Go.Proofs
structure TAttr where
 fName : ByteArray
 fValue : TValue
@[go_sem] def fE (x : TAttr) : List D := [sv x.fName, iv x.fValue.fKind, iv x.fValue.fInt, sv x.fValue.fStr]
@[go_sem] def b3Z (x : TAttr) : SV := .g [.d (sv x.fName), .d (iv x.fValue.fKind), .d (iv x.fValue.fInt), .d (sv x.fValue.fStr)]
def qD (x : TAttr) : Nat := x.fName.size + lW x.fValue
def b4Y (x : TAttr) : Prop := x.fName.size ≤ 9223372036854775807 ∧ uP x.fValue
def iB (l : List TAttr) : Nat := l.length + eQ qD l
def a8K (l : List TAttr) : Prop := l.length ≤ 9223372036854775807 ∧ ∀ x ∈ l, b4Y x
theorem b0l (x : TAttr) (hx : qD x ≤ 67108864) : FnC Tryz.prog 217 [b3Z x, b3Z x] (ob true) := by
 unfold qD at hx
 refine ent Tryz.func217 rfl Tryz.call217 rfl (fun C => ?_); simp only [go_sem, st0, Tryz.ntmps217]
 refine mH (a1Y x.fValue (by omega)) ?_
 exact aA ⟨⟨_, rfl, by simp only [go_sem]⟩, trivial⟩
theorem a7O (l : List TAttr) (hl : iB l ≤ 67108864) : FnC Tryz.prog 168 [.o (.d (.sl (l.map fE))), .o (.d (.sl (l.map fE)))] (ob true) := by
 unfold iB at hl
 refine ent Tryz.func168 rfl Tryz.call168 rfl (fun C => ?_); simp only [go_sem, st0, Tryz.ntmps168]
 refine aJ ?_
 refine bE (α := Nat) (fun k => [(5, oi k)]) (fun _ => []) (fun k => k ≤ l.length) (fun k => l.length - k) 0 (fun _ => ?_) ?_ ?_ (fun k hk => ?_)
 ·simp only [go_sem]
 ·simp only [go_sem]; simp
 ·simp
 ·simp only [go_sem]
  refine aJ ?_
  refine cnd rfl (fun h => ?_) (fun h => ?_)
  ·simp only [decide_eq_true_eq, Int.ofNat_lt] at h
   have hw := dK qD l h
   have q0 := @h; refine kM (b0l l[k] (by omega)) ?_
   refine aH (k + 1) ?_ ?_ ?_
   ·simp only [go_sem]; simp
   ·omega
   ·omega
  ·simp only [decide_eq_false_iff_not] at h
   refine aJ ?_
   exact aA ⟨⟨_, rfl, by simp only [go_sem]⟩, trivial⟩
end Go.Proofs.YtgpoopjfkplilaaGreatDoor
end
section
set_option linter.all false
set_option maxHeartbeats 1000000
namespace Go.Proofs.YtgpoopjfkplilaaGreatDoor
open Go Go.Sx Go.RowKit Go.Proofs
structure TFile where
 fID : Int
 fOwner : Int
 fShared : Bool
 fLink : Int
 fAttrs : List TAttr
@[go_sem] def dE (x : TFile) : List D := [iv x.fID, iv x.fOwner, bv x.fShared, iv x.fLink, .sl (x.fAttrs.map fE)]
@[go_sem] def a0w (x : TFile) : SV := .g [.d (iv x.fID), .d (iv x.fOwner), .d (bv x.fShared), .d (iv x.fLink), .d (.sl (x.fAttrs.map fE))]
@[go_sem] def b7B (x : TFile) : SV := .g [.d (iv x.fID), .d (iv x.fOwner), .d (bv x.fShared), .d (iv x.fLink), .w 124 4 (x.fAttrs.map fE)]
def gY (x : TFile) : Nat := iB x.fAttrs
def zX (x : TFile) : Prop := inR .i64 x.fID ∧ inR .i64 x.fOwner ∧ True ∧ inR .i64 x.fLink ∧ a8K x.fAttrs
def jU (l : List TFile) : Nat := l.length + eQ gY l
def b3u (l : List TFile) : Prop := l.length ≤ 9223372036854775807 ∧ ∀ x ∈ l, zX x
theorem b0m (x : TFile) (hx : gY x ≤ 67108864) : FnC Tryz.prog 114 [a0w x, a0w x] (ob true) := by
 unfold gY at hx
 refine ent Tryz.func114 rfl Tryz.call114 rfl (fun C => ?_); simp only [go_sem, st0, Tryz.ntmps114]
 refine mH (a7O x.fAttrs (by omega)) ?_
 exact aA ⟨⟨_, rfl, by simp only [go_sem]⟩, trivial⟩
theorem a7P (l : List TFile) (hl : jU l ≤ 67108864) : FnC Tryz.prog 66 [.o (.d (.sl (l.map dE))), .o (.d (.sl (l.map dE)))] (ob true) := by
 unfold jU at hl
 refine ent Tryz.func66 rfl Tryz.call66 rfl (fun C => ?_); simp only [go_sem, st0, Tryz.ntmps66]
 refine aJ ?_
 refine bE (α := Nat) (fun k => [(5, oi k)]) (fun _ => []) (fun k => k ≤ l.length) (fun k => l.length - k) 0 (fun _ => ?_) ?_ ?_ (fun k hk => ?_)
 ·simp only [go_sem]
 ·simp only [go_sem]; simp
 ·simp
 ·simp only [go_sem]
  refine aJ ?_
  refine cnd rfl (fun h => ?_) (fun h => ?_)
  ·simp only [decide_eq_true_eq, Int.ofNat_lt] at h
   have hw := dK gY l h
   have q0 := @h; refine kM (b0m l[k] (by omega)) ?_
   refine aH (k + 1) ?_ ?_ ?_
   ·simp only [go_sem]; simp
   ·omega
   ·omega
  ·simp only [decide_eq_false_iff_not] at h
   refine aJ ?_
   exact aA ⟨⟨_, rfl, by simp only [go_sem]⟩, trivial⟩
end Go.Proofs.YtgpoopjfkplilaaGreatDoor
end
section
set_option linter.all false
set_option maxHeartbeats 1000000
namespace Go.Proofs.YtgpoopjfkplilaaGreatDoor
open Go Go.Sx Go.RowKit Go.Proofs
structure TStore where
 fSchema : List TField
 fFiles : List TFile
 fNextID : Int
@[go_sem] def b6c (x : TStore) : List D := [.sl (x.fSchema.map bF), .sl (x.fFiles.map dE), iv x.fNextID]
@[go_sem] def a4R (x : TStore) : SV := .g [.d (.sl (x.fSchema.map bF)), .d (.sl (x.fFiles.map dE)), .d (iv x.fNextID)]
@[go_sem] def b7i (x : TStore) : SV := .g [.w 81 2 (x.fSchema.map bF), .w 86 5 (x.fFiles.map dE), .d (iv x.fNextID)]
def fV (x : TStore) : Nat := bA x.fSchema + jU x.fFiles
def a4S (x : TStore) : Prop := b1K x.fSchema ∧ b3u x.fFiles ∧ inR .i64 x.fNextID
def b6E (l : List TStore) : Nat := l.length + eQ fV l
def b6d (l : List TStore) : Prop := l.length ≤ 9223372036854775807 ∧ ∀ x ∈ l, a4S x
theorem a7Q (x : TStore) (hx : fV x ≤ 67108864) : FnC Tryz.prog 33 [a4R x, a4R x] (ob true) := by
 unfold fV at hx
 refine ent Tryz.func33 rfl Tryz.call33 rfl (fun C => ?_); simp only [go_sem, st0, Tryz.ntmps33]
 refine b4O (a6e x.fSchema (by omega)) (a7P x.fFiles (by omega)) ?_
 exact aA ⟨⟨_, rfl, by simp only [go_sem]⟩, trivial⟩
end Go.Proofs.YtgpoopjfkplilaaGreatDoor
end
section
set_option linter.all false
set_option maxHeartbeats 1000000
namespace Go.Proofs.YtgpoopjfkplilaaGreatDoor
open Go Go.Sx Go.RowKit Go.Proofs
structure TNode where
 fOp : Int
 fLeft : Int
 fRight : Int
 fName : ByteArray
 fValue : TValue
@[go_sem] def bG (x : TNode) : List D := [iv x.fOp, iv x.fLeft, iv x.fRight, sv x.fName, iv x.fValue.fKind, iv x.fValue.fInt, sv x.fValue.fStr]
@[go_sem] def a6f (x : TNode) : SV := .g [.d (iv x.fOp), .d (iv x.fLeft), .d (iv x.fRight), .d (sv x.fName), .d (iv x.fValue.fKind), .d (iv x.fValue.fInt), .d (sv x.fValue.fStr)]
def tV (x : TNode) : Nat := x.fName.size + lW x.fValue
def b1L (x : TNode) : Prop := inR .i64 x.fOp ∧ inR .i64 x.fLeft ∧ inR .i64 x.fRight ∧ x.fName.size ≤ 9223372036854775807 ∧ uP x.fValue
def wNodeS (l : List TNode) : Nat := l.length + eQ tV l
def b3v (l : List TNode) : Prop := l.length ≤ 9223372036854775807 ∧ ∀ x ∈ l, b1L x
theorem b0n (x : TNode) (hx : tV x ≤ 67108864) : FnC Tryz.prog 169 [a6f x, a6f x] (ob true) := by
 unfold tV at hx
 refine ent Tryz.func169 rfl Tryz.call169 rfl (fun C => ?_); simp only [go_sem, st0, Tryz.ntmps169]
 refine mH (a1Y x.fValue (by omega)) ?_
 exact aA ⟨⟨_, rfl, by simp only [go_sem]⟩, trivial⟩
theorem a7R (l : List TNode) (hl : wNodeS l ≤ 67108864) : FnC Tryz.prog 115 [.o (.d (.sl (l.map bG))), .o (.d (.sl (l.map bG)))] (ob true) := by
 unfold wNodeS at hl
 refine ent Tryz.func115 rfl Tryz.call115 rfl (fun C => ?_); simp only [go_sem, st0, Tryz.ntmps115]
 refine aJ ?_
 refine bE (α := Nat) (fun k => [(5, oi k)]) (fun _ => []) (fun k => k ≤ l.length) (fun k => l.length - k) 0 (fun _ => ?_) ?_ ?_ (fun k hk => ?_)
 ·simp only [go_sem]
 ·simp only [go_sem]; simp
 ·simp
 ·simp only [go_sem]
  refine aJ ?_
  refine cnd rfl (fun h => ?_) (fun h => ?_)
  ·simp only [decide_eq_true_eq, Int.ofNat_lt] at h
   have hw := dK tV l h
   have q0 := @h; refine kM (b0n l[k] (by omega)) ?_
   refine aH (k + 1) ?_ ?_ ?_
   ·simp only [go_sem]; simp
   ·omega
   ·omega
  ·simp only [decide_eq_false_iff_not] at h
   refine aJ ?_
   exact aA ⟨⟨_, rfl, by simp only [go_sem]⟩, trivial⟩
end Go.Proofs.YtgpoopjfkplilaaGreatDoor
end
section
set_option linter.all false
set_option maxHeartbeats 1000000
namespace Go.Proofs.YtgpoopjfkplilaaGreatDoor
open Go Go.Sx Go.RowKit Go.Proofs
structure TDir where
 fName : ByteArray
 fQuery : List TNode
@[go_sem] def dG (x : TDir) : List D := [sv x.fName, .sl (x.fQuery.map bG)]
@[go_sem] def b3w (x : TDir) : SV := .g [.d (sv x.fName), .d (.sl (x.fQuery.map bG))]
@[go_sem] def b7H (x : TDir) : SV := .g [.d (sv x.fName), .w 155 7 (x.fQuery.map bG)]
def lS (x : TDir) : Nat := x.fName.size + wNodeS x.fQuery
def b4a (x : TDir) : Prop := x.fName.size ≤ 9223372036854775807 ∧ b3v x.fQuery
def iT (l : List TDir) : Nat := l.length + eQ lS l
def b1M (l : List TDir) : Prop := l.length ≤ 9223372036854775807 ∧ ∀ x ∈ l, b4a x
theorem b1N (x : TDir) (hx : lS x ≤ 67108864) : FnC Tryz.prog 67 [b3w x, b3w x] (ob true) := by
 unfold lS at hx
 refine ent Tryz.func67 rfl Tryz.call67 rfl (fun C => ?_); simp only [go_sem, st0, Tryz.ntmps67]
 refine mH (a7R x.fQuery (by omega)) ?_
 exact aA ⟨⟨_, rfl, by simp only [go_sem]⟩, trivial⟩
theorem b0o (l : List TDir) (hl : iT l ≤ 67108864) : FnC Tryz.prog 34 [.o (.d (.sl (l.map dG))), .o (.d (.sl (l.map dG)))] (ob true) := by
 unfold iT at hl
 refine ent Tryz.func34 rfl Tryz.call34 rfl (fun C => ?_); simp only [go_sem, st0, Tryz.ntmps34]
 refine aJ ?_
 refine bE (α := Nat) (fun k => [(5, oi k)]) (fun _ => []) (fun k => k ≤ l.length) (fun k => l.length - k) 0 (fun _ => ?_) ?_ ?_ (fun k hk => ?_)
 ·simp only [go_sem]
 ·simp only [go_sem]; simp
 ·simp
 ·simp only [go_sem]
  refine aJ ?_
  refine cnd rfl (fun h => ?_) (fun h => ?_)
  ·simp only [decide_eq_true_eq, Int.ofNat_lt] at h
   have hw := dK lS l h
   have q0 := @h; refine kM (b1N l[k] (by omega)) ?_
   refine aH (k + 1) ?_ ?_ ?_
   ·simp only [go_sem]; simp
   ·omega
   ·omega
  ·simp only [decide_eq_false_iff_not] at h
   refine aJ ?_
   exact aA ⟨⟨_, rfl, by simp only [go_sem]⟩, trivial⟩
end Go.Proofs.YtgpoopjfkplilaaGreatDoor
end
end
section
section
set_option linter.all false
set_option maxHeartbeats 1000000
namespace Go.Proofs.YtgpoopjfkplilaaGreatDoor
open Go Go.Sx Go.RowKit Go.Proofs
structure TResult where
 fName : ByteArray
 fIDs : List Int
@[go_sem] def a3x (x : TResult) : List D := [sv x.fName, .sl (x.fIDs.map zV)]
@[go_sem] def b6s (x : TResult) : SV := .g [.d (sv x.fName), .d (.sl (x.fIDs.map zV))]
@[go_sem] def b6t (x : TResult) : SV := .g [.d (sv x.fName), .w 3 1 (x.fIDs.map zV)]
def b3q (x : TResult) : Nat := x.fName.size + x.fIDs.length
def b1F (x : TResult) : Prop := x.fName.size ≤ 9223372036854775807 ∧ a4Q x.fIDs
def b1G (l : List TResult) : Nat := l.length + eQ b3q l
def b0h (l : List TResult) : Prop := l.length ≤ 9223372036854775807 ∧ ∀ x ∈ l, b1F x
end Go.Proofs.YtgpoopjfkplilaaGreatDoor
end
section
set_option linter.all false
set_option maxHeartbeats 1000000
namespace Go.Proofs.YtgpoopjfkplilaaGreatDoor
open Go Go.Sx Go.RowKit Go.Proofs
structure TDiff where
 fName : ByteArray
 fAdded : List Int
 fRemoved : List Int
@[go_sem] def b6u (x : TDiff) : List D := [sv x.fName, .sl (x.fAdded.map zV), .sl (x.fRemoved.map zV)]
@[go_sem] def b7w (x : TDiff) : SV := .g [.d (sv x.fName), .d (.sl (x.fAdded.map zV)), .d (.sl (x.fRemoved.map zV))]
@[go_sem] def b7x (x : TDiff) : SV := .g [.d (sv x.fName), .w 3 1 (x.fAdded.map zV), .w 3 1 (x.fRemoved.map zV)]
def b5T (x : TDiff) : Nat := x.fName.size + x.fAdded.length + x.fRemoved.length
def b4R (x : TDiff) : Prop := x.fName.size ≤ 9223372036854775807 ∧ a4Q x.fAdded ∧ a4Q x.fRemoved
def b7c (l : List TDiff) : Nat := l.length + eQ b5T l
def b6v (l : List TDiff) : Prop := l.length ≤ 9223372036854775807 ∧ ∀ x ∈ l, b4R x
end Go.Proofs.YtgpoopjfkplilaaGreatDoor
end
section
set_option linter.all false
set_option maxHeartbeats 1000000
namespace Go.Proofs.YtgpoopjfkplilaaGreatDoor
open Go Go.Sx Go.RowKit Go.Proofs
structure TCatalog where
 fStore : TStore
 fDirs : List TDir
 fResults : List TResult
@[go_sem] def b4S (x : TCatalog) : List D := [.sl (x.fStore.fSchema.map bF), .sl (x.fStore.fFiles.map dE), iv x.fStore.fNextID, .sl (x.fDirs.map dG), .sl (x.fResults.map a3x)]
@[go_sem] def b5U (x : TCatalog) : SV := .g [.d (.sl (x.fStore.fSchema.map bF)), .d (.sl (x.fStore.fFiles.map dE)), .d (iv x.fStore.fNextID), .d (.sl (x.fDirs.map dG)), .d (.sl (x.fResults.map a3x))]
def b1H (x : TCatalog) : Nat := fV x.fStore + iT x.fDirs + b1G x.fResults
def b0i (x : TCatalog) : Prop := a4S x.fStore ∧ b1M x.fDirs ∧ b0h x.fResults
def b5r (l : List TCatalog) : Nat := l.length + eQ b1H l
def b4T (l : List TCatalog) : Prop := l.length ≤ 9223372036854775807 ∧ ∀ x ∈ l, b0i x
end Go.Proofs.YtgpoopjfkplilaaGreatDoor
end
section
set_option linter.all false
set_option maxHeartbeats 1000000
namespace Go.Proofs.YtgpoopjfkplilaaGreatDoor
open Go Go.Sx Go.RowKit Go.Proofs
structure TGroup where
 fValue : TValue
 fIDs : List Int
@[go_sem] def b5V (x : TGroup) : List D := [iv x.fValue.fKind, iv x.fValue.fInt, sv x.fValue.fStr, .sl (x.fIDs.map zV)]
@[go_sem] def b7d (x : TGroup) : SV := .g [.d (iv x.fValue.fKind), .d (iv x.fValue.fInt), .d (sv x.fValue.fStr), .d (.sl (x.fIDs.map zV))]
@[go_sem] def b7e (x : TGroup) : SV := .g [.d (iv x.fValue.fKind), .d (iv x.fValue.fInt), .d (sv x.fValue.fStr), .w 3 1 (x.fIDs.map zV)]
def b4U (x : TGroup) : Nat := lW x.fValue + x.fIDs.length
def b3r (x : TGroup) : Prop := uP x.fValue ∧ a4Q x.fIDs
def b6w (l : List TGroup) : Nat := l.length + eQ b4U l
def b5W (l : List TGroup) : Prop := l.length ≤ 9223372036854775807 ∧ ∀ x ∈ l, b3r x
end Go.Proofs.YtgpoopjfkplilaaGreatDoor
end
section
set_option linter.all false
set_option maxHeartbeats 1000000
namespace Go.Proofs.YtgpoopjfkplilaaGreatDoor
open Go Go.Sx Go.RowKit Go.Proofs
structure TEdit where
 fOK : Bool
 fSet : List TAttr
@[go_sem] def b6x (x : TEdit) : List D := [bv x.fOK, .sl (x.fSet.map fE)]
@[go_sem] def b7y (x : TEdit) : SV := .g [.d (bv x.fOK), .d (.sl (x.fSet.map fE))]
@[go_sem] def b7z (x : TEdit) : SV := .g [.d (bv x.fOK), .w 124 4 (x.fSet.map fE)]
def b5X (x : TEdit) : Nat := iB x.fSet
def b4V (x : TEdit) : Prop := True ∧ a8K x.fSet
def b7f (l : List TEdit) : Nat := l.length + eQ b5X l
def b6y (l : List TEdit) : Prop := l.length ≤ 9223372036854775807 ∧ ∀ x ∈ l, b4V x
end Go.Proofs.YtgpoopjfkplilaaGreatDoor
end
section
set_option linter.all false
set_option maxHeartbeats 1000000
namespace Go.Proofs.YtgpoopjfkplilaaGreatDoor
open Go Go.Sx Go.RowKit Go.Proofs
structure TChange where
 fKind : Int
 fFile : TFile
 fID : Int
 fDir : TDir
@[go_sem] def b5s (x : TChange) : List D := [iv x.fKind, iv x.fFile.fID, iv x.fFile.fOwner, bv x.fFile.fShared, iv x.fFile.fLink, .sl (x.fFile.fAttrs.map fE), iv x.fID, sv x.fDir.fName, .sl (x.fDir.fQuery.map bG)]
@[go_sem] def b6z (x : TChange) : SV := .g [.d (iv x.fKind), .d (iv x.fFile.fID), .d (iv x.fFile.fOwner), .d (bv x.fFile.fShared), .d (iv x.fFile.fLink), .d (.sl (x.fFile.fAttrs.map fE)), .d (iv x.fID), .d (sv x.fDir.fName), .d (.sl (x.fDir.fQuery.map bG))]
@[go_sem] def b6A (x : TChange) : SV := .g [.d (iv x.fKind), .d (iv x.fFile.fID), .d (iv x.fFile.fOwner), .d (bv x.fFile.fShared), .d (iv x.fFile.fLink), .w 124 4 (x.fFile.fAttrs.map fE), .d (iv x.fID), .d (sv x.fDir.fName), .w 155 7 (x.fDir.fQuery.map bG)]
def b3s (x : TChange) : Nat := gY x.fFile + lS x.fDir
def b1I (x : TChange) : Prop := inR .i64 x.fKind ∧ zX x.fFile ∧ inR .i64 x.fID ∧ b4a x.fDir
def b5Y (l : List TChange) : Nat := l.length + eQ b3s l
def b5t (l : List TChange) : Prop := l.length ≤ 9223372036854775807 ∧ ∀ x ∈ l, b1I x
end Go.Proofs.YtgpoopjfkplilaaGreatDoor
end
section
set_option linter.all false
set_option maxHeartbeats 1000000
namespace Go.Proofs.YtgpoopjfkplilaaGreatDoor
open Go Go.Sx Go.RowKit Go.Proofs
structure TSnapshot where
 fStore : TStore
 fDirs : List TDir
@[go_sem] def b3X (x : TSnapshot) : List D := [.sl (x.fStore.fSchema.map bF), .sl (x.fStore.fFiles.map dE), iv x.fStore.fNextID, .sl (x.fDirs.map dG)]
@[go_sem] def jX (x : TSnapshot) : SV := .g [.d (.sl (x.fStore.fSchema.map bF)), .d (.sl (x.fStore.fFiles.map dE)), .d (iv x.fStore.fNextID), .d (.sl (x.fDirs.map dG))]
@[go_sem] def b5u (x : TSnapshot) : SV := .g [.w 81 2 (x.fStore.fSchema.map bF), .w 86 5 (x.fStore.fFiles.map dE), .d (iv x.fStore.fNextID), .w 90 2 (x.fDirs.map dG)]
def aR (x : TSnapshot) : Nat := fV x.fStore + iT x.fDirs
def a1X (x : TSnapshot) : Prop := a4S x.fStore ∧ b1M x.fDirs
def b4W (l : List TSnapshot) : Nat := l.length + eQ aR l
def b3Y (l : List TSnapshot) : Prop := l.length ≤ 9223372036854775807 ∧ ∀ x ∈ l, a1X x
theorem vG (x : TSnapshot) (hx : aR x ≤ 67108864) : FnC Tryz.prog 12 [jX x, jX x] (ob true) := by
 unfold aR at hx
 refine ent Tryz.func12 rfl Tryz.call12 rfl (fun C => ?_); simp only [go_sem, st0, Tryz.ntmps12]
 refine b4O (a7Q x.fStore (by omega)) (b0o x.fDirs (by omega)) ?_
 exact aA ⟨⟨_, rfl, by simp only [go_sem]⟩, trivial⟩
end Go.Proofs.YtgpoopjfkplilaaGreatDoor
end
section
set_option linter.all false
set_option maxHeartbeats 1000000
namespace Go.Proofs.YtgpoopjfkplilaaGreatDoor
open Go Go.Sx Go.RowKit Go.Proofs
structure TDisk where
 fSlotA : ByteArray
 fSlotB : ByteArray
@[go_sem] def b6B (x : TDisk) : List D := [sv x.fSlotA, sv x.fSlotB]
@[go_sem] def b7A (x : TDisk) : SV := .g [.d (sv x.fSlotA), .d (sv x.fSlotB)]
def b5Z (x : TDisk) : Nat := x.fSlotA.size + x.fSlotB.size
def b4X (x : TDisk) : Prop := x.fSlotA.size ≤ 9223372036854775807 ∧ x.fSlotB.size ≤ 9223372036854775807
def b7g (l : List TDisk) : Nat := l.length + eQ b5Z l
def b6C (l : List TDisk) : Prop := l.length ≤ 9223372036854775807 ∧ ∀ x ∈ l, b4X x
end Go.Proofs.YtgpoopjfkplilaaGreatDoor
end
section
set_option linter.all false
namespace Go.Proofs.YtgpoopjfkplilaaGreatDoor
open Go Go.Sx Go.RowKit Go.Proofs
def inB (n a b : Int) : Bool := decide (a ≤ n) && decide (n ≤ b)
theorem aF (n a b : Int) : FnC Tryz.prog 111 [oi n, oi a, oi b] (ob (inB n a b)) := by
 refine ent Tryz.func111 rfl Tryz.call111 rfl (fun C => ?_); simp only [go_sem, st0, Tryz.ntmps111]
 by_cases h0 : a ≤ n <;> by_cases h1 : n ≤ b
 all_goals
  have q0 := @h0; have q1 := @h1; have q2 := @decide_false; refine kZ ?_
  refine aA ⟨⟨_, rfl, ?_⟩, ?_⟩
  ·simp only [go_sem]; simp [inB, h0, h1]
  ·trivial
theorem aZ (n a b : Int) : FnC Tryz.prog 77 [oi n, oi a, oi b] (ob (inB n a b)) := by
 refine ent Tryz.func77 rfl Tryz.call77 rfl (fun C => ?_); simp only [go_sem, st0, Tryz.ntmps77]
 by_cases h0 : a ≤ n <;> by_cases h1 : n ≤ b
 all_goals
  have q0 := @h0; have q1 := @h1; have q2 := @decide_false; refine kZ ?_
  refine aA ⟨⟨_, rfl, ?_⟩, ?_⟩
  ·simp only [go_sem]; simp [inB, h0, h1]
  ·trivial
end Go.Proofs.YtgpoopjfkplilaaGreatDoor
end
section
set_option linter.all false
set_option maxHeartbeats 1000000
namespace Go.Proofs.YtgpoopjfkplilaaGreatDoor
open Go Go.Sx Go.RowKit Go.Proofs
theorem qZ (l : List ByteArray) (hw : fB l ≤ 1048576) : FnC Tryz.prog 26 [.o (.d (.sl (l.map bD)))] (.o (.w 9 1 (l.map bD))) := by
 unfold fB at hw
 have hl : l.length ≤ 1048576 := by omega
 refine ent Tryz.func26 rfl Tryz.call26 rfl (fun C => ?_); simp only [go_sem, st0, Tryz.ntmps26]
 refine aJ ?_
 refine bE (α := Nat) (fun k => [(4, oi k)]) (fun k => [(0, .row 9 1 (rY bD [sv ⟨#[]⟩] l k) true)]) (fun k => k ≤ l.length) (fun k => l.length - k) 0 (fun _ => ?_) ?_ ?_ (fun k hk => ?_)
 ·simp only [go_sem]
 ·simp only [go_sem]; simp [a7l]
 ·simp
 ·simp only [go_sem]
  refine aJ ?_
  refine cnd rfl (fun h => ?_) (fun h => ?_)
  ·simp only [decide_eq_true_eq, Int.ofNat_lt] at h
   have q0 := @h; refine oV ?_
   refine aH (k + 1) ?_ ?_ ?_
   ·simp only [go_sem]; simp [← a9J, h, bD]
   ·omega
   ·omega
  ·simp only [decide_eq_false_iff_not] at h
   have e : k = l.length := by omega
   subst e
   refine aJ ?_
   exact aA ⟨⟨_, rfl, by simp only [go_sem, a9K]⟩, trivial⟩
theorem vH (l : List ByteArray) (hl : fB l ≤ 1048576) : FnC Tryz.prog 26 [.o (.d (.sl (l.map bD)))] (.o (.d (.sl (l.map bD)))) := (qZ l hl).pu (by simp only [go_sem, and_self])
theorem b0j (l : List ByteArray) (hl : l.length ≤ 67108864) : FnC Tryz.prog 27 [.o (.d (.sl (l.map bD))), .o (.d (.sl (l.map bD)))] (ob true) := by
 refine ent Tryz.func27 rfl Tryz.call27 rfl (fun C => ?_); simp only [go_sem, st0, Tryz.ntmps27]
 refine aJ ?_
 refine bE (α := Nat) (fun k => [(5, oi k)]) (fun _ => []) (fun k => k ≤ l.length) (fun k => l.length - k) 0 (fun _ => ?_) ?_ ?_ (fun k hk => ?_)
 ·simp only [go_sem]
 ·simp only [go_sem]; simp
 ·simp
 ·simp only [go_sem]
  refine aJ ?_
  refine cnd rfl (fun h => ?_) (fun h => ?_)
  ·simp only [decide_eq_true_eq, Int.ofNat_lt] at h
   have q0 := @h; refine oV ?_
   refine aH (k + 1) ?_ ?_ ?_
   ·simp only [go_sem]; simp
   ·omega
   ·omega
  ·simp only [decide_eq_false_iff_not] at h
   refine aJ ?_
   exact aA ⟨⟨_, rfl, by simp only [go_sem]⟩, trivial⟩
theorem yL (l : List ByteArray) (hw : fB l ≤ 67108864) : FnC Tryz.prog 27 [.o (.d (.sl (l.map bD))), .o (.d (.sl (l.map bD)))] (ob true) := b0j l (by unfold fB at hw; omega)
theorem a4P (l : List ByteArray) (n : Int) (h0 : 0 ≤ n ∧ n ≤ 1048576) (hw : uO l) : FnC Tryz.prog 24 [.o (.d (.sl (l.map bD))), oi n] (oi (yM n (fB l))) := by
 unfold uO at hw
 refine ent Tryz.func24 rfl Tryz.call24 rfl (fun C => ?_); simp only [go_sem, st0, Tryz.ntmps24]
 by_cases hc : n - (l.length : Nat) < 0
 ·have e : yM n (fB l) = -1 := by rw [a3y (by unfold fB; omega)]
  have q0 := @hc; refine oV ?_
  exact aA ⟨⟨_, rfl, by simp only [go_sem, e]⟩, trivial⟩
 have q0 := @hc; refine oV ?_
 refine bE (α := Nat) (fun k => [(5, oi k), (1, oi (n - (l.length : Nat) - (eQ ByteArray.size (l.take k) : Nat)))]) (fun _ => []) (fun k => k ≤ l.length ∧ 0 ≤ n - (l.length : Nat) - (eQ ByteArray.size (l.take k) : Nat)) (fun k => l.length - k) 0 (fun _ => ?_) ?_ ?_ (fun k hk => ?_)
 ·simp only [go_sem]
 ·simp only [go_sem]; simp [eQ]
 ·simp [eQ]; omega
 ·obtain ⟨hk, hn⟩ := hk
  simp only [go_sem]
  refine aJ ?_
  refine cnd rfl (fun h => ?_) (fun h => ?_)
  ·simp only [decide_eq_true_eq, Int.ofNat_lt] at h
   have hs := a3z ByteArray.size l h
   have ht := a8J ByteArray.size l (k + 1)
   have hsz := hw.2 _ (List.getElem_mem h)
   by_cases h2 : n - (l.length : Nat) - (eQ ByteArray.size (l.take k) : Nat) - (l[k].size : Nat) < 0
   ·have e : yM n (fB l) = -1 := by rw [a3y (by unfold fB; omega)]
    have q0 := @h; have q1 := @h2; refine jN ?_
    exact aA ⟨⟨_, rfl, by simp only [go_sem, e]⟩, trivial⟩
   ·have q0 := @h; have q1 := @h2; refine jN ?_
    refine aH (k + 1) ?_ ?_ ?_
    ·simp only [go_sem]; simp; omega
    ·omega
    ·omega
  ·simp only [decide_eq_false_iff_not] at h
   have e0 : k = l.length := by omega
   subst e0
   rw [List.take_length] at hn
   have e : yM n (fB l) = n - (l.length : Nat) - (eQ ByteArray.size l : Nat) := by rw [b0k (by unfold fB; omega)]; unfold fB; omega
   refine aJ ?_
   exact aA ⟨⟨_, rfl, by simp only [go_sem, e, List.take_length]⟩, trivial⟩
end Go.Proofs.YtgpoopjfkplilaaGreatDoor
end
end
section
set_option maxRecDepth 100000
set_option maxHeartbeats 4000000
namespace Go.Proofs.YtgpoopjfkplilaaGreatDoor
open Go Go.Sx Go.RowKit Go.Proofs
def low (s : ByteArray) (k : Nat) : Bool := inB (cZ s k) 97 122
def lC (s : ByteArray) : Bool := (List.range s.size).all (low s)
def aN (s : ByteArray) (n : Int) : Bool := lC s && inB s.size 1 n
theorem a1W (s : ByteArray) (n : Int) (hs : s.size ≤ 4300000) : FnC Tryz.prog 200 [os s, oi n] (ob (aN s n)) := by
 refine ent Tryz.func200 rfl Tryz.call200 rfl (fun C => ?_); simp only [go_sem, st0, Tryz.ntmps200]
 refine aJ ?_
 refine bE (α := Nat) (fun k => [(5, oi k)]) (fun _ => []) (fun k => k ≤ s.size ∧ lC s = ((List.range s.size).drop k).all (low s)) (fun k => s.size - k) 0 (fun _ => ?_) ?_ ?_ (fun k hk => ?_)
 ·simp only [go_sem]
 ·simp only [go_sem]; simp
 ·simp [lC]
 ·obtain ⟨hk, hq⟩ := hk
  simp only [go_sem]
  refine aJ ?_
  refine cnd rfl (fun h => ?_) (fun h => ?_)
  ·simp only [decide_eq_true_eq, Int.ofNat_lt] at h
   have h' : k < (List.range s.size).length := by simpa using h
   have hd := List.drop_eq_getElem_cons h'
   rw [hd, List.all_cons, List.getElem_range] at hq
   have hb := pQ s k
   by_cases h1 : cZ s k < 97
   ·have hf : lC s = false := by rw [hq]; simp [low, inB]; omega
    have q0 := @h; have q1 := @h1; refine jN ?_
    exact aA ⟨⟨_, rfl, by simp only [go_sem, aN, hf, Bool.false_and]⟩, trivial⟩
   by_cases h2 : 122 < cZ s k
   ·have hf : lC s = false := by rw [hq]; simp [low, inB]; omega
    have q0 := @h; have q1 := @h1; have q2 := @h2; have q3 := @decide_false; refine jJ ?_
    exact aA ⟨⟨_, rfl, by simp only [go_sem, aN, hf, Bool.false_and]⟩, trivial⟩
   ·have q0 := @h; have q1 := @h1; have q2 := @h2; have q3 := @decide_false; refine jJ ?_
    refine aH (k + 1) ?_ ?_ ?_
    ·simp only [go_sem]; simp
    ·refine ⟨h, ?_⟩
     have hl : low s k = true := by simp [low, inB]; omega
     rw [hq, hl]; simp
    ·omega
  ·simp only [decide_eq_false_iff_not] at h
   have e : k = s.size := by omega
   have hq' : lC s = true := by
    rw [hq, List.drop_of_length_le (by simp [e])]; rfl
   refine mH (aZ s.size 1 n) ?_
   refine aA ⟨⟨_, rfl, ?_⟩, ?_⟩
   ·simp only [go_sem, aN, hq']
   ·trivial
theorem aD (s : ByteArray) (hs : s.size ≤ 4300000) : FnC Tryz.prog 152 [os s] (ob (aN s 1)) := by
 refine ent Tryz.func152 rfl Tryz.call152 rfl (fun C => ?_); simp only [go_sem, st0, Tryz.ntmps152]
 refine mH (a1W s 1 hs) ?_
 refine aA ⟨⟨_, rfl, ?_⟩, ?_⟩
 ·simp only [go_sem]
 ·trivial
theorem b3p (s : ByteArray) : aN s 1 = (decide ((s.size : Int) = 1) && low s 0) := by
 unfold aN lC inB
 rcases Nat.lt_trichotomy s.size 1 with h | h | h
 ·have : s.size = 0 := by omega
  simp [this]
 ·simp [h, List.range_succ]
 ·have h1 : ¬ ((s.size : Int) ≤ 1) := by omega
  have h2 : ¬ ((s.size : Int) = 1) := by omega
  simp [h1, h2]
theorem aB (s : ByteArray) : FnC Tryz.prog 89 [os s] (ob (aN s 1)) := by
 rw [b3p]
 refine ent Tryz.func89 rfl Tryz.call89 rfl (fun C => ?_); simp only [go_sem, st0, Tryz.ntmps89]
 by_cases h0 : (s.size : Int) = 1
 ·have h0' : 0 < s.size := by omega
  by_cases h1 : 97 ≤ cZ s 0 <;> by_cases h2 : cZ s 0 ≤ 122
  all_goals
   have q0 := @h0; have q1 := @h0'; have q2 := @h1; have q3 := @h2; have q4 := @decide_false; have q5 := @Int.toNat_zero; have q6 := @Int.le_refl; refine a7J ?_
   refine aA ⟨⟨_, rfl, ?_⟩, ?_⟩
   ·simp only [go_sem]; simp [h0, h1, h2, low, inB]
   ·trivial
 ·have q0 := @h0; have q1 := @decide_false; refine jN ?_
  refine aA ⟨⟨_, rfl, ?_⟩, ?_⟩
  ·simp only [go_sem]; simp [h0]
  ·trivial
theorem bC (s : ByteArray) (hs : s.size ≤ 4300000) : FnC Tryz.prog 201 [os s] (ob (aN s 6)) := by
 refine ent Tryz.func201 rfl Tryz.call201 rfl (fun C => ?_); simp only [go_sem, st0, Tryz.ntmps201]
 refine mH (a1W s 6 hs) ?_
 exact aA ⟨⟨_, rfl, by simp only [go_sem]⟩, trivial⟩
theorem aP (s : ByteArray) (hs : s.size ≤ 4300000) : FnC Tryz.prog 192 [os s] (ob (aN s 6)) := by
 refine ent Tryz.func192 rfl Tryz.call192 rfl (fun C => ?_); simp only [go_sem, st0, Tryz.ntmps192]
 refine aJ ?_
 refine bE (α := Nat) (fun k => [(6, oi k)]) (fun _ => []) (fun k => k ≤ s.size ∧ lC s = ((List.range s.size).drop k).all (low s)) (fun k => s.size - k) 0 (fun _ => ?_) ?_ ?_ (fun k hk => ?_)
 ·simp only [go_sem]
 ·simp only [go_sem]; simp
 ·simp [lC]
 ·obtain ⟨hk, hq⟩ := hk
  simp only [go_sem]
  refine aJ ?_
  refine cnd rfl (fun h => ?_) (fun h => ?_)
  ·simp only [decide_eq_true_eq, Int.ofNat_lt] at h
   have h' : k < (List.range s.size).length := by simpa using h
   have hd := List.drop_eq_getElem_cons h'
   rw [hd, List.all_cons, List.getElem_range] at hq
   have hb := pQ s k
   by_cases h1 : cZ s k < 97
   ·have hf : lC s = false := by rw [hq]; simp [low, inB]; omega
    have q0 := @h; have q1 := @h1; refine jN ?_
    exact aA ⟨⟨_, rfl, by simp only [go_sem, aN, hf, Bool.false_and]⟩, trivial⟩
   by_cases h2 : 122 < cZ s k
   ·have hf : lC s = false := by rw [hq]; simp [low, inB]; omega
    have q0 := @h; have q1 := @h1; have q2 := @h2; have q3 := @decide_false; refine jJ ?_
    exact aA ⟨⟨_, rfl, by simp only [go_sem, aN, hf, Bool.false_and]⟩, trivial⟩
   ·have q0 := @h; have q1 := @h1; have q2 := @h2; have q3 := @decide_false; refine jJ ?_
    refine aH (k + 1) ?_ ?_ ?_
    ·simp only [go_sem]; simp
    ·refine ⟨h, ?_⟩
     have hl : low s k = true := by simp [low, inB]; omega
     rw [hq, hl]; simp
    ·omega
  ·simp only [decide_eq_false_iff_not] at h
   have e : k = s.size := by omega
   have hq' : lC s = true := by
    rw [hq, List.drop_of_length_le (by simp [e])]; rfl
   refine mH (aF s.size 1 6) ?_
   refine aA ⟨⟨_, rfl, ?_⟩, ?_⟩
   ·simp only [go_sem, aN, hq']
   ·trivial
def cB (v : TValue) : Bool :=
 if v.fKind = 0 then decide (v.fInt = 0) && decide (v.fStr = ⟨#[]⟩)
 else if v.fKind = 1 then inB v.fInt 0 999 && decide (v.fStr = ⟨#[]⟩)
 else if v.fKind = 2 then aN v.fStr 6 && decide (v.fInt = 0) else false
theorem aC (v : TValue) (hs : v.fStr.size ≤ 4300000) : FnC Tryz.prog 141 [kN v] (ob (cB v)) := by
 refine ent Tryz.func141 rfl Tryz.call141 rfl (fun C => ?_); simp only [go_sem, st0, Tryz.ntmps141]
 by_cases h0 : v.fKind = 0
 ·have q0 := @h0; have q1 := @decide_true; refine jN ?_
  exact aA ⟨⟨_, rfl, by simp only [go_sem, cB, h0, if_true, decide_true, Bool.true_and]⟩, trivial⟩
 by_cases h1 : v.fKind = 1
 ·cases hb : inB v.fInt 0 999
  ·have q0 := @h0; have q1 := @h1; have q2 := @decide_true; have q3 := @decide_false; have q4 := @hb; refine nT (aF v.fInt 0 999) ?_
   exact aA ⟨⟨_, rfl, by simp only [go_sem, cB, h0, h1, hb, if_true, if_false, Bool.false_and]⟩, trivial⟩
  ·have q0 := @h0; have q1 := @h1; have q2 := @decide_true; have q3 := @decide_false; have q4 := @hb; refine nT (aF v.fInt 0 999) ?_
   exact aA ⟨⟨_, rfl, by simp only [go_sem, cB, h0, h1, hb, if_true, if_false, Bool.true_and]⟩, trivial⟩
 by_cases h2 : v.fKind = 2
 ·cases hb : aN v.fStr 6
  ·have q0 := @h0; have q1 := @h1; have q2 := @h2; have q3 := @decide_true; have q4 := @decide_false; have q5 := @hb; refine sK (aP v.fStr hs) ?_
   exact aA ⟨⟨_, rfl, by simp only [go_sem, cB, h0, h1, h2, hb, if_true, if_false, Bool.false_and]⟩, trivial⟩
  ·have q0 := @h0; have q1 := @h1; have q2 := @h2; have q3 := @decide_true; have q4 := @decide_false; have q5 := @hb; refine sK (aP v.fStr hs) ?_
   exact aA ⟨⟨_, rfl, by simp only [go_sem, cB, h0, h1, h2, hb, if_true, if_false, Bool.true_and]⟩, trivial⟩
 ·have q0 := @h0; have q1 := @h1; have q2 := @h2; have q3 := @decide_false; refine jJ ?_
  exact aA ⟨⟨_, rfl, by simp only [go_sem, cB, h0, h1, h2, if_false]⟩, trivial⟩
theorem aK (v : TValue) (hs : v.fStr.size ≤ 4300000) : FnC Tryz.prog 158 [kN v] (ob (cB v)) := by
 refine ent Tryz.func158 rfl Tryz.call158 rfl (fun C => ?_); simp only [go_sem, st0, Tryz.ntmps158]
 by_cases h0 : v.fKind = 0
 ·have q0 := @h0; have q1 := @decide_true; refine jN ?_
  exact aA ⟨⟨_, rfl, by simp only [go_sem, cB, h0, if_true, decide_true, Bool.true_and]⟩, trivial⟩
 by_cases h1 : v.fKind = 1
 ·cases hb : inB v.fInt 0 999
  ·have q0 := @h0; have q1 := @h1; have q2 := @decide_true; have q3 := @decide_false; have q4 := @hb; refine nT (aZ v.fInt 0 999) ?_
   exact aA ⟨⟨_, rfl, by simp only [go_sem, cB, h0, h1, hb, if_true, if_false, Bool.false_and]⟩, trivial⟩
  ·have q0 := @h0; have q1 := @h1; have q2 := @decide_true; have q3 := @decide_false; have q4 := @hb; refine nT (aZ v.fInt 0 999) ?_
   exact aA ⟨⟨_, rfl, by simp only [go_sem, cB, h0, h1, hb, if_true, if_false, Bool.true_and]⟩, trivial⟩
 by_cases h2 : v.fKind = 2
 ·cases hb : aN v.fStr 6
  ·have q0 := @h0; have q1 := @h1; have q2 := @h2; have q3 := @decide_true; have q4 := @decide_false; have q5 := @hb; refine sK (bC v.fStr hs) ?_
   exact aA ⟨⟨_, rfl, by simp only [go_sem, cB, h0, h1, h2, hb, if_true, if_false, Bool.false_and]⟩, trivial⟩
  ·have q0 := @h0; have q1 := @h1; have q2 := @h2; have q3 := @decide_true; have q4 := @decide_false; have q5 := @hb; refine sK (bC v.fStr hs) ?_
   exact aA ⟨⟨_, rfl, by simp only [go_sem, cB, h0, h1, h2, hb, if_true, if_false, Bool.true_and]⟩, trivial⟩
 ·have q0 := @h0; have q1 := @h1; have q2 := @h2; have q3 := @decide_false; refine jJ ?_
  exact aA ⟨⟨_, rfl, by simp only [go_sem, cB, h0, h1, h2, if_false]⟩, trivial⟩
end Go.Proofs.YtgpoopjfkplilaaGreatDoor
end
