/- Joined texts. -/
import Derived.Test.YtakopfjdmmnjcaaGreatZ03
import Derived.ProofKit
import Derived.Test.YtakopfjdmmnjcaaGreatRows
import Derived.Test.YtakopfjdmmnjcaaGreatZ05
import Derived.OpenShut
import Derived.Test.YtakopfjdmmnjcaaGreatZ04
set_option linter.all false
section
section
set_option linter.all false
namespace Go.Sx
open Go Go.RowKit
def V0 (w : World) : View := fun b => match w.heap[b]? with
 | some (.cells c _ _) => some c.toList
 | _ => none
theorem b5j (w : World) : Mod (V0 w) w := fun b cs h => by
 unfold V0 at h
 split at h
 ·rename_i c t f e
  cases h
  exact ⟨c, t, f, e, List.prefix_refl _⟩
 ·cases h
theorem b3G {w : World} {a : Addr} {y : Value} (h : w.cell? a = some y) : (V0 w).cell a = some y := by
 unfold World.cell? at h
 unfold View.cell V0
 split at h
 ·rename_i c t f e
  by_cases hs : a.spot.isSome
  ·rw [if_pos hs] at h; cases h
  ·rw [if_neg hs] at h ⊢
   rw [e]
   simpa using h
 ·cases h
def a3U (T : Nat → Ty) : Nat → List (Nat × Nat) → Option Nat
 | o, [] => some o
 | o, p :: r => if p.1 = o ∧ (T p.2).tag ≠ 0 then a3U T (o + (T p.2).size) r else none
def Cl (T : Nat → Ty) : Prop := ∀ t, ((T t).tag = 1 → a3U T 0 (T t).flds = some (T t).size) ∧ ((T t).tag = 2 → (T (T t).elem).tag ≠ 0) ∧ ((T t).tag = 3 → (T t).kind = .i64 ∨ (T t).kind = .u8)
def clB (l : List Ty) (d : Ty) : Bool := match d.tag with
 | 1 => a3U (fun t => l.getD t .bad) 0 d.flds == some d.size
 | 2 => (l.getD d.elem .bad).tag != 0
 | 3 => d.kind == .i64 || d.kind == .u8
 | _ => true
theorem Cl.of_list {l : List Ty} (h : l.all (clB l) = true) : Cl (fun t => l.getD t .bad) := fun t => by
 have key : clB l (l.getD t .bad) = true := by
  rcases Nat.lt_or_ge t l.length with hl | hl
  ·rw [List.getD_eq_getElem?_getD, List.getElem?_eq_getElem hl]
   exact List.all_eq_true.1 h _ (List.getElem_mem hl)
  ·rw [List.getD_eq_getElem?_getD, List.getElem?_eq_none hl]; rfl
 unfold clB at key
 refine ⟨fun e => ?_, fun e => ?_, fun e => ?_⟩
 ·simp only [e] at key; simpa using key
 ·simp only [e] at key; simpa using key
 ·simp only [e] at key; simpa using key
def ShFs (sh : Nat → List D → Prop) : List (Nat × Nat) → List D → Prop
 | [], ds => ds = []
 | p :: r, ds => ∃ a b, ds = a ++ b ∧ sh p.2 a ∧ ShFs sh r b
def ShD (T : Nat → Ty) : Nat → Nat → List D → Prop
 | 0, _, _ => False
 | n + 1, t, ds => match (T t).tag with
  | 1 => ShFs (ShD T n) (T t).flds ds
  | 2 => ∃ rows, ds = [.sl rows] ∧ rows.length ≤ maxLen ∧ ∀ r ∈ rows, ShD T n (T t).elem r
  | 3 => ∃ i, ds = [.v (.int (T t).kind i)] ∧ inR (T t).kind i
  | 4 => ∃ b, ds = [bv b]
  | 5 => ∃ s : ByteArray, ds = [sv s] ∧ s.size ≤ maxLen
  | _ => False
theorem a0y {α β : Type} {f : α → Option β} : ∀ {l : List α} {ys : List β}, l.mapM f = some ys → ∀ (i : Nat) (x : α), l[i]? = some x → ∃ y, f x = some y ∧ ys[i]? = some y
 | [], _, _, i, x, h => by simp at h
 | a :: l, ys, h, i, x, hx => by
  rw [List.mapM_cons] at h
  cases hfa : f a with
  | none => rw [hfa] at h; cases h
  | some b =>
   rw [hfa] at h
   cases hl : l.mapM f with
   | none => rw [hl] at h; cases h
   | some bs =>
    rw [hl] at h
    cases h
    cases i with
    | zero => simp at hx; subst hx; exact ⟨b, hfa, rfl⟩
    | succ i => simpa using a0y hl i x (by simpa using hx)
theorem a6n {α β : Type} {f : α → Option β} : ∀ {l : List α} {ys : List β}, l.mapM f = some ys → ys.length = l.length
 | [], ys, h => by cases h; rfl
 | a :: l, ys, h => by
  rw [List.mapM_cons] at h
  cases hfa : f a with
  | none => rw [hfa] at h; cases h
  | some b =>
   rw [hfa] at h
   cases hl : l.mapM f with
   | none => rw [hl] at h; cases h
   | some bs => rw [hl] at h; cases h; simp [a6n hl]
theorem a6o {α : Type} (enc : α → List D) (wf : α → Prop) : ∀ {rows : List (List D)}, (∀ r ∈ rows, ∃ x, r = enc x ∧ wf x) → ∃ l : List α, rows = l.map enc ∧ ∀ x ∈ l, wf x
 | [], _ => ⟨[], rfl, fun x h => by cases h⟩
 | r :: rows, h => by
  obtain ⟨x, rfl, hx⟩ := h r (by simp)
  obtain ⟨l, rfl, hl⟩ := a6o enc wf (rows := rows) fun r hr => h r (by simp [hr])
  exact ⟨x :: l, rfl, fun y hy => (List.mem_cons.1 hy).elim (fun e => e ▸ hx) (hl y)⟩
section
variable {H : Type} {enc : TypeId × Value → H} {P : Program} {w : World} {T : Nat → Ty}
theorem a8c {base : Nat} {a : Addr} {n : Nat} {cs : List Value} (h : w.cells? base a n = some cs) : cs.length = n ∧ ∀ k y, cs[k]? = some y → (V0 w).cell (a.add k) = some y := by
 unfold World.cells? at h
 split at h
 ·have hl := a6n h
  rw [List.length_range] at hl
  refine ⟨hl, fun k y hk => ?_⟩
  have hk' : k < n := by rw [← hl]; exact (List.getElem?_eq_some_iff.1 hk).1
  obtain ⟨y', h1, h2⟩ := a0y h k k (by simp [hk'])
  rw [hk] at h2; cases h2
  exact b3G h1
 ·cases h
theorem TyGood.cells {t : Nat} {d : Ty} {i : TypeInfo} {z : Value} {u : TypeDesc} (h : TyGood P t d i z u) : P.cellsOf t = d.size := by
 simp [Program.cellsOf, h.info, h.size]
theorem TyOK.cells (hT : TyOK P T) {t : Nat} (ht : (T t).tag ≠ 0) : P.cellsOf t = (T t).size := by
 obtain ⟨i, z, u, h⟩ := hT.good ht; exact h.cells
theorem a3V (hT : TyOK P T) {n : Nat} {sh : Nat → List D → Prop} {spare : Nat → Bool}
    (ih : ∀ t cs d ps, (T t).tag ≠ 0 → DataW.trod enc P w 0 spare true n t cs = some (d, ps) → ∃ ds Ss, sh t ds ∧ LayL (V0 w) ds cs Ss) {cs : List Value} :
    ∀ {fs : List Field} {ps : List (Nat × Nat)} {o : Nat} {xs : List (DataW H × List MemPlace)}, iF fs ps = true → a3U T o ps = some cs.length →
     (fs.mapM fun f => DataW.trod enc P w 0 spare true n f.type ((cs.drop f.offset).take (P.cellsOf f.type))) = some xs → ∃ ds Ss, ShFs sh ps ds ∧ LayL (V0 w) ds (cs.drop o) Ss
 | [], [], o, xs, _, ht, _ => by
  simp only [a3U, Option.some.injEq] at ht
  subst ht
  exact ⟨[], [], rfl, by rw [List.drop_length]; exact LayL.nil _⟩
 | f :: fs, p :: ps, o, xs, hf, ht, hm => by
  simp only [iF, Bool.and_eq_true, beq_iff_eq] at hf
  simp only [a3U] at ht
  split at ht
  ·rename_i hp
   rw [List.mapM_cons] at hm
   cases h1 : DataW.trod enc P w 0 spare true n f.type ((cs.drop f.offset).take (P.cellsOf f.type)) with
   | none => rw [h1] at hm; cases hm
   | some x =>
    rw [h1] at hm
    cases h2 : (fs.mapM fun f => DataW.trod enc P w 0 spare true n f.type ((cs.drop f.offset).take (P.cellsOf f.type))) with
    | none => rw [h2] at hm; cases hm
    | some ys =>
     obtain ⟨ds, Ss, q1, q2⟩ := ih _ _ x.1 x.2 (by rw [hf.1.2]; exact hp.2) h1
     obtain ⟨ds', Ss', q3, q4⟩ := a3V hT ih hf.2 ht h2
     rw [hf.1.2] at q1 q2
     rw [hT.cells hp.2, hf.1.1, hp.1] at q2
     refine ⟨ds ++ ds', Ss ++ Ss', ⟨ds, ds', rfl, q1, q3⟩, ?_⟩
     have e : cs.drop o = (cs.drop o).take (T p.2).size ++ cs.drop (o + (T p.2).size) := by
      rw [← List.drop_drop, List.take_append_drop]
     rw [e]
     exact q2.append q4
  ·cases ht
 | [], _ :: _, _, _, h, _, _ => by simp [iF] at h
 | _ :: _, [], _, _, h, _, _ => by simp [iF] at h
theorem a3W {sh : List D → Prop} {a : Addr} {sz : Nat} {g : List Value → Option (DataW H × List MemPlace)}
    (ih : ∀ cs d ps, g cs = some (d, ps) → ∃ ds Ss, sh ds ∧ LayL (V0 w) ds cs Ss) :
    ∀ {n : Nat}, (∀ i, i < n → ∃ x, ((w.cells? 0 (a.add (i * sz)) sz).bind g) = some x) →
     ∃ (rows : List (List D)) (ys : List Value) (Ss : List (List Nat)), rows.length = n ∧ (∀ r ∈ rows, sh r ∧ r.length = sz) ∧ ys.length = n * sz ∧ (∀ k y, ys[k]? = some y → (V0 w).cell (a.add k) = some y) ∧ LayL (V0 w) rows.flatten ys Ss
 | 0, _ => ⟨[], [], [], rfl, fun r h => (by cases h), by simp, fun k y h => (by simp at h), LayL.nil _⟩
 | n + 1, h => by
  obtain ⟨rows, ys, Ss, r1, r2, r3, r4, r5⟩ := a3W ih (n := n) fun i hi => h i (by omega)
  obtain ⟨x, hx⟩ := h n (by omega)
  cases hc : w.cells? 0 (a.add (n * sz)) sz with
  | none => rw [hc] at hx; cases hx
  | some cs =>
   rw [hc] at hx
   obtain ⟨ds, Ss', q1, q2⟩ := ih cs x.1 x.2 hx
   obtain ⟨c1, c2⟩ := a8c hc
   refine ⟨rows ++ [ds], ys ++ cs, Ss ++ Ss', by simp [r1], fun r hr => ?_, by simp [r3, c1, Nat.succ_mul], fun k y hk => ?_, by simpa using r5.append q2⟩
   ·rcases List.mem_append.1 hr with hr | hr
    ·exact r2 r hr
    ·rw [List.mem_singleton] at hr; subst hr; exact ⟨q1, by rw [← q2.1, c1]⟩
   ·rw [List.getElem?_append] at hk
    split at hk
    ·exact r4 k y hk
    ·rename_i hlt
     have := c2 _ y hk
     rw [zG] at this
     rw [r3] at this hlt
     rwa [show n * sz + (k - n * sz) = k by omega] at this
theorem a5b (hT : TyOK P T) (hC : Cl T) : ∀ {n t : Nat} {cs : List Value} {d : DataW H} {ps : List MemPlace}, (T t).tag ≠ 0 → DataW.trod enc P w 0 (fun _ => true) true n t cs = some (d, ps) → ∃ ds Ss, ShD T n t ds ∧ LayL (V0 w) ds cs Ss
 | 0, _, _, _, _, _, h => by simp [DataW.trod] at h
 | n + 1, t, cs, d, ps, ht, h => by
  obtain ⟨i, z, u, hg⟩ := hT.good ht
  have one : ∀ {d : D} {y : Value}, (∃ S, Lay (V0 w) d y S) → ∃ Ss, LayL (V0 w) [d] [y] Ss := fun ⟨S, hS⟩ => ⟨[S], rfl, rfl, fun k d' y' S' h1 h2 h3 => by
   cases k with
   | zero => simp at h1 h2 h3; subst h1; subst h2; subst h3; exact hS
   | succ k => simp at h1⟩
  have hu := hg.und
  have huok := hg.uok
  by_cases e1 : (T t).tag = 1
  ·obtain ⟨fs, rfl, hf⟩ := hg.struct e1
   simp only [DataW.trod, hu] at h
   split at h
   ·rename_i hlen
    simp only [Option.map_eq_some_iff] at h
    obtain ⟨xs, hm, _⟩ := h
    rw [hg.cells] at hlen
    obtain ⟨ds, Ss, q1, q2⟩ := a3V (sh := ShD T n) hT (fun t cs d ps ht h => a5b hT hC ht h) hf (by rw [hlen]; exact (hC t).1 e1) hm
    exact ⟨ds, Ss, by simp only [ShD, e1]; exact q1, by simpa using q2⟩
   ·cases h
  by_cases e2 : (T t).tag = 2
  ·have := hg.slice e2
   subst this
   have he := (hC t).2.1 e2
   simp only [DataW.trod, hu] at h
   split at h <;> try (simp_all; done)
   ·rename_i e' hh; injection hh with hh; injection hh with hh; subst hh
    obtain ⟨Ss, hL⟩ := one ⟨[], Lay.nil (V := V0 w)⟩
    exact ⟨[.sl []], Ss, by simp only [ShD, e2]; exact ⟨[], rfl, by simp, fun r h => by cases h⟩, hL⟩
   ·rename_i e' a len cap hh
    injection hh with hh; injection hh with hh; subst hh
    split at h
    ·rename_i hc
     simp only [Option.bind_eq_some_iff] at h
     obtain ⟨elems, hm, _⟩ := h
     have hcell := hT.cells he
     rw [hcell] at hm
     obtain ⟨rows, ys, Ss, r1, r2, r3, r4, r5⟩ := a3W (w := w) (a := a) (sz := (T (T t).elem).size) (sh := ShD T n (T t).elem) (g := DataW.trod enc P w 0 (fun _ => true) true n (T t).elem) (fun cs d ps h => a5b hT hC he h) (n := len) (fun i hi => by
      obtain ⟨y, h1, _⟩ := a0y hm i i (by simp [hi])
      exact ⟨y, h1⟩)
     obtain ⟨Ss', hL⟩ := one ⟨_, Lay.sl (V := V0 w) rows a cap (T (T t).elem).size ys Ss (fun r hr => (r2 r hr).2) (by omega) hc.2.2 (by rw [r5.1]) r5.2.1 r4 r5.2.2⟩
     rw [r1] at hL
     exact ⟨[.sl rows], Ss', by simp only [ShD, e2]; exact ⟨rows, rfl, by omega, fun r hr => (r2 r hr).1⟩, hL⟩
    ·cases h
  by_cases e3 : (T t).tag = 3
  ·have := hg.int e3
   subst this
   have hk := (hC t).2.2 e3
   simp only [DataW.trod, hu] at h
   split at h <;> try (simp_all; done)
   rename_i k k' m hh
   injection hh with hh; injection hh with hh; subst hh
   split at h
   ·rename_i hw
    obtain ⟨rfl, hw⟩ := hw
    obtain ⟨Ss, hL⟩ := one ⟨[], Lay.v (V := V0 w) (.int _ m) rfl⟩
    have hin : inR (T t).kind m := by
     simp only [Lit.wf, Bool.and_eq_true, decide_eq_true_eq] at hw
     rcases hk with hk | hk <;> rw [hk] at hw ⊢ <;> simpa [inR, IntKind.min, IntKind.max, IntKind.bits, IntKind.signed] using hw
    exact ⟨_, Ss, by simp only [ShD, e3]; exact ⟨m, rfl, hin⟩, hL⟩
   ·cases h
  by_cases e4 : (T t).tag = 4
  ·have := hg.bool e4
   subst this
   simp only [DataW.trod, hu] at h
   split at h <;> try (simp_all; done)
   rename_i b _
   obtain ⟨Ss, hL⟩ := one ⟨[], Lay.v (V := V0 w) (.bool b) rfl⟩
   exact ⟨_, Ss, by simp only [ShD, e4]; exact ⟨b, rfl⟩, hL⟩
  by_cases e5 : (T t).tag = 5
  ·have := hg.string e5
   subst this
   simp only [DataW.trod, hu] at h
   split at h <;> try (simp_all; done)
   rename_i s _
   split at h
   ·rename_i hs
    obtain ⟨Ss, hL⟩ := one ⟨[], Lay.v (V := V0 w) (.string s) rfl⟩
    exact ⟨_, Ss, by simp only [ShD, e5]; exact ⟨s, rfl, hs⟩, hL⟩
   ·cases h
  ·exfalso
   unfold vN at huok
   split at huok <;> simp_all
def pk (T : Nat → Ty) (t : Nat) (ds : List D) : SV := a1F (T t).agg (ds.map .d)
def ShAll (T : Nat → Ty) : List Nat → List (List D) → Prop
 | [], [] => True
 | t :: ts, d :: ds => (∃ n, ShD T n t d) ∧ ShAll T ts ds
 | _, _ => False
def pks (T : Nat → Ty) : List Nat → List (List D) → List SV
 | t :: ts, d :: ds => pk T t d :: pks T ts ds
 | _, _ => []
theorem a9r {V : View} {ds : List D} {ys : List Value} {Ss : List (List Nat)} (h : LayL V ds ys Ss) : cL [] V (ds.map .d) ys := by
 refine ⟨by simpa using h.1, fun k a y h1 h2 => ?_⟩
 rw [List.getElem?_map] at h1
 cases hd : ds[k]? with
 | none => rw [hd] at h1; cases h1
 | some d =>
  rw [hd] at h1; cases h1
  have hk : k < Ss.length := by rw [h.2.1]; exact (List.getElem?_eq_some_iff.1 hd).1
  exact ⟨_, h.2.2 k d y _ hd h2 (List.getElem?_eq_getElem hk)⟩
theorem b1G (hT : TyOK P T) (hC : Cl T) {t : Nat} (ht : (T t).tag ≠ 0) {r : Reach} {base : Nat} {v : Value} {d : DataW H} {ps : List MemPlace}
    (hval : Value.okWide P w r base t v) (h : DataW.Trod enc P w 0 (fun _ => true) true t v d ps) : ∃ ds, (∃ n, ShD T n t ds) ∧ cSV [] (V0 w) (pk T t ds) v := by
 obtain ⟨n, h⟩ := h
 obtain ⟨i, z, u, hg⟩ := hT.good ht
 obtain ⟨ds, Ss, q1, q2⟩ := a5b hT hC ht h
 refine ⟨ds, ⟨n, q1⟩, ?_⟩
 have hu := hg.und
 unfold Value.okWide at hval
 by_cases e1 : (T t).tag = 1
 ·obtain ⟨fs, rfl, hf⟩ := hg.struct e1
  rw [hu] at hval
  obtain ⟨cs, rfl, _⟩ := hval
  simp only [pk, Ty.agg, e1, a1F]
  exact ⟨cs.toList, rfl, a9r q2⟩
 ·have hag : (T t).agg = false := by simp [Ty.agg, e1]
  have hv : v.cells.toList = [v] := by
   have huok := hg.uok
   cases v with
   | agg cs =>
    exfalso
    rw [hu] at hval
    unfold vN at huok
    split at huok <;> simp_all [Cell.okWide, Cell.ok]
   | _ => rfl
  rw [hv] at q2
  obtain ⟨c1, c2⟩ := a9r q2
  have hl : ds.length = 1 := by simpa using c1.symm
  match ds, hl with
  | [x], _ =>
   simp only [pk, hag, a1F, List.map_cons, List.map_nil]
   exact c2 0 _ _ rfl rfl
theorem a3X (hT : TyOK P T) (hC : Cl T) {r : Reach} {base : Nat} : ∀ {ts : List Nat} {vs : List Value} {dd : List (DataW H)} {ps : List MemPlace}, (∀ t ∈ ts, (T t).tag ≠ 0) →
    (∀ (j : Nat) (t : Nat) (v : Value), ts[j]? = some t → vs[j]? = some v → Value.okWide P w r base t v) → DataW.TrodAll enc P w 0 (fun _ => true) true ts vs dd ps → ∃ dss, ShAll T ts dss ∧ nE (V0 w) (pks T ts dss) vs
 | [], [], [], _, _, _, _ => ⟨[], trivial, rfl, fun k s y h => by simp [pks] at h⟩
 | t :: ts, v :: vs, d :: dd, ps, ht, hval, h => by
  obtain ⟨p, q, h1, h2, _⟩ := h
  obtain ⟨ds, s1, s2⟩ := b1G hT hC (ht t (by simp)) (hval 0 t v rfl rfl) h1
  obtain ⟨dss, s3, s4⟩ := a3X hT hC (fun t ht' => ht t (by simp [ht'])) (fun j t v a b => hval (j + 1) t v (by simpa using a) (by simpa using b)) h2
  refine ⟨ds :: dss, ⟨s1, s3⟩, by simp [pks, s4.1], fun k s y a b => ?_⟩
  cases k with
  | zero => simp [pks] at a b; subst a; subst b; exact s2
  | succ k => exact s4.2 k s y (by simpa [pks] using a) (by simpa using b)
 | [], _ :: _, _, _, _, _, h => by simp [DataW.TrodAll] at h
 | [], [], _ :: _, _, _, _, h => by simp [DataW.TrodAll] at h
 | _ :: _, [], _, _, _, _, h => by simp [DataW.TrodAll] at h
 | _ :: _, _ :: _, [], _, _, _, h => by simp [DataW.TrodAll] at h
theorem xH (hl : laidOutB P = true) {W' : World} (hb : Below w.heap.size w W') : ∀ {ts : List Nat} {vs : List Value} {dd : List (DataW H)} {ps : List MemPlace}, (∀ t ∈ ts, P.readableRec t = true ∧ t < P.types.size) →
    DataW.TrodAll enc P w 0 (fun _ => true) true ts vs dd ps → (∀ x ∈ ps, x.block < w.heap.size) → DataW.TrodAll enc P W' 0 (fun b => decide (b < w.heap.size)) true ts vs dd ps
 | [], [], [], _, _, h, _ => h
 | t :: ts, v :: vs, d :: dd, ps, ht, h, hlt => by
  obtain ⟨p, q, h1, h2, rfl⟩ := h
  obtain ⟨r1, r2⟩ := ht t (by simp)
  exact ⟨p, q, Below.trod hl r1 r2 h1 hb (fun x hx => hlt x (List.mem_append.2 (.inl hx))), xH hl hb (fun t ht' => ht t (by simp [ht'])) h2 (fun x hx => hlt x (List.mem_append.2 (.inr hx))), rfl⟩
 | [], _ :: _, _, _, _, h, _ => by simp [DataW.TrodAll] at h
 | [], [], _ :: _, _, _, h, _ => by simp [DataW.TrodAll] at h
 | _ :: _, [], _, _, _, h, _ => by simp [DataW.TrodAll] at h
 | _ :: _, _ :: _, [], _, _, h, _ => by simp [DataW.TrodAll] at h
theorem a1b {W : World} {sp : Nat → Bool} {b : Nat} {hd : Bool} : ∀ {ts : List Nat} {vs : List Value} {dd : List (DataW H)} {ps : List MemPlace}, DataW.TrodAll enc P W b sp hd ts vs dd ps → dd.length = ts.length
 | [], [], [], _, _ => rfl
 | t :: ts, v :: vs, d :: dd, ps, h => by
  obtain ⟨p, q, _, h2, _⟩ := h
  simp [a1b h2]
 | [], _ :: _, _, _, h => by simp [DataW.TrodAll] at h
 | [], [], _ :: _, _, h => by simp [DataW.TrodAll] at h
 | _ :: _, [], _, _, h => by simp [DataW.TrodAll] at h
 | _ :: _, _ :: _, [], _, h => by simp [DataW.TrodAll] at h
theorem b3H {fresh : Bool} (hT : TyOK P T) (hC : Cl T) (hl : laidOutB P = true) {f : Nat} {fn : Func} {s : ChangeSpec} {tb : Nat} (hv : s.vars = []) (hs : ∀ dd : List (DataW H), dd.length = fn.params.toList.length → s.fn H dd = { results := [.lit (.bool true)], args := dd })
    (hrt : fn.resultTypes = #[tb]) (hb : P.underlying tb = some .bool) (ht : fn.params.toList.all (fun t => (T t).tag != 0 && P.readableRec t && decide (t < P.types.size)) = true)
    (hf : ∀ dss, ShAll T fn.params.toList dss → FnC P f (pks T fn.params.toList dss) (ob true))
    {W : World} (htab : tabOK W []) {r : Reach} {base : Nat} {args : Array Value} {ds gs : List (DataW H)} {before : List MemPlace}
    (hval : ∀ (j : Nat) (t : Nat) (v : Value), fn.params[j]? = some t → args[j]? = some v → Value.okWide P W r base t v) (hW : DataW.Whole enc P fn.params.toList s.vars false W args.toList ds gs before) :
    Calls P f args W fun e W' => ∃ v, e = .returned v ∧ s.post enc P fn false fresh false false W args v W' := by
 have hW' := hW
 obtain ⟨p, q, hA, hV, rfl, _, _⟩ := hW
 rw [hv] at hV
 obtain ⟨rfl, rfl⟩ := ChangeShapes.trodVars_none hV
 have ht' : ∀ t ∈ fn.params.toList, (T t).tag ≠ 0 ∧ P.readableRec t = true ∧ t < P.types.size := fun t h => by
  have := List.all_eq_true.1 ht t h
  simpa [and_assoc] using this
 obtain ⟨dss, h1, h2⟩ := a3X hT hC (fun t h => (ht' t h).1) (fun j t v a b => hval j t v (by simpa using a) (by simpa using b)) hA
 have hc := (hf dss h1).calls (V0 W) W args.toList htab (b5j W) h2
 rw [Array.toArray_toList] at hc
 refine hc.mono fun e W' ⟨y, he, hd⟩ => ⟨y, he, ?_⟩
 have hy : y = .bool true := by
  obtain ⟨V', S, _, _, _, ⟨l, hs, hr⟩, _⟩ := hd.out
  obtain ⟨Ss, r1, r2, r3, r4⟩ := hr
  have hl : l = [y] := hs
  subst hl
  obtain ⟨_, T', hL⟩ := r4 0 (.d (bv true)) y _ rfl rfl (List.getElem?_eq_getElem (by rw [r2]; simp [SV.all]))
  cases hL; rfl
 subst hy
 have hbel := hd.below
 have hlen := a1b hA
 have e : s.fn H (ds ++ []) = { results := [.lit (.bool true)], args := ds } := by rw [List.append_nil]; exact hs ds hlen
 refine ⟨ds, [], _, [], p, [], hW', ?_, ?_, ?_, hbel.frame _, fun h => by cases h⟩
 ·rw [e, hrt]
  exact ChangeShapes.trodAll_mk1 (shut_bool hb true)
 ·rw [e]
  exact xH hl hbel (fun t h => (ht' t h).2) hA (fun x hx => hW'.lt x (List.mem_append.2 (.inl hx)))
 ·rw [e, hv]; rfl
end
end Go.Sx
end
section
set_option linter.all false
namespace Go.Proofs.YtakopfjdmmnjcaaGreat
open Go Go.Sx Go.RowKit
theorem b8a : Cl tt := Cl.of_list (by kernel_rfl)
theorem own : ownKnob Tryz.prog.godebug = none := by kernel_rfl
theorem b3I : laidOutB Tryz.prog = true := by kernel_rfl
end Go.Proofs.YtakopfjdmmnjcaaGreat
end
end
section
namespace Go.Sx
open Go Go.RowKit
structure DoneB (V : View) (w : World) (b ty : Nat) (res : SV) (ds' : List D) (y : Value) (w' : World) : Prop where
 grown : w.grownBy w' (some b)
 out : ∃ V' S l', V.le V' ∧ Mod V' w' ∧ (∀ n cs, V' n = some cs → V n = none → w.heap.size ≤ n ∧ Unf w' n) ∧ rSV V' w' res y S ∧ S.Nodup ∧ (∀ n ∈ S, w.heap.size ≤ n ∧ n < w'.heap.size) ∧ w'.heap[b]? = some (.cells (List.toArray l') ty (0, 0)) ∧ cL [] V' (ds'.map At.d) l'
structure FnB (P : Program) (f ty : Nat) (ds : List D) (args : List SV) {α : Type} (Q : α → Prop) (res : α → SV) (ds' : α → List D) : Prop where
 enters : ∀ aS w, (callFunc f aS).run P w = .ok (.enter f aS) w
 calls : ∀ V w b l vs, tabOK w [b] → Mod V w → V b = none → b < w.heap.size → w.heap[b]? = some (.cells (List.toArray l) ty (0, 0)) → cL [] V (ds.map At.d) l → nE V args vs →
  Calls P f (Value.pointer (some ⟨b, 0, none⟩) :: vs).toArray w fun e w' => ∃ y a, e = .returned y ∧ Q a ∧ DoneB V w b ty (res a) (ds' a) y w'
section
variable {E : Env} {C : Ctx} {g : List Gh} {V : View} {st : St} {a : Act} {w : World}
theorem a9N (hr : Rel C g V st a w) : ∀ {aS bs : List At}, gW st.h aS bs → ∀ b ∈ (oI g aS bs).flatten, ∃ (id : Nat) (x : Gh) (ty sz : Nat) (rows : List (List D)) (lin : Bool), st.h[id]? = some (.row ty sz rows lin) ∧ g[id]? = some x ∧ b ∈ ownB x (.row ty sz rows lin)
 | [], [], _, b, hb => by simp [oI] at hb
 | [], _ :: _, h, _, _ => by simp [gW] at h
 | _ :: _, [], h, _, _ => by simp [gW] at h
 | x :: aS, r :: bs, h, b, hb => by
  have hx : uR st.h x r := (lQ h).2 0 x r rfl rfl
  have ht : gW st.h aS bs := by
   cases aS with
   | nil => cases bs with
    | nil => trivial
    | cons => simp [gW] at h
   | cons a2 aS => cases bs with
    | nil => simp [gW] at h
    | cons b2 bs => exact h.2
  simp only [oI, List.flatten_cons, List.mem_append] at hb
  rcases hb with hb | hb
  ·cases x with
   | s id => cases r with
    | w ty sz rows =>
     simp only [goS] at hb
     cases hg : g[id]? with
     | none => simp [hg] at hb
     | some gx =>
      simp only [hg] at hb
      simp only [uR] at hx
      split at hx
      ·rename_i ty' sz' rows' lin e
       obtain ⟨rfl, rfl, rfl, rfl⟩ := hx
       exact ⟨id, gx, _, _, _, _, aG e (by simp), hg, by simpa [ownB] using hb⟩
      ·exact hx.elim
    | m ty sz rows =>
     simp only [goS] at hb
     cases hg : g[id]? with
     | none => simp [hg] at hb
     | some gx =>
      simp only [hg] at hb
      simp only [uR] at hx
      split at hx
      ·rename_i ty' sz' rows' lin e
       obtain ⟨rfl, rfl, rfl⟩ := hx
       exact ⟨id, gx, _, _, _, _, aG e (by simp), hg, by simp only [ownB]; exact List.mem_append.2 (.inl hb)⟩
      ·exact hx.elim
    | _ => simp [goS] at hb
   | _ => simp [goS] at hb
  ·exact a9N hr ht b hb
theorem a4z (hT : TyOK E.P E.T) {pb ty : Nat} {ds' : List D} (hX : C.X = [pb]) (hr : Rel C g V st a w) {fn : Func} {rs : List ResultVar} (hf : fn.results = rs.toArray) {res : SV} (h : RetOK E st rs res) (h0 : bO st.h 0 = .pin pb ty ds') :
    ∃ y, (results fn a.tmps).run E.P w = .ok y w ∧ DoneB C.V0 C.w0 pb ty res ds' y w := by
 have hi0 := aG h0 (by simp)
 obtain ⟨x0, hx0⟩ : ∃ x0, g[0]? = some x0 := ⟨_, List.getElem?_eq_getElem (by rw [hr.hp.glen]; exact (List.getElem?_eq_some_iff.1 hi0).1)⟩
 obtain ⟨p1, l', p2, p3⟩ := hr.hp.hb 0 _ x0 hi0 hx0
 have pr : V pb = none := hr.hp.rt 0 _ x0 hi0 hx0 pb (by simp [aZ, p1])
 obtain ⟨⟨l, h1, h2, h3, h4⟩, hone⟩ := h
 obtain ⟨vs, ls, f1, f2, f3, f4, f5⟩ := rG hT hr h1
 have f1' : (rs.mapM (rvM a)).run E.P w = .ok vs w := by
  rw [← f1]
  congr 2
 refine ⟨_, lS hf f1', ⟨hr.fr.os, hr.fr.tape, hr.fr.output, hr.fr.size, fun k hk hne => hr.fr.block k hk (by rw [hX]; simpa using fun e => hne (by rw [e]))⟩, V, (oI g (l.flatMap (·.2)) ((resL res).flatMap (·.2))).flatten, l', hr.vw.le, hr.mod, fun b cs q1 q2 => ?_, ⟨ls.flatten, ?_, ?_⟩, nQ hr h3 h4, fun b hb => ?_, p2, p3⟩
 ·have := hr.vw.fresh b cs q1 q2
  rw [hX] at this
  refine ⟨?_, hr.vw.unf b cs q1 q2⟩
  rcases this with h | h
  ·exact h
  ·simp only [List.mem_singleton] at h
   subst h
   rw [pr] at q1; cases q1
 ·
  have hlen : l.length = (resL res).length := by simpa using congrArg List.length h2
  have hget : ∀ (k : Nat) (b : Bool) (c : List At), (resL res)[k]? = some (b, c) → ∃ c', l[k]? = some (b, c') ∧ c'.length = c.length := fun k b c hk => by
   have := congrArg (fun z => z[k]?) h2
   simp only [List.getElem?_map, hk, Option.map_some] at this
   cases hl : l[k]? with
   | none => rw [hl] at this; cases this
   | some x =>
    rw [hl] at this
    simp only [Option.map_some, Option.some.injEq, Prod.mk.injEq] at this
    exact ⟨x.2, by rw [← this.1], this.2⟩
  have one : ∀ (b : Bool) (c : List At), resL res = [(b, c)] → ∃ v m, vs = [v] ∧ ls = [m] ∧ (if b then v = .agg m.toArray else m = [v]) := fun b c e => by
   obtain ⟨c', hc', _⟩ := hget 0 b c (by rw [e]; rfl)
   rw [e] at hlen
   match vs, f2.trans hlen, ls, f3.trans hlen with
   | [v], _, [m], _ => exact ⟨v, m, rfl, rfl, (f4 0 b c' m v hc' rfl rfl).1⟩
  cases res with
  | o x =>
   obtain ⟨v, m, rfl, rfl, e⟩ := one false [x] rfl
   simpa [shapeOf] using e
  | g cs =>
   obtain ⟨v, m, rfl, rfl, e⟩ := one true cs rfl
   simpa [shapeOf] using e
  | t cs =>
   refine ⟨ls, f3.trans hlen, rfl, fun k b c m hk hm => ?_, vs, ?_, f2.trans hlen, fun k b c m v hk hm hv => ?_⟩
   ·obtain ⟨c', hc', e⟩ := hget k b c hk
    have hv : k < vs.length := by rw [f2, ← f3]; exact (List.getElem?_eq_some_iff.1 hm).1
    have := (f4 k b c' m _ hc' hm (List.getElem?_eq_getElem hv)).2.1
    omega
   ·have hne : vs.length ≠ 1 := by rw [f2, hlen]; exact hone
    match vs, hne with
    | [], _ => rfl
    | v :: v' :: r, _ => rfl
   ·obtain ⟨c', hc', e⟩ := hget k b c hk
    exact (f4 k b c' m v hc' hm hv).1
 ·have hl := lQ h3
  refine ⟨oI g (l.flatMap (·.2)) ((resL res).flatMap (·.2)), ?_, ?_, rfl, fun k x y s e1 e2 e3 => ?_⟩
  ·rw [f5.1, hl.1, rH]
  ·rw [yS g hl.1, hl.1, rH]
  ·rw [rH] at e1
   have hk : k < (l.flatMap (·.2)).length := by rw [hl.1]; exact (List.getElem?_eq_some_iff.1 e1).1
   have e0 : (l.flatMap (·.2))[k]? = some ((l.flatMap (·.2))[k]) := List.getElem?_eq_getElem hk
   rw [yT g e0 e1] at e3
   cases e3
   exact a5d hr (hl.2 k _ x e0 e1) (f5.2 k _ y e0 e2)
 ·obtain ⟨id, x, rty, rsz, rr, rl, e1, e2, e3⟩ := a9N hr h3 b hb
  have := hr.hp.lo id _ x e1 e2 b e3
  refine ⟨?_, this.2⟩
  rw [hX] at this
  rcases this.1 with h | h
  ·exact h
  ·simp only [List.mem_singleton] at h
   subst h
   have hne : id ≠ 0 := fun e => by rw [e, hi0] at e1; cases e1
   exact (hr.hp.dj id 0 _ _ x x0 hne e1 e2 hi0 hx0 b e3 (by simp [ownB, p1])).elim
end
def b2D (E : Env) (rs : List ResultVar) (b ty : Nat) {α : Type} (Q : α → Prop) (res : α → SV) (ds' : α → List D) : Ex → St → Prop
 | .exit _, _ => False
 | _, st => ∃ st' a, Sees E.C st st' ∧ RetOK E st' rs (res a) ∧ Q a ∧ bO st'.h 0 = .pin b ty (ds' a)
theorem aN {E : Env} {rs : List ResultVar} {b ty : Nat} {α : Type} {Q : α → Prop} {res : α → SV} {ds' : α → List D} {st : St} (a : α) (h : RetOK E st rs (res a)) (hq : Q a) (hp : bO st.h 0 = .pin b ty (ds' a)) : b2D E rs b ty Q res ds' .ret st := ⟨st, a, Sees.refl _ _, h, hq, hp⟩
def stB (b ty : Nat) (ds : List D) (args : List SV) (n : Nat) : St := ⟨.o (.p 0 0) :: (args ++ List.replicate (n - 1 - args.length) (.t [])), [.pin b ty ds]⟩
theorem FnB.of_wp {P : Program} {T : Nat → Ty} {eqk : Nat → List Nat} (hT : TyOK P T) {f : Nat} {fn : Func} {c : Code} {rs : List ResultVar} {ty : Nat} {ds : List D} {args : List SV} {α : Type} {Q : α → Prop} {res : α → SV} {ds' : α → List D}
    (hf : P.funcs[f]? = some fn) (hb : fn.body = some c) (hcall : ∀ aS w, (callFunc f aS).run P w = .ok (.enter f aS) w) (hres : fn.results = rs.toArray)
    (h : ∀ (C : Ctx) (b : Nat), C.X = [b] → WP P C c (bZ P C [] (b2D ⟨P, T, C, eqk⟩ rs b ty Q res ds')) (stB b ty ds args fn.ntmps)) : FnB P f ty ds args Q res ds' := by
 refine ⟨hcall, fun V w b l vs htab hm hVb hlt hheap hcl ha => ?_⟩
 let C : Ctx := ⟨w, [b], V, htab⟩
 refine calls_of_wp hf hb ?_
 let x : Gh := ⟨some b, undef, [], []⟩
 have hr : Rel C [x] V (stB b ty ds args fn.ntmps) { tmps := (Value.pointer (some ⟨b, 0, none⟩) :: vs).toArray ++ Array.replicate (fn.ntmps - (Value.pointer (some ⟨b, 0, none⟩) :: vs).toArray.size) undef, defers := [] } w := by
  refine ⟨⟨by simp [stB, ha.1]; omega, fun i s y h1 h2 => ?_, rfl⟩, ⟨rfl, ?_, ?_, ?_, ?_, ?_⟩, hm,
   ⟨rfl, rfl, rfl, Nat.le_refl _, fun _ _ _ => rfl⟩, ⟨View.le.refl V, (fun b cs h1 h2 => by have h2' : V b = none := h2; rw [h1] at h2'; cases h2'), (fun b cs h1 h2 => by have h2' : V b = none := h2; rw [h1] at h2'; cases h2')⟩⟩
  ·match i with
   | 0 =>
    simp [stB] at h1
    rw [Array.getElem?_append_left (by simp)] at h2
    simp at h2
    subst h1; subst h2
    exact ⟨x, b, rfl, rfl, rfl⟩
   | i + 1 =>
    simp only [stB, List.getElem?_cons_succ] at h1
    have h2' : (vs.toArray ++ Array.replicate (fn.ntmps - (vs.length + 1)) undef)[i]? = some y := by
     simp only [List.size_toArray, List.length_cons] at h2
     rw [← h2]
     rw [Array.getElem?_append, Array.getElem?_append]
     simp
    rw [List.getElem?_append] at h1
    rw [Array.getElem?_append] at h2'
    simp only [List.size_toArray, ha.1] at h2'
    split at h1
    ·rw [if_pos ‹_›] at h2'
     exact (ha.2 i s y h1 (by simpa using h2')).mono (fun j z hz => by simp at hz) (View.le.refl V)
    ·rw [if_neg ‹_›] at h2'
     rw [List.getElem?_replicate] at h1
     rw [Array.getElem?_replicate] at h2'
     split at h1
     ·split at h2'
      ·cases h1; cases h2'; exact iA _ _
      ·cases h2'
     ·cases h1
  all_goals
   have key : ∀ (i : Nat) (c : HB) (z : Gh), (stB b ty ds args fn.ntmps).h[i]? = some c → [x][i]? = some z → i = 0 ∧ c = .pin b ty ds ∧ z = x := fun i c z h1 h2 => by
    match i with
    | 0 => simp [stB] at h1 h2; exact ⟨rfl, h1.symm, h2.symm⟩
    | i + 1 => simp at h2
  ·intro i c z h1 h2
   obtain ⟨rfl, rfl, rfl⟩ := key i c z h1 h2
   exact ⟨rfl, l, hheap, hcl⟩
  ·intro i c z h1 h2
   obtain ⟨rfl, rfl, rfl⟩ := key i c z h1 h2
   simp [ownB, x]
  ·intro i j c c' z z' hij h1 h2 h3 h4
   obtain ⟨rfl, _, _⟩ := key i c z h1 h2
   obtain ⟨rfl, _, _⟩ := key j c' z' h3 h4
   exact absurd rfl hij
  ·intro i c z h1 h2 n hn
   obtain ⟨rfl, rfl, rfl⟩ := key i c z h1 h2
   simp [ownB, x] at hn
   subst hn
   exact ⟨.inr (by simp [C]), hlt⟩
  ·intro i c z h1 h2 n hn
   obtain ⟨rfl, rfl, rfl⟩ := key i c z h1 h2
   simp [aZ, x] at hn
   subst hn
   exact hVb
 refine wp_mono (h C b rfl [x] V _ w hr) fun e a' w' q => ?_
 cases e with
 | normal =>
  obtain ⟨g, V', st', hr', s, a0, hs, hret, hq, hp⟩ := q
  obtain ⟨g2, V2, hr2⟩ := hs g V' a' w' hr'
  obtain ⟨y, hy, hd⟩ := a4z (E := ⟨P, T, C, eqk⟩) hT rfl hr2 hres hret hp
  exact ⟨hr'.sl.defers, y, hy, y, a0, rfl, hq, hd⟩
 | ret =>
  obtain ⟨g, V', st', hr', s, a0, hs, hret, hq, hp⟩ := q
  obtain ⟨g2, V2, hr2⟩ := hs g V' a' w' hr'
  obtain ⟨y, hy, hd⟩ := a4z (E := ⟨P, T, C, eqk⟩) hT rfl hr2 hres hret hp
  exact ⟨hr'.sl.defers, y, hy, y, a0, rfl, hq, hd⟩
 | exit id => obtain ⟨g, V', st', hr', q⟩ := q; exact q.elim
 | goto l => exact q.elim
 | panic ch => exact q.elim
 | outgrown => exact q.elim
def a5H (ty : Nat) (ds : List D) : HB → Prop
 | .box ty' cs => ty' = ty ∧ cs = ds.map At.d
 | .pin _ ty' ds0 => ty' = ty ∧ ds0 = ds
 | _ => False
def reD (ds' : List D) : HB → HB
 | .box ty _ => .box ty (ds'.map At.d)
 | .pin b ty _ => .pin b ty ds'
 | b => b
theorem a9O {g : List Gh} {V : View} {w : World} {x : Gh} {B : HB} {ty : Nat} {ds : List D} (h : HBok g V w x B) (hB : a5H ty ds B) : ∃ b l, x.blk = some b ∧ ownB x B = [b] ∧ aZ x B = [b] ∧ w.heap[b]? = some (.cells (List.toArray l) ty (0, 0)) ∧ cL [] V (ds.map At.d) l ∧
    ∀ (V' : View) (w' : World) (ds' : List D) (l' : List Value), w'.heap[b]? = some (.cells (List.toArray l') ty (0, 0)) → cL [] V' (ds'.map At.d) l' → (∀ g', HBok g' V' w' x (reD ds' B)) ∧ ownB x (reD ds' B) = [b] ∧ aZ x (reD ds' B) = [b] := by
 cases B with
 | box ty' cs =>
  obtain ⟨rfl, rfl⟩ := hB
  obtain ⟨b, l, h1, h2, h3⟩ := h
  exact ⟨b, l, h1, by simp [ownB, h1], by simp [aZ, h1], h2, cLd h3, fun V' w' ds' l' e1 e2 => ⟨fun g' => ⟨b, l', h1, e1, cLd e2⟩, by simp [reD, ownB, h1], by simp [reD, aZ, h1]⟩⟩
 | pin pb ty' ds0 =>
  obtain ⟨rfl, rfl⟩ := hB
  obtain ⟨h1, l, h2, h3⟩ := h
  exact ⟨pb, l, h1, by simp [ownB, h1], by simp [aZ, h1], h2, h3, fun V' w' ds' l' e1 e2 => ⟨fun g' => ⟨h1, l', e1, e2⟩, by simp [reD, ownB, h1], by simp [reD, aZ, h1]⟩⟩
 | _ => exact hB.elim
theorem CallS.block {E : Env} {f ty id : Nat} {ds : List D} {args' rest : List SV} {α : Type} {Q : α → Prop} {res : α → SV} {ds' : α → List D} {st : St} {K : St → SV → Prop} (h : FnB E.P f ty ds args' Q res ds')
    (hid : a5H ty ds (bO st.h id)) (he : rest.map (eB st.h) = args') (hfree : args'.all bL = true)
    (k : ∀ a, Q a → K ⟨st.t, setH st.h id (reD (ds' a) (bO st.h id)) ++ adH (res a).all⟩ (adS (setH st.h id (reD (ds' a) (bO st.h id))).length (res a))) :
    CallS E f (.o (.p id 0) :: rest) st K := by
 refine ⟨h.enters, fun g V a w vs hr hlen hargs => ?_⟩
 have hi : st.h[id]? = some (bO st.h id) := aG rfl (fun e => by rw [e] at hid; exact hid)
 match vs, hlen, hargs with
 | y :: vs, hlen, hargs =>
  obtain ⟨x, b0, hx, hxb, rfl⟩ := hargs 0 _ y rfl rfl
  have hok := hr.hp.hb id _ x hi hx
  obtain ⟨b, l, q1, q2, q3, q4, q5, q6⟩ := a9O hok hid
  have e0 : b0 = b := by rw [hxb] at q1; exact Option.some.inj q1
  subst e0
  have hVb : V b0 = none := hr.hp.rt id _ x hi hx b0 (by rw [q3]; simp)
  have hlo := hr.hp.lo id _ x hi hx b0 (by rw [q2]; simp)
  have hc : nE V args' vs := by
   subst he
   refine ⟨by simpa using hlen, fun i s y h1 h2 => ?_⟩
   have hs := List.all_eq_true.1 hfree s (List.mem_of_getElem? h1)
   rw [List.getElem?_map] at h1
   cases hk : rest[i]? with
   | none => rw [hk] at h1; cases h1
   | some s0 =>
    rw [hk] at h1
    cases h1
    exact kS (mO hr (hargs (i + 1) s0 y (by simpa using hk) (by simpa using h2))) hs
  refine (h.calls V w b0 l vs (hr.fr.tab fun k hk => by rw [List.mem_singleton.1 hk]; exact hlo.1) hr.mod hVb hlo.2 q4 q5 hc).mono ?_
  rintro e w' ⟨y, a0, rfl, hQ, hgrown, V', S, l', hv, hm, hnew, ⟨lr, hshape, Ss, r1, r2, r3, r4⟩, hnd, hblk, hheap, hcl'⟩
  have hV'b : V' b0 = none := by
   cases hc : V' b0 with
   | none => rfl
   | some cs => have := (hnew b0 cs hc hVb).1; omega
  have hsz1 : (w'.setRow b0 l.toArray).heap.size = w'.heap.size := by simp [World.setRow]
  have hbel : Below w.heap.size w (w'.setRow b0 l.toArray) := ⟨hgrown.os, hgrown.tape, hgrown.output, by rw [hsz1]; exact hgrown.size, fun n hn => by
   by_cases e : n = b0
   ·subst e
    rw [setRow_heap w' n l'.toArray l.toArray ty (0, 0) hheap, q4]
   ·rw [setRow_other w' b0 n _ e]
    exact hgrown.block n hn fun h => e (Option.some.inj h)⟩
  have hm1 : Mod V' (w'.setRow b0 l.toArray) := fun n cs hn => by
   obtain ⟨c, ty', fz, e1, e2⟩ := hm n cs hn
   have hne : n ≠ b0 := fun e => by rw [e, hV'b] at hn; cases hn
   exact ⟨c, ty', fz, by rw [setRow_other w' b0 n _ hne]; exact e1, e2⟩
  have hr1 : Rel E.C g V' st a (w'.setRow b0 l.toArray) := hr.later hv hm1 hbel (fun n cs h1 h2 => by
   have := hnew n cs h1 h2
   have hne : n ≠ b0 := fun e => by rw [e, hV'b] at h1; cases h1
   obtain ⟨c, ty', e⟩ := this.2
   exact ⟨this.1, c, ty', by rw [setRow_other w' b0 n _ hne]; exact e⟩)
  obtain ⟨u1, u2, u3⟩ := q6 V' w' (ds' a0) l' hheap hcl'
  have hr2 := hr1.turnRow id (b' := reD (ds' a0) (bO st.h id)) (x' := x) hi hx (w' := w') rfl rfl rfl u1 (by rw [u2]; simp) (fun n hn => .inl (by rw [u2] at hn; rw [q2]; exact hn))
   (fun n hn => by rw [u3] at hn; simp only [List.mem_singleton] at hn; subst hn; exact hV'b)
   ⟨rfl, rfl, rfl, by rw [hsz1]; exact Nat.le_refl _, fun n hn hne => (setRow_other w' b0 n _ (fun e => hne (by rw [hxb, e]))).symm⟩ (fun n hn => by rw [q3]; rw [hxb] at hn; cases hn; simp)
  rw [← bR] at hr2
  have hgx : g.set id x = g := by
   apply List.ext_getElem?
   intro i
   rw [List.getElem?_set]
   split
   ·rename_i e
    subst e
    split
    ·exact hx.symm
    ·rename_i hn
     rw [List.getElem?_eq_none (by omega)]
   ·rfl
  rw [hgx] at hr2
  subst r3
  obtain ⟨g', h1, h2, h3⟩ := vB (cs := (res a0).all) hr2 r1 r2 r4 hnd (fun n hn => ⟨.inl (Nat.le_trans hr.fr.size (hblk n hn).1), (hblk n hn).2, fun i hb' z e1 e2 hm' => by
   have hlt : n < w.heap.size := by
    simp only [bR, List.getElem?_set] at e1
    split at e1
    ·rename_i e
     subst e
     split at e1
     ·cases e1
      rw [hx] at e2
      cases e2
      rw [u2] at hm'
      simp only [List.mem_singleton] at hm'
      subst hm'
      exact hlo.2
     ·cases e1
    ·exact (hr.hp.lo i hb' z e1 e2 n hm').2
   have := (hblk n hn).1
   omega⟩)
  refine ⟨y, g', V', _, _, rfl, h1, ?_, k a0 hQ⟩
  generalize setH st.h id (reD (ds' a0) (bO st.h id)) = hh at *
  generalize res a0 = res at *
  cases res with
  | o x =>
   have hl : lr = [y] := hshape
   subst hl
   simp only [SV.all] at h3
   simp only [adS]
   have hlen1 : (adA hh.length [x]).length = 1 := nK _ _
   match he' : adA hh.length [x], hlen1 with
   | [z], _ =>
    rw [he'] at h3
    exact h3.2 0 z y rfl rfl
  | g cs => exact ⟨lr, hshape, h3⟩
  | t cs =>
   obtain ⟨ls, e1, e2, e3, ys, e4, e5, e6⟩ := hshape
   subst e2
   refine ⟨ys, e4, by rw [e5, kT], fun i b c v hi hv' => ?_⟩
   have hlt : i < ls.length := by rw [e1, ← kT hh.length cs]; exact (List.getElem?_eq_some_iff.1 hi).1
   have hm' : ls[i]? = some ls[i] := List.getElem?_eq_getElem hlt
   obtain ⟨⟨c0, hc0⟩, hcc⟩ := wK hh.length cs ls e1 e3 h3 i b c _ hi hm'
   have := e6 i b c0 _ v hc0 hm' hv'
   cases b with
   | true => simp only [if_true] at this ⊢; exact ⟨_, this, hcc⟩
   | false => simp only [Bool.false_eq_true, if_false] at this ⊢; rw [← this]; exact hcc
structure FnN (P : Program) (f ty : Nat) (args : List SV) {α : Type} (Q : α → Prop) (ds' : α → List D) : Prop where
 enters : ∀ aS w, (callFunc f aS).run P w = .ok (.enter f aS) w
 calls : ∀ V w vs, tabOK w [] → Mod V w → nE V args vs → Calls P f vs.toArray w fun e w' => ∃ a b l V', e = .returned (.pointer (some ⟨b, 0, none⟩)) ∧ Q a ∧ V.le V' ∧ Mod V' w' ∧ (∀ n cs, V' n = some cs → V n = none → w.heap.size ≤ n ∧ Unf w' n) ∧ w.heap.size ≤ b ∧ b < w'.heap.size ∧ V' b = none ∧ w'.heap[b]? = some (.cells (List.toArray l) ty (0, 0)) ∧ cL [] V' ((ds' a).map At.d) l ∧ Below w.heap.size w w'
def b5X (E : Env) (rs : List ResultVar) (ty : Nat) {α : Type} (Q : α → Prop) (ds' : α → List D) : Ex → St → Prop
 | .exit _, _ => False
 | _, st => ∃ a id, Q a ∧ retVs E st rs = some [(false, [.p id 0])] ∧ bO st.h id = .box ty ((ds' a).map At.d)
theorem FnN.of_wp {P : Program} {T : Nat → Ty} {eqk : Nat → List Nat} (hT : TyOK P T) {f : Nat} {fn : Func} {c : Code} {rs : List ResultVar} {ty : Nat} {args : List SV} {α : Type} {Q : α → Prop} {ds' : α → List D}
    (hf : P.funcs[f]? = some fn) (hb : fn.body = some c) (hcall : ∀ aS w, (callFunc f aS).run P w = .ok (.enter f aS) w) (hres : fn.results = rs.toArray)
    (h : ∀ C : Ctx, C.X = [] → WP P C c (bZ P C [] (b5X ⟨P, T, C, eqk⟩ rs ty Q ds')) (st0 args fn.ntmps)) : FnN P f ty args Q ds' := by
 refine ⟨hcall, fun V w vs htab hm ha => ?_⟩
 let C : Ctx := ⟨w, [], V, htab⟩
 refine calls_of_wp hf hb ?_
 have hr : Rel C [] V (st0 args fn.ntmps) { tmps := vs.toArray ++ Array.replicate (fn.ntmps - vs.toArray.size) undef, defers := [] } w := by
  refine ⟨⟨by simp [st0, ha.1], fun i s y h1 h2 => ?_, rfl⟩, ⟨rfl, fun i b x h => by simp [st0] at h, fun i b x h => by simp [st0] at h, fun i j b b' x x' _ h => by simp [st0] at h, fun i b x h => by simp [st0] at h, fun i b x h => by simp [st0] at h⟩, hm,
   ⟨rfl, rfl, rfl, Nat.le_refl _, fun _ _ _ => rfl⟩, ⟨View.le.refl V, (fun b cs h1 h2 => by have h2' : V b = none := h2; rw [h1] at h2'; cases h2'), (fun b cs h1 h2 => by have h2' : V b = none := h2; rw [h1] at h2'; cases h2')⟩⟩
  simp only [st0] at h1
  rw [List.getElem?_append] at h1
  rw [Array.getElem?_append] at h2
  simp only [List.size_toArray, ha.1] at h2
  split at h1
  ·rw [if_pos ‹_›] at h2
   exact ha.2 i s y h1 (by simpa using h2)
  ·rw [if_neg ‹_›] at h2
   rw [List.getElem?_replicate] at h1
   rw [Array.getElem?_replicate] at h2
   split at h1
   ·rw [if_pos ‹_›] at h2
    cases h1; cases h2; exact iA _ _
   ·cases h1
 refine wp_mono (h C rfl [] V _ w hr) fun e a' w' q => ?_
 have fin : ∀ (g : List Gh) (V' : View) (st : St), Rel C g V' st a' w' → (∃ a id, Q a ∧ retVs ⟨P, T, C, eqk⟩ st rs = some [(false, [.p id 0])] ∧ bO st.h id = .box ty ((ds' a).map At.d)) →
     ∃ y, (results fn a'.tmps).run P w' = .ok y w' ∧ ∃ a b l V', Ending.returned y = .returned (.pointer (some ⟨b, 0, none⟩)) ∧ Q a ∧ V.le V' ∧ Mod V' w' ∧ (∀ n cs, V' n = some cs → V n = none → w.heap.size ≤ n ∧ Unf w' n) ∧ w.heap.size ≤ b ∧ b < w'.heap.size ∧ V' b = none ∧ w'.heap[b]? = some (.cells (List.toArray l) ty (0, 0)) ∧ cL [] V' ((ds' a).map At.d) l ∧ Below w.heap.size w w' := by
  rintro g V' st hr' ⟨a, id, hq, h1, h2⟩
  obtain ⟨vs', ls, f1, f2, f3, f4, f5⟩ := rG (E := ⟨P, T, C, eqk⟩) hT hr' h1
  have f1' : (rs.mapM (rvM a')).run P w' = .ok vs' w' := by
   rw [← f1]
   congr 2
  match vs', ls, f2, f3 with
  | [v], [m], _, _ =>
   have hv := f4 0 false [.p id 0] m v rfl rfl rfl
   simp only [Bool.false_eq_true, if_false] at hv
   obtain ⟨hv1, hv2⟩ := hv
   have hv2 := hv2
   subst hv1
   have hp := f5.2 0 (.p id 0) v rfl rfl
   obtain ⟨x, b, hx, hxb, rfl⟩ := hp
   have hi := aG h2 (by simp)
   obtain ⟨b', l, e1, e2, e3⟩ := hr'.hp.hb id _ x hi hx
   have e0 : b = b' := by rw [hxb] at e1; exact Option.some.inj e1
   subst e0
   have hlo := hr'.hp.lo id _ x hi hx b (by simp [ownB, hxb])
   have hrt := hr'.hp.rt id _ x hi hx b (by simp [aZ, hxb])
   refine ⟨_, lS hres f1', a, b, l, V', rfl, hq, hr'.vw.le, hr'.mod, fun n cs q1 q2 => ⟨by have := hr'.vw.fresh n cs q1 q2; simpa [C] using this, hr'.vw.unf n cs q1 q2⟩, by have := hlo.1; simpa [C] using this, hlo.2, hrt, e2, cLd e3, ⟨hr'.fr.os, hr'.fr.tape, hr'.fr.output, hr'.fr.size, fun k hk => hr'.fr.block k hk (by simp [C])⟩⟩
 cases e with
 | normal =>
  obtain ⟨g, V', st', hr', hret⟩ := q
  obtain ⟨y, hy, hd⟩ := fin g V' st' hr' hret
  exact ⟨hr'.sl.defers, y, hy, hd⟩
 | ret =>
  obtain ⟨g, V', st', hr', hret⟩ := q
  obtain ⟨y, hy, hd⟩ := fin g V' st' hr' hret
  exact ⟨hr'.sl.defers, y, hy, hd⟩
 | exit id => obtain ⟨g, V', st', hr', q⟩ := q; exact q.elim
 | goto l => exact q.elim
 | panic ch => exact q.elim
 | outgrown => exact q.elim
theorem CallS.newBlk {E : Env} {f ty : Nat} {args args' : List SV} {α : Type} {Q : α → Prop} {ds' : α → List D} {st : St} {K : St → SV → Prop} (h : FnN E.P f ty args' Q ds') (he : args.map (eB st.h) = args') (hfree : args'.all bL = true)
    (k : ∀ a, Q a → K ⟨st.t, st.h ++ [.box ty ((ds' a).map At.d)]⟩ (.o (.p st.h.length 0))) : CallS E f args st K := by
 refine ⟨h.enters, fun g V a w vs hr hlen hargs => ?_⟩
 subst he
 have hc : nE V (args.map (eB st.h)) vs := by
  refine ⟨by simp [hlen], fun i s y h1 h2 => ?_⟩
  have hs := List.all_eq_true.1 hfree s (List.mem_of_getElem? h1)
  rw [List.getElem?_map] at h1
  cases hk : args[i]? with
  | none => rw [hk] at h1; cases h1
  | some s0 =>
   rw [hk] at h1
   cases h1
   exact kS (mO hr (hargs i s0 y hk h2)) hs
 refine (h.calls V w vs hr.tab hr.mod hc).mono ?_
 rintro e w' ⟨a0, b, l, V', rfl, hQ, hv, hm, hnew, hge, hlt, hVb, hheap, hcl, hbel⟩
 have hr1 := hr.later hv hm hbel hnew
 let x : Gh := ⟨some b, undef, [], []⟩
 refine ⟨_, g ++ [x], V', ⟨st.t, st.h ++ [.box ty ((ds' a0).map At.d)]⟩, .o (.p st.h.length 0), rfl, ⟨hr1.sl.mono (GLe.push _ _) (View.le.refl V'), hr1.hp.push (b := .box ty ((ds' a0).map At.d)) (x := x) ⟨b, l, rfl, hheap, cLd hcl⟩ ?_ ?_ ?_ ?_, hr1.mod, hr1.fr, hr1.vw⟩, ⟨x, b, ?_, rfl, rfl⟩, k a0 hQ⟩
 ·simp [ownB, x]
 ·intro n hn
  simp [ownB, x] at hn
  subst hn
  exact ⟨.inl (Nat.le_trans hr.fr.size hge), hlt⟩
 ·intro i b' x' h1 h2 n hn hm'
  simp [ownB, x] at hm'
  subst hm'
  have := (hr.hp.lo i b' x' h1 h2 n hn).2
  omega
 ·intro n hn
  simp [aZ, x] at hn
  subst hn
  exact hVb
 ·rw [List.getElem?_append_right (by rw [hr.hp.glen]; exact Nat.le_refl _), hr.hp.glen]; simp
theorem a7f {E : Env} {rs : List ResultVar} {ty : Nat} {α : Type} {Q : α → Prop} {ds' : α → List D} {st : St} (a : α) (id : Nat) (hq : Q a) (h1 : retVs E st rs = some [(false, [.p id 0])]) (h2 : bO st.h id = .box ty ((ds' a).map At.d)) : b5X E rs ty Q ds' .ret st := ⟨a, id, hq, h1, h2⟩
structure FnX (P : Program) (f : Nat) (args : List SV) {α : Type} (Q : α → Prop) (res : α → SV) : Prop where
 enters : ∀ aS w, (callFunc f aS).run P w = .ok (.enter f aS) w
 calls : ∀ V w vs, tabOK w [] → Mod V w → nE V args vs → Calls P f vs.toArray w fun e w' => ∃ y a, e = .returned y ∧ Q a ∧ Done V w (res a) y w'
def b2E (E : Env) (rs : List ResultVar) {α : Type} (Q : α → Prop) (res : α → SV) : Ex → St → Prop
 | .exit _, _ => False
 | _, st => ∃ st' a, Sees E.C st st' ∧ RetOK E st' rs (res a) ∧ Q a
theorem zY {E : Env} {rs : List ResultVar} {α : Type} {Q : α → Prop} {res : α → SV} {st : St} (a : α) (h : RetOK E st rs (res a)) (hq : Q a) : b2E E rs Q res .ret st := ⟨st, a, Sees.refl _ _, h, hq⟩
theorem FnX.of_wp {P : Program} {T : Nat → Ty} {eqk : Nat → List Nat} (hT : TyOK P T) {f : Nat} {fn : Func} {c : Code} {rs : List ResultVar} {args : List SV} {α : Type} {Q : α → Prop} {res : α → SV}
    (hf : P.funcs[f]? = some fn) (hb : fn.body = some c) (hcall : ∀ aS w, (callFunc f aS).run P w = .ok (.enter f aS) w) (hres : fn.results = rs.toArray)
    (h : ∀ C : Ctx, C.X = [] → WP P C c (bZ P C [] (b2E ⟨P, T, C, eqk⟩ rs Q res)) (st0 args fn.ntmps)) : FnX P f args Q res := by
 refine ⟨hcall, fun V w vs htab hm ha => ?_⟩
 let C : Ctx := ⟨w, [], V, htab⟩
 refine calls_of_wp hf hb ?_
 have hr : Rel C [] V (st0 args fn.ntmps) { tmps := vs.toArray ++ Array.replicate (fn.ntmps - vs.toArray.size) undef, defers := [] } w := by
  refine ⟨⟨by simp [st0, ha.1], fun i s y h1 h2 => ?_, rfl⟩, ⟨rfl, fun i b x h => by simp [st0] at h, fun i b x h => by simp [st0] at h, fun i j b b' x x' _ h => by simp [st0] at h, fun i b x h => by simp [st0] at h, fun i b x h => by simp [st0] at h⟩, hm,
   ⟨rfl, rfl, rfl, Nat.le_refl _, fun _ _ _ => rfl⟩, ⟨View.le.refl V, (fun b cs h1 h2 => by have h2' : V b = none := h2; rw [h1] at h2'; cases h2'), (fun b cs h1 h2 => by have h2' : V b = none := h2; rw [h1] at h2'; cases h2')⟩⟩
  simp only [st0] at h1
  rw [List.getElem?_append] at h1
  rw [Array.getElem?_append] at h2
  simp only [List.size_toArray, ha.1] at h2
  split at h1
  ·rw [if_pos ‹_›] at h2
   exact ha.2 i s y h1 (by simpa using h2)
  ·rw [if_neg ‹_›] at h2
   rw [List.getElem?_replicate] at h1
   rw [Array.getElem?_replicate] at h2
   split at h1
   ·rw [if_pos ‹_›] at h2
    cases h1; cases h2; exact iA _ _
   ·cases h1
 refine wp_mono (h C rfl [] V _ w hr) fun e a' w' q => ?_
 cases e with
 | normal =>
  obtain ⟨g, V', st', hr', s, a0, hs, hret, hq⟩ := q
  obtain ⟨g2, V2, hr2⟩ := hs g V' a' w' hr'
  obtain ⟨y, hy, hd⟩ := yV (E := ⟨P, T, C, eqk⟩) hT rfl hr2 hres hret
  exact ⟨hr'.sl.defers, y, hy, y, a0, rfl, hq, hd⟩
 | ret =>
  obtain ⟨g, V', st', hr', s, a0, hs, hret, hq⟩ := q
  obtain ⟨g2, V2, hr2⟩ := hs g V' a' w' hr'
  obtain ⟨y, hy, hd⟩ := yV (E := ⟨P, T, C, eqk⟩) hT rfl hr2 hres hret
  exact ⟨hr'.sl.defers, y, hy, y, a0, rfl, hq, hd⟩
 | exit id => obtain ⟨g, V', st', hr', q⟩ := q; exact q.elim
 | goto l => exact q.elim
 | panic ch => exact q.elim
 | outgrown => exact q.elim
theorem CallS.someX {E : Env} {f : Nat} {args args' : List SV} {α : Type} {Q : α → Prop} {res : α → SV} {st : St} {K : St → SV → Prop} (h : FnX E.P f args' Q res) (he : args.map (eB st.h) = args') (hfree : args'.all bL = true)
    (k : ∀ a, Q a → K ⟨st.t, st.h ++ adH (res a).all⟩ (adS st.h.length (res a))) : CallS E f args st K := by
 refine ⟨h.enters, fun g V a w vs hr hlen hargs => ?_⟩
 subst he
 have hc : nE V (args.map (eB st.h)) vs := by
  refine ⟨by simp [hlen], fun i s y h1 h2 => ?_⟩
  have hs := List.all_eq_true.1 hfree s (List.mem_of_getElem? h1)
  rw [List.getElem?_map] at h1
  cases hk : args[i]? with
  | none => rw [hk] at h1; cases h1
  | some s0 =>
   rw [hk] at h1
   cases h1
   exact kS (mO hr (hargs i s0 y hk h2)) hs
 refine (h.calls V w vs hr.tab hr.mod hc).mono ?_
 rintro e w' ⟨y, a0, rfl, hQ, ⟨V', S, hv, hm, hnew, ⟨l, hshape, Ss, r1, r2, r3, r4⟩, hnd, hblk⟩, hbelow⟩
 have hr1 := hr.later hv hm hbelow hnew
 subst r3
 obtain ⟨g', h1, h2, h3⟩ := vB (cs := (res a0).all) hr1 r1 r2 r4 hnd (fun b hb => ⟨.inl (Nat.le_trans hr.fr.size (hblk b hb).1), (hblk b hb).2, fun i hb' x e1 e2 hm' => by
  have := (hr.hp.lo i hb' x e1 e2 b hm').2
  have := (hblk b hb).1
  omega⟩)
 refine ⟨y, g', V', _, _, rfl, h1, ?_, k a0 hQ⟩
 generalize res a0 = res at *
 cases res with
 | o x =>
  have hl : l = [y] := hshape
  subst hl
  simp only [SV.all] at h3
  simp only [adS]
  have hlen1 : (adA st.h.length [x]).length = 1 := nK _ _
  match he' : adA st.h.length [x], hlen1 with
  | [z], _ =>
   rw [he'] at h3
   exact h3.2 0 z y rfl rfl
 | g cs => exact ⟨l, hshape, h3⟩
 | t cs =>
  obtain ⟨ls, e1, e2, e3, ys, e4, e5, e6⟩ := hshape
  subst e2
  refine ⟨ys, e4, by rw [e5, kT], fun i b c v hi hv' => ?_⟩
  have hlt : i < ls.length := by rw [e1, ← kT st.h.length cs]; exact (List.getElem?_eq_some_iff.1 hi).1
  have hm' : ls[i]? = some ls[i] := List.getElem?_eq_getElem hlt
  obtain ⟨⟨c0, hc0⟩, hcc⟩ := wK st.h.length cs ls e1 e3 h3 i b c _ hi hm'
  have := e6 i b c0 _ v hc0 hm' hv'
  cases b with
  | true => simp only [if_true] at this ⊢; exact ⟨_, this, hcc⟩
  | false => simp only [Bool.false_eq_true, if_false] at this ⊢; rw [← this]; exact hcc
end Go.Sx
end
section
namespace Go.Sx
open Go Go.RowKit
def a7g (op : BinOp) (k : IntKind) (a b : Int) : Int :=
 match op with
 | .add => k.wrap (a + b)
 | .sub => k.wrap (a - b)
 | .mul => k.wrap (a * b)
 | _ => 0
def a5I : BinOp → Bool
 | .add | .sub | .mul => true
 | _ => false
def a9P (E : Env) (op : Op) (st : St) (k : St → SV → Prop) : Prop :=
 match op with
 | .binOp bop t x y ty => match ev st x, ev st y with
  | .o (.d (.v (.int kx a))), .o (.d (.v (.int ky b))) => match a5I bop with
   | true => kx = ky ∧ k st (.o (.d (.v (.int kx (a7g bop kx a b)))))
   | false => dK E op st k
  | _, _ => dK E op st k
 | _ => dK E op st k
def a0I (E : Env) : List Oper → St → (St → Prop) → Prop
 | [], st, K => K st
 | o :: r, st, K => match o.guard with
  | none => a9P E o.op st fun st' s => a0I E r (st'.put o.dst s) K
  | some _ => False
theorem b1a {op : BinOp} {t : Nat} {k : IntKind} {a b : Int} (h : a5I op = true) (P : Program) (w : World) : (binOp op t (.int k a) (.int k b)).run P w = .ok (.int k (a7g op k a b)) w := by
 cases op <;> simp only [a5I, Bool.false_eq_true] at h
 all_goals simp [binOp, Op.intArith, a7g]
section
variable {E : Env} {g : List Gh} {V : View} {st : St} {a : Act} {w : World} {o : Oper} {k : St → SV → Prop} {K : Act → World → Prop} {Q : Exit → Act → World → Prop}
theorem b2F (hT : TyOK E.P E.T) (hE : ∀ t, E.eqk t ≠ [] → EqT E.P t (E.eqk t)) (h : a9P E o.op st k) (hr : Rel E.C g V st a w) (hK : gL E o a k K) : o.wp E.P a w K Q := by
 unfold a9P at h
 split at h
 ·rename_i bop t x y ty ho
  split at h
  ·rename_i kx m ky n e1 e2
   split at h
   ·rename_i hw
    obtain ⟨rfl, hk⟩ := h
    have hx := dL hr.sl x
    have hy := dL hr.sl y
    rw [e1] at hx
    rw [e2] at hy
    obtain ⟨hx, _⟩ := bF hx
    obtain ⟨hy, _⟩ := bF hy
    exact aM (jU ho _ (by rw [hx, hy]; exact a0E ..) (by rw [hx, hy]; exact b1a hw E.P w)) (hK g V st w _ _ hr (dC g V _ rfl) hk)
   ·exact mH hT hE h hr hK
  ·exact mH hT hE h hr hK
 ·exact mH hT hE h hr hK
theorem b1b (hT : TyOK E.P E.T) (hE : ∀ t, E.eqk t ≠ [] → EqT E.P t (E.eqk t)) {all : List Oper} {Q : Exit → Act → World → Prop} {K : St → Prop} (hQ : ∀ g V st a w, Rel E.C g V st a w → K st → Q .normal a w) :
    ∀ {l : List Oper} {st : St} {g : List Gh} {V : View} {a : Act} {w : World}, a0I E l st K → Rel E.C g V st a w → wpList E.P all.toArray Q l a w := by
 intro l
 induction l with
 | nil => intro st g V a w h hr; exact hQ g V st a w hr h
 | cons o r ih =>
  intro st g V a w h hr
  simp only [a0I] at h
  cases hgd : o.guard with
  | none =>
   rw [hgd] at h
   refine wpList_plain hgd fun K' hK' => ?_
   exact b2F hT hE h hr fun g' V' st' w' s y hr' hs hk => hK' _ _ (ih hk (hr'.put o.dst hs))
  | some jb => rw [hgd] at h; exact h.elim
theorem a8M (hT : TyOK E.P E.T) (hE : ∀ t, E.eqk t ≠ [] → EqT E.P t (E.eqk t)) {id : Nat} {ops : List Oper} {F : Ex → St → Prop} {st : St} (h : a0I E ops st (F .normal)) : WP E.P E.C (.region id ops.toArray false) F st :=
 fun _ _ _ _ hr => wp_region_lit (b1b hT hE (fun g V st _ _ hr h => ⟨g, V, st, hr, h⟩) h hr)
end
theorem b1c (n : Int) : inR .i64 (IntKind.i64.wrap n) := by
 have e : IntKind.i64.wrap n = if n % 18446744073709551616 ≥ 9223372036854775808 then n % 18446744073709551616 - 18446744073709551616 else n % 18446744073709551616 := by
  unfold IntKind.wrap
  simp [IntKind.bits, IntKind.signed]
 rw [e]
 simp only [inR]
 split <;> omega
theorem a2O (a : Int) (M : Nat) (hM : M < 9223372036854775808) : 0 ≤ pU .and .i64 a (M : Int) ∧ pU .and .i64 a (M : Int) ≤ (M : Int) := by
 have hb : (BitVec.ofInt 64 (M : Int)).toNat = M := by
  rw [BitVec.ofInt_natCast, BitVec.toNat_ofNat]
  exact Nat.mod_eq_of_lt (by omega)
 have hle : (BitVec.ofInt 64 a &&& BitVec.ofInt 64 (M : Int)).toNat ≤ M := by
  rw [BitVec.toNat_and, hb]
  exact Nat.and_le_right
 have hid : IntKind.i64.wrap ((BitVec.ofInt 64 a &&& BitVec.ofInt 64 (M : Int)).toNat : Int) = ((BitVec.ofInt 64 a &&& BitVec.ofInt 64 (M : Int)).toNat : Int) := oQ (by simp only [inR]; omega)
 show 0 ≤ IntKind.i64.wrap ((BitVec.ofInt 64 a &&& BitVec.ofInt 64 (M : Int)).toNat : Int) ∧ IntKind.i64.wrap ((BitVec.ofInt 64 a &&& BitVec.ofInt 64 (M : Int)).toNat : Int) ≤ (M : Int)
 rw [hid]
 omega
end Go.Sx
end
section
namespace Go.Proofs.YtakopfjdmmnjcaaGreat
open Go Go.Sx Go.RowKit Go.Proofs
attribute [go_sem] a5H reD stB a9P a0I a5I
theorem rY {f ty : Nat} {fn : Func} {c : Code} {rs : List ResultVar} {ds : List D} {args : List SV} {α : Type} {Q : α → Prop} {res : α → SV} {ds' : α → List D} (hf : Tryz.prog.funcs[f]? = some fn) (hb : fn.body = some c) (hcall : ∀ x w, (callFunc f x).run Tryz.prog w = .ok (.enter f x) w) (hres : fn.results = rs.toArray)
    (h : ∀ (C : Ctx) (b : Nat), WP Tryz.prog C c (bZ Tryz.prog C [] (b2D (EV C) rs b ty Q res ds')) (stB b ty ds args fn.ntmps)) : FnB Tryz.prog f ty ds args Q res ds' := FnB.of_wp (eqk := eqk) ttOK hf hb hcall hres fun C b _ => h C b
theorem b8r {f ty : Nat} {fn : Func} {c : Code} {rs : List ResultVar} {args : List SV} {α : Type} {Q : α → Prop} {ds' : α → List D} (hf : Tryz.prog.funcs[f]? = some fn) (hb : fn.body = some c) (hcall : ∀ x w, (callFunc f x).run Tryz.prog w = .ok (.enter f x) w) (hres : fn.results = rs.toArray)
    (h : ∀ C : Ctx, WP Tryz.prog C c (bZ Tryz.prog C [] (b5X (EV C) rs ty Q ds')) (st0 args fn.ntmps)) : FnN Tryz.prog f ty args Q ds' := FnN.of_wp (eqk := eqk) ttOK hf hb hcall hres fun C _ => h C
theorem xL {C : Ctx} {f ty id : Nat} {ds : List D} {args' rest : List SV} {α : Type} {Q : α → Prop} {res : α → SV} {ds' : α → List D} {st : St} {K : St → SV → Prop} (h : FnB Tryz.prog f ty ds args' Q res ds') (hid : a5H ty ds (bO st.h id)) (he : rest.map (eB st.h) = args') (hfree : args'.all bL = true)
    (k : ∀ a, Q a → K ⟨st.t, setH st.h id (reD (ds' a) (bO st.h id)) ++ adH (res a).all⟩ (adS (setH st.h id (reD (ds' a) (bO st.h id))).length (res a))) : CallT (EV C) f (.o (.p id 0) :: rest) st K ⟨⟩ := ⟨CallS.block (E := EV C) h hid he hfree k⟩
theorem b2B {C : Ctx} {f ty : Nat} {args args' : List SV} {α : Type} {Q : α → Prop} {ds' : α → List D} {st : St} {K : St → SV → Prop} (h : FnN Tryz.prog f ty args' Q ds') (he : args.map (eB st.h) = args') (hfree : args'.all bL = true)
    (k : ∀ a, Q a → K ⟨st.t, st.h ++ [.box ty ((ds' a).map At.d)]⟩ (.o (.p st.h.length 0))) : CallT (EV C) f args st K ⟨⟩ := ⟨CallS.newBlk (E := EV C) h he hfree k⟩
theorem b5W {f : Nat} {fn : Func} {c : Code} {rs : List ResultVar} {args : List SV} {α : Type} {Q : α → Prop} {res : α → SV} (hf : Tryz.prog.funcs[f]? = some fn) (hb : fn.body = some c) (hcall : ∀ x w, (callFunc f x).run Tryz.prog w = .ok (.enter f x) w) (hres : fn.results = rs.toArray)
    (h : ∀ C : Ctx, WP Tryz.prog C c (bZ Tryz.prog C [] (b2E (EV C) rs Q res)) (st0 args fn.ntmps)) : FnX Tryz.prog f args Q res := FnX.of_wp (eqk := eqk) ttOK hf hb hcall hres fun C _ => h C
theorem b2C {C : Ctx} {f : Nat} {args args' : List SV} {α : Type} {Q : α → Prop} {res : α → SV} {st : St} {K : St → SV → Prop} (h : FnX Tryz.prog f args' Q res) (he : args.map (eB st.h) = args') (hfree : args'.all bL = true)
    (k : ∀ a, Q a → K ⟨st.t, st.h ++ adH (res a).all⟩ (adS st.h.length (res a))) : CallT (EV C) f args st K ⟨⟩ := ⟨CallS.someX (E := EV C) h he hfree k⟩
theorem b7j {C : Ctx} {f : Nat} {args : List SV} {st : St} {K : St → SV → Prop} (ids : List Nat) (k : CallT (EV C) f args ⟨st.t, aW st.h ids⟩ K ⟨⟩) : CallT (EV C) f args st K ⟨⟩ :=
 ⟨CallS.sees (E := EV C) (fun g V a w hr => by obtain ⟨g', V', h, _⟩ := gY ids hr; exact ⟨g', V', h⟩) (fun g V a w hr => by obtain ⟨g', V', h, h1, h2, _⟩ := gY ids hr; exact ⟨g', V', h, h1, h2⟩) k.out⟩
theorem b8s {C : Ctx} {id : Nat} {ops : List Oper} {F : Ex → St → Prop} {st : St} (h : a0I (EV C) ops st (F .normal)) : WP Tryz.prog C (.region id ops.toArray false) F st := a8M (E := EV C) ttOK a2C h
end Go.Proofs.YtakopfjdmmnjcaaGreat
end
section
section
set_option linter.all false
namespace Go.Proofs.YtakopfjdmmnjcaaGreat
open Go Go.Sx Go.RowKit Go.Proofs
def b8P (n : Int) (w : Nat) : Int := if n - w < 0 then -1 else n - w
def bI {α : Type} (w : α → Nat) : List α → Nat
 | [] => 0
 | x :: l => w x + bI w l
theorem dD {α : Type} (w : α → Nat) : ∀ (l : List α) {k : Nat} (h : k < l.length), w l[k] ≤ bI w l
 | [], _, h => by simp at h
 | x :: l, 0, _ => by simp [bI]
 | x :: l, k + 1, h => by
  have := dD w l (k := k) (by simpa using h)
  simp only [List.getElem_cons_succ, bI]; omega
@[go_sem] def gG (n : Int) : List D := [iv n]
@[go_sem] def iQ (s : ByteArray) : List D := [sv s]
abbrev slI (l : List Int) : D := .sl (l.map gG)
abbrev slS (l : List ByteArray) : D := .sl (l.map iQ)
def b7k (l : List ByteArray) : Nat := l.length + bI ByteArray.size l
def a5J (l : List Int) : Prop := l.length ≤ 9223372036854775807 ∧ ∀ i ∈ l, inR .i64 i
def b6G (l : List ByteArray) : Prop := l.length ≤ 9223372036854775807 ∧ ∀ s ∈ l, s.size ≤ 9223372036854775807
end Go.Proofs.YtakopfjdmmnjcaaGreat
end
section
set_option linter.all false
set_option maxHeartbeats 1000000
namespace Go.Proofs.YtakopfjdmmnjcaaGreat
open Go Go.Sx Go.RowKit Go.Proofs
structure TValue where
 fKind : Int
 fInt : Int
 fStr : ByteArray
@[go_sem] def b7l (x : TValue) : List D := [iv x.fKind, iv x.fInt, sv x.fStr]
@[go_sem] def kF (x : TValue) : SV := .g [.d (iv x.fKind), .d (iv x.fInt), .d (sv x.fStr)]
def iG (x : TValue) : Nat := x.fStr.size
def a2c (x : TValue) : Prop := inR .i64 x.fKind ∧ inR .i64 x.fInt ∧ x.fStr.size ≤ 9223372036854775807
def b7J (l : List TValue) : Nat := l.length + bI iG l
def b7m (l : List TValue) : Prop := l.length ≤ 9223372036854775807 ∧ ∀ x ∈ l, a2c x
end Go.Proofs.YtakopfjdmmnjcaaGreat
end
section
set_option linter.all false
set_option maxHeartbeats 1000000
namespace Go.Proofs.YtakopfjdmmnjcaaGreat
open Go Go.Sx Go.RowKit Go.Proofs
structure TField where
 fName : ByteArray
 fKind : Int
@[go_sem] def dA (x : TField) : List D := [sv x.fName, iv x.fKind]
@[go_sem] def b8t (x : TField) : SV := .g [.d (sv x.fName), .d (iv x.fKind)]
def tT (x : TField) : Nat := x.fName.size
def b4x (x : TField) : Prop := x.fName.size ≤ 9223372036854775807 ∧ inR .i64 x.fKind
def bH (l : List TField) : Nat := l.length + bI tT l
def b2G (l : List TField) : Prop := l.length ≤ 9223372036854775807 ∧ ∀ x ∈ l, b4x x
end Go.Proofs.YtakopfjdmmnjcaaGreat
end
section
set_option linter.all false
set_option maxHeartbeats 1000000
namespace Go.Proofs.YtakopfjdmmnjcaaGreat
open Go Go.Sx Go.RowKit Go.Proofs
structure TAttr where
 fName : ByteArray
 fValue : TValue
@[go_sem] def fJ (x : TAttr) : List D := [sv x.fName, iv x.fValue.fKind, iv x.fValue.fInt, sv x.fValue.fStr]
@[go_sem] def b8Q (x : TAttr) : SV := .g [.d (sv x.fName), .d (iv x.fValue.fKind), .d (iv x.fValue.fInt), .d (sv x.fValue.fStr)]
def iU (x : TAttr) : Nat := x.fName.size + iG x.fValue
def a8N (x : TAttr) : Prop := x.fName.size ≤ 9223372036854775807 ∧ a2c x.fValue
def eT (l : List TAttr) : Nat := l.length + bI iU l
def wQ (l : List TAttr) : Prop := l.length ≤ 9223372036854775807 ∧ ∀ x ∈ l, a8N x
end Go.Proofs.YtakopfjdmmnjcaaGreat
end
section
set_option linter.all false
set_option maxHeartbeats 1000000
namespace Go.Proofs.YtakopfjdmmnjcaaGreat
open Go Go.Sx Go.RowKit Go.Proofs
structure TFile where
 fID : Int
 fOwner : Int
 fShared : Bool
 fLink : Int
 fAttrs : List TAttr
@[go_sem] def bW (x : TFile) : List D := [iv x.fID, iv x.fOwner, bv x.fShared, iv x.fLink, .sl (x.fAttrs.map fJ)]
@[go_sem] def iM (x : TFile) : SV := .g [.d (iv x.fID), .d (iv x.fOwner), .d (bv x.fShared), .d (iv x.fLink), .d (.sl (x.fAttrs.map fJ))]
@[go_sem] def a2P (x : TFile) : SV := .g [.d (iv x.fID), .d (iv x.fOwner), .d (bv x.fShared), .d (iv x.fLink), .w 110 4 (x.fAttrs.map fJ)]
def bA (x : TFile) : Nat := eT x.fAttrs
def a8O (x : TFile) : Prop := inR .i64 x.fID ∧ inR .i64 x.fOwner ∧ True ∧ inR .i64 x.fLink ∧ wQ x.fAttrs
def eF (l : List TFile) : Nat := l.length + bI bA l
def b4y (l : List TFile) : Prop := l.length ≤ 9223372036854775807 ∧ ∀ x ∈ l, a8O x
end Go.Proofs.YtakopfjdmmnjcaaGreat
end
section
set_option linter.all false
set_option maxHeartbeats 1000000
namespace Go.Proofs.YtakopfjdmmnjcaaGreat
open Go Go.Sx Go.RowKit Go.Proofs
structure TStore where
 fSchema : List TField
 fFiles : List TFile
 fNextID : Int
@[go_sem] def b7n (x : TStore) : List D := [.sl (x.fSchema.map dA), .sl (x.fFiles.map bW), iv x.fNextID]
@[go_sem] def bG (x : TStore) : SV := .g [.d (.sl (x.fSchema.map dA)), .d (.sl (x.fFiles.map bW)), .d (iv x.fNextID)]
@[go_sem] def a0J (x : TStore) : SV := .g [.w 113 2 (x.fSchema.map dA), .w 69 5 (x.fFiles.map bW), .d (iv x.fNextID)]
def aJ (x : TStore) : Nat := bH x.fSchema + eF x.fFiles
def a5K (x : TStore) : Prop := b2G x.fSchema ∧ b4y x.fFiles ∧ inR .i64 x.fNextID
def b7K (l : List TStore) : Nat := l.length + bI aJ l
def b7o (l : List TStore) : Prop := l.length ≤ 9223372036854775807 ∧ ∀ x ∈ l, a5K x
end Go.Proofs.YtakopfjdmmnjcaaGreat
end
section
set_option linter.all false
set_option maxHeartbeats 1000000
namespace Go.Proofs.YtakopfjdmmnjcaaGreat
open Go Go.Sx Go.RowKit Go.Proofs
structure TNode where
 fOp : Int
 fLeft : Int
 fRight : Int
 fName : ByteArray
 fValue : TValue
@[go_sem] def bS (x : TNode) : List D := [iv x.fOp, iv x.fLeft, iv x.fRight, sv x.fName, iv x.fValue.fKind, iv x.fValue.fInt, sv x.fValue.fStr]
@[go_sem] def a9Q (x : TNode) : SV := .g [.d (iv x.fOp), .d (iv x.fLeft), .d (iv x.fRight), .d (sv x.fName), .d (iv x.fValue.fKind), .d (iv x.fValue.fInt), .d (sv x.fValue.fStr)]
def zZ (x : TNode) : Nat := x.fName.size + iG x.fValue
def b2H (x : TNode) : Prop := inR .i64 x.fOp ∧ inR .i64 x.fLeft ∧ inR .i64 x.fRight ∧ x.fName.size ≤ 9223372036854775807 ∧ a2c x.fValue
def eU (l : List TNode) : Nat := l.length + bI zZ l
def b4z (l : List TNode) : Prop := l.length ≤ 9223372036854775807 ∧ ∀ x ∈ l, b2H x
end Go.Proofs.YtakopfjdmmnjcaaGreat
end
section
set_option linter.all false
set_option maxHeartbeats 1000000
namespace Go.Proofs.YtakopfjdmmnjcaaGreat
open Go Go.Sx Go.RowKit Go.Proofs
structure TDir where
 fName : ByteArray
 fQuery : List TNode
@[go_sem] def dG (x : TDir) : List D := [sv x.fName, .sl (x.fQuery.map bS)]
@[go_sem] def b7p (x : TDir) : SV := .g [.d (sv x.fName), .d (.sl (x.fQuery.map bS))]
@[go_sem] def b9g (x : TDir) : SV := .g [.d (sv x.fName), .w 104 7 (x.fQuery.map bS)]
def lW (x : TDir) : Nat := x.fName.size + eU x.fQuery
def b5a (x : TDir) : Prop := x.fName.size ≤ 9223372036854775807 ∧ b4z x.fQuery
def gN (l : List TDir) : Nat := l.length + bI lW l
def b2I (l : List TDir) : Prop := l.length ≤ 9223372036854775807 ∧ ∀ x ∈ l, b5a x
end Go.Proofs.YtakopfjdmmnjcaaGreat
end
end
