/- Joined texts. -/
import Derived.Test.YtddimbdeggomaaaGreatZ03
import Derived.ProofKit
import Derived.Test.YtddimbdeggomaaaGreatRows
import Derived.Test.YtddimbdeggomaaaGreatZ05
import Derived.OpenShut
set_option linter.all false
section
section
set_option linter.all false
namespace Go.Sx
open Go Go.RowKit
def V0 (w : World) : View := fun b => match w.heap[b]? with
 | some (.cells c _ _) => some c.toList
 | _ => none
theorem DG (w : World) : Mod (V0 w) w := fun b cs h => by
 unfold V0 at h
 split at h
 ·rename_i c t f e
  cases h
  exact ⟨c, t, f, e, List.prefix_refl _⟩
 ·cases h
theorem B8 {w : World} {a : Addr} {y : Value} (h : w.cell? a = some y) : (V0 w).cell a = some y := by
 unfold World.cell? at h
 unfold View.cell V0
 split at h
 ·rename_i c t f e
  by_cases hs : a.spot.isSome
  ·rw [if_pos hs] at h; cases h
  ·rw [if_neg hs] at h ⊢
   rw [e]
   simpa using h
 ·cases h
def rF (T : Nat → Ty) : Nat → List (Nat × Nat) → Option Nat
 | o, [] => some o
 | o, p :: r => if p.1 = o ∧ (T p.2).tag ≠ 0 then rF T (o + (T p.2).size) r else none
def Cl (T : Nat → Ty) : Prop := ∀ t, ((T t).tag = 1 → rF T 0 (T t).flds = some (T t).size) ∧ ((T t).tag = 2 → (T (T t).elem).tag ≠ 0) ∧ ((T t).tag = 3 → (T t).kind = .i64 ∨ (T t).kind = .u8)
def clB (l : List Ty) (d : Ty) : Bool := match d.tag with
 | 1 => rF (fun t => l.getD t .bad) 0 d.flds == some d.size
 | 2 => (l.getD d.elem .bad).tag != 0
 | 3 => d.kind == .i64 || d.kind == .u8
 | _ => true
theorem Cl.of_list {l : List Ty} (h : l.all (clB l) = true) : Cl (fun t => l.getD t .bad) := fun t => by
 have key : clB l (l.getD t .bad) = true := by
  rcases Nat.lt_or_ge t l.length with hl | hl
  ·rw [List.getD_eq_getElem?_getD, List.getElem?_eq_getElem hl]
   exact List.all_eq_true.1 h _ (List.getElem_mem hl)
  ·rw [List.getD_eq_getElem?_getD, List.getElem?_eq_none hl]; rfl
 unfold clB at key
 refine ⟨fun e => ?_, fun e => ?_, fun e => ?_⟩
 ·simp only [e] at key; simpa using key
 ·simp only [e] at key; simpa using key
 ·simp only [e] at key; simpa using key
def ShFs (sh : Nat → List D → Prop) : List (Nat × Nat) → List D → Prop
 | [], ds => ds = []
 | p :: r, ds => ∃ a b, ds = a ++ b ∧ sh p.2 a ∧ ShFs sh r b
def ShD (T : Nat → Ty) : Nat → Nat → List D → Prop
 | 0, _, _ => False
 | n + 1, t, ds => match (T t).tag with
  | 1 => ShFs (ShD T n) (T t).flds ds
  | 2 => ∃ rows, ds = [.sl rows] ∧ rows.length ≤ maxLen ∧ ∀ r ∈ rows, ShD T n (T t).elem r
  | 3 => ∃ i, ds = [.v (.int (T t).kind i)] ∧ inR (T t).kind i
  | 4 => ∃ b, ds = [bv b]
  | 5 => ∃ s : ByteArray, ds = [sv s] ∧ s.size ≤ maxLen
  | _ => False
theorem mP {α β : Type} {f : α → Option β} : ∀ {l : List α} {ys : List β}, l.mapM f = some ys → ∀ (i : Nat) (x : α), l[i]? = some x → ∃ y, f x = some y ∧ ys[i]? = some y
 | [], _, _, i, x, h => by simp at h
 | a :: l, ys, h, i, x, hx => by
  rw [List.mapM_cons] at h
  cases hfa : f a with
  | none => rw [hfa] at h; cases h
  | some b =>
   rw [hfa] at h
   cases hl : l.mapM f with
   | none => rw [hl] at h; cases h
   | some bs =>
    rw [hl] at h
    cases h
    cases i with
    | zero => simp at hx; subst hx; exact ⟨b, hfa, rfl⟩
    | succ i => simpa using mP hl i x (by simpa using hx)
theorem ug {α β : Type} {f : α → Option β} : ∀ {l : List α} {ys : List β}, l.mapM f = some ys → ys.length = l.length
 | [], ys, h => by cases h; rfl
 | a :: l, ys, h => by
  rw [List.mapM_cons] at h
  cases hfa : f a with
  | none => rw [hfa] at h; cases h
  | some b =>
   rw [hfa] at h
   cases hl : l.mapM f with
   | none => rw [hl] at h; cases h
   | some bs => rw [hl] at h; cases h; simp [ug hl]
theorem fT {α : Type} (enc : α → List D) (wf : α → Prop) : ∀ {rows : List (List D)}, (∀ r ∈ rows, ∃ x, r = enc x ∧ wf x) → ∃ l : List α, rows = l.map enc ∧ ∀ x ∈ l, wf x
 | [], _ => ⟨[], rfl, fun x h => by cases h⟩
 | r :: rows, h => by
  obtain ⟨x, rfl, hx⟩ := h r (by simp)
  obtain ⟨l, rfl, hl⟩ := fT enc wf (rows := rows) fun r hr => h r (by simp [hr])
  exact ⟨x :: l, rfl, fun y hy => (List.mem_cons.1 hy).elim (fun e => e ▸ hx) (hl y)⟩
section
variable {H : Type} {enc : TypeId × Value → H} {P : Program} {w : World} {T : Nat → Ty}
theorem wt {base : Nat} {a : Addr} {n : Nat} {cs : List Value} (h : w.cells? base a n = some cs) : cs.length = n ∧ ∀ k y, cs[k]? = some y → (V0 w).cell (a.add k) = some y := by
 unfold World.cells? at h
 split at h
 ·have hl := ug h
  rw [List.length_range] at hl
  refine ⟨hl, fun k y hk => ?_⟩
  have hk' : k < n := by rw [← hl]; exact (List.getElem?_eq_some_iff.1 hk).1
  obtain ⟨y', h1, h2⟩ := mP h k k (by simp [hk'])
  rw [hk] at h2; cases h2
  exact B8 h1
 ·cases h
theorem TyGood.cells {t : Nat} {d : Ty} {i : TypeInfo} {z : Value} {u : TypeDesc} (h : TyGood P t d i z u) : P.cellsOf t = d.size := by
 simp [Program.cellsOf, h.info, h.size]
theorem TyOK.cells (hT : TyOK P T) {t : Nat} (ht : (T t).tag ≠ 0) : P.cellsOf t = (T t).size := by
 obtain ⟨i, z, u, h⟩ := hT.good ht; exact h.cells
theorem rG (hT : TyOK P T) {n : Nat} {sh : Nat → List D → Prop} {spare : Nat → Bool}
    (ih : ∀ t cs d ps, (T t).tag ≠ 0 → DataW.trod enc P w 0 spare true n t cs = some (d, ps) → ∃ ds Ss, sh t ds ∧ LayL (V0 w) ds cs Ss) {cs : List Value} :
    ∀ {fs : List Field} {ps : List (Nat × Nat)} {o : Nat} {xs : List (DataW H × List MemPlace)}, dE fs ps = true → rF T o ps = some cs.length →
     (fs.mapM fun f => DataW.trod enc P w 0 spare true n f.type ((cs.drop f.offset).take (P.cellsOf f.type))) = some xs → ∃ ds Ss, ShFs sh ps ds ∧ LayL (V0 w) ds (cs.drop o) Ss
 | [], [], o, xs, _, ht, _ => by
  simp only [rF, Option.some.injEq] at ht
  subst ht
  exact ⟨[], [], rfl, by rw [List.drop_length]; exact LayL.nil _⟩
 | f :: fs, p :: ps, o, xs, hf, ht, hm => by
  simp only [dE, Bool.and_eq_true, beq_iff_eq] at hf
  simp only [rF] at ht
  split at ht
  ·rename_i hp
   rw [List.mapM_cons] at hm
   cases h1 : DataW.trod enc P w 0 spare true n f.type ((cs.drop f.offset).take (P.cellsOf f.type)) with
   | none => rw [h1] at hm; cases hm
   | some x =>
    rw [h1] at hm
    cases h2 : (fs.mapM fun f => DataW.trod enc P w 0 spare true n f.type ((cs.drop f.offset).take (P.cellsOf f.type))) with
    | none => rw [h2] at hm; cases hm
    | some ys =>
     obtain ⟨ds, Ss, q1, q2⟩ := ih _ _ x.1 x.2 (by rw [hf.1.2]; exact hp.2) h1
     obtain ⟨ds', Ss', q3, q4⟩ := rG hT ih hf.2 ht h2
     rw [hf.1.2] at q1 q2
     rw [hT.cells hp.2, hf.1.1, hp.1] at q2
     refine ⟨ds ++ ds', Ss ++ Ss', ⟨ds, ds', rfl, q1, q3⟩, ?_⟩
     have e : cs.drop o = (cs.drop o).take (T p.2).size ++ cs.drop (o + (T p.2).size) := by
      rw [← List.drop_drop, List.take_append_drop]
     rw [e]
     exact q2.append q4
  ·cases ht
 | [], _ :: _, _, _, h, _, _ => by simp [dE] at h
 | _ :: _, [], _, _, h, _, _ => by simp [dE] at h
theorem rH {sh : List D → Prop} {a : Addr} {sz : Nat} {g : List Value → Option (DataW H × List MemPlace)}
    (ih : ∀ cs d ps, g cs = some (d, ps) → ∃ ds Ss, sh ds ∧ LayL (V0 w) ds cs Ss) :
    ∀ {n : Nat}, (∀ i, i < n → ∃ x, ((w.cells? 0 (a.add (i * sz)) sz).bind g) = some x) →
     ∃ (rows : List (List D)) (ys : List Value) (Ss : List (List Nat)), rows.length = n ∧ (∀ r ∈ rows, sh r ∧ r.length = sz) ∧ ys.length = n * sz ∧ (∀ k y, ys[k]? = some y → (V0 w).cell (a.add k) = some y) ∧ LayL (V0 w) rows.flatten ys Ss
 | 0, _ => ⟨[], [], [], rfl, fun r h => (by cases h), by simp, fun k y h => (by simp at h), LayL.nil _⟩
 | n + 1, h => by
  obtain ⟨rows, ys, Ss, r1, r2, r3, r4, r5⟩ := rH ih (n := n) fun i hi => h i (by omega)
  obtain ⟨x, hx⟩ := h n (by omega)
  cases hc : w.cells? 0 (a.add (n * sz)) sz with
  | none => rw [hc] at hx; cases hx
  | some cs =>
   rw [hc] at hx
   obtain ⟨ds, Ss', q1, q2⟩ := ih cs x.1 x.2 hx
   obtain ⟨c1, c2⟩ := wt hc
   refine ⟨rows ++ [ds], ys ++ cs, Ss ++ Ss', by simp [r1], fun r hr => ?_, by simp [r3, c1, Nat.succ_mul], fun k y hk => ?_, by simpa using r5.append q2⟩
   ·rcases List.mem_append.1 hr with hr | hr
    ·exact r2 r hr
    ·rw [List.mem_singleton] at hr; subst hr; exact ⟨q1, by rw [← q2.1, c1]⟩
   ·rw [List.getElem?_append] at hk
    split at hk
    ·exact r4 k y hk
    ·rename_i hlt
     have := c2 _ y hk
     rw [lP] at this
     rw [r3] at this hlt
     rwa [show n * sz + (k - n * sz) = k by omega] at this
theorem sJ (hT : TyOK P T) (hC : Cl T) : ∀ {n t : Nat} {cs : List Value} {d : DataW H} {ps : List MemPlace}, (T t).tag ≠ 0 → DataW.trod enc P w 0 (fun _ => true) true n t cs = some (d, ps) → ∃ ds Ss, ShD T n t ds ∧ LayL (V0 w) ds cs Ss
 | 0, _, _, _, _, _, h => by simp [DataW.trod] at h
 | n + 1, t, cs, d, ps, ht, h => by
  obtain ⟨i, z, u, hg⟩ := hT.good ht
  have one : ∀ {d : D} {y : Value}, (∃ S, Lay (V0 w) d y S) → ∃ Ss, LayL (V0 w) [d] [y] Ss := fun ⟨S, hS⟩ => ⟨[S], rfl, rfl, fun k d' y' S' h1 h2 h3 => by
   cases k with
   | zero => simp at h1 h2 h3; subst h1; subst h2; subst h3; exact hS
   | succ k => simp at h1⟩
  have hu := hg.und
  have huok := hg.uok
  by_cases e1 : (T t).tag = 1
  ·obtain ⟨fs, rfl, hf⟩ := hg.struct e1
   simp only [DataW.trod, hu] at h
   split at h
   ·rename_i hlen
    simp only [Option.map_eq_some_iff] at h
    obtain ⟨xs, hm, _⟩ := h
    rw [hg.cells] at hlen
    obtain ⟨ds, Ss, q1, q2⟩ := rG (sh := ShD T n) hT (fun t cs d ps ht h => sJ hT hC ht h) hf (by rw [hlen]; exact (hC t).1 e1) hm
    exact ⟨ds, Ss, by simp only [ShD, e1]; exact q1, by simpa using q2⟩
   ·cases h
  by_cases e2 : (T t).tag = 2
  ·have := hg.slice e2
   subst this
   have he := (hC t).2.1 e2
   simp only [DataW.trod, hu] at h
   split at h <;> try (simp_all; done)
   ·rename_i e' hh; injection hh with hh; injection hh with hh; subst hh
    obtain ⟨Ss, hL⟩ := one ⟨[], Lay.nil (V := V0 w)⟩
    exact ⟨[.sl []], Ss, by simp only [ShD, e2]; exact ⟨[], rfl, by simp, fun r h => by cases h⟩, hL⟩
   ·rename_i e' a len cap hh
    injection hh with hh; injection hh with hh; subst hh
    split at h
    ·rename_i hc
     simp only [Option.bind_eq_some_iff] at h
     obtain ⟨elems, hm, _⟩ := h
     have hcell := hT.cells he
     rw [hcell] at hm
     obtain ⟨rows, ys, Ss, r1, r2, r3, r4, r5⟩ := rH (w := w) (a := a) (sz := (T (T t).elem).size) (sh := ShD T n (T t).elem) (g := DataW.trod enc P w 0 (fun _ => true) true n (T t).elem) (fun cs d ps h => sJ hT hC he h) (n := len) (fun i hi => by
      obtain ⟨y, h1, _⟩ := mP hm i i (by simp [hi])
      exact ⟨y, h1⟩)
     obtain ⟨Ss', hL⟩ := one ⟨_, Lay.sl (V := V0 w) rows a cap (T (T t).elem).size ys Ss (fun r hr => (r2 r hr).2) (by omega) hc.2.2 (by rw [r5.1]) r5.2.1 r4 r5.2.2⟩
     rw [r1] at hL
     exact ⟨[.sl rows], Ss', by simp only [ShD, e2]; exact ⟨rows, rfl, by omega, fun r hr => (r2 r hr).1⟩, hL⟩
    ·cases h
  by_cases e3 : (T t).tag = 3
  ·have := hg.int e3
   subst this
   have hk := (hC t).2.2 e3
   simp only [DataW.trod, hu] at h
   split at h <;> try (simp_all; done)
   rename_i k k' m hh
   injection hh with hh; injection hh with hh; subst hh
   split at h
   ·rename_i hw
    obtain ⟨rfl, hw⟩ := hw
    obtain ⟨Ss, hL⟩ := one ⟨[], Lay.v (V := V0 w) (.int _ m) rfl⟩
    have hin : inR (T t).kind m := by
     simp only [Lit.wf, Bool.and_eq_true, decide_eq_true_eq] at hw
     rcases hk with hk | hk <;> rw [hk] at hw ⊢ <;> simpa [inR, IntKind.min, IntKind.max, IntKind.bits, IntKind.signed] using hw
    exact ⟨_, Ss, by simp only [ShD, e3]; exact ⟨m, rfl, hin⟩, hL⟩
   ·cases h
  by_cases e4 : (T t).tag = 4
  ·have := hg.bool e4
   subst this
   simp only [DataW.trod, hu] at h
   split at h <;> try (simp_all; done)
   rename_i b _
   obtain ⟨Ss, hL⟩ := one ⟨[], Lay.v (V := V0 w) (.bool b) rfl⟩
   exact ⟨_, Ss, by simp only [ShD, e4]; exact ⟨b, rfl⟩, hL⟩
  by_cases e5 : (T t).tag = 5
  ·have := hg.string e5
   subst this
   simp only [DataW.trod, hu] at h
   split at h <;> try (simp_all; done)
   rename_i s _
   split at h
   ·rename_i hs
    obtain ⟨Ss, hL⟩ := one ⟨[], Lay.v (V := V0 w) (.string s) rfl⟩
    exact ⟨_, Ss, by simp only [ShD, e5]; exact ⟨s, rfl, hs⟩, hL⟩
   ·cases h
  ·exfalso
   unfold jN at huok
   split at huok <;> simp_all
def pk (T : Nat → Ty) (t : Nat) (ds : List D) : SV := pw (T t).agg (ds.map .d)
def ShAll (T : Nat → Ty) : List Nat → List (List D) → Prop
 | [], [] => True
 | t :: ts, d :: ds => (∃ n, ShD T n t d) ∧ ShAll T ts ds
 | _, _ => False
def pks (T : Nat → Ty) : List Nat → List (List D) → List SV
 | t :: ts, d :: ds => pk T t d :: pks T ts ds
 | _, _ => []
theorem xR {V : View} {ds : List D} {ys : List Value} {Ss : List (List Nat)} (h : LayL V ds ys Ss) : cL [] V (ds.map .d) ys := by
 refine ⟨by simpa using h.1, fun k a y h1 h2 => ?_⟩
 rw [List.getElem?_map] at h1
 cases hd : ds[k]? with
 | none => rw [hd] at h1; cases h1
 | some d =>
  rw [hd] at h1; cases h1
  have hk : k < Ss.length := by rw [h.2.1]; exact (List.getElem?_eq_some_iff.1 hd).1
  exact ⟨_, h.2.2 k d y _ hd h2 (List.getElem?_eq_getElem hk)⟩
theorem As (hT : TyOK P T) (hC : Cl T) {t : Nat} (ht : (T t).tag ≠ 0) {r : Reach} {base : Nat} {v : Value} {d : DataW H} {ps : List MemPlace}
    (hval : Value.okWide P w r base t v) (h : DataW.Trod enc P w 0 (fun _ => true) true t v d ps) : ∃ ds, (∃ n, ShD T n t ds) ∧ cSV [] (V0 w) (pk T t ds) v := by
 obtain ⟨n, h⟩ := h
 obtain ⟨i, z, u, hg⟩ := hT.good ht
 obtain ⟨ds, Ss, q1, q2⟩ := sJ hT hC ht h
 refine ⟨ds, ⟨n, q1⟩, ?_⟩
 have hu := hg.und
 unfold Value.okWide at hval
 by_cases e1 : (T t).tag = 1
 ·obtain ⟨fs, rfl, hf⟩ := hg.struct e1
  rw [hu] at hval
  obtain ⟨cs, rfl, _⟩ := hval
  simp only [pk, Ty.agg, e1, pw]
  exact ⟨cs.toList, rfl, xR q2⟩
 ·have hag : (T t).agg = false := by simp [Ty.agg, e1]
  have hv : v.cells.toList = [v] := by
   have huok := hg.uok
   cases v with
   | agg cs =>
    exfalso
    rw [hu] at hval
    unfold jN at huok
    split at huok <;> simp_all [Cell.okWide, Cell.ok]
   | _ => rfl
  rw [hv] at q2
  obtain ⟨c1, c2⟩ := xR q2
  have hl : ds.length = 1 := by simpa using c1.symm
  match ds, hl with
  | [x], _ =>
   simp only [pk, hag, pw, List.map_cons, List.map_nil]
   exact c2 0 _ _ rfl rfl
theorem rI (hT : TyOK P T) (hC : Cl T) {r : Reach} {base : Nat} : ∀ {ts : List Nat} {vs : List Value} {dd : List (DataW H)} {ps : List MemPlace}, (∀ t ∈ ts, (T t).tag ≠ 0) →
    (∀ (j : Nat) (t : Nat) (v : Value), ts[j]? = some t → vs[j]? = some v → Value.okWide P w r base t v) → DataW.TrodAll enc P w 0 (fun _ => true) true ts vs dd ps → ∃ dss, ShAll T ts dss ∧ nL (V0 w) (pks T ts dss) vs
 | [], [], [], _, _, _, _ => ⟨[], trivial, rfl, fun k s y h => by simp [pks] at h⟩
 | t :: ts, v :: vs, d :: dd, ps, ht, hval, h => by
  obtain ⟨p, q, h1, h2, _⟩ := h
  obtain ⟨ds, s1, s2⟩ := As hT hC (ht t (by simp)) (hval 0 t v rfl rfl) h1
  obtain ⟨dss, s3, s4⟩ := rI hT hC (fun t ht' => ht t (by simp [ht'])) (fun j t v a b => hval (j + 1) t v (by simpa using a) (by simpa using b)) h2
  refine ⟨ds :: dss, ⟨s1, s3⟩, by simp [pks, s4.1], fun k s y a b => ?_⟩
  cases k with
  | zero => simp [pks] at a b; subst a; subst b; exact s2
  | succ k => exact s4.2 k s y (by simpa [pks] using a) (by simpa using b)
 | [], _ :: _, _, _, _, _, h => by simp [DataW.TrodAll] at h
 | [], [], _ :: _, _, _, _, h => by simp [DataW.TrodAll] at h
 | _ :: _, [], _, _, _, _, h => by simp [DataW.TrodAll] at h
 | _ :: _, _ :: _, [], _, _, _, h => by simp [DataW.TrodAll] at h
theorem kR (hl : laidOutB P = true) {W' : World} (hb : Below w.heap.size w W') : ∀ {ts : List Nat} {vs : List Value} {dd : List (DataW H)} {ps : List MemPlace}, (∀ t ∈ ts, P.readableRec t = true ∧ t < P.types.size) →
    DataW.TrodAll enc P w 0 (fun _ => true) true ts vs dd ps → (∀ x ∈ ps, x.block < w.heap.size) → DataW.TrodAll enc P W' 0 (fun b => decide (b < w.heap.size)) true ts vs dd ps
 | [], [], [], _, _, h, _ => h
 | t :: ts, v :: vs, d :: dd, ps, ht, h, hlt => by
  obtain ⟨p, q, h1, h2, rfl⟩ := h
  obtain ⟨r1, r2⟩ := ht t (by simp)
  exact ⟨p, q, Below.trod hl r1 r2 h1 hb (fun x hx => hlt x (List.mem_append.2 (.inl hx))), kR hl hb (fun t ht' => ht t (by simp [ht'])) h2 (fun x hx => hlt x (List.mem_append.2 (.inr hx))), rfl⟩
 | [], _ :: _, _, _, _, h, _ => by simp [DataW.TrodAll] at h
 | [], [], _ :: _, _, _, h, _ => by simp [DataW.TrodAll] at h
 | _ :: _, [], _, _, _, h, _ => by simp [DataW.TrodAll] at h
 | _ :: _, _ :: _, [], _, _, h, _ => by simp [DataW.TrodAll] at h
theorem nE {W : World} {sp : Nat → Bool} {b : Nat} {hd : Bool} : ∀ {ts : List Nat} {vs : List Value} {dd : List (DataW H)} {ps : List MemPlace}, DataW.TrodAll enc P W b sp hd ts vs dd ps → dd.length = ts.length
 | [], [], [], _, _ => rfl
 | t :: ts, v :: vs, d :: dd, ps, h => by
  obtain ⟨p, q, _, h2, _⟩ := h
  simp [nE h2]
 | [], _ :: _, _, _, h => by simp [DataW.TrodAll] at h
 | [], [], _ :: _, _, h => by simp [DataW.TrodAll] at h
 | _ :: _, [], _, _, h => by simp [DataW.TrodAll] at h
 | _ :: _, _ :: _, [], _, h => by simp [DataW.TrodAll] at h
theorem xS {fresh : Bool} (hT : TyOK P T) (hC : Cl T) (hl : laidOutB P = true) {f : Nat} {fn : Func} {s : ChangeSpec} {tb : Nat} (hv : s.vars = []) (hs : ∀ dd : List (DataW H), dd.length = fn.params.toList.length → s.fn H dd = { results := [.lit (.bool true)], args := dd })
    (hrt : fn.resultTypes = #[tb]) (hb : P.underlying tb = some .bool) (ht : fn.params.toList.all (fun t => (T t).tag != 0 && P.readableRec t && decide (t < P.types.size)) = true)
    (hf : ∀ dss, ShAll T fn.params.toList dss → FnC P f (pks T fn.params.toList dss) (ob true))
    {W : World} {r : Reach} {base : Nat} {args : Array Value} {ds gs : List (DataW H)} {before : List MemPlace}
    (hval : ∀ (j : Nat) (t : Nat) (v : Value), fn.params[j]? = some t → args[j]? = some v → Value.okWide P W r base t v) (hW : DataW.Whole enc P fn.params.toList s.vars false W args.toList ds gs before) :
    Calls P f args W fun e W' => ∃ v, e = .returned v ∧ s.post enc P fn false fresh false false W args v W' := by
 have hW' := hW
 obtain ⟨p, q, hA, hV, rfl, _, _⟩ := hW
 rw [hv] at hV
 obtain ⟨rfl, rfl⟩ := ChangeShapes.trodVars_none hV
 have ht' : ∀ t ∈ fn.params.toList, (T t).tag ≠ 0 ∧ P.readableRec t = true ∧ t < P.types.size := fun t h => by
  have := List.all_eq_true.1 ht t h
  simpa [and_assoc] using this
 obtain ⟨dss, h1, h2⟩ := rI hT hC (fun t h => (ht' t h).1) (fun j t v a b => hval j t v (by simpa using a) (by simpa using b)) hA
 have hc := (hf dss h1).calls (V0 W) W args.toList (DG W) h2
 rw [Array.toArray_toList] at hc
 refine hc.mono fun e W' ⟨y, he, hd⟩ => ⟨y, he, ?_⟩
 have hy : y = .bool true := by
  obtain ⟨V', S, _, _, _, ⟨l, hs, hr⟩, _⟩ := hd.out
  obtain ⟨Ss, r1, r2, r3, r4⟩ := hr
  have hl : l = [y] := hs
  subst hl
  obtain ⟨_, T', hL⟩ := r4 0 (.d (bv true)) y _ rfl rfl (List.getElem?_eq_getElem (by rw [r2]; simp [SV.all]))
  cases hL; rfl
 subst hy
 have hbel := hd.below
 have hlen := nE hA
 have e : s.fn H (ds ++ []) = { results := [.lit (.bool true)], args := ds } := by rw [List.append_nil]; exact hs ds hlen
 refine ⟨ds, [], _, [], p, [], hW', ?_, ?_, ?_, hbel.frame _, fun h => by cases h⟩
 ·rw [e, hrt]
  exact ChangeShapes.trodAll_mk1 (shut_bool hb true)
 ·rw [e]
  exact kR hl hbel (fun t h => (ht' t h).2) hA (fun x hx => hW'.lt x (List.mem_append.2 (.inl hx)))
 ·rw [e, hv]; rfl
end
end Go.Sx
end
section
set_option linter.all false
namespace Go.Proofs.YtddimbdeggomaaaGreat
open Go Go.Sx Go.RowKit
theorem EJ : Cl tt := Cl.of_list (by kernel_rfl)
theorem own : ownKnob Tryz.prog.godebug = none := by kernel_rfl
theorem xT : laidOutB Tryz.prog = true := by kernel_rfl
end Go.Proofs.YtddimbdeggomaaaGreat
end
end
section
section
set_option linter.all false
namespace Go.Proofs.YtddimbdeggomaaaGreat
open Go Go.Sx Go.RowKit Go.Proofs
def aS (n : Int) (w : Nat) : Int := if n - w < 0 then -1 else n - w
theorem au {n : Int} {w : Nat} (h : n - w < 0) : aS n w = -1 := if_pos h
theorem aC {n : Int} {w : Nat} (h : ¬ n - w < 0) : aS n w = n - w := if_neg h
theorem ve {n : Int} {w : Nat} (h : ¬ aS n w < 0) : w ≤ n := by
 unfold aS at h
 split at h <;> omega
def wsum {α : Type} (w : α → Nat) : List α → Nat
 | [] => 0
 | x :: l => w x + wsum w l
theorem aB {α : Type} (w : α → Nat) : ∀ (l : List α) {k : Nat} (h : k < l.length), w l[k] ≤ wsum w l
 | [], _, h => by simp at h
 | x :: l, 0, _ => by simp [wsum]
 | x :: l, k + 1, h => by
  have := aB w l (k := k) (by simpa using h)
  simp only [List.getElem_cons_succ, wsum]; omega
theorem fG {α : Type} (w : α → Nat) : ∀ (l : List α) {k : Nat} (h : k < l.length), wsum w (l.take (k + 1)) = wsum w (l.take k) + w l[k]
 | [], _, h => by simp at h
 | x :: l, 0, _ => by simp [wsum]
 | x :: l, k + 1, h => by
  have := fG w l (k := k) (by simpa using h)
  simp only [List.take_succ_cons, List.getElem_cons_succ, wsum]; omega
theorem iZ {α : Type} (w : α → Nat) : ∀ (l : List α) (k : Nat), wsum w (l.take k) ≤ wsum w l
 | [], k => by simp
 | x :: l, 0 => by simp [wsum]
 | x :: l, k + 1 => by
  have := iZ w l k
  simp only [List.take_succ_cons, wsum]; omega
@[go_sem] def bY (n : Int) : List D := [iv n]
@[go_sem] def ba (s : ByteArray) : List D := [sv s]
abbrev slI (l : List Int) : D := .sl (l.map bY)
abbrev slS (l : List ByteArray) : D := .sl (l.map ba)
def iw (l : List ByteArray) : Nat := l.length + wsum ByteArray.size l
def m5 (l : List Int) : Prop := l.length ≤ 9223372036854775807 ∧ ∀ i ∈ l, inR .i64 i
def EC (l : List ByteArray) : Prop := l.length ≤ 9223372036854775807 ∧ ∀ s ∈ l, s.size ≤ 9223372036854775807
theorem kN {n : Nat} {r : List D} (h : ShD tt n 3 r) : ∃ i, r = bY i ∧ inR .i64 i := by
 match n, h with
 | n + 1, ⟨i, h, hi⟩ => exact ⟨i, h, hi⟩
theorem w3 {n : Nat} {r : List D} (h : ShD tt n 9 r) : ∃ s : ByteArray, r = ba s ∧ s.size ≤ 9223372036854775807 := by
 match n, h with
 | n + 1, ⟨s, h, hs⟩ => exact ⟨s, h, hs⟩
theorem FR {n : Nat} {r : List D} (h : ShD tt n 4 r) : ∃ b : Bool, r = [bv b] := by
 match n, h with
 | n + 1, ⟨b, h⟩ => exact ⟨b, h⟩
theorem CW {n : Nat} {r : List D} (h : ShD tt n 118 r) : ∃ l : List Int, r = [slI l] ∧ m5 l := by
 match n, h with
 | n + 1, ⟨rows, h, hm, hr⟩ =>
  obtain ⟨l, rfl, hl⟩ := fT bY (inR .i64) (fun r h => kN (hr r h))
  exact ⟨l, h, by unfold maxLen at hm; simpa using hm, hl⟩
theorem zz (l : List Int) (hl : l.length ≤ 1048576) : FnC Tryz.prog 161 [.o (.d (slI l))] (.o (.w 3 1 (l.map bY))) := by
 refine ent Tryz.func161 rfl Tryz.call161 rfl (fun C => ?_); simp only [go_sem, st0, Tryz.ntmps161]
 refine af ?_
 refine ak (α := Nat) (fun k => [(4, oi k)]) (fun k => [(0, .row 3 1 (fx bY [iv 0] l k) true)]) (fun k => k ≤ l.length) (fun k => l.length - k) 0 (fun _ => ?_) ?_ ?_ (fun k hk => ?_)
 ·simp only [go_sem]
 ·simp only [go_sem]; simp [eM]
 ·simp
 ·simp only [go_sem]
  refine af ?_
  refine cnd rfl (fun h => ?_) (fun h => ?_)
  ·simp only [decide_eq_true_eq, Int.ofNat_lt] at h
   have q0 := @h; refine cw ?_
   refine ae (k + 1) ?_ ?_ ?_
   ·simp only [go_sem]; simp [← fA, h, bY]
   ·omega
   ·omega
  ·simp only [decide_eq_false_iff_not] at h
   have e : k = l.length := by omega
   subst e
   refine af ?_
   exact aa ⟨⟨_, rfl, by simp only [go_sem, fB]⟩, trivial⟩
theorem zA (l : List Int) (hl : l.length ≤ 67108864) : FnC Tryz.prog 169 [.o (.d (slI l)), .o (.d (slI l))] (ob true) := by
 refine ent Tryz.func169 rfl Tryz.call169 rfl (fun C => ?_); simp only [go_sem, st0, Tryz.ntmps169]
 refine af ?_
 refine ak (α := Nat) (fun k => [(5, oi k)]) (fun _ => []) (fun k => k ≤ l.length) (fun k => l.length - k) 0 (fun _ => ?_) ?_ ?_ (fun k hk => ?_)
 ·simp only [go_sem]
 ·simp only [go_sem]; simp
 ·simp
 ·simp only [go_sem]
  refine af ?_
  refine cnd rfl (fun h => ?_) (fun h => ?_)
  ·simp only [decide_eq_true_eq, Int.ofNat_lt] at h
   have q0 := @h; refine cw ?_
   refine ae (k + 1) ?_ ?_ ?_
   ·simp only [go_sem]; simp
   ·omega
   ·omega
  ·simp only [decide_eq_false_iff_not] at h
   refine af ?_
   exact aa ⟨⟨_, rfl, by simp only [go_sem]⟩, trivial⟩
theorem se (l : List Int) (n : Int) (h0 : 0 ≤ n ∧ n ≤ 1048576) (hw : m5 l) : FnC Tryz.prog 154 [.o (.d (slI l)), oi n] (oi (aS n l.length)) := by
 have h1 := hw.1
 refine ent Tryz.func154 rfl Tryz.call154 rfl (fun C => ?_); simp only [go_sem, st0, Tryz.ntmps154]
 by_cases hc : n - (l.length : Nat) < 0
 ·have q0 := @hc; refine cw ?_
  exact aa ⟨⟨_, rfl, by simp only [go_sem, au hc]⟩, trivial⟩
 ·have q0 := @hc; refine cw ?_
  exact aa ⟨⟨_, rfl, by simp only [go_sem, aC hc]⟩, trivial⟩
end Go.Proofs.YtddimbdeggomaaaGreat
end
section
set_option linter.all false
set_option maxHeartbeats 1000000
namespace Go.Proofs.YtddimbdeggomaaaGreat
open Go Go.Sx Go.RowKit Go.Proofs
structure TValue where
 fKind : Int
 fInt : Int
 fStr : ByteArray
@[go_sem] def Bi (x : TValue) : List D := [iv x.fKind, iv x.fInt, sv x.fStr]
@[go_sem] def dX (x : TValue) : SV := .g [.d (iv x.fKind), .d (iv x.fInt), .d (sv x.fStr)]
def cI (x : TValue) : Nat := x.fStr.size
def i4 (x : TValue) : Prop := inR .i64 x.fKind ∧ inR .i64 x.fInt ∧ x.fStr.size ≤ 9223372036854775807
def Fo (l : List TValue) : Nat := l.length + wsum cI l
def E9 (l : List TValue) : Prop := l.length ≤ 9223372036854775807 ∧ ∀ x ∈ l, i4 x
theorem vf {n : Nat} {r : List D} (h : ShD tt n 206 r) : ∃ x : TValue, r = Bi x ∧ i4 x := by
 match n, h with
 | n + 1, ⟨a0, b0, e0, h0, a1, b1, e1, h1, a2, b2, e2, h2, ee⟩ =>
  obtain ⟨x0, rfl, p0⟩ := kN h0
  obtain ⟨x1, rfl, p1⟩ := kN h1
  obtain ⟨x2, rfl, p2⟩ := w3 h2
  have ee' : b2 = [] := ee
  subst ee' e2 e1 e0
  exact ⟨⟨x0, x1, x2⟩, rfl, p0, p1, p2⟩
theorem i5 (x : TValue) (n : Int) (h0 : 0 ≤ n ∧ n ≤ 1048576) (hw : i4 x) : FnC Tryz.prog 249 [dX x, oi n] (oi (aS n (cI x))) := by
 refine ent Tryz.func249 rfl Tryz.call249 rfl (fun C => ?_); simp only [go_sem, st0, Tryz.ntmps249]
 unfold i4 at hw
 by_cases hc0 : n - (x.fStr.size : Nat) < 0
 ·have e : aS n (cI x) = -1 := by rw [au (by unfold cI; omega)]
  have q0 := @hc0; refine cw ?_
  exact aa ⟨⟨_, rfl, by simp only [go_sem, e]⟩, trivial⟩
 have e : aS n (cI x) = n - (x.fStr.size : Nat) := by rw [aC (by unfold cI; omega)]; unfold cI; omega
 have q0 := @hc0; refine cw ?_
 exact aa ⟨⟨_, rfl, by simp only [go_sem, e]⟩, trivial⟩
theorem pL (x : TValue) (hx : cI x ≤ 1048576) : FnC Tryz.prog 251 [dX x] (dX x) := by
 unfold cI at hx
 refine ent Tryz.func251 rfl Tryz.call251 rfl (fun C => ?_); simp only [go_sem, st0, Tryz.ntmps251]
 refine af ?_
 exact aa ⟨⟨_, rfl, by simp only [go_sem]⟩, trivial⟩
theorem pM (x : TValue) (hx : cI x ≤ 67108864) : FnC Tryz.prog 228 [dX x, dX x] (ob true) := by
 unfold cI at hx
 refine ent Tryz.func228 rfl Tryz.call228 rfl (fun C => ?_); simp only [go_sem, st0, Tryz.ntmps228]
 refine af ?_
 exact aa ⟨⟨_, rfl, by simp only [go_sem]⟩, trivial⟩
end Go.Proofs.YtddimbdeggomaaaGreat
end
section
set_option linter.all false
set_option maxHeartbeats 1000000
namespace Go.Proofs.YtddimbdeggomaaaGreat
open Go Go.Sx Go.RowKit Go.Proofs
structure TField where
 fName : ByteArray
 fKind : Int
@[go_sem] def aF (x : TField) : List D := [sv x.fName, iv x.fKind]
@[go_sem] def pN (x : TField) : SV := .g [.d (sv x.fName), .d (iv x.fKind)]
def wField (x : TField) : Nat := x.fName.size
def mb (x : TField) : Prop := x.fName.size ≤ 9223372036854775807 ∧ inR .i64 x.fKind
def aj (l : List TField) : Nat := l.length + wsum wField l
def mc (l : List TField) : Prop := l.length ≤ 9223372036854775807 ∧ ∀ x ∈ l, mb x
theorem Bj {n : Nat} {r : List D} (h : ShD tt n 188 r) : ∃ x : TField, r = aF x ∧ mb x := by
 match n, h with
 | n + 1, ⟨a0, b0, e0, h0, a1, b1, e1, h1, ee⟩ =>
  obtain ⟨x0, rfl, p0⟩ := w3 h0
  obtain ⟨x1, rfl, p1⟩ := kN h1
  have ee' : b1 = [] := ee
  subst ee' e1 e0
  exact ⟨⟨x0, x1⟩, rfl, p0, p1⟩
theorem zB {n : Nat} {r : List D} (h : ShD tt n 22 r) : ∃ l : List TField, r = [.sl (l.map aF)] ∧ mc l := by
 match n, h with
 | n + 1, ⟨rows, h, hm, hr⟩ =>
  obtain ⟨l, rfl, hl⟩ := fT aF mb (fun r h => Bj (hr r h))
  exact ⟨l, h, by unfold maxLen at hm; simpa using hm, hl⟩
theorem pO (x : TField) (n : Int) (h0 : 0 ≤ n ∧ n ≤ 1048576) (hw : mb x) : FnC Tryz.prog 153 [pN x, oi n] (oi (aS n (wField x))) := by
 refine ent Tryz.func153 rfl Tryz.call153 rfl (fun C => ?_); simp only [go_sem, st0, Tryz.ntmps153]
 unfold mb at hw
 by_cases hc0 : n - (x.fName.size : Nat) < 0
 ·have e : aS n (wField x) = -1 := by rw [au (by unfold wField; omega)]
  have q0 := @hc0; refine cw ?_
  exact aa ⟨⟨_, rfl, by simp only [go_sem, e]⟩, trivial⟩
 have e : aS n (wField x) = n - (x.fName.size : Nat) := by rw [aC (by unfold wField; omega)]; unfold wField; omega
 have q0 := @hc0; refine cw ?_
 exact aa ⟨⟨_, rfl, by simp only [go_sem, e]⟩, trivial⟩
theorem w4 (x : TField) (hx : wField x ≤ 1048576) : FnC Tryz.prog 160 [pN x] (pN x) := by
 unfold wField at hx
 refine ent Tryz.func160 rfl Tryz.call160 rfl (fun C => ?_); simp only [go_sem, st0, Tryz.ntmps160]
 refine af ?_
 exact aa ⟨⟨_, rfl, by simp only [go_sem]⟩, trivial⟩
theorem w5 (x : TField) (hx : wField x ≤ 67108864) : FnC Tryz.prog 170 [pN x, pN x] (ob true) := by
 unfold wField at hx
 refine ent Tryz.func170 rfl Tryz.call170 rfl (fun C => ?_); simp only [go_sem, st0, Tryz.ntmps170]
 refine af ?_
 exact aa ⟨⟨_, rfl, by simp only [go_sem]⟩, trivial⟩
theorem vg (l : List TField) (hl : aj l ≤ 1048576) : FnC Tryz.prog 86 [.o (.d (.sl (l.map aF)))] (.o (.w 193 2 (l.map aF))) := by
 unfold aj at hl
 refine ent Tryz.func86 rfl Tryz.call86 rfl (fun C => ?_); simp only [go_sem, st0, Tryz.ntmps86]
 refine af ?_
 refine ak (α := Nat) (fun k => [(4, oi k)]) (fun k => [(0, .row 193 2 (fx aF [sv ⟨#[]⟩, iv 0] l k) true)]) (fun k => k ≤ l.length) (fun k => l.length - k) 0 (fun _ => ?_) ?_ ?_ (fun k hk => ?_)
 ·simp only [go_sem]
 ·simp only [go_sem]; simp [eM]
 ·simp
 ·simp only [go_sem]
  refine af ?_
  refine cnd rfl (fun h => ?_) (fun h => ?_)
  ·simp only [decide_eq_true_eq, Int.ofNat_lt] at h
   have hw := aB wField l h
   have q0 := @h; refine cg (w4 l[k] (by omega)) ?_
   refine ae (k + 1) ?_ ?_ ?_
   ·simp only [go_sem]; simp [← fA, h, aF]
   ·omega
   ·omega
  ·simp only [decide_eq_false_iff_not] at h
   have e : k = l.length := by omega
   subst e
   refine af ?_
   exact aa ⟨⟨_, rfl, by simp only [go_sem, fB]⟩, trivial⟩
theorem vh (l : List TField) (hl : aj l ≤ 67108864) : FnC Tryz.prog 91 [.o (.d (.sl (l.map aF))), .o (.d (.sl (l.map aF)))] (ob true) := by
 unfold aj at hl
 refine ent Tryz.func91 rfl Tryz.call91 rfl (fun C => ?_); simp only [go_sem, st0, Tryz.ntmps91]
 refine af ?_
 refine ak (α := Nat) (fun k => [(5, oi k)]) (fun _ => []) (fun k => k ≤ l.length) (fun k => l.length - k) 0 (fun _ => ?_) ?_ ?_ (fun k hk => ?_)
 ·simp only [go_sem]
 ·simp only [go_sem]; simp
 ·simp
 ·simp only [go_sem]
  refine af ?_
  refine cnd rfl (fun h => ?_) (fun h => ?_)
  ·simp only [decide_eq_true_eq, Int.ofNat_lt] at h
   have hw := aB wField l h
   have q0 := @h; refine cg (w5 l[k] (by omega)) ?_
   refine ae (k + 1) ?_ ?_ ?_
   ·simp only [go_sem]; simp
   ·omega
   ·omega
  ·simp only [decide_eq_false_iff_not] at h
   refine af ?_
   exact aa ⟨⟨_, rfl, by simp only [go_sem]⟩, trivial⟩
theorem jU (l : List TField) (n : Int) (h0 : 0 ≤ n ∧ n ≤ 1048576) (hw : mc l) : FnC Tryz.prog 76 [.o (.d (.sl (l.map aF))), oi n] (oi (aS n (aj l))) := by
 unfold mc at hw
 refine ent Tryz.func76 rfl Tryz.call76 rfl (fun C => ?_); simp only [go_sem, st0, Tryz.ntmps76]
 by_cases hc : n - (l.length : Nat) < 0
 ·have e : aS n (aj l) = -1 := by rw [au (by unfold aj; omega)]
  have q0 := @hc; refine cw ?_
  exact aa ⟨⟨_, rfl, by simp only [go_sem, e]⟩, trivial⟩
 have q0 := @hc; refine cw ?_
 refine ak (α := Nat) (fun k => [(5, oi k), (1, oi (n - (l.length : Nat) - (wsum wField (l.take k) : Nat)))]) (fun _ => []) (fun k => k ≤ l.length ∧ 0 ≤ n - (l.length : Nat) - (wsum wField (l.take k) : Nat)) (fun k => l.length - k) 0 (fun _ => ?_) ?_ ?_ (fun k hk => ?_)
 ·simp only [go_sem]
 ·simp only [go_sem]; simp [wsum]
 ·simp [wsum]; omega
 ·obtain ⟨hk, hn⟩ := hk
  simp only [go_sem]
  refine af ?_
  refine cnd rfl (fun h => ?_) (fun h => ?_)
  ·simp only [decide_eq_true_eq, Int.ofNat_lt] at h
   have hs := fG wField l h
   have ht := iZ wField l (k + 1)
   by_cases h2 : n - (l.length : Nat) - (wsum wField (l.take k) : Nat) - (wField l[k] : Nat) < 0
   ·have e : aS n (aj l) = -1 := by rw [au (by unfold aj; omega)]
    have q0 := @h; have q1 := au h2; refine fZ (pO l[k] _ ⟨hn, by omega⟩ (hw.2 _ (List.getElem_mem h))) ?_
    exact aa ⟨⟨_, rfl, by simp only [go_sem, e]⟩, trivial⟩
   ·have q0 := @h; have q1 := aC h2; have q2 := @h2; refine f0 (pO l[k] _ ⟨hn, by omega⟩ (hw.2 _ (List.getElem_mem h))) ?_
    refine ae (k + 1) ?_ ?_ ?_
    ·simp only [go_sem]; simp; omega
    ·omega
    ·omega
  ·simp only [decide_eq_false_iff_not] at h
   have e0 : k = l.length := by omega
   subst e0
   rw [List.take_length] at hn
   have e : aS n (aj l) = n - (l.length : Nat) - (wsum wField l : Nat) := by rw [aC (by unfold aj; omega)]; unfold aj; omega
   refine af ?_
   exact aa ⟨⟨_, rfl, by simp only [go_sem, e, List.take_length]⟩, trivial⟩
end Go.Proofs.YtddimbdeggomaaaGreat
end
section
set_option linter.all false
set_option maxHeartbeats 1000000
namespace Go.Proofs.YtddimbdeggomaaaGreat
open Go Go.Sx Go.RowKit Go.Proofs
structure TAttr where
 fName : ByteArray
 fValue : TValue
@[go_sem] def aK (x : TAttr) : List D := [sv x.fName, iv x.fValue.fKind, iv x.fValue.fInt, sv x.fValue.fStr]
@[go_sem] def me (x : TAttr) : SV := .g [.d (sv x.fName), .d (iv x.fValue.fKind), .d (iv x.fValue.fInt), .d (sv x.fValue.fStr)]
def wAttr (x : TAttr) : Nat := x.fName.size + cI x.fValue
def pP (x : TAttr) : Prop := x.fName.size ≤ 9223372036854775807 ∧ i4 x.fValue
def bg (l : List TAttr) : Nat := l.length + wsum wAttr l
def mf (l : List TAttr) : Prop := l.length ≤ 9223372036854775807 ∧ ∀ x ∈ l, pP x
theorem CX {n : Nat} {r : List D} (h : ShD tt n 208 r) : ∃ x : TAttr, r = aK x ∧ pP x := by
 match n, h with
 | n + 1, ⟨a0, b0, e0, h0, a1, b1, e1, h1, ee⟩ =>
  obtain ⟨x0, rfl, p0⟩ := w3 h0
  obtain ⟨x1, rfl, p1⟩ := vf h1
  have ee' : b1 = [] := ee
  subst ee' e1 e0
  exact ⟨⟨x0, x1⟩, rfl, p0, p1⟩
theorem Bk {n : Nat} {r : List D} (h : ShD tt n 62 r) : ∃ l : List TAttr, r = [.sl (l.map aK)] ∧ mf l := by
 match n, h with
 | n + 1, ⟨rows, h, hm, hr⟩ =>
  obtain ⟨l, rfl, hl⟩ := fT aK pP (fun r h => CX (hr r h))
  exact ⟨l, h, by unfold maxLen at hm; simpa using hm, hl⟩
theorem sf (x : TAttr) (n : Int) (h0 : 0 ≤ n ∧ n ≤ 1048576) (hw : pP x) : FnC Tryz.prog 179 [me x, oi n] (oi (aS n (wAttr x))) := by
 refine ent Tryz.func179 rfl Tryz.call179 rfl (fun C => ?_); simp only [go_sem, st0, Tryz.ntmps179]
 unfold pP at hw
 by_cases hc0 : n - (x.fName.size : Nat) < 0
 ·have e : aS n (wAttr x) = -1 := by rw [au (by unfold wAttr; omega)]
  have q0 := @hc0; refine cw ?_
  exact aa ⟨⟨_, rfl, by simp only [go_sem, e]⟩, trivial⟩
 by_cases hc1 : n - (x.fName.size : Nat) - (cI x.fValue : Nat) < 0
 ·have e : aS n (wAttr x) = -1 := by rw [au (by unfold wAttr; omega)]
  have q0 := @hc0; have q1 := au hc1; have q2 := @hc1; refine f0 (i5 x.fValue (n - (x.fName.size : Nat)) (by omega) hw.2) ?_
  exact aa ⟨⟨_, rfl, by simp only [go_sem, e]⟩, trivial⟩
 have e : aS n (wAttr x) = n - (x.fName.size : Nat) - (cI x.fValue : Nat) := by rw [aC (by unfold wAttr; omega)]; unfold wAttr; omega
 have q0 := @hc0; have q1 := aC hc1; have q2 := @hc1; refine f0 (i5 x.fValue (n - (x.fName.size : Nat)) (by omega) hw.2) ?_
 exact aa ⟨⟨_, rfl, by simp only [go_sem, e]⟩, trivial⟩
theorem zC (x : TAttr) (hx : wAttr x ≤ 1048576) : FnC Tryz.prog 183 [me x] (me x) := by
 unfold wAttr at hx
 refine ent Tryz.func183 rfl Tryz.call183 rfl (fun C => ?_); simp only [go_sem, st0, Tryz.ntmps183]
 refine cH (pL x.fValue (by omega)) ?_
 exact aa ⟨⟨_, rfl, by simp only [go_sem]⟩, trivial⟩
theorem zD (x : TAttr) (hx : wAttr x ≤ 67108864) : FnC Tryz.prog 147 [me x, me x] (ob true) := by
 unfold wAttr at hx
 refine ent Tryz.func147 rfl Tryz.call147 rfl (fun C => ?_); simp only [go_sem, st0, Tryz.ntmps147]
 refine cH (pM x.fValue (by omega)) ?_
 exact aa ⟨⟨_, rfl, by simp only [go_sem]⟩, trivial⟩
theorem w6 (l : List TAttr) (hl : bg l ≤ 1048576) : FnC Tryz.prog 113 [.o (.d (.sl (l.map aK)))] (.o (.w 181 4 (l.map aK))) := by
 unfold bg at hl
 refine ent Tryz.func113 rfl Tryz.call113 rfl (fun C => ?_); simp only [go_sem, st0, Tryz.ntmps113]
 refine af ?_
 refine ak (α := Nat) (fun k => [(4, oi k)]) (fun k => [(0, .row 181 4 (fx aK [sv ⟨#[]⟩, iv 0, iv 0, sv ⟨#[]⟩] l k) true)]) (fun k => k ≤ l.length) (fun k => l.length - k) 0 (fun _ => ?_) ?_ ?_ (fun k hk => ?_)
 ·simp only [go_sem]
 ·simp only [go_sem]; simp [eM]
 ·simp
 ·simp only [go_sem]
  refine af ?_
  refine cnd rfl (fun h => ?_) (fun h => ?_)
  ·simp only [decide_eq_true_eq, Int.ofNat_lt] at h
   have hw := aB wAttr l h
   have q0 := @h; refine cg (zC l[k] (by omega)) ?_
   refine ae (k + 1) ?_ ?_ ?_
   ·simp only [go_sem]; simp [← fA, h, aK]
   ·omega
   ·omega
  ·simp only [decide_eq_false_iff_not] at h
   have e : k = l.length := by omega
   subst e
   refine af ?_
   exact aa ⟨⟨_, rfl, by simp only [go_sem, fB]⟩, trivial⟩
theorem w7 (l : List TAttr) (hl : bg l ≤ 67108864) : FnC Tryz.prog 65 [.o (.d (.sl (l.map aK))), .o (.d (.sl (l.map aK)))] (ob true) := by
 unfold bg at hl
 refine ent Tryz.func65 rfl Tryz.call65 rfl (fun C => ?_); simp only [go_sem, st0, Tryz.ntmps65]
 refine af ?_
 refine ak (α := Nat) (fun k => [(5, oi k)]) (fun _ => []) (fun k => k ≤ l.length) (fun k => l.length - k) 0 (fun _ => ?_) ?_ ?_ (fun k hk => ?_)
 ·simp only [go_sem]
 ·simp only [go_sem]; simp
 ·simp
 ·simp only [go_sem]
  refine af ?_
  refine cnd rfl (fun h => ?_) (fun h => ?_)
  ·simp only [decide_eq_true_eq, Int.ofNat_lt] at h
   have hw := aB wAttr l h
   have q0 := @h; refine cg (zD l[k] (by omega)) ?_
   refine ae (k + 1) ?_ ?_ ?_
   ·simp only [go_sem]; simp
   ·omega
   ·omega
  ·simp only [decide_eq_false_iff_not] at h
   refine af ?_
   exact aa ⟨⟨_, rfl, by simp only [go_sem]⟩, trivial⟩
theorem pQ (l : List TAttr) (n : Int) (h0 : 0 ≤ n ∧ n ≤ 1048576) (hw : mf l) : FnC Tryz.prog 107 [.o (.d (.sl (l.map aK))), oi n] (oi (aS n (bg l))) := by
 unfold mf at hw
 refine ent Tryz.func107 rfl Tryz.call107 rfl (fun C => ?_); simp only [go_sem, st0, Tryz.ntmps107]
 by_cases hc : n - (l.length : Nat) < 0
 ·have e : aS n (bg l) = -1 := by rw [au (by unfold bg; omega)]
  have q0 := @hc; refine cw ?_
  exact aa ⟨⟨_, rfl, by simp only [go_sem, e]⟩, trivial⟩
 have q0 := @hc; refine cw ?_
 refine ak (α := Nat) (fun k => [(5, oi k), (1, oi (n - (l.length : Nat) - (wsum wAttr (l.take k) : Nat)))]) (fun _ => []) (fun k => k ≤ l.length ∧ 0 ≤ n - (l.length : Nat) - (wsum wAttr (l.take k) : Nat)) (fun k => l.length - k) 0 (fun _ => ?_) ?_ ?_ (fun k hk => ?_)
 ·simp only [go_sem]
 ·simp only [go_sem]; simp [wsum]
 ·simp [wsum]; omega
 ·obtain ⟨hk, hn⟩ := hk
  simp only [go_sem]
  refine af ?_
  refine cnd rfl (fun h => ?_) (fun h => ?_)
  ·simp only [decide_eq_true_eq, Int.ofNat_lt] at h
   have hs := fG wAttr l h
   have ht := iZ wAttr l (k + 1)
   by_cases h2 : n - (l.length : Nat) - (wsum wAttr (l.take k) : Nat) - (wAttr l[k] : Nat) < 0
   ·have e : aS n (bg l) = -1 := by rw [au (by unfold bg; omega)]
    have q0 := @h; have q1 := au h2; refine fZ (sf l[k] _ ⟨hn, by omega⟩ (hw.2 _ (List.getElem_mem h))) ?_
    exact aa ⟨⟨_, rfl, by simp only [go_sem, e]⟩, trivial⟩
   ·have q0 := @h; have q1 := aC h2; have q2 := @h2; refine f0 (sf l[k] _ ⟨hn, by omega⟩ (hw.2 _ (List.getElem_mem h))) ?_
    refine ae (k + 1) ?_ ?_ ?_
    ·simp only [go_sem]; simp; omega
    ·omega
    ·omega
  ·simp only [decide_eq_false_iff_not] at h
   have e0 : k = l.length := by omega
   subst e0
   rw [List.take_length] at hn
   have e : aS n (bg l) = n - (l.length : Nat) - (wsum wAttr l : Nat) := by rw [aC (by unfold bg; omega)]; unfold bg; omega
   refine af ?_
   exact aa ⟨⟨_, rfl, by simp only [go_sem, e, List.take_length]⟩, trivial⟩
end Go.Proofs.YtddimbdeggomaaaGreat
end
section
set_option linter.all false
set_option maxHeartbeats 1000000
namespace Go.Proofs.YtddimbdeggomaaaGreat
open Go Go.Sx Go.RowKit Go.Proofs
structure TFile where
 fID : Int
 fOwner : Int
 fShared : Bool
 fLink : Int
 fAttrs : List TAttr
@[go_sem] def aR (x : TFile) : List D := [iv x.fID, iv x.fOwner, bv x.fShared, iv x.fLink, .sl (x.fAttrs.map aK)]
@[go_sem] def a8 (x : TFile) : SV := .g [.d (iv x.fID), .d (iv x.fOwner), .d (bv x.fShared), .d (iv x.fLink), .d (.sl (x.fAttrs.map aK))]
@[go_sem] def nT (x : TFile) : SV := .g [.d (iv x.fID), .d (iv x.fOwner), .d (bv x.fShared), .d (iv x.fLink), .w 181 4 (x.fAttrs.map aK)]
def wFile (x : TFile) : Nat := bg x.fAttrs
def m6 (x : TFile) : Prop := inR .i64 x.fID ∧ inR .i64 x.fOwner ∧ True ∧ inR .i64 x.fLink ∧ mf x.fAttrs
def aT (l : List TFile) : Nat := l.length + wsum wFile l
def oJ (l : List TFile) : Prop := l.length ≤ 9223372036854775807 ∧ ∀ x ∈ l, m6 x
theorem CY {n : Nat} {r : List D} (h : ShD tt n 64 r) : ∃ x : TFile, r = aR x ∧ m6 x := by
 match n, h with
 | n + 1, ⟨a0, b0, e0, h0, a1, b1, e1, h1, a2, b2, e2, h2, a3, b3, e3, h3, a4, b4, e4, h4, ee⟩ =>
  obtain ⟨x0, rfl, p0⟩ := kN h0
  obtain ⟨x1, rfl, p1⟩ := kN h1
  obtain ⟨x2, rfl⟩ := FR h2
  obtain ⟨x3, rfl, p3⟩ := kN h3
  obtain ⟨x4, rfl, p4⟩ := Bk h4
  have ee' : b4 = [] := ee
  subst ee' e4 e3 e2 e1 e0
  exact ⟨⟨x0, x1, x2, x3, x4⟩, rfl, p0, p1, trivial, p3, p4⟩
theorem Bl {n : Nat} {r : List D} (h : ShD tt n 23 r) : ∃ l : List TFile, r = [.sl (l.map aR)] ∧ oJ l := by
 match n, h with
 | n + 1, ⟨rows, h, hm, hr⟩ =>
  obtain ⟨l, rfl, hl⟩ := fT aR m6 (fun r h => CY (hr r h))
  exact ⟨l, h, by unfold maxLen at hm; simpa using hm, hl⟩
theorem sg (x : TFile) (n : Int) (h0 : 0 ≤ n ∧ n ≤ 1048576) (hw : m6 x) : FnC Tryz.prog 39 [a8 x, oi n] (oi (aS n (wFile x))) := by
 refine ent Tryz.func39 rfl Tryz.call39 rfl (fun C => ?_); simp only [go_sem, st0, Tryz.ntmps39]
 unfold m6 at hw
 by_cases hc0 : n - (bg x.fAttrs : Nat) < 0
 ·have e : aS n (wFile x) = -1 := by rw [au (by unfold wFile; omega)]
  have q0 := au hc0; have q1 := @hc0; refine fZ (pQ x.fAttrs (n) (by omega) hw.2.2.2.2) ?_
  exact aa ⟨⟨_, rfl, by simp only [go_sem, e]⟩, trivial⟩
 have e : aS n (wFile x) = n - (bg x.fAttrs : Nat) := by rw [aC (by unfold wFile; omega)]; unfold wFile; omega
 have q0 := aC hc0; have q1 := @hc0; refine fZ (pQ x.fAttrs (n) (by omega) hw.2.2.2.2) ?_
 exact aa ⟨⟨_, rfl, by simp only [go_sem, e]⟩, trivial⟩
theorem zE (x : TFile) (hx : wFile x ≤ 1048576) : FnC Tryz.prog 42 [a8 x] (nT x) := by
 unfold wFile at hx
 refine ent Tryz.func42 rfl Tryz.call42 rfl (fun C => ?_); simp only [go_sem, st0, Tryz.ntmps42]
 refine cH (w6 x.fAttrs (by omega)) ?_
 exact aa ⟨⟨_, rfl, by simp only [go_sem]⟩, trivial⟩
theorem zG (x : TFile) (hx : wFile x ≤ 67108864) : FnC Tryz.prog 45 [a8 x, a8 x] (ob true) := by
 unfold wFile at hx
 refine ent Tryz.func45 rfl Tryz.call45 rfl (fun C => ?_); simp only [go_sem, st0, Tryz.ntmps45]
 refine cH (w7 x.fAttrs (by omega)) ?_
 exact aa ⟨⟨_, rfl, by simp only [go_sem]⟩, trivial⟩
theorem w8 (l : List TFile) (hl : aT l ≤ 1048576) : FnC Tryz.prog 87 [.o (.d (.sl (l.map aR)))] (.o (.w 73 5 (l.map aR))) := by
 unfold aT at hl
 refine ent Tryz.func87 rfl Tryz.call87 rfl (fun C => ?_); simp only [go_sem, st0, Tryz.ntmps87]
 refine af ?_
 refine ak (α := Nat) (fun k => [(4, oi k)]) (fun k => [(0, .row 73 5 (fx aR [iv 0, iv 0, bv false, iv 0, .sl []] l k) true)]) (fun k => k ≤ l.length) (fun k => l.length - k) 0 (fun _ => ?_) ?_ ?_ (fun k hk => ?_)
 ·simp only [go_sem]
 ·simp only [go_sem]; simp [eM]
 ·simp
 ·simp only [go_sem]
  refine af ?_
  refine cnd rfl (fun h => ?_) (fun h => ?_)
  ·simp only [decide_eq_true_eq, Int.ofNat_lt] at h
   have hw := aB wFile l h
   have q0 := @h; refine cg (zE l[k] (by omega)) ?_
   refine ae (k + 1) ?_ ?_ ?_
   ·simp only [go_sem]; simp [← fA, h, aR]
   ·omega
   ·omega
  ·simp only [decide_eq_false_iff_not] at h
   have e : k = l.length := by omega
   subst e
   refine af ?_
   exact aa ⟨⟨_, rfl, by simp only [go_sem, fB]⟩, trivial⟩
theorem w9 (l : List TFile) (hl : aT l ≤ 67108864) : FnC Tryz.prog 92 [.o (.d (.sl (l.map aR))), .o (.d (.sl (l.map aR)))] (ob true) := by
 unfold aT at hl
 refine ent Tryz.func92 rfl Tryz.call92 rfl (fun C => ?_); simp only [go_sem, st0, Tryz.ntmps92]
 refine af ?_
 refine ak (α := Nat) (fun k => [(5, oi k)]) (fun _ => []) (fun k => k ≤ l.length) (fun k => l.length - k) 0 (fun _ => ?_) ?_ ?_ (fun k hk => ?_)
 ·simp only [go_sem]
 ·simp only [go_sem]; simp
 ·simp
 ·simp only [go_sem]
  refine af ?_
  refine cnd rfl (fun h => ?_) (fun h => ?_)
  ·simp only [decide_eq_true_eq, Int.ofNat_lt] at h
   have hw := aB wFile l h
   have q0 := @h; refine cg (zG l[k] (by omega)) ?_
   refine ae (k + 1) ?_ ?_ ?_
   ·simp only [go_sem]; simp
   ·omega
   ·omega
  ·simp only [decide_eq_false_iff_not] at h
   refine af ?_
   exact aa ⟨⟨_, rfl, by simp only [go_sem]⟩, trivial⟩
theorem pR (l : List TFile) (n : Int) (h0 : 0 ≤ n ∧ n ≤ 1048576) (hw : oJ l) : FnC Tryz.prog 77 [.o (.d (.sl (l.map aR))), oi n] (oi (aS n (aT l))) := by
 unfold oJ at hw
 refine ent Tryz.func77 rfl Tryz.call77 rfl (fun C => ?_); simp only [go_sem, st0, Tryz.ntmps77]
 by_cases hc : n - (l.length : Nat) < 0
 ·have e : aS n (aT l) = -1 := by rw [au (by unfold aT; omega)]
  have q0 := @hc; refine cw ?_
  exact aa ⟨⟨_, rfl, by simp only [go_sem, e]⟩, trivial⟩
 have q0 := @hc; refine cw ?_
 refine ak (α := Nat) (fun k => [(5, oi k), (1, oi (n - (l.length : Nat) - (wsum wFile (l.take k) : Nat)))]) (fun _ => []) (fun k => k ≤ l.length ∧ 0 ≤ n - (l.length : Nat) - (wsum wFile (l.take k) : Nat)) (fun k => l.length - k) 0 (fun _ => ?_) ?_ ?_ (fun k hk => ?_)
 ·simp only [go_sem]
 ·simp only [go_sem]; simp [wsum]
 ·simp [wsum]; omega
 ·obtain ⟨hk, hn⟩ := hk
  simp only [go_sem]
  refine af ?_
  refine cnd rfl (fun h => ?_) (fun h => ?_)
  ·simp only [decide_eq_true_eq, Int.ofNat_lt] at h
   have hs := fG wFile l h
   have ht := iZ wFile l (k + 1)
   by_cases h2 : n - (l.length : Nat) - (wsum wFile (l.take k) : Nat) - (wFile l[k] : Nat) < 0
   ·have e : aS n (aT l) = -1 := by rw [au (by unfold aT; omega)]
    have q0 := @h; have q1 := au h2; refine fZ (sg l[k] _ ⟨hn, by omega⟩ (hw.2 _ (List.getElem_mem h))) ?_
    exact aa ⟨⟨_, rfl, by simp only [go_sem, e]⟩, trivial⟩
   ·have q0 := @h; have q1 := aC h2; have q2 := @h2; refine f0 (sg l[k] _ ⟨hn, by omega⟩ (hw.2 _ (List.getElem_mem h))) ?_
    refine ae (k + 1) ?_ ?_ ?_
    ·simp only [go_sem]; simp; omega
    ·omega
    ·omega
  ·simp only [decide_eq_false_iff_not] at h
   have e0 : k = l.length := by omega
   subst e0
   rw [List.take_length] at hn
   have e : aS n (aT l) = n - (l.length : Nat) - (wsum wFile l : Nat) := by rw [aC (by unfold aT; omega)]; unfold aT; omega
   refine af ?_
   exact aa ⟨⟨_, rfl, by simp only [go_sem, e, List.take_length]⟩, trivial⟩
end Go.Proofs.YtddimbdeggomaaaGreat
end
section
set_option linter.all false
set_option maxHeartbeats 1000000
namespace Go.Proofs.YtddimbdeggomaaaGreat
open Go Go.Sx Go.RowKit Go.Proofs
structure TStore where
 fSchema : List TField
 fFiles : List TFile
 fNextID : Int
@[go_sem] def Bm (x : TStore) : List D := [.sl (x.fSchema.map aF), .sl (x.fFiles.map aR), iv x.fNextID]
@[go_sem] def bV (x : TStore) : SV := .g [.d (.sl (x.fSchema.map aF)), .d (.sl (x.fFiles.map aR)), .d (iv x.fNextID)]
@[go_sem] def pS (x : TStore) : SV := .g [.w 193 2 (x.fSchema.map aF), .w 73 5 (x.fFiles.map aR), .d (iv x.fNextID)]
def al (x : TStore) : Nat := aj x.fSchema + aT x.fFiles
def kw (x : TStore) : Prop := mc x.fSchema ∧ oJ x.fFiles ∧ inR .i64 x.fNextID
def Fp (l : List TStore) : Nat := l.length + wsum al l
def Fa (l : List TStore) : Prop := l.length ≤ 9223372036854775807 ∧ ∀ x ∈ l, kw x
theorem Bn {n : Nat} {r : List D} (h : ShD tt n 25 r) : ∃ x : TStore, r = Bm x ∧ kw x := by
 match n, h with
 | n + 1, ⟨a0, b0, e0, h0, a1, b1, e1, h1, a2, b2, e2, h2, ee⟩ =>
  obtain ⟨x0, rfl, p0⟩ := zB h0
  obtain ⟨x1, rfl, p1⟩ := Bl h1
  obtain ⟨x2, rfl, p2⟩ := kN h2
  have ee' : b2 = [] := ee
  subst ee' e2 e1 e0
  exact ⟨⟨x0, x1, x2⟩, rfl, p0, p1, p2⟩
theorem i6 (x : TStore) (n : Int) (h0 : 0 ≤ n ∧ n ≤ 1048576) (hw : kw x) : FnC Tryz.prog 14 [bV x, oi n] (oi (aS n (al x))) := by
 refine ent Tryz.func14 rfl Tryz.call14 rfl (fun C => ?_); simp only [go_sem, st0, Tryz.ntmps14]
 unfold kw at hw
 by_cases hc0 : n - (aj x.fSchema : Nat) < 0
 ·have e : aS n (al x) = -1 := by rw [au (by unfold al; omega)]
  have q0 := au hc0; have q1 := @hc0; refine fZ (jU x.fSchema (n) (by omega) hw.1) ?_
  exact aa ⟨⟨_, rfl, by simp only [go_sem, e]⟩, trivial⟩
 by_cases hc1 : n - (aj x.fSchema : Nat) - (aT x.fFiles : Nat) < 0
 ·have e : aS n (al x) = -1 := by rw [au (by unfold al; omega)]
  have q0 := aC hc0; have q1 := @hc0; have q2 := au hc1; have q3 := @hc1; refine mY (jU x.fSchema (n) (by omega) hw.1) (pR x.fFiles (n - (aj x.fSchema : Nat)) (by omega) hw.2.1) ?_
  exact aa ⟨⟨_, rfl, by simp only [go_sem, e]⟩, trivial⟩
 have e : aS n (al x) = n - (aj x.fSchema : Nat) - (aT x.fFiles : Nat) := by rw [aC (by unfold al; omega)]; unfold al; omega
 have q0 := aC hc0; have q1 := @hc0; have q2 := aC hc1; have q3 := @hc1; refine mY (jU x.fSchema (n) (by omega) hw.1) (pR x.fFiles (n - (aj x.fSchema : Nat)) (by omega) hw.2.1) ?_
 exact aa ⟨⟨_, rfl, by simp only [go_sem, e]⟩, trivial⟩
theorem xa (x : TStore) (hx : al x ≤ 1048576) : FnC Tryz.prog 19 [bV x] (pS x) := by
 unfold al at hx
 refine ent Tryz.func19 rfl Tryz.call19 rfl (fun C => ?_); simp only [go_sem, st0, Tryz.ntmps19]
 refine Bc (vg x.fSchema (by omega)) (w8 x.fFiles (by omega)) ?_
 exact aa ⟨⟨_, rfl, by simp only [go_sem]⟩, trivial⟩
theorem xb (x : TStore) (hx : al x ≤ 67108864) : FnC Tryz.prog 25 [bV x, bV x] (ob true) := by
 unfold al at hx
 refine ent Tryz.func25 rfl Tryz.call25 rfl (fun C => ?_); simp only [go_sem, st0, Tryz.ntmps25]
 refine Bc (vh x.fSchema (by omega)) (w9 x.fFiles (by omega)) ?_
 exact aa ⟨⟨_, rfl, by simp only [go_sem]⟩, trivial⟩
end Go.Proofs.YtddimbdeggomaaaGreat
end
section
set_option linter.all false
set_option maxHeartbeats 1000000
namespace Go.Proofs.YtddimbdeggomaaaGreat
open Go Go.Sx Go.RowKit Go.Proofs
structure TNode where
 fOp : Int
 fLeft : Int
 fRight : Int
 fName : ByteArray
 fValue : TValue
@[go_sem] def aw (x : TNode) : List D := [iv x.fOp, iv x.fLeft, iv x.fRight, sv x.fName, iv x.fValue.fKind, iv x.fValue.fInt, sv x.fValue.fStr]
@[go_sem] def jt (x : TNode) : SV := .g [.d (iv x.fOp), .d (iv x.fLeft), .d (iv x.fRight), .d (sv x.fName), .d (iv x.fValue.fKind), .d (iv x.fValue.fInt), .d (sv x.fValue.fStr)]
def wNode (x : TNode) : Nat := x.fName.size + cI x.fValue
def pT (x : TNode) : Prop := inR .i64 x.fOp ∧ inR .i64 x.fLeft ∧ inR .i64 x.fRight ∧ x.fName.size ≤ 9223372036854775807 ∧ i4 x.fValue
def bb (l : List TNode) : Nat := l.length + wsum wNode l
def oK (l : List TNode) : Prop := l.length ≤ 9223372036854775807 ∧ ∀ x ∈ l, pT x
theorem CZ {n : Nat} {r : List D} (h : ShD tt n 215 r) : ∃ x : TNode, r = aw x ∧ pT x := by
 match n, h with
 | n + 1, ⟨a0, b0, e0, h0, a1, b1, e1, h1, a2, b2, e2, h2, a3, b3, e3, h3, a4, b4, e4, h4, ee⟩ =>
  obtain ⟨x0, rfl, p0⟩ := kN h0
  obtain ⟨x1, rfl, p1⟩ := kN h1
  obtain ⟨x2, rfl, p2⟩ := kN h2
  obtain ⟨x3, rfl, p3⟩ := w3 h3
  obtain ⟨x4, rfl, p4⟩ := vf h4
  have ee' : b4 = [] := ee
  subst ee' e4 e3 e2 e1 e0
  exact ⟨⟨x0, x1, x2, x3, x4⟩, rfl, p0, p1, p2, p3, p4⟩
theorem Bo {n : Nat} {r : List D} (h : ShD tt n 86 r) : ∃ l : List TNode, r = [.sl (l.map aw)] ∧ oK l := by
 match n, h with
 | n + 1, ⟨rows, h, hm, hr⟩ =>
  obtain ⟨l, rfl, hl⟩ := fT aw pT (fun r h => CZ (hr r h))
  exact ⟨l, h, by unfold maxLen at hm; simpa using hm, hl⟩
theorem si (x : TNode) (n : Int) (h0 : 0 ≤ n ∧ n ≤ 1048576) (hw : pT x) : FnC Tryz.prog 194 [jt x, oi n] (oi (aS n (wNode x))) := by
 refine ent Tryz.func194 rfl Tryz.call194 rfl (fun C => ?_); simp only [go_sem, st0, Tryz.ntmps194]
 unfold pT at hw
 by_cases hc0 : n - (x.fName.size : Nat) < 0
 ·have e : aS n (wNode x) = -1 := by rw [au (by unfold wNode; omega)]
  have q0 := @hc0; refine cw ?_
  exact aa ⟨⟨_, rfl, by simp only [go_sem, e]⟩, trivial⟩
 by_cases hc1 : n - (x.fName.size : Nat) - (cI x.fValue : Nat) < 0
 ·have e : aS n (wNode x) = -1 := by rw [au (by unfold wNode; omega)]
  have q0 := @hc0; have q1 := au hc1; have q2 := @hc1; refine f0 (i5 x.fValue (n - (x.fName.size : Nat)) (by omega) hw.2.2.2.2) ?_
  exact aa ⟨⟨_, rfl, by simp only [go_sem, e]⟩, trivial⟩
 have e : aS n (wNode x) = n - (x.fName.size : Nat) - (cI x.fValue : Nat) := by rw [aC (by unfold wNode; omega)]; unfold wNode; omega
 have q0 := @hc0; have q1 := aC hc1; have q2 := @hc1; refine f0 (i5 x.fValue (n - (x.fName.size : Nat)) (by omega) hw.2.2.2.2) ?_
 exact aa ⟨⟨_, rfl, by simp only [go_sem, e]⟩, trivial⟩
theorem zH (x : TNode) (hx : wNode x ≤ 1048576) : FnC Tryz.prog 197 [jt x] (jt x) := by
 unfold wNode at hx
 refine ent Tryz.func197 rfl Tryz.call197 rfl (fun C => ?_); simp only [go_sem, st0, Tryz.ntmps197]
 refine cH (pL x.fValue (by omega)) ?_
 exact aa ⟨⟨_, rfl, by simp only [go_sem]⟩, trivial⟩
theorem zI (x : TNode) (hx : wNode x ≤ 67108864) : FnC Tryz.prog 206 [jt x, jt x] (ob true) := by
 unfold wNode at hx
 refine ent Tryz.func206 rfl Tryz.call206 rfl (fun C => ?_); simp only [go_sem, st0, Tryz.ntmps206]
 refine cH (pM x.fValue (by omega)) ?_
 exact aa ⟨⟨_, rfl, by simp only [go_sem]⟩, trivial⟩
theorem xc (l : List TNode) (hl : bb l ≤ 1048576) : FnC Tryz.prog 136 [.o (.d (.sl (l.map aw)))] (.o (.w 199 7 (l.map aw))) := by
 unfold bb at hl
 refine ent Tryz.func136 rfl Tryz.call136 rfl (fun C => ?_); simp only [go_sem, st0, Tryz.ntmps136]
 refine af ?_
 refine ak (α := Nat) (fun k => [(4, oi k)]) (fun k => [(0, .row 199 7 (fx aw [iv 0, iv 0, iv 0, sv ⟨#[]⟩, iv 0, iv 0, sv ⟨#[]⟩] l k) true)]) (fun k => k ≤ l.length) (fun k => l.length - k) 0 (fun _ => ?_) ?_ ?_ (fun k hk => ?_)
 ·simp only [go_sem]
 ·simp only [go_sem]; simp [eM]
 ·simp
 ·simp only [go_sem]
  refine af ?_
  refine cnd rfl (fun h => ?_) (fun h => ?_)
  ·simp only [decide_eq_true_eq, Int.ofNat_lt] at h
   have hw := aB wNode l h
   have q0 := @h; refine cg (zH l[k] (by omega)) ?_
   refine ae (k + 1) ?_ ?_ ?_
   ·simp only [go_sem]; simp [← fA, h, aw]
   ·omega
   ·omega
  ·simp only [decide_eq_false_iff_not] at h
   have e : k = l.length := by omega
   subst e
   refine af ?_
   exact aa ⟨⟨_, rfl, by simp only [go_sem, fB]⟩, trivial⟩
theorem xd (l : List TNode) (hl : bb l ≤ 67108864) : FnC Tryz.prog 140 [.o (.d (.sl (l.map aw))), .o (.d (.sl (l.map aw)))] (ob true) := by
 unfold bb at hl
 refine ent Tryz.func140 rfl Tryz.call140 rfl (fun C => ?_); simp only [go_sem, st0, Tryz.ntmps140]
 refine af ?_
 refine ak (α := Nat) (fun k => [(5, oi k)]) (fun _ => []) (fun k => k ≤ l.length) (fun k => l.length - k) 0 (fun _ => ?_) ?_ ?_ (fun k hk => ?_)
 ·simp only [go_sem]
 ·simp only [go_sem]; simp
 ·simp
 ·simp only [go_sem]
  refine af ?_
  refine cnd rfl (fun h => ?_) (fun h => ?_)
  ·simp only [decide_eq_true_eq, Int.ofNat_lt] at h
   have hw := aB wNode l h
   have q0 := @h; refine cg (zI l[k] (by omega)) ?_
   refine ae (k + 1) ?_ ?_ ?_
   ·simp only [go_sem]; simp
   ·omega
   ·omega
  ·simp only [decide_eq_false_iff_not] at h
   refine af ?_
   exact aa ⟨⟨_, rfl, by simp only [go_sem]⟩, trivial⟩
theorem pU (l : List TNode) (n : Int) (h0 : 0 ≤ n ∧ n ≤ 1048576) (hw : oK l) : FnC Tryz.prog 132 [.o (.d (.sl (l.map aw))), oi n] (oi (aS n (bb l))) := by
 unfold oK at hw
 refine ent Tryz.func132 rfl Tryz.call132 rfl (fun C => ?_); simp only [go_sem, st0, Tryz.ntmps132]
 by_cases hc : n - (l.length : Nat) < 0
 ·have e : aS n (bb l) = -1 := by rw [au (by unfold bb; omega)]
  have q0 := @hc; refine cw ?_
  exact aa ⟨⟨_, rfl, by simp only [go_sem, e]⟩, trivial⟩
 have q0 := @hc; refine cw ?_
 refine ak (α := Nat) (fun k => [(5, oi k), (1, oi (n - (l.length : Nat) - (wsum wNode (l.take k) : Nat)))]) (fun _ => []) (fun k => k ≤ l.length ∧ 0 ≤ n - (l.length : Nat) - (wsum wNode (l.take k) : Nat)) (fun k => l.length - k) 0 (fun _ => ?_) ?_ ?_ (fun k hk => ?_)
 ·simp only [go_sem]
 ·simp only [go_sem]; simp [wsum]
 ·simp [wsum]; omega
 ·obtain ⟨hk, hn⟩ := hk
  simp only [go_sem]
  refine af ?_
  refine cnd rfl (fun h => ?_) (fun h => ?_)
  ·simp only [decide_eq_true_eq, Int.ofNat_lt] at h
   have hs := fG wNode l h
   have ht := iZ wNode l (k + 1)
   by_cases h2 : n - (l.length : Nat) - (wsum wNode (l.take k) : Nat) - (wNode l[k] : Nat) < 0
   ·have e : aS n (bb l) = -1 := by rw [au (by unfold bb; omega)]
    have q0 := @h; have q1 := au h2; refine fZ (si l[k] _ ⟨hn, by omega⟩ (hw.2 _ (List.getElem_mem h))) ?_
    exact aa ⟨⟨_, rfl, by simp only [go_sem, e]⟩, trivial⟩
   ·have q0 := @h; have q1 := aC h2; have q2 := @h2; refine f0 (si l[k] _ ⟨hn, by omega⟩ (hw.2 _ (List.getElem_mem h))) ?_
    refine ae (k + 1) ?_ ?_ ?_
    ·simp only [go_sem]; simp; omega
    ·omega
    ·omega
  ·simp only [decide_eq_false_iff_not] at h
   have e0 : k = l.length := by omega
   subst e0
   rw [List.take_length] at hn
   have e : aS n (bb l) = n - (l.length : Nat) - (wsum wNode l : Nat) := by rw [aC (by unfold bb; omega)]; unfold bb; omega
   refine af ?_
   exact aa ⟨⟨_, rfl, by simp only [go_sem, e, List.take_length]⟩, trivial⟩
end Go.Proofs.YtddimbdeggomaaaGreat
end
section
set_option linter.all false
set_option maxHeartbeats 1000000
namespace Go.Proofs.YtddimbdeggomaaaGreat
open Go Go.Sx Go.RowKit Go.Proofs
structure TDir where
 fName : ByteArray
 fQuery : List TNode
@[go_sem] def ax (x : TDir) : List D := [sv x.fName, .sl (x.fQuery.map aw)]
@[go_sem] def xe (x : TDir) : SV := .g [.d (sv x.fName), .d (.sl (x.fQuery.map aw))]
@[go_sem] def Fb (x : TDir) : SV := .g [.d (sv x.fName), .w 199 7 (x.fQuery.map aw)]
def wDir (x : TDir) : Nat := x.fName.size + bb x.fQuery
def sj (x : TDir) : Prop := x.fName.size ≤ 9223372036854775807 ∧ oK x.fQuery
def aA (l : List TDir) : Nat := l.length + wsum wDir l
def pV (l : List TDir) : Prop := l.length ≤ 9223372036854775807 ∧ ∀ x ∈ l, sj x
theorem Ec {n : Nat} {r : List D} (h : ShD tt n 88 r) : ∃ x : TDir, r = ax x ∧ sj x := by
 match n, h with
 | n + 1, ⟨a0, b0, e0, h0, a1, b1, e1, h1, ee⟩ =>
  obtain ⟨x0, rfl, p0⟩ := w3 h0
  obtain ⟨x1, rfl, p1⟩ := Bo h1
  have ee' : b1 = [] := ee
  subst ee' e1 e0
  exact ⟨⟨x0, x1⟩, rfl, p0, p1⟩
theorem C5 {n : Nat} {r : List D} (h : ShD tt n 26 r) : ∃ l : List TDir, r = [.sl (l.map ax)] ∧ pV l := by
 match n, h with
 | n + 1, ⟨rows, h, hm, hr⟩ =>
  obtain ⟨l, rfl, hl⟩ := fT ax sj (fun r h => Ec (hr r h))
  exact ⟨l, h, by unfold maxLen at hm; simpa using hm, hl⟩
theorem vi (x : TDir) (n : Int) (h0 : 0 ≤ n ∧ n ≤ 1048576) (hw : sj x) : FnC Tryz.prog 55 [xe x, oi n] (oi (aS n (wDir x))) := by
 refine ent Tryz.func55 rfl Tryz.call55 rfl (fun C => ?_); simp only [go_sem, st0, Tryz.ntmps55]
 unfold sj at hw
 by_cases hc0 : n - (x.fName.size : Nat) < 0
 ·have e : aS n (wDir x) = -1 := by rw [au (by unfold wDir; omega)]
  have q0 := @hc0; refine cw ?_
  exact aa ⟨⟨_, rfl, by simp only [go_sem, e]⟩, trivial⟩
 by_cases hc1 : n - (x.fName.size : Nat) - (bb x.fQuery : Nat) < 0
 ·have e : aS n (wDir x) = -1 := by rw [au (by unfold wDir; omega)]
  have q0 := @hc0; have q1 := au hc1; have q2 := @hc1; refine f0 (pU x.fQuery (n - (x.fName.size : Nat)) (by omega) hw.2) ?_
  exact aa ⟨⟨_, rfl, by simp only [go_sem, e]⟩, trivial⟩
 have e : aS n (wDir x) = n - (x.fName.size : Nat) - (bb x.fQuery : Nat) := by rw [aC (by unfold wDir; omega)]; unfold wDir; omega
 have q0 := @hc0; have q1 := aC hc1; have q2 := @hc1; refine f0 (pU x.fQuery (n - (x.fName.size : Nat)) (by omega) hw.2) ?_
 exact aa ⟨⟨_, rfl, by simp only [go_sem, e]⟩, trivial⟩
theorem Bp (x : TDir) (hx : wDir x ≤ 1048576) : FnC Tryz.prog 57 [xe x] (Fb x) := by
 unfold wDir at hx
 refine ent Tryz.func57 rfl Tryz.call57 rfl (fun C => ?_); simp only [go_sem, st0, Tryz.ntmps57]
 refine cH (xc x.fQuery (by omega)) ?_
 exact aa ⟨⟨_, rfl, by simp only [go_sem]⟩, trivial⟩
theorem Bq (x : TDir) (hx : wDir x ≤ 67108864) : FnC Tryz.prog 59 [xe x, xe x] (ob true) := by
 unfold wDir at hx
 refine ent Tryz.func59 rfl Tryz.call59 rfl (fun C => ?_); simp only [go_sem, st0, Tryz.ntmps59]
 refine cH (xd x.fQuery (by omega)) ?_
 exact aa ⟨⟨_, rfl, by simp only [go_sem]⟩, trivial⟩
theorem zJ (l : List TDir) (hl : aA l ≤ 1048576) : FnC Tryz.prog 20 [.o (.d (.sl (l.map ax)))] (.o (.w 93 2 (l.map ax))) := by
 unfold aA at hl
 refine ent Tryz.func20 rfl Tryz.call20 rfl (fun C => ?_); simp only [go_sem, st0, Tryz.ntmps20]
 refine af ?_
 refine ak (α := Nat) (fun k => [(4, oi k)]) (fun k => [(0, .row 93 2 (fx ax [sv ⟨#[]⟩, .sl []] l k) true)]) (fun k => k ≤ l.length) (fun k => l.length - k) 0 (fun _ => ?_) ?_ ?_ (fun k hk => ?_)
 ·simp only [go_sem]
 ·simp only [go_sem]; simp [eM]
 ·simp
 ·simp only [go_sem]
  refine af ?_
  refine cnd rfl (fun h => ?_) (fun h => ?_)
  ·simp only [decide_eq_true_eq, Int.ofNat_lt] at h
   have hw := aB wDir l h
   have q0 := @h; refine cg (Bp l[k] (by omega)) ?_
   refine ae (k + 1) ?_ ?_ ?_
   ·simp only [go_sem]; simp [← fA, h, ax]
   ·omega
   ·omega
  ·simp only [decide_eq_false_iff_not] at h
   have e : k = l.length := by omega
   subst e
   refine af ?_
   exact aa ⟨⟨_, rfl, by simp only [go_sem, fB]⟩, trivial⟩
theorem zK (l : List TDir) (hl : aA l ≤ 67108864) : FnC Tryz.prog 26 [.o (.d (.sl (l.map ax))), .o (.d (.sl (l.map ax)))] (ob true) := by
 unfold aA at hl
 refine ent Tryz.func26 rfl Tryz.call26 rfl (fun C => ?_); simp only [go_sem, st0, Tryz.ntmps26]
 refine af ?_
 refine ak (α := Nat) (fun k => [(5, oi k)]) (fun _ => []) (fun k => k ≤ l.length) (fun k => l.length - k) 0 (fun _ => ?_) ?_ ?_ (fun k hk => ?_)
 ·simp only [go_sem]
 ·simp only [go_sem]; simp
 ·simp
 ·simp only [go_sem]
  refine af ?_
  refine cnd rfl (fun h => ?_) (fun h => ?_)
  ·simp only [decide_eq_true_eq, Int.ofNat_lt] at h
   have hw := aB wDir l h
   have q0 := @h; refine cg (Bq l[k] (by omega)) ?_
   refine ae (k + 1) ?_ ?_ ?_
   ·simp only [go_sem]; simp
   ·omega
   ·omega
  ·simp only [decide_eq_false_iff_not] at h
   refine af ?_
   exact aa ⟨⟨_, rfl, by simp only [go_sem]⟩, trivial⟩
theorem m7 (l : List TDir) (n : Int) (h0 : 0 ≤ n ∧ n ≤ 1048576) (hw : pV l) : FnC Tryz.prog 15 [.o (.d (.sl (l.map ax))), oi n] (oi (aS n (aA l))) := by
 unfold pV at hw
 refine ent Tryz.func15 rfl Tryz.call15 rfl (fun C => ?_); simp only [go_sem, st0, Tryz.ntmps15]
 by_cases hc : n - (l.length : Nat) < 0
 ·have e : aS n (aA l) = -1 := by rw [au (by unfold aA; omega)]
  have q0 := @hc; refine cw ?_
  exact aa ⟨⟨_, rfl, by simp only [go_sem, e]⟩, trivial⟩
 have q0 := @hc; refine cw ?_
 refine ak (α := Nat) (fun k => [(5, oi k), (1, oi (n - (l.length : Nat) - (wsum wDir (l.take k) : Nat)))]) (fun _ => []) (fun k => k ≤ l.length ∧ 0 ≤ n - (l.length : Nat) - (wsum wDir (l.take k) : Nat)) (fun k => l.length - k) 0 (fun _ => ?_) ?_ ?_ (fun k hk => ?_)
 ·simp only [go_sem]
 ·simp only [go_sem]; simp [wsum]
 ·simp [wsum]; omega
 ·obtain ⟨hk, hn⟩ := hk
  simp only [go_sem]
  refine af ?_
  refine cnd rfl (fun h => ?_) (fun h => ?_)
  ·simp only [decide_eq_true_eq, Int.ofNat_lt] at h
   have hs := fG wDir l h
   have ht := iZ wDir l (k + 1)
   by_cases h2 : n - (l.length : Nat) - (wsum wDir (l.take k) : Nat) - (wDir l[k] : Nat) < 0
   ·have e : aS n (aA l) = -1 := by rw [au (by unfold aA; omega)]
    have q0 := @h; have q1 := au h2; refine fZ (vi l[k] _ ⟨hn, by omega⟩ (hw.2 _ (List.getElem_mem h))) ?_
    exact aa ⟨⟨_, rfl, by simp only [go_sem, e]⟩, trivial⟩
   ·have q0 := @h; have q1 := aC h2; have q2 := @h2; refine f0 (vi l[k] _ ⟨hn, by omega⟩ (hw.2 _ (List.getElem_mem h))) ?_
    refine ae (k + 1) ?_ ?_ ?_
    ·simp only [go_sem]; simp; omega
    ·omega
    ·omega
  ·simp only [decide_eq_false_iff_not] at h
   have e0 : k = l.length := by omega
   subst e0
   rw [List.take_length] at hn
   have e : aS n (aA l) = n - (l.length : Nat) - (wsum wDir l : Nat) := by rw [aC (by unfold aA; omega)]; unfold aA; omega
   refine af ?_
   exact aa ⟨⟨_, rfl, by simp only [go_sem, e, List.take_length]⟩, trivial⟩
end Go.Proofs.YtddimbdeggomaaaGreat
end
end
