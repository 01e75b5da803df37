/- Joined texts. -/
import Derived.Test.YtakopfjdmmnjcaaGreatDoorZ15
import Derived.Sort.Walk0
import Derived.Test.YtakopfjdmmnjcaaGreatDoorZ07
import Derived.Test.YtakopfjdmmnjcaaGreatDoorZ09
import Derived.Test.YtakopfjdmmnjcaaGreatDoorZ05
import Derived.Test.YtakopfjdmmnjcaaGreatDoorZ14
import Derived.Test.YtakopfjdmmnjcaaGreatDoorZ11
import Derived.Test.YtakopfjdmmnjcaaGreatDoorZ10
import Derived.Sort.LotA
import Derived.Sort.WalkA
set_option linter.all false
section
namespace Go.Sx.Clos
section
variable {β : Type} [DecidableEq β]
def Closed (E : List (β × List β)) (S : List β) : Prop := ∀ e ∈ E, (∃ x ∈ e.2, x ∈ S) → e.1 ∈ S
def wsm (w : β → Nat) : List β → Nat
 | [] => 0
 | x :: l => w x + wsm w l
def kW (w : β → Nat) : List (β × List β) → List β → Nat
 | [], _ => 0
 | e :: E, S => (if e.1 ∈ S then 0 else w e.1) + kW w E S
theorem a1E (w : β → Nat) (E : List (β × List β)) {S T : List β} (h : ∀ x ∈ S, x ∈ T) : kW w E T ≤ kW w E S := by
 induction E with
 | nil => simp [kW]
 | cons e E ih =>
  simp only [kW]
  by_cases h1 : e.1 ∈ S
  ·have h2 := h _ h1; simp [h1, h2]; exact ih
  ·by_cases h2 : e.1 ∈ T
   ·simp [h1, h2]; omega
   ·simp [h1, h2]; exact ih
theorem a1a (w : β → Nat) (E : List (β × List β)) {S T : List β} (h : ∀ x ∈ S, x ∈ T) {y : β} (hy : ∃ e ∈ E, e.1 = y) (h1 : y ∈ T) (h2 : ¬ y ∈ S) : kW w E T + w y ≤ kW w E S := by
 induction E with
 | nil => obtain ⟨e, he, _⟩ := hy; simp at he
 | cons e E ih =>
  obtain ⟨e', he', rfl⟩ := hy
  rcases List.mem_cons.1 he' with rfl | hm
  ·have := a1E w E h
   simp only [kW]
   simp [h1, h2]; omega
  ·have := ih ⟨e', hm, rfl⟩
   simp only [kW]
   by_cases h3 : e.1 ∈ S
   ·have h4 := h _ h3; simp [h3, h4]; exact this
   ·by_cases h4 : e.1 ∈ T
    ·simp [h3, h4]; omega
    ·simp [h3, h4]; omega
theorem b1S (E : List (β × List β)) (S : List β) : kW (fun _ => 1) E S ≤ E.length := by
 induction E with
 | nil => simp [kW]
 | cons e E ih => simp only [kW, List.length_cons]; split <;> omega
variable (put : List β → β → List β)
def b1T (name : β) (out asks : List β) : List β := asks.foldl (fun o a => if a ∈ o then put o name else o) out
def round (E : List (β × List β)) (S : List β) : List β := E.foldl (fun o e => b1T put e.1 o e.2) S
def jF (E : List (β × List β)) : Nat → List β → List β
 | 0, S => S
 | n + 1, S => round put E (jF E n S)
variable {put} (hput : ∀ l s x, x ∈ put l s ↔ x = s ∨ x ∈ l)
include hput
theorem a0q (name : β) (asks : List β) : ∀ (out : List β) (x : β), x ∈ b1T put name out asks ↔ x ∈ out ∨ (x = name ∧ ∃ a ∈ asks, a ∈ out) := by
 induction asks with
 | nil => intro out x; simp [b1T]
 | cons a asks ih =>
  intro out x
  have ih' := ih (if a ∈ out then put out name else out) x
  unfold b1T at *
  rw [List.foldl_cons, ih']
  by_cases h : a ∈ out
  ·simp only [h, if_true, hput]
   constructor
   ·rintro ((rfl | h1) | ⟨rfl, _⟩)
    ·exact .inr ⟨rfl, a, List.mem_cons_self, h⟩
    ·exact .inl h1
    ·exact .inr ⟨rfl, a, List.mem_cons_self, h⟩
   ·rintro (h1 | ⟨rfl, _⟩)
    ·exact .inl (.inr h1)
    ·exact .inl (.inl rfl)
  ·simp only [h, if_false]
   constructor
   ·rintro (h1 | ⟨rfl, b, hb, h2⟩)
    ·exact .inl h1
    ·exact .inr ⟨rfl, b, List.mem_cons_of_mem _ hb, h2⟩
   ·rintro (h1 | ⟨rfl, b, hb, h2⟩)
    ·exact .inl h1
    ·rcases List.mem_cons.1 hb with rfl | hb
     ·exact absurd h2 h
     ·exact .inr ⟨rfl, b, hb, h2⟩
theorem wZ (E : List (β × List β)) : ∀ (S : List β), ∀ x ∈ S, x ∈ round put E S := by
 induction E with
 | nil => intro S x h; exact h
 | cons e E ih =>
  intro S x h
  exact ih _ x ((a0q hput e.1 e.2 S x).2 (.inl h))
theorem a1F (E : List (β × List β)) {T : List β} (hT : Closed E T) : ∀ (S : List β), (∀ x ∈ S, x ∈ T) → ∀ x ∈ round put E S, x ∈ T := by
 induction E with
 | nil => intro S h; exact h
 | cons e E ih =>
  intro S h
  refine ih (fun e' he' => hT e' (List.mem_cons_of_mem _ he')) _ (fun x hx => ?_)
  rcases (a0q hput e.1 e.2 S x).1 hx with h1 | ⟨rfl, a, ha, h2⟩
  ·exact h x h1
  ·exact hT e List.mem_cons_self ⟨a, ha, h a h2⟩
theorem a9v (E : List (β × List β)) : ∀ (S : List β) (e : β × List β), e ∈ E → (∃ x ∈ e.2, x ∈ S) → e.1 ∈ round put E S := by
 induction E with
 | nil => intro S e he; simp at he
 | cons e0 E ih =>
  intro S e he h
  rcases List.mem_cons.1 he with rfl | he
  ·exact wZ hput E _ _ ((a0q hput e.1 e.2 S e.1).2 (.inr ⟨rfl, h⟩))
  ·obtain ⟨x, hx, hs⟩ := h
   exact ih _ e he ⟨x, hx, (a0q hput e0.1 e0.2 S x).2 (.inl hs)⟩
theorem round_new (E : List (β × List β)) : ∀ (S : List β) (x : β), x ∈ round put E S → x ∈ S ∨ ∃ e ∈ E, e.1 = x := by
 induction E with
 | nil => intro S x h; exact .inl h
 | cons e E ih =>
  intro S x h
  rcases ih _ x h with h | ⟨e', he', rfl⟩
  ·rcases (a0q hput e.1 e.2 S x).1 h with h | ⟨rfl, _⟩
   ·exact .inl h
   ·exact .inr ⟨e, List.mem_cons_self, rfl⟩
  ·exact .inr ⟨e', List.mem_cons_of_mem _ he', rfl⟩
theorem a3w (E : List (β × List β)) (S : List β) : ∀ (n : Nat), ∀ x ∈ S, x ∈ jF put E n S
 | 0, x, h => h
 | n + 1, x, h => wZ hput E _ x (a3w E S n x h)
theorem a0r (E : List (β × List β)) {S T : List β} (hT : Closed E T) (h : ∀ x ∈ S, x ∈ T) : ∀ (n : Nat), ∀ x ∈ jF put E n S, x ∈ T
 | 0, x, hx => h x hx
 | n + 1, x, hx => a1F hput E hT _ (a0r E hT h n) x hx
theorem rounds_count (E : List (β × List β)) (S : List β) : ∀ (n : Nat), Closed E (jF put E n S) ∨ kW (fun _ => 1) E (jF put E n S) + n ≤ E.length
 | 0 => .inr (by simpa [jF] using b1S E S)
 | n + 1 => by
  rcases rounds_count E S n with h | h
  ·refine .inl (fun e he hx => ?_)
   obtain ⟨x, hx, hs⟩ := hx
   have hs' := a1F hput E h _ (fun y hy => hy) x hs
   exact wZ hput E _ _ (h e he ⟨x, hx, hs'⟩)
  ·by_cases hc : Closed E (jF put E (n + 1) S)
   ·exact .inl hc
   ·refine .inr ?_
    have hn : ∃ y, y ∈ round put E (jF put E n S) ∧ ¬ y ∈ jF put E n S := Classical.byContradiction fun hno => hc (fun e he hx => by
     obtain ⟨x, hx, hs⟩ := hx
     have hs' : x ∈ jF put E n S := Classical.byContradiction fun h' => hno ⟨x, hs, h'⟩
     exact a9v hput E _ e he ⟨x, hx, hs'⟩)
    obtain ⟨y, h1, h2⟩ := hn
    have hy : ∃ e ∈ E, e.1 = y := by
     rcases round_new hput E _ y h1 with h | h
     ·exact absurd h h2
     ·exact h
    have := a1a (fun _ => 1) E (wZ hput E (jF put E n S)) hy h1 h2
    simp only [jF]
    omega
omit hput in
theorem b5m {P : List β → Prop} {Nm : β → Prop} (hP : ∀ o n, P o → Nm n → P (put o n)) (name : β) (hn : Nm name) (asks : List β) : ∀ out, P out → P (b1T put name out asks) := by
 induction asks with
 | nil => intro out h; exact h
 | cons a asks ih =>
  intro out h
  unfold b1T at *
  rw [List.foldl_cons]
  refine ih _ ?_
  split
  ·exact hP _ _ h hn
  ·exact h
omit hput in
theorem b1U {P : List β → Prop} {Nm : β → Prop} (hP : ∀ o n, P o → Nm n → P (put o n)) (E : List (β × List β)) : (∀ e ∈ E, Nm e.1) → ∀ S, P S → P (round put E S) := by
 induction E with
 | nil => intro _ S h; exact h
 | cons e E ih => intro hn S h; exact ih (fun e he => hn e (List.mem_cons_of_mem _ he)) _ (b5m hP e.1 (hn e List.mem_cons_self) e.2 S h)
omit hput in
theorem a3x {P : List β → Prop} {Nm : β → Prop} (hP : ∀ o n, P o → Nm n → P (put o n)) (E : List (β × List β)) (hn : ∀ e ∈ E, Nm e.1) {S : List β} (h : P S) : ∀ n, P (jF put E n S)
 | 0 => h
 | n + 1 => b1U hP E hn _ (a3x hP E hn h n)
theorem a4d (E : List (β × List β)) (S : List β) : Closed E (jF put E (E.length + 1) S) := by
 rcases rounds_count hput E S (E.length + 1) with h | h
 ·exact h
 ·omega
theorem a7R (E : List (β × List β)) {S O : List β} (h1 : ∀ x ∈ S, x ∈ O) (h2 : Closed E O) (h3 : ∀ T : List β, Closed E T → (∀ x ∈ S, x ∈ T) → ∀ x ∈ O, x ∈ T) (x : β) : x ∈ O ↔ x ∈ jF put E (E.length + 1) S :=
 ⟨fun h => h3 _ (a4d hput E S) (a3w hput E S _) x h, fun h => a0r hput E h2 h1 _ x h⟩
omit hput
theorem qO {lt : β → β → Prop} (hi : ∀ x, ¬ lt x x) (ht : ∀ x y z, lt x y → lt y z → lt x z) : ∀ {l m : List β}, l.Pairwise lt → m.Pairwise lt → (∀ x, x ∈ l ↔ x ∈ m) → l = m
 | [], [], _, _, _ => rfl
 | [], b :: m, _, _, h => by have := (h b).2 List.mem_cons_self; simp at this
 | a :: l, [], _, _, h => by have := (h a).1 List.mem_cons_self; simp at this
 | a :: l, b :: m, h1, h2, h => by
  rw [List.pairwise_cons] at h1 h2
  have hab : a = b := by
   rcases List.mem_cons.1 ((h a).1 List.mem_cons_self) with e | e
   ·exact e
   ·rcases List.mem_cons.1 ((h b).2 List.mem_cons_self) with e' | e'
    ·exact e'.symm
    ·exact absurd (ht _ _ _ (h1.1 b e') (h2.1 a e)) (hi a)
  subst hab
  congr 1
  refine qO hi ht h1.2 h2.2 (fun x => ⟨fun hx => ?_, fun hx => ?_⟩)
  ·rcases List.mem_cons.1 ((h x).1 (List.mem_cons_of_mem _ hx)) with e | e
   ·subst e; exact absurd (h1.1 x hx) (hi x)
   ·exact e
  ·rcases List.mem_cons.1 ((h x).2 (List.mem_cons_of_mem _ hx)) with e | e
   ·subst e; exact absurd (h2.1 x hx) (hi x)
   ·exact e
end
end Go.Sx.Clos
namespace Go.Proofs.YtakopfjdmmnjcaaGreatDoor
open Go Go.Sx Go.RowKit Go.Proofs
theorem b6Y {x y : ByteArray} (h : bl x = bl y) : x = y := by rw [← a7U x, ← a7U y, h]
def ltS (x y : ByteArray) : Prop := bl x < bl y
theorem nZ (x y : ByteArray) : dY x y = true ↔ ltS x y := by
 unfold dY ltS bl
 rw [Go.Proofs.bytesLess_eq, decide_eq_true_eq, ByteArray.toList_eq, ByteArray.toList_eq]
theorem yS (x : ByteArray) : ¬ ltS x x := List.lt_irrefl (bl x)
theorem xA (x y z : ByteArray) (h : ltS x y) (k : ltS y z) : ltS x z := List.lt_trans h k
theorem b3E {x y : List UInt8} (h : x ≤ y) (k : x ≠ y) : x < y := Classical.byContradiction fun hn => k (List.le_antisymm h (List.not_lt.1 hn))
theorem a6k {x y : ByteArray} (h : ¬ ltS x y) (k : x ≠ y) : ltS y x := b3E (List.not_lt.1 h) fun e => k (b6Y e).symm
theorem b1V (y s : ByteArray) (l : List ByteArray) : kC (y :: l) s = if dY y s then y :: kC l s else if y = s then y :: l else s :: y :: l := by
 unfold kC
 cases h : dY y s with
 | true =>
  have hg : geS s y = false := by simp [geS, h]
  simp only [eP, hg, Bool.false_eq_true, if_false, List.drop_succ_cons, if_true]
  split
  ·rfl
  ·simp [iX]
 | false =>
  have hg : geS s y = true := by simp [geS, h]
  simp only [eP, hg, if_true, List.drop_zero, List.head?_cons, Bool.false_eq_true, if_false, Option.some.injEq]
  split
  ·rfl
  ·simp [iX]
theorem qP (s : ByteArray) : ∀ {l : List ByteArray}, l.Pairwise ltS → (kC l s).Pairwise ltS
 | [], _ => by simp [kC, eP, iX]
 | y :: l, h => by
  rw [b1V]
  rw [List.pairwise_cons] at h
  split
  ·rename_i hlt
   rw [List.pairwise_cons]
   refine ⟨fun x hx => ?_, qP s h.2⟩
   rcases (sH l s x).1 hx with rfl | hx
   ·exact (nZ _ _).1 hlt
   ·exact h.1 x hx
  ·rename_i hlt
   split
   ·exact List.pairwise_cons.2 h
   ·rename_i hne
    have hs : ltS s y := a6k (fun hh => hlt ((nZ _ _).2 hh)) hne
    refine List.pairwise_cons.2 ⟨fun x hx => ?_, List.pairwise_cons.2 h⟩
    rcases List.mem_cons.1 hx with rfl | hx
    ·exact hs
    ·exact xA _ _ _ hs (h.1 x hx)
theorem a6l (l : List ByteArray) : ∀ {a : List ByteArray}, a.Pairwise ltS → (l.foldl kC a).Pairwise ltS := by
 induction l with
 | nil => intro a h; exact h
 | cons y l ih => intro a h; exact ih (qP y h)
theorem a7S (l : List ByteArray) : (putL l).Pairwise ltS := a6l l List.Pairwise.nil
theorem xS (d : Array (List UInt8)) (hs : ∀ i j, i < j → j < d.size → d[i]! ≤ d[j]!) : ∀ m, m ≤ d.size → (Lib.compactUpTo d m).Pairwise (fun x y => x < y) ∧ ∀ x ∈ Lib.compactUpTo d m, 0 < m ∧ x ≤ d[m - 1]!
 | 0, _ => by simp [Lib.compactUpTo]
 | m + 1, hm => by
  obtain ⟨h1, h2⟩ := xS d hs m (by omega)
  rw [Lib.compactUpTo_succ]
  have hup : ∀ x ∈ Lib.compactUpTo d m, x ≤ d[m]! := fun x hx => by
   obtain ⟨h0, h3⟩ := h2 x hx
   exact List.le_trans h3 (hs (m - 1) m (by omega) (by omega))
  refine ⟨?_, fun x hx => ⟨by omega, ?_⟩⟩
  ·cases hk : Lib.keeps d m with
   | false => simpa using h1
   | true =>
    rw [List.pairwise_append]
    refine ⟨h1, by simp, fun x hx y hy => ?_⟩
    simp only [if_true, List.mem_singleton] at hy
    subst hy
    obtain ⟨h0, h3⟩ := h2 x hx
    have hne : d[m]! ≠ d[m - 1]! := fun e => by rw [Lib.keeps_neg h0 e] at hk; cases hk
    have hle := hs (m - 1) m (by omega) (by omega)
    refine b3E (hup x hx) fun e => hne ?_
    rw [e] at h3
    exact List.le_antisymm h3 hle
  ·rcases List.mem_append.1 hx with h | h
   ·exact hup x h
   ·split at h
    ·simp only [List.mem_singleton] at h; subst h; exact List.le_refl _
    ·simp at h
theorem a6m (l : List ByteArray) : (gD l).Pairwise ltS := by
 have e : (sI l).map bl = nC (l.map bl) := by
  unfold sI
  rw [List.map_map]
  have : (bl ∘ lb) = id := by funext x; exact b3H x
  rw [this, List.map_id]
 unfold gD a5a
 rw [e, List.pairwise_map]
 have hs : (nC (l.map bl)).Pairwise (fun a b => decide (a ≤ b) = true) := by
  refine List.pairwise_mergeSort (le := fun x y : List UInt8 => decide (x ≤ y)) (fun a b c h k => decide_eq_true (List.le_trans (of_decide_eq_true h) (of_decide_eq_true k))) (fun a b => ?_) (l.map bl)
  by_cases h : a ≤ b
  ·simp [h]
  ·have : b ≤ a := List.le_of_lt (List.not_le.1 h)
   simp [this]
 have h := (xS (nC (l.map bl)).toArray (fun i j hij hj => by
  have hj' : j < (nC (l.map bl)).length := by simpa using hj
  have hi' : i < (nC (l.map bl)).length := by omega
  have := List.pairwise_iff_getElem.1 hs i j hi' hj' hij
  simpa [getElem!_pos, hi', hj'] using of_decide_eq_true this) (nC (l.map bl)).length (by simp)).1
 exact h.imp (fun {x y} h => by show bl (lb x) < bl (lb y); exact h)
end Go.Proofs.YtakopfjdmmnjcaaGreatDoor
end
section
set_option maxRecDepth 100000
namespace Go.Proofs.YtakopfjdmmnjcaaGreatDoor
open Go Go.Sx Go.RowKit Go.Proofs Go.Sx.Clos
def c3 (l g : Bool) (r : Int) : Int := if l then -1 else if g then 1 else r
def cmpV (a b : TValue) : Int := c3 (decide (a.fKind < b.fKind)) (decide (b.fKind < a.fKind)) (c3 (decide (a.fInt < b.fInt)) (decide (b.fInt < a.fInt)) (c3 (dY a.fStr b.fStr) (dY b.fStr a.fStr) 0))
def ltV (a b : TValue) : Prop := a.fKind < b.fKind ∨ (a.fKind = b.fKind ∧ (a.fInt < b.fInt ∨ (a.fInt = b.fInt ∧ ltS a.fStr b.fStr)))
theorem nK (a b : TValue) : cmpV a b < 0 ↔ ltV a b := by
 unfold cmpV ltV c3
 by_cases h1 : a.fKind < b.fKind
 ·simp [h1]
 ·by_cases h2 : b.fKind < a.fKind
  ·simp [h1, h2]; omega
  ·have e : a.fKind = b.fKind := by omega
   by_cases h3 : a.fInt < b.fInt
   ·simp [h1, h2, h3, e]
   ·by_cases h4 : b.fInt < a.fInt
    ·simp [h1, h2, h3, h4, e]; omega
    ·have e2 : a.fInt = b.fInt := by omega
     cases h5 : dY a.fStr b.fStr with
     | true => have := (nZ _ _).1 h5; simp [h1, h2, h3, h4, e, e2, this]
     | false =>
      have n5 : ¬ ltS a.fStr b.fStr := fun k => by rw [(nZ _ _).2 k] at h5; cases h5
      cases h6 : dY b.fStr a.fStr <;> simp [h1, h2, h3, h4, e, e2, n5]
theorem a6j {a b : TValue} (h1 : a.fKind = b.fKind) (h2 : a.fInt = b.fInt) (h3 : a.fStr = b.fStr) : a = b := by cases a; cases b; simp_all
theorem pR (a : TValue) : ¬ ltV a a := by
 rintro (h | ⟨_, h | ⟨_, h⟩⟩)
 ·omega
 ·omega
 ·exact yS _ h
theorem sF (a b c : TValue) (h : ltV a b) (k : ltV b c) : ltV a c := by
 rcases h with h | ⟨e, h | ⟨e2, h⟩⟩ <;> rcases k with k | ⟨f, k | ⟨f2, k⟩⟩
 ·exact .inl (by omega)
 ·exact .inl (by omega)
 ·exact .inl (by omega)
 ·exact .inl (by omega)
 ·exact .inr ⟨by omega, .inl (by omega)⟩
 ·exact .inr ⟨by omega, .inl (by omega)⟩
 ·exact .inl (by omega)
 ·exact .inr ⟨by omega, .inl (by omega)⟩
 ·exact .inr ⟨by omega, .inr ⟨by omega, xA _ _ _ h k⟩⟩
theorem a2x {a b : TValue} (h : ¬ ltV a b) (k : a ≠ b) : ltV b a := by
 unfold ltV at h ⊢
 by_cases h1 : a.fKind < b.fKind
 ·exact absurd (.inl h1) h
 ·by_cases h2 : b.fKind < a.fKind
  ·exact .inl h2
  ·have e : a.fKind = b.fKind := by omega
   by_cases h3 : a.fInt < b.fInt
   ·exact absurd (.inr ⟨e, .inl h3⟩) h
   ·by_cases h4 : b.fInt < a.fInt
    ·exact .inr ⟨e.symm, .inl h4⟩
    ·have e2 : a.fInt = b.fInt := by omega
     have n5 : ¬ ltS a.fStr b.fStr := fun q => h (.inr ⟨e, .inr ⟨e2, q⟩⟩)
     exact .inr ⟨e.symm, .inr ⟨e2.symm, a6k n5 fun q => k (a6j e e2 q)⟩⟩
instance decV : DecidableEq TValue := fun a b =>
 if h : a.fKind = b.fKind ∧ a.fInt = b.fInt ∧ a.fStr = b.fStr then isTrue (a6j h.1 h.2.1 h.2.2) else isFalse fun e => h ⟨by rw [e], by rw [e], by rw [e]⟩
instance decG : DecidableEq TGroup := fun a b =>
 if h : a.fValue = b.fValue ∧ a.fIDs = b.fIDs then isTrue (by cases a; cases b; simp only at h; rw [h.1, h.2]) else isFalse fun e => h ⟨by rw [e], by rw [e]⟩
def lW (l : List TGroup) (x : TValue × Int) : List TGroup :=
 match l with
 | [] => [⟨x.1, [x.2]⟩]
 | g :: r => if g.fValue = x.1 then ⟨g.fValue, g.fIDs ++ [x.2]⟩ :: r else g :: lW r x
def fO (l : List TGroup) (x : TValue × Int) : List TGroup :=
 match l with
 | [] => [⟨x.1, [x.2]⟩]
 | g :: r => if cmpV g.fValue x.1 < 0 then g :: fO r x else if g.fValue = x.1 then ⟨g.fValue, g.fIDs ++ [x.2]⟩ :: r else ⟨x.1, [x.2]⟩ :: g :: r
def ltG (a b : TGroup) : Prop := ltV a.fValue b.fValue
theorem a9t (a : TGroup) : ¬ ltG a a := pR _
theorem b1Q (a b c : TGroup) (h : ltG a b) (k : ltG b c) : ltG a c := sF _ _ _ h k
theorem insG_mem {l : List TGroup} {x : TValue × Int} {g : TGroup} (h : g ∈ fO l x) : g.fValue = x.1 ∨ ∃ g' ∈ l, g'.fValue = g.fValue := by
 induction l with
 | nil => simp only [fO, List.mem_singleton] at h; subst h; exact .inl rfl
 | cons a r ih =>
  unfold fO at h
  split at h
  ·rcases List.mem_cons.1 h with rfl | h
   ·exact .inr ⟨g, List.mem_cons_self, rfl⟩
   ·rcases ih h with e | ⟨g', h1, h2⟩
    ·exact .inl e
    ·exact .inr ⟨g', List.mem_cons_of_mem _ h1, h2⟩
  ·split at h
   ·rcases List.mem_cons.1 h with rfl | h
    ·exact .inr ⟨a, List.mem_cons_self, rfl⟩
    ·exact .inr ⟨g, List.mem_cons_of_mem _ h, rfl⟩
   ·rcases List.mem_cons.1 h with rfl | h
    ·exact .inl rfl
    ·exact .inr ⟨g, h, rfl⟩
theorem wH {l : List TGroup} (x : TValue × Int) (h : l.Pairwise ltG) : (fO l x).Pairwise ltG := by
 induction l with
 | nil => exact List.pairwise_singleton _ _
 | cons a r ih =>
  rw [List.pairwise_cons] at h
  unfold fO
  split
  ·rename_i hc
   refine List.pairwise_cons.2 ⟨fun g hg => ?_, ih h.2⟩
   rcases insG_mem hg with e | ⟨g', h1, h2⟩
   ·show ltV a.fValue g.fValue; rw [e]; exact (nK _ _).1 hc
   ·show ltV a.fValue g.fValue; rw [← h2]; exact h.1 g' h1
  ·rename_i hc
   split
   ·exact List.pairwise_cons.2 ⟨fun g hg => h.1 g hg, h.2⟩
   ·rename_i hne
    have hx : ltV x.1 a.fValue := a2x (fun k => hc ((nK _ _).2 k)) hne
    refine List.pairwise_cons.2 ⟨fun g hg => ?_, List.pairwise_cons.2 h⟩
    rcases List.mem_cons.1 hg with rfl | hg
    ·exact hx
    ·exact sF _ _ _ hx (h.1 g hg)
def jS (l : List TGroup) : Prop := l.Pairwise fun a b => a.fValue ≠ b.fValue
theorem a2g {l : List TGroup} (h : l.Pairwise ltG) : jS l := h.imp fun {a b} (hab : ltV a.fValue b.fValue) e => by rw [e] at hab; exact pR _ hab
theorem addG_mem {l : List TGroup} {x : TValue × Int} {g : TGroup} (h : g ∈ lW l x) : g.fValue = x.1 ∨ ∃ g' ∈ l, g'.fValue = g.fValue := by
 induction l with
 | nil => simp only [lW, List.mem_singleton] at h; subst h; exact .inl rfl
 | cons a r ih =>
  unfold lW at h
  split at h
  ·rcases List.mem_cons.1 h with rfl | h
   ·exact .inr ⟨a, List.mem_cons_self, rfl⟩
   ·exact .inr ⟨g, List.mem_cons_of_mem _ h, rfl⟩
  ·rcases List.mem_cons.1 h with rfl | h
   ·exact .inr ⟨g, List.mem_cons_self, rfl⟩
   ·rcases ih h with e | ⟨g', h1, h2⟩
    ·exact .inl e
    ·exact .inr ⟨g', List.mem_cons_of_mem _ h1, h2⟩
theorem a9u {l : List TGroup} (x : TValue × Int) (h : jS l) : jS (lW l x) := by
 induction l with
 | nil => exact List.pairwise_singleton _ _
 | cons a r ih =>
  unfold jS at h ih ⊢
  rw [List.pairwise_cons] at h
  unfold lW
  split
  ·exact List.pairwise_cons.2 ⟨fun g hg => h.1 g hg, h.2⟩
  ·rename_i hne
   refine List.pairwise_cons.2 ⟨fun g hg => ?_, ih h.2⟩
   rcases addG_mem hg with e | ⟨g', h1, h2⟩
   ·rw [e]; exact hne
   ·rw [← h2]; exact h.1 g' h1
def upd (l : List TGroup) (x : TValue × Int) (g : TGroup) : Prop :=
 (g ∈ l ∧ g.fValue ≠ x.1) ∨ (∃ g' ∈ l, g'.fValue = x.1 ∧ g = ⟨x.1, g'.fIDs ++ [x.2]⟩) ∨ ((∀ g' ∈ l, g'.fValue ≠ x.1) ∧ g = ⟨x.1, [x.2]⟩)
theorem a7P {l : List TGroup} (x : TValue × Int) (h : jS l) (g : TGroup) : g ∈ lW l x ↔ upd l x g := by
 induction l with
 | nil => simp [lW, upd]
 | cons a r ih =>
  unfold jS at h
  rw [List.pairwise_cons] at h
  have ih' := ih h.2
  unfold lW
  split
  ·rename_i e
   unfold upd
   constructor
   ·intro hg
    rcases List.mem_cons.1 hg with rfl | hg
    ·exact .inr (.inl ⟨a, List.mem_cons_self, e, by rw [e]⟩)
    ·exact .inl ⟨List.mem_cons_of_mem _ hg, fun k => h.1 g hg (by rw [e, k])⟩
   ·rintro (⟨h1, h2⟩ | ⟨g', h1, h2, rfl⟩ | ⟨h1, rfl⟩)
    ·rcases List.mem_cons.1 h1 with rfl | h1
     ·exact absurd e h2
     ·exact List.mem_cons_of_mem _ h1
    ·rcases List.mem_cons.1 h1 with rfl | h1
     ·rw [← h2]; exact List.mem_cons_self
     ·exact absurd (by rw [e, h2]) (h.1 g' h1)
    ·exact absurd e (h1 a List.mem_cons_self)
  ·rename_i hne
   rw [List.mem_cons, ih']
   unfold upd
   constructor
   ·rintro (rfl | ⟨h1, h2⟩ | ⟨g', h1, h2, rfl⟩ | ⟨h1, rfl⟩)
    ·exact .inl ⟨List.mem_cons_self, hne⟩
    ·exact .inl ⟨List.mem_cons_of_mem _ h1, h2⟩
    ·exact .inr (.inl ⟨g', List.mem_cons_of_mem _ h1, h2, rfl⟩)
    ·exact .inr (.inr ⟨fun g' hg' => by
      rcases List.mem_cons.1 hg' with rfl | hg'
      ·exact hne
      ·exact h1 g' hg', rfl⟩)
   ·rintro (⟨h1, h2⟩ | ⟨g', h1, h2, rfl⟩ | ⟨h1, rfl⟩)
    ·rcases List.mem_cons.1 h1 with rfl | h1
     ·exact .inl rfl
     ·exact .inr (.inl ⟨h1, h2⟩)
    ·rcases List.mem_cons.1 h1 with rfl | h1
     ·exact absurd h2 hne
     ·exact .inr (.inr (.inl ⟨g', h1, h2, rfl⟩))
    ·exact .inr (.inr (.inr ⟨fun g' hg' => h1 g' (List.mem_cons_of_mem _ hg'), rfl⟩))
theorem a7Q {l : List TGroup} (x : TValue × Int) (h : l.Pairwise ltG) (g : TGroup) : g ∈ fO l x ↔ upd l x g := by
 induction l with
 | nil => simp [fO, upd]
 | cons a r ih =>
  have h0 := h
  rw [List.pairwise_cons] at h
  have ih' := ih h.2
  unfold fO
  split
  ·rename_i hc
   have hne : a.fValue ≠ x.1 := fun e => by rw [e] at hc; exact pR _ ((nK _ _).1 hc)
   rw [List.mem_cons, ih']
   unfold upd
   constructor
   ·rintro (rfl | ⟨h1, h2⟩ | ⟨g', h1, h2, rfl⟩ | ⟨h1, rfl⟩)
    ·exact .inl ⟨List.mem_cons_self, hne⟩
    ·exact .inl ⟨List.mem_cons_of_mem _ h1, h2⟩
    ·exact .inr (.inl ⟨g', List.mem_cons_of_mem _ h1, h2, rfl⟩)
    ·exact .inr (.inr ⟨fun g' hg' => by
      rcases List.mem_cons.1 hg' with rfl | hg'
      ·exact hne
      ·exact h1 g' hg', rfl⟩)
   ·rintro (⟨h1, h2⟩ | ⟨g', h1, h2, rfl⟩ | ⟨h1, rfl⟩)
    ·rcases List.mem_cons.1 h1 with rfl | h1
     ·exact .inl rfl
     ·exact .inr (.inl ⟨h1, h2⟩)
    ·rcases List.mem_cons.1 h1 with rfl | h1
     ·exact absurd h2 hne
     ·exact .inr (.inr (.inl ⟨g', h1, h2, rfl⟩))
    ·exact .inr (.inr (.inr ⟨fun g' hg' => h1 g' (List.mem_cons_of_mem _ hg'), rfl⟩))
  ·rename_i hc
   split
   ·rename_i e
    have hap : jS (a :: r) := a2g h0
    have := a7P x hap g
    unfold lW at this
    rw [if_pos e] at this
    exact this
   ·rename_i hne
    have hx : ltV x.1 a.fValue := a2x (fun k => hc ((nK _ _).2 k)) hne
    have hall : ∀ g' ∈ a :: r, g'.fValue ≠ x.1 := fun g' hg' e => by
     rcases List.mem_cons.1 hg' with rfl | hg'
     ·exact hne e
     ·have h3 : ltV a.fValue g'.fValue := h.1 g' hg'
      rw [e] at h3
      exact pR _ (sF _ _ _ hx h3)
    unfold upd
    constructor
    ·intro hg
     rcases List.mem_cons.1 hg with rfl | hg
     ·exact .inr (.inr ⟨hall, rfl⟩)
     ·exact .inl ⟨hg, hall g hg⟩
    ·rintro (⟨h1, h2⟩ | ⟨g', h1, h2, rfl⟩ | ⟨h1, rfl⟩)
     ·exact List.mem_cons_of_mem _ h1
     ·exact absurd h2 (hall g' h1)
     ·exact List.mem_cons_self
theorem b1R {l m : List TGroup} (h : ∀ g, g ∈ l ↔ g ∈ m) (x : TValue × Int) (g : TGroup) : upd l x g ↔ upd m x g := by
 unfold upd
 simp only [h]
theorem a4Y (xs : List (TValue × Int)) : ∀ (l m : List TGroup), jS l → m.Pairwise ltG → (∀ g, g ∈ l ↔ g ∈ m) →
    jS (xs.foldl lW l) ∧ (xs.foldl fO m).Pairwise ltG ∧ ∀ g, g ∈ xs.foldl lW l ↔ g ∈ xs.foldl fO m := by
 induction xs with
 | nil => intro l m h1 h2 h3; exact ⟨h1, h2, h3⟩
 | cons x xs ih =>
  intro l m h1 h2 h3
  exact ih (lW l x) (fO m x) (a9u x h1) (wH x h2) fun g => by rw [a7P x h1, a7Q x h2, b1R h3]
theorem a4c (xs : List (TValue × Int)) {s : List TGroup} (hp : ∀ g, g ∈ s ↔ g ∈ xs.foldl lW []) (hs : s.Pairwise ltG) : s = xs.foldl fO [] := by
 obtain ⟨_, h2, h3⟩ := a4Y xs [] [] List.Pairwise.nil List.Pairwise.nil fun g => Iff.rfl
 exact qO a9t b1Q hs h2 fun g => by rw [hp, h3]
end Go.Proofs.YtakopfjdmmnjcaaGreatDoor
end
section
set_option maxRecDepth 100000
set_option maxHeartbeats 4000000
namespace Go.Proofs.YtakopfjdmmnjcaaGreatDoor
open Go Go.Sx Go.RowKit Go.Proofs
theorem oF (n : Int) : FnC Tryz.prog 90 [oi n] (ob false) := by
 refine ent Tryz.func90 rfl Tryz.call90 rfl (fun C => ?_); simp only [go_sem, st0, Tryz.ntmps90]
 have q0 := @decide_true; refine fF ?_
 exact aA ⟨⟨_, rfl, by simp only [go_sem, decide_true]⟩, trivial⟩
theorem xB (n : ByteArray) : FnC Tryz.prog 91 [os n] (ob false) := by
 refine ent Tryz.func91 rfl Tryz.call91 rfl (fun C => ?_); simp only [go_sem, st0, Tryz.ntmps91]
 have q0 := @decide_true; refine fF ?_
 exact aA ⟨⟨_, rfl, by simp only [go_sem, decide_true]⟩, trivial⟩
def cmpI (a b : Int) : Int := c3 (decide (a < b)) (decide (b < a)) 0
def cmpS (a b : ByteArray) : Int := c3 (dY a b) (dY b a) 0
theorem a1H (a b : Int) : FnC Tryz.prog 60 [oi a, oi b] (oi (cmpI a b)) := by
 refine ent Tryz.func60 rfl Tryz.call60 rfl (fun C => ?_); simp only [go_sem, st0, Tryz.ntmps60]
 by_cases h1 : a < b
 ·have e : cmpI a b = -1 := by simp [cmpI, c3, h1]
  have q0 := @h1; have q1 := @decide_true; refine yM (oF a) (oF b) ?_
  exact aA ⟨⟨_, rfl, by simp only [go_sem, e]⟩, trivial⟩
 ·by_cases h2 : b < a
  ·have e : cmpI a b = 1 := by simp [cmpI, c3, h1, h2]
   have q0 := @h1; have q1 := @h2; have q2 := @decide_true; have q3 := @decide_false; refine a2Y (oF a) (oF b) ?_
   exact aA ⟨⟨_, rfl, by simp only [go_sem, e]⟩, trivial⟩
  ·have e : cmpI a b = 0 := by simp [cmpI, c3, h1, h2]
   have q0 := @h1; have q1 := @h2; have q2 := @decide_false; refine a5W (oF a) (oF b) ?_
   exact aA ⟨⟨_, rfl, by simp only [go_sem, e]⟩, trivial⟩
theorem a7V {a b : ByteArray} (h : dY a b = false) : dY b a = !decide (a = b) := by
 by_cases e : a = b
 ·subst e; simp [h]
 ·simp only [e, decide_false, Bool.not_false]
  exact (nZ _ _).2 (a6k (fun k => by rw [(nZ _ _).2 k] at h; cases h) e)
theorem a7W (a b : ByteArray) : FnC Tryz.prog 61 [os a, os b] (oi (cmpS a b)) := by
 refine ent Tryz.func61 rfl Tryz.call61 rfl (fun C => ?_); simp only [go_sem, st0, Tryz.ntmps61]
 cases h1 : dY a b with
 | true =>
  have e : cmpS a b = -1 := by simp [cmpS, c3, h1]
  have q0 := @h1; refine b2U (xB a) (xB b) ?_
  exact aA ⟨⟨_, rfl, by simp only [go_sem, e]⟩, trivial⟩
 | false =>
  have e : cmpS a b = if (!decide (a = b)) = true then 1 else 0 := by rw [← a7V h1]; cases h3 : dY b a <;> simp [cmpS, c3, h1, h3]
  have q0 := @h1; refine b2U (xB a) (xB b) ?_
  refine cnd rfl (fun h3 => ?_) (fun h3 => ?_)
  ·rw [if_pos h3] at e
   refine aD ?_
   exact aA ⟨⟨_, rfl, by simp only [go_sem, e]⟩, trivial⟩
  ·rw [if_neg (by rw [h3]; simp)] at e
   refine aD ?_
   exact aA ⟨⟨_, rfl, by simp only [go_sem, e]⟩, trivial⟩
def orI : List Int → Int
 | [] => 0
 | x :: xs => if x = 0 then orI xs else x
theorem b6Z (l : List Int) (hl : l.length ≤ 1000) : FnC Tryz.prog 59 [.o (.d (.sl (l.map eZ)))] (oi (orI l)) := by
 generalize hg : orI l = res
 refine ent Tryz.func59 rfl Tryz.call59 rfl (fun C => ?_); simp only [go_sem, st0, Tryz.ntmps59]
 refine aD ?_
 refine aY (α := Nat) (fun k => [(8, oi k)]) (fun _ => []) (fun k => k ≤ l.length ∧ orI (l.drop k) = res) (fun k => l.length - k) 0 (fun _ => ?_) ?_ ?_ (fun k hk => ?_)
 ·simp only [go_sem]
 ·simp only [go_sem]; simp
 ·simp [hg]
 ·obtain ⟨hk, hq⟩ := hk
  simp only [go_sem]
  refine aD ?_
  refine cnd rfl (fun h => ?_) (fun h => ?_)
  ·simp only [decide_eq_true_eq, Int.ofNat_lt] at h
   rw [List.drop_eq_getElem_cons h, orI] at hq
   by_cases h1 : l[k] = 0
   ·rw [if_pos h1] at hq
    have q0 := @h; have q1 := @h1; have q2 := @decide_true; refine jJ ?_
    refine aF (k + 1) ?_ ?_ ?_
    ·simp only [go_sem]; simp
    ·exact ⟨h, hq⟩
    ·omega
   ·rw [if_neg h1] at hq
    have q0 := @h; have q1 := @h1; have q2 := @decide_false; refine jJ ?_
    exact aA ⟨⟨_, rfl, by simp only [go_sem, hq]⟩, trivial⟩
  ·simp only [decide_eq_false_iff_not] at h
   have e : k = l.length := by omega
   subst e
   simp only [List.drop_length, orI] at hq
   subst hq
   refine aD ?_
   exact aA ⟨⟨_, rfl, by simp only [go_sem]⟩, trivial⟩
theorem b5n (a b : TValue) : orI [cmpI a.fKind b.fKind, cmpI a.fInt b.fInt, cmpS a.fStr b.fStr] = cmpV a b := by
 simp only [orI, cmpV, cmpI, cmpS, c3]
 by_cases h1 : a.fKind < b.fKind
 ·simp [h1]
 ·by_cases h2 : b.fKind < a.fKind
  ·simp [h1, h2]
  ·by_cases h3 : a.fInt < b.fInt
   ·simp [h1, h2, h3]
   ·by_cases h4 : b.fInt < a.fInt
    ·simp [h1, h2, h3, h4]
    ·simp only [h1, h2, h3, h4, decide_false, Bool.false_eq_true, if_false, if_true]
     by_cases h5 : dY a.fStr b.fStr = true <;> by_cases h6 : dY b.fStr a.fStr = true <;> simp [h5, h6]
theorem a3B (a b : TValue) : FnC Tryz.prog 34 [fM a, fM b] (oi (cmpV a b)) := by
 have hO := b6Z [cmpI a.fKind b.fKind, cmpI a.fInt b.fInt, cmpS a.fStr b.fStr] (by simp)
 rw [b5n] at hO
 simp only [List.map_cons, List.map_nil, eZ] at hO
 have h1 := a1H a.fKind b.fKind
 have h2 := a1H a.fInt b.fInt
 have h3 := a7W a.fStr b.fStr
 generalize cmpI a.fKind b.fKind = k1 at hO h1
 generalize cmpI a.fInt b.fInt = k2 at hO h2
 generalize cmpS a.fStr b.fStr = k3 at hO h3
 generalize cmpV a b = k4 at hO
 refine ent Tryz.func34 rfl Tryz.call34 rfl (fun C => ?_); simp only [go_sem, st0, Tryz.ntmps34]
 have qH := trivial; repeat' (with_reducible first | refine nY ?_ | (refine mX ?_; try simp only [go_sem]) | refine kD ?_ | (apply rE [4,9,14,15,16] [] [0,1,2,3,5,6,7,8,10,11,12,13] [0,1,2,3,5,6,7,8,10,11,12,13] ((.c 4 [] [5,6,7,8,10,11,12,13] (.c 9 [] [10,11,12,13] (.c 14 [] [] (.c 15 [] [] (.c 16 [17] [17] .n .n) .n) .n) .n) .n)) (by simp only [go_sem]; rfl) (by simp only [go_sem]; rfl) (by simp only [go_sem]; rfl) (by decide +kernel); (focus simp only [go_sem]; done)) | exact aT | refine aK (uX ?_) ?_ | refine aL (aX ?_) ?_ | refine aM (aX ?_) ?_ | exact bH | exact oH | (refine uA ?_; simp only [go_sem]; (repeat' first | omega | refine And.intro ?_ ?_); done) | refine rD ?_ | refine cP h1 ?_ | refine cP h2 ?_ | refine cP h3 ?_ | refine cP hO ?_ | refine aO ?_ | fail)
 exact aA ⟨⟨_, rfl, by simp only [go_sem]⟩, trivial⟩
theorem wJ (a b : TValue) : FnC Tryz.prog 21 [fM a, fM b] (oi (cmpV a b)) := by
 refine ent Tryz.func21 rfl Tryz.call21 rfl (fun C => ?_); simp only [go_sem, st0, Tryz.ntmps21]
 by_cases h1 : a.fKind < b.fKind
 ·have e : cmpV a b = -1 := by simp [cmpV, c3, h1]
  have q0 := @h1; have q1 := @decide_true; refine gG ?_
  exact aA ⟨⟨_, rfl, by simp only [go_sem, e]⟩, trivial⟩
 by_cases h2 : b.fKind < a.fKind
 ·have e : cmpV a b = 1 := by simp [cmpV, c3, h1, h2]
  have q0 := @h1; have q1 := @h2; have q2 := @decide_true; have q3 := @decide_false; refine jW ?_
  exact aA ⟨⟨_, rfl, by simp only [go_sem, e]⟩, trivial⟩
 by_cases h3 : a.fInt < b.fInt
 ·have e : cmpV a b = -1 := by simp [cmpV, c3, h1, h2, h3]
  have q0 := @h1; have q1 := @h2; have q2 := @h3; have q3 := @decide_true; have q4 := @decide_false; refine uY ?_
  exact aA ⟨⟨_, rfl, by simp only [go_sem, e]⟩, trivial⟩
 by_cases h4 : b.fInt < a.fInt
 ·have e : cmpV a b = 1 := by simp [cmpV, c3, h1, h2, h3, h4]
  have q0 := @h1; have q1 := @h2; have q2 := @h3; have q3 := @h4; have q4 := @decide_true; have q5 := @decide_false; refine a7n ?_
  exact aA ⟨⟨_, rfl, by simp only [go_sem, e]⟩, trivial⟩
 cases h5 : dY a.fStr b.fStr with
 | true =>
  have e : cmpV a b = -1 := by simp [cmpV, c3, h1, h2, h3, h4, h5]
  have q0 := @h1; have q1 := @h2; have q2 := @h3; have q3 := @h4; have q4 := @h5; have q5 := @decide_false; refine a7n ?_
  exact aA ⟨⟨_, rfl, by simp only [go_sem, e]⟩, trivial⟩
 | false =>
  have e : cmpV a b = if (!decide (a.fStr = b.fStr)) = true then 1 else 0 := by rw [← a7V h5]; cases h7 : dY b.fStr a.fStr <;> simp [cmpV, c3, h1, h2, h3, h4, h5, h7]
  have q0 := @h1; have q1 := @h2; have q2 := @h3; have q3 := @h4; have q4 := @h5; have q5 := @decide_false; refine a7n ?_
  refine cnd rfl (fun h7 => ?_) (fun h7 => ?_)
  ·rw [if_pos h7] at e
   refine aD ?_
   exact aA ⟨⟨_, rfl, by simp only [go_sem, e]⟩, trivial⟩
  ·rw [if_neg (by rw [h7]; simp)] at e
   refine aD ?_
   exact aA ⟨⟨_, rfl, by simp only [go_sem, e]⟩, trivial⟩
abbrev cB := TGroup × Value
@[go_sem] def pO (p : cB) : List D := [iv p.1.fValue.fKind, iv p.1.fValue.fInt, sv p.1.fValue.fStr, .v p.2]
@[go_sem] def gO (p : cB) : SV := .g [.d (iv p.1.fValue.fKind), .d (iv p.1.fValue.fInt), .d (sv p.1.fValue.fStr), .d (.v p.2)]
def wG (p : cB) : Value × List (List Value) := (p.2, p.1.fIDs.map fun i => [Value.int .i64 i])
def itO (p : cB) : List Value × Value × List (List Value) := ([.int .i64 p.1.fValue.fKind, .int .i64 p.1.fValue.fInt, .string p.1.fValue.fStr], p.2, p.1.fIDs.map fun i => [Value.int .i64 i])
theorem b0G (p : cB) : qW (itO p) = dO p.1 := by
 simp only [qW, itO, dO, List.map_map, List.map_cons, List.map_nil, List.cons_append, List.nil_append]
 congr 4
def dW (s : TStore) (ids : List Int) (name : ByteArray) : List (TValue × Int) := ids.map fun id => (getAttr name (gU id s.fFiles).fAttrs, id)
def pQ (v : TValue) (p : cB) : Bool := xQ p.1.fValue v
theorem sD (a b : TValue) : xQ a b = true ↔ a = b := by
 unfold xQ
 simp only [Bool.and_eq_true, decide_eq_true_eq]
 constructor
 ·rintro ⟨h1, h2, h3⟩; exact a6j h1 h2 h3
 ·rintro rfl; exact ⟨rfl, rfl, rfl⟩
theorem a7L (v : TValue) (id : Int) (z' : Value) : ∀ {its : List cB} {k : Nat} (hk : k < its.length), pQ v its[k] = true → (∀ j (hj : j < its.length), j < k → pQ v its[j] = false) →
    lW (its.map (·.1)) (v, id) = (its.set k (⟨its[k].1.fValue, its[k].1.fIDs ++ [id]⟩, z')).map (·.1)
 | [], k, hk, _, _ => by simp at hk
 | p :: its, 0, hk, h1, _ => by
  have e := (sD _ _).1 h1
  simp only [List.getElem_cons_zero] at e
  simp [lW, e]
 | p :: its, k + 1, hk, h1, h2 => by
  have h0 := h2 0 (by simp) (by omega)
  simp only [List.getElem_cons_zero] at h0
  have hne : p.1.fValue ≠ v := fun e => by rw [pQ, (sD _ _).2 e] at h0; cases h0
  simp only [List.map_cons, lW, if_neg hne, List.set_cons_succ, List.getElem_cons_succ]
  have h2' : ∀ j (hj : j < its.length), j < k → pQ v its[j] = false := fun j hj hjk => by
   have := h2 (j + 1) (by simp; omega) (by omega)
   rwa [List.getElem_cons_succ] at this
  rw [a7L v id z' (by simpa using hk) (by rwa [List.getElem_cons_succ] at h1) h2']
theorem a7M (v : TValue) (id : Int) : ∀ {its : List cB}, (∀ p ∈ its, pQ v p = false) → lW (its.map (·.1)) (v, id) = its.map (·.1) ++ [⟨v, [id]⟩]
 | [], _ => rfl
 | p :: its, h => by
  have h0 := h p List.mem_cons_self
  have hne : p.1.fValue ≠ v := fun e => by rw [pQ, (sD _ _).2 e] at h0; cases h0
  simp only [List.map_cons, lW, if_neg hne, List.cons_append]
  rw [a7M v id fun q hq => h q (List.mem_cons_of_mem _ hq)]
theorem a7N (x : TValue × Int) : ∀ l : List TGroup, bG (fun g => g.fIDs.length) (lW l x) = bG (fun g => g.fIDs.length) l + 1 ∧ (lW l x).length ≤ l.length + 1
 | [] => by simp [lW, bG]
 | g :: l => by
  have ih := a7N x l
  unfold lW
  split
  ·simp [bG]; omega
  ·simp [bG]; omega
theorem a7O (xs : List (TValue × Int)) : ∀ l : List TGroup, bG (fun g => g.fIDs.length) (xs.foldl lW l) = bG (fun g => g.fIDs.length) l + xs.length ∧ (xs.foldl lW l).length ≤ l.length + xs.length := by
 induction xs with
 | nil => intro l; simp
 | cons x xs ih =>
  intro l
  have h1 := a7N x l
  have h2 := ih (lW l x)
  simp only [List.foldl_cons, List.length_cons]
  omega
end Go.Proofs.YtakopfjdmmnjcaaGreatDoor
end
section
set_option maxRecDepth 100000
set_option maxHeartbeats 4000000
namespace Go.Proofs.YtakopfjdmmnjcaaGreatDoor
open Go Go.Sx Go.RowKit Go.Proofs Go.Sort
instance inhO : Inhabited cB := ⟨(⟨⟨0, 0, ⟨#[]⟩⟩, []⟩, .slice none 0 0)⟩
theorem b6X {f ty sz : Nat} {fn : Func} {c : Code} {rows rows' : List (List D)} {args : List SV} (hf : Tryz.prog.funcs[f]? = some fn) (hb : fn.body = some c) (hcall : ∀ x w, (callFunc f x).run Tryz.prog w = .ok (.enter f x) w) (hres : fn.results = #[])
    (hfl : gB rows = true) (hfl' : gB rows' = true) (hlen : rows'.length = rows.length) (h0 : rows = [] → FnC Tryz.prog f (.o (.d (.sl [])) :: args) (.t []))
    (h : rows ≠ [] → ∀ (C : Ctx) (y : Value), WP Tryz.prog C c (bW Tryz.prog C [] (b6q ty sz rows' y)) (stI ty sz rows y args fn.ntmps)) : FnI Tryz.prog f ty sz rows args true rows' := FnI.of_wp (eqk := eqk) ttOK hf hb hcall hres hfl hfl' hlen h0 h
attribute [go_sem] stI
def iA (d : Array cB) : List (List D) := d.toList.map pO
theorem lV (d : Array cB) : gB (iA d) = true := by
 unfold gB iA
 simp [pO, isV]
theorem kM (d : Array cB) : (iA d).length = d.size := by simp [iA]
theorem a0Z {d : Array cB} (h : iA d = []) : d.size = 0 := by rw [← kM, h]; rfl
theorem mO (d : Array cB) (i : Nat) (h : i < d.toList.length) : d.toList[i] = d[i]! := by
 rw [getElem!_pos d i (by simpa using h)]; rfl
theorem b1P (d : Array cB) (i j : Nat) (hi : i < d.toList.length) (hj : j < d.toList.length) : ((d.toList.map pO).set i (pO d.toList[j])).set j (pO d.toList[i]) = iA (swp d i j) := by
 unfold iA swp
 rw [Array.toList_setIfInBounds, Array.toList_setIfInBounds, List.map_set, List.map_set, mO d i hi, mO d j hj]
theorem b5k (L : List (List D)) {i j : Nat} (h : i ≠ j) (r : List D) : eQ (L.set i r) j = eQ L j := by
 simp only [eQ, List.getD_eq_getElem?_getD, List.getElem?_set_ne h]
def ltO (a b : cB) : Bool := decide (cmpV a.1.fValue b.1.fValue < 0)
theorem b5l (p q : cB) : FnC Tryz.prog 33 [gO p, gO q] (oi (cmpV p.1.fValue q.1.fValue)) := by
 refine ent Tryz.func33 rfl Tryz.call33 rfl (fun C => ?_); simp only [go_sem, st0, Tryz.ntmps33]
 refine iE (a3B p.1.fValue q.1.fValue) ?_
 exact aA ⟨⟨_, rfl, by simp only [go_sem]⟩, trivial⟩
theorem xR (a : Nat) : ∀ (j : Nat) (d : Array cB), (insInner ltO a j d).size = d.size
 | 0, d => rfl
 | j + 1, d => by
  unfold insInner
  split
  ·rw [xR a j, swp_size]
  ·rfl
theorem a3v (a b : Nat) : ∀ (n i : Nat) (d : Array cB), b - i = n → (insOuter ltO a b i d).size = d.size
 | 0, i, d, h => by rw [insOuter_stop _ _ _ _ _ (by omega)]
 | n + 1, i, d, h => by rw [insOuter_go _ _ _ _ _ (by omega), a3v a b n (i + 1) _ (by omega), xR]
theorem a1D : FnC Tryz.prog 88 [.o (.d (.sl [])), oi 0, oi 0, .o (.f 33 [])] (.t []) := by
 refine ent Tryz.func88 rfl Tryz.call88 rfl (fun C => ?_); simp only [go_sem, st0, Tryz.ntmps88]
 refine aD ?_
 refine aY (α := Unit) (fun _ => [(8, oi 1)]) (fun _ => []) (fun _ => True) (fun _ => 0) () (fun _ => ?_) ?_ trivial (fun _ _ => ?_)
 ·simp only [go_sem]
 ·simp only [go_sem]; simp
 ·simp only [go_sem]
  refine aD ?_
  exact vH ⟨⟨_, rfl, by simp only [go_sem]⟩, by simp [cO]⟩
theorem yR (d : Array cB) (a b : Nat) (hab : a ≤ b) (hb : b ≤ d.size) (hsz : d.size ≤ 1048576) :
    FnI Tryz.prog 88 49 4 (iA d) [oi a, oi b, .o (.f 33 [])] true (iA (Sort.insertionSort ltO d a b)) := by
 refine b6X Tryz.func88 rfl Tryz.call88 rfl (lV d) (lV _) (by rw [kM, kM]; exact a3v a b _ _ d rfl) (fun h0 => ?_) (fun hne C y => ?_)
 ·have h1 := a0Z h0
  have ha : a = 0 := by omega
  have hb' : b = 0 := by omega
  subst ha hb'
  exact a1D
 ·simp only [go_sem, Tryz.ntmps88]
  refine aD ?_
  refine aY (α := Nat × Array cB) (fun x => [(8, oi x.1)]) (fun x => [(0, .row 49 4 (iA x.2) true)]) (fun x => a < x.1 ∧ x.1 ≤ b + 1 ∧ x.2.size = d.size ∧ insOuter ltO a b x.1 x.2 = insOuter ltO a b (a + 1) d) (fun x => b + 1 - x.1) (a + 1, d) (fun _ => ?_) ?_ ?_ (fun x hx => ?_)
  ·simp only [go_sem]
  ·simp only [go_sem]; simp
  ·exact ⟨by simp, by simp only; omega, rfl, rfl⟩
  ·obtain ⟨i, dk⟩ := x
   obtain ⟨h1, h2, h3, h4⟩ := hx
   simp only at h1 h2 h3 h4
   simp only [go_sem]
   by_cases hlt : i < b
   ·have hlt' : ((i : Int) < (b : Int)) = True := by simp [hlt]
    have q0 := @hlt'; have q1 := @decide_true; refine gG ?_
    refine aY (α := Nat × Array cB) (fun x => [(9, oi x.1)]) (fun x => [(0, .row 49 4 (iA x.2) true)]) (fun x => a ≤ x.1 ∧ x.1 ≤ i ∧ x.2.size = d.size ∧ insInner ltO a x.1 x.2 = insInner ltO a i dk) (fun x => x.1) (i, dk) (fun _ => ?_) ?_ ?_ (fun x hx => ?_)
    ·simp only [go_sem]
    ·simp only [go_sem]; simp
    ·exact ⟨by simp only; omega, by simp, h3, rfl⟩
    ·obtain ⟨j, dj⟩ := x
     obtain ⟨k1, k2, k3, k4⟩ := hx
     simp only at k1 k2 k3 k4
     simp only [go_sem]
     by_cases hja : a < j
     ·obtain ⟨jp, rfl⟩ : ∃ jp, j = jp + 1 := ⟨j - 1, by omega⟩
      have hg : ((a : Int) < ((jp + 1 : Nat) : Int)) = True := by simp; omega
      have he : ((jp + 1 : Nat) : Int) - 1 = (jp : Int) := by omega
      have l1 : jp + 1 < dj.toList.length := by simp; omega
      have l0 : jp < dj.toList.length := by omega
      have hc := b5l dj.toList[jp + 1] dj.toList[jp]
      simp only [iA]
      have qH := aI @hg (aI @he (aI @l1 (aI @l0 @decide_true))); repeat' (with_reducible first | refine nY ?_ | (refine mX ?_; try simp only [go_sem, qH]) | refine kD ?_ | refine rT [16] [] ?_ | refine dB (aX ?_) (uX ?_) | refine dS (aX ?_) ?_ | (refine uA ?_; simp only [go_sem, qH]; (repeat' first | omega | refine And.intro ?_ ?_ | refine cP hc ?_ | (refine mX ?_; simp only [go_sem, qH] <;> fail)); done) | refine rD ?_ | refine cP hc ?_ | refine aO ?_ | fail)
      refine cnd (b := ltO dj.toList[jp + 1] dj.toList[jp]) rfl (fun h5 => ?_) (fun h5 => ?_)
      ·have hsw := b1P dj (jp + 1) jp l1 l0
       simp only [pO] at hsw
       have hrw : ∀ (L : List (List D)) (r : List D), eQ (L.set (jp + 1) r) jp = eQ L jp := fun L r => b5k L (by omega) r
       repeat' (with_reducible first | refine nY ?_ | (refine mX ?_; try simp only [go_sem, hg, he, l1, l0, decide_true, List.length_set, hrw]) | refine kO ?_ (by decide) | (apply rE [15,17] [] [0,1,2,3,4,5,6,7,8,9,10,11,12,13,14] [0,1,2,3,4,5,6,7,8,9,10,11,12,13,14] ((.c 15 [16] [2,3,4,16] (.c 17 [] [] .n .n) .n)) (by simp only [go_sem]; rfl) (by simp only [go_sem]; rfl) (by simp only [go_sem]; rfl) (by decide +kernel); (focus simp only [go_sem]; done)) | exact aT | (refine aK (uX ?_) ?_) | refine aL (aX ?_) ?_ | refine aM (aX ?_) ?_ | exact bH | (refine oG ?_; (focus simp only [go_sem]; done)) | (refine uA ?_; simp only [go_sem, hg, he, l1, l0, decide_true, List.length_set, hrw]; (repeat' first | omega | refine And.intro ?_ ?_); done) | refine regd (by kernel_rfl) ?_ | (refine And.intro ?_ ?_; focus omega))
       refine aF (jp, swp dj (jp + 1) jp) ?_ ?_ ?_
       ·simp only [go_sem]; simp
        exact hsw
       ·refine ⟨by simp only; omega, by simp only; omega, by rw [swp_size]; exact k3, ?_⟩
        simp only
        rw [← k4, insInner_go ltO a (jp + 1) dj hja (by rw [mO, mO] at h5; exact h5)]
        rfl
       ·simp only; omega
      ·refine aD ?_
       refine aF (i + 1, dj) ?_ ?_ ?_
       ·simp only [go_sem]; simp [iA]
       ·refine ⟨by simp only; omega, by simp only; omega, k3, ?_⟩
        simp only
        rw [← h4, insOuter_go _ _ _ _ _ hlt, ← k4, insInner_stop ltO a (jp + 1) dj (.inr (by rw [mO, mO] at h5; exact h5))]
       ·simp only; omega
     ·have hg : ((a : Int) < (j : Int)) = False := by simp; omega
      simp only [iA]
      have qH := aI @hg @decide_false; repeat' (with_reducible first | refine nY ?_ | (refine mX ?_; try simp only [go_sem, qH]) | refine kD ?_ | refine rT [16] [] ?_ | refine dB (aX ?_) (uX ?_) | refine dS (aX ?_) ?_ | exact uB | refine rD ?_ | refine aO ?_ | fail)
      refine aF (i + 1, dj) ?_ ?_ ?_
      ·simp only [go_sem]; simp [iA]
      ·refine ⟨by simp only; omega, by simp only; omega, k3, ?_⟩
       simp only
       rw [← h4, insOuter_go _ _ _ _ _ hlt, ← k4, insInner_stop ltO a j dj (.inl (by omega))]
      ·simp only; omega
   ·have hlt' : ((i : Int) < (b : Int)) = False := by simp [hlt]
    have hfin : dk = Sort.insertionSort ltO d a b := by
     unfold Sort.insertionSort
     rw [← h4, insOuter_stop _ _ _ _ _ hlt]
    subst hfin
    have q0 := @hlt'; have q1 := @decide_false; refine gG ?_
    exact qK rfl rfl
end Go.Proofs.YtakopfjdmmnjcaaGreatDoor
end
section
set_option maxRecDepth 100000
set_option maxHeartbeats 4000000
namespace Go.Proofs.YtakopfjdmmnjcaaGreatDoor
open Go Go.Sx Go.RowKit Go.Proofs
theorem a6h (s : TStore) (id : Int) (h : aW s ≤ 4300000) : FnC Tryz.prog 40 [bX s, oi id] (.t [(true, (jQ (gU id s.fFiles)).cells), (false, [.d (bv (decide (0 ≤ ixF id s.fFiles)))])]) := (a1C s id h).pu (by simp only [go_sem, and_self])
def lH (v : TValue) : List cB → Nat
 | [] => 0
 | p :: l => if cmpV p.1.fValue v < 0 then lH v l + 1 else 0
theorem b5j (v : TValue) : ∀ {l : List cB} {n : Nat} (h : n < l.length), lH v l = n + lH v (l.drop n) → lH v l = if cmpV l[n].1.fValue v < 0 then n + 1 + lH v (l.drop (n + 1)) else n := fun {l n} h e => by
 rw [e, List.drop_eq_getElem_cons h, lH]
 split <;> omega
theorem a7J (v : TValue) (id : Int) (z' : Value) : ∀ {its : List cB} (h : lH v its < its.length), pQ v its[lH v its] = true →
    fO (its.map (·.1)) (v, id) = (its.set (lH v its) (⟨its[lH v its].1.fValue, its[lH v its].1.fIDs ++ [id]⟩, z')).map (·.1)
 | [], h, _ => by simp at h
 | p :: l, h, h1 => by
  by_cases hc : cmpV p.1.fValue v < 0
  ·have e : lH v (p :: l) = lH v l + 1 := by simp [lH, hc]
   simp only [e, List.getElem_cons_succ, List.set_cons_succ, List.map_cons, fO, hc, if_true] at h1 ⊢
   rw [a7J v id z' (by rw [e] at h; simpa using h) h1]
  ·have e : lH v (p :: l) = 0 := by simp [lH, hc]
   simp only [e, List.getElem_cons_zero] at h1 ⊢
   have hv : p.1.fValue = v := (sD _ _).1 h1
   simp only [hv] at hc
   simp [fO, hc, hv]
theorem a3u (v : TValue) (id : Int) (z : Value) : ∀ {its : List cB}, (∀ h : lH v its < its.length, pQ v its[lH v its] = false) →
    fO (its.map (·.1)) (v, id) = (its.take (lH v its) ++ [((⟨v, [id]⟩ : TGroup), z)] ++ its.drop (lH v its)).map (·.1)
 | [], _ => rfl
 | p :: l, h => by
  by_cases hc : cmpV p.1.fValue v < 0
  ·have e : lH v (p :: l) = lH v l + 1 := by simp [lH, hc]
   have ih := a3u v id z (its := l) fun hl => by
    have := h (by rw [e]; simpa using hl)
    simpa only [e, List.getElem_cons_succ] using this
   simp only [e, List.map_cons, fO, hc, if_true, List.take_succ_cons, List.drop_succ_cons, List.cons_append]
   rw [ih]
  ·have e : lH v (p :: l) = 0 := by simp [lH, hc]
   have h1 := h (by rw [e]; simp)
   simp only [e, List.getElem_cons_zero] at h1
   have hv : ¬ p.1.fValue = v := fun k => by rw [pQ, (sD _ _).2 k] at h1; cases h1
   simp [fO, hc, hv, e]
theorem a7K (x : TValue × Int) : ∀ l : List TGroup, bG (fun g => g.fIDs.length) (fO l x) = bG (fun g => g.fIDs.length) l + 1 ∧ (fO l x).length ≤ l.length + 1
 | [] => by simp [fO, bG]
 | g :: l => by
  have ih := a7K x l
  unfold fO
  split
  ·simp [bG]; omega
  ·split
   ·simp [bG]; omega
   ·simp [bG]; omega
theorem a6i (xs : List (TValue × Int)) : ∀ l : List TGroup, bG (fun g => g.fIDs.length) (xs.foldl fO l) = bG (fun g => g.fIDs.length) l + xs.length ∧ (xs.foldl fO l).length ≤ l.length + xs.length := by
 induction xs with
 | nil => intro l; simp
 | cons x xs ih =>
  intro l
  have h1 := a7K x l
  have h2 := ih (fO l x)
  simp only [List.foldl_cons, List.length_cons]
  omega
def a2f (n : Nat) (v : TValue) (id : Int) (z : Value) (l : List cB) : List cB := l.take n ++ [((⟨v, [id]⟩ : TGroup), z)] ++ l.drop n
theorem a4X (n : Nat) (v : TValue) (id : Int) (z : Value) (l : List cB) : (l.map wG ++ [(z, [[Value.int .i64 id]])]).Perm ((a2f n v id z l).map wG) := by
 have e : l.map wG ++ [(z, [[Value.int .i64 id]])] = (l ++ [((⟨v, [id]⟩ : TGroup), z)]).map wG := by simp [wG]
 rw [e]
 refine List.Perm.map _ ?_
 unfold a2f
 conv => lhs; rw [← List.take_append_drop n l]
 rw [List.append_assoc, List.append_assoc]
 exact List.Perm.append_left _ List.perm_append_comm
theorem nW (n : Nat) (v : TValue) (id : Int) (z : Value) (l : List cB) : (a2f n v id z l).map pO = (l.take n).map pO ++ [[iv v.fKind, iv v.fInt, sv v.fStr, .v z]] ++ (l.drop n).map pO := by simp [a2f, pO]
namespace Opq
theorem specGroup_ok (s : TStore) (ids : List Int) (name : ByteArray) (h : aW s ≤ 1048576) (hi : ids.length ≤ 1048576) :
    FnC Tryz.prog 11 [bX s, .o (.d (.sl (ids.map eZ))), os name] (.o (.w 49 4 (((dW s ids name).foldl fO []).map dO))) := by
 refine ent Tryz.func11 rfl Tryz.call11 rfl (fun C => ?_); simp only [go_sem, st0, Tryz.ntmps11]
 refine aD ?_
 refine WP.sees (Sees.pool0 3 1) ?_
 simp only [go_sem]
 refine aY (α := Nat × List cB) (fun x => [(7, .o (.s 1)), (8, oi x.1), (14, .o .u)]) (fun x => [(1, .row 49 4 (x.2.map pO) true), (2, .pool 3 1 (x.2.map wG))]) (fun x => x.1 ≤ ids.length ∧ x.2.map (·.1) = ((dW s ids name).take x.1).foldl fO []) (fun x => ids.length - x.1) (0, []) (fun _ => ?_) ?_ ?_ (fun x hx => ?_)
 ·simp only [go_sem]
 ·simp only [go_sem]; simp
 ·simp
 ·obtain ⟨k, its⟩ := x
  obtain ⟨hk, hq⟩ := hx
  simp only at hk hq
  simp only [go_sem]
  refine aD ?_
  refine cnd rfl (fun h1 => ?_) (fun h1 => ?_)
  ·simp only [decide_eq_true_eq, Int.ofNat_lt] at h1
   have hfw : bV (gU ids[k] s.fFiles) ≤ 4300000 := by have := a0p ids[k] s.fFiles; unfold aW at h; omega
   have hG := dC (gU ids[k] s.fFiles) name hfw
   have hvk : (dW s ids name).take (k + 1) = (dW s ids name).take k ++ [(getAttr name (gU ids[k] s.fFiles).fAttrs, ids[k])] := by
    rw [List.take_succ_eq_append_getElem (by simpa [dW] using h1)]
    simp [dW]
   generalize getAttr name (gU ids[k] s.fFiles).fAttrs = v at hG hvk
   have hsum := a6i ((dW s ids name).take k) []
   rw [← hq] at hsum
   have hvl : ((dW s ids name).take k).length = k := by simp [dW]; omega
   rw [hvl] at hsum
   simp only [bG, List.length_nil, List.length_map, Nat.zero_add] at hsum
   have hil : its.length ≤ k := hsum.2
   have hF := a6h s ids[k] (by omega)
   have qH := @h1; repeat' (with_reducible first | refine nY ?_ | (refine mX ?_; try simp only [go_sem, qH]) | refine kD ?_ | (apply rE [5,9,10] [] [0,1,2,3,4] [0,1,2,3,4] ((.c 5 [6,7,8] [6,7,8] (.c 9 [] [6,7,8] (.c 10 [11] [8,11] .n .n) .n) (.c 9 [] [0,1,2,3,4] (.c 5 [6,7,8] [6,7,8] (.c 10 [11] [8,11] .n .n) .n) .n))) (by simp only [go_sem]; rfl) (by simp only [go_sem]; rfl) (by simp only [go_sem]; rfl) (by decide +kernel); (focus simp only [go_sem]; done)) | exact aT | refine aK (uX ?_) ?_ | refine aL (aX ?_) ?_ | refine aM (aX ?_) ?_ | exact bH | exact oH | exact uB | refine rD ?_ | refine cP hF ?_ | refine cP hG ?_ | refine aO ?_ | fail)
   have hC := fun p : cB => wJ p.1.fValue v
   refine aY (α := Nat) (fun n => [(12, oi n)]) (fun _ => []) (fun n => n ≤ its.length ∧ lH v its = n + lH v (its.drop n)) (fun n => its.length - n) 0 (fun _ => ?_) ?_ ?_ (fun n hn => ?_)
   ·simp only [go_sem]
   ·simp only [go_sem]; simp
   ·simp
   ·obtain ⟨hn, hf⟩ := hn
    simp only [go_sem]
    by_cases h5 : n < its.length
    ·have hfx := b5j v h5 hf
     have h5' : ((n : Int) < (its.length : Int)) = True := by simp [h5]
     have qH := aI @h5 (aI @h5' @decide_true); repeat' (with_reducible first | refine nY ?_ | (refine mX ?_; try simp only [go_sem, qH]) | refine kD ?_ | refine rT [13] [] ?_ | refine dB (aX ?_) (uX ?_) | refine dS (aX ?_) ?_ | (refine uA ?_; simp only [go_sem, qH]; (repeat' first | omega | refine And.intro ?_ ?_ | refine cP (hC its[n]) ?_ | (refine mX ?_; simp only [go_sem, qH] <;> fail)); done) | refine rD ?_ | refine cP (hC its[n]) ?_ | refine aO ?_ | fail)
     refine cnd rfl (fun h6 => ?_) (fun h6 => ?_)
     ·simp only [decide_eq_true_eq] at h6
      rw [if_pos h6] at hfx
      refine aD ?_
      refine aF (n + 1) ?_ ?_ ?_
      ·simp only [go_sem]; simp
      ·exact ⟨by omega, hfx⟩
      ·omega
     ·simp only [decide_eq_false_iff_not] at h6
      rw [if_neg h6] at hfx
      have qH := aI @h5 (aI @h5' @decide_true); repeat' (with_reducible first | refine nY ?_ | (refine mX ?_; try simp only [go_sem, qH]) | refine kD ?_ | refine rT [12] [] ?_ | refine dB (aX ?_) (uX ?_) | refine dS (aX ?_) ?_ | exact uB | refine rD ?_ | refine aO ?_ | fail)
      refine cnd (b := pQ v its[n]) rfl (fun h7 => ?_) (fun h7 => ?_)
      ·have qH := aI @h5 (aI @h5' (aI @h1 @decide_true)); repeat' (with_reducible first | refine nY ?_ | (refine mX ?_; try simp only [go_sem, qH]) | refine kD ?_ | (apply rF [11,12,15] [] [0,1,2,3,4,5,6,7,8,9,10] [0,1,2,3,4,5,6,7,8,9,10] ((.c 11 [] [0,1,2,3,4,5,6] (.c 12 [13,14] [0,1,13,14] (.c 15 [] [] .n .n) .n) .n)) (by simp only [go_sem]; rfl) (by simp only [go_sem]; rfl) (by simp only [go_sem]; rfl) (by decide +kernel); (focus simp only [go_sem]; done)) | exact aT | refine aK (uX ?_) ?_ | refine aL (aX ?_) ?_ | refine aM (aX ?_) ?_ | exact bH | exact oH | exact uB | refine rD ?_ | refine aO ?_ | fail)
       refine ⟨by simp, b2S fun z2 => ?_⟩
       have qH := aI @h5 (aI @h5' (aI @h1 @decide_true)); repeat' (with_reducible first | refine nY ?_ | (refine mX ?_; try simp only [go_sem, qH]) | refine kD ?_ | exact aT | refine aK (uX ?_) ?_ | refine aL (aX ?_) ?_ | refine aM (aX ?_) ?_ | exact uB | refine rD ?_ | refine aO ?_ | fail)
       refine b6p 2 n 5 (its[n].1.fIDs.map fun i => [.int .i64 i]) [[.int .i64 ids[k]]] rfl rfl ?_ (List.mem_singleton.2 rfl) (by simp) ?_ (fun z' => ?_)
       ·rw [List.getElem?_map, List.getElem?_eq_getElem h5]; rfl
       ·have hi2 := dF (fun g : TGroup => g.fIDs.length) (its.map (·.1)) (k := n) (by simpa using h5)
        simp only [List.getElem_map] at hi2
        simp only [go_sem, List.length_map, List.length_cons, List.length_nil]
        omega
       ·simp only [go_sem]
        have qH := aI @h5 (aI @h5' (aI @h1 @decide_true)); repeat' (with_reducible first | refine nY ?_ | (refine mX ?_; try simp only [go_sem, qH]) | refine kD ?_ | exact aT | refine aK (uX ?_) ?_ | refine aL (aX ?_) ?_ | refine aM (aX ?_) ?_ | exact uB | refine rD ?_ | refine aO ?_ | fail)
        refine aF (k + 1, its.set n (⟨its[n].1.fValue, its[n].1.fIDs ++ [ids[k]]⟩, z')) ?_ ?_ ?_
        ·simp only [go_sem]; simp [List.map_set, pO, wG]
        ·refine ⟨h1, ?_⟩
         simp only
         rw [hvk, List.foldl_append, ← hq]
         simp only [List.foldl_cons, List.foldl_nil]
         subst hfx
         exact (a7J v ids[k] z' h5 h7).symm
        ·simp only; omega
      ·have hins : ∀ z2, (a2f n v ids[k] z2 its).map (·.1) = ((dW s ids name).take (k + 1)).foldl fO [] := fun z2 => by
        rw [hvk, List.foldl_append, ← hq]
        simp only [List.foldl_cons, List.foldl_nil]
        subst hfx
        exact (a3u v ids[k] z2 fun hl => h7).symm
       refine WP.sees (Sees.frz 1 rfl) ?_
       simp only [go_sem]
       have qH := aI @h5 (aI @h5' (aI @h1 (aI @kI (aI @kJ (aI @oZ (aI @pE @yL)))))); repeat' (with_reducible first | refine nY ?_ | (refine mX ?_; try simp only [go_sem, qH]) | refine kD ?_ | (apply rF [0,4,10,12,13] [] [1,2,3,5,6,7,8,9] [1,2,3,5,6,7,8,9] ((.c 0 [] [1,2,3,5,6,7,8,9] (.c 4 [] [5,6,7,8,9] (.c 10 [11] [5,11] (.c 12 [] [] (.c 13 [14] [14] .n .n) .n) .n) (.c 10 [11] [1,2,3,5,11] (.c 4 [] [5,11] (.c 12 [] [] (.c 13 [14] [14] .n .n) .n) (.c 12 [] [1,2,3] (.c 4 [] [] (.c 13 [14] [14] .n .n) .n) .n)) .n)) (.c 10 [11] [1,2,3,5,11] (.c 0 [] [1,2,3,5,11] (.c 4 [] [5,11] (.c 12 [] [] (.c 13 [14] [14] .n .n) .n) (.c 12 [] [1,2,3] (.c 4 [] [] (.c 13 [14] [14] .n .n) .n) .n)) (.c 12 [] [1,2,3] (.c 0 [] [1,2,3] (.c 4 [] [] (.c 13 [14] [14] .n .n) .n) .n) .n)) .n))) (by simp only [go_sem]; rfl) (by simp only [go_sem]; rfl) (by simp only [go_sem]; rfl) (by decide +kernel); (focus simp only [go_sem]; done)) | exact aT | refine aK (uX ?_) ?_ | refine aL (aX ?_) ?_ | refine aM (aX ?_) ?_ | exact bH | exact oH | exact uB | refine rD ?_ | refine aO ?_ | fail)
       all_goals
        refine ⟨by simp, b2S fun z2 => ?_⟩
        have qH := aI @h5 (aI @h5' (aI @h1 (aI @kI (aI @kJ (aI @oZ (aI @pE @yL)))))); repeat' (with_reducible first | refine nX ?_ | (refine mX ?_; try simp only [go_sem, qH]) | refine kD ?_ | exact aT | refine aK (uX ?_) ?_ | refine aL (aX ?_) ?_ | refine aM (aX ?_) ?_ | exact uB | refine aO ?_ | fail)
       all_goals
        first | refine WP.sees (Sees.poolM 2 5 rfl rfl (by decide)) ?_ | refine WP.sees (Sees.poolM 2 6 rfl rfl (by decide)) ?_ | refine WP.sees (Sees.poolM 2 7 rfl rfl (by decide)) ?_
        refine WP.sees (Sees.poolP 2 rfl (a4X n v ids[k] z2 its)) ?_
        simp only [go_sem]
        have q0 := @h5; have q1 := @h5'; have q2 := @h1; have q3 := @kI; have q4 := @kJ; have q5 := @oZ; have q6 := @pE; have q7 := @yL; refine a0Q ?_
       all_goals
        first
        | (refine nE [(1, 5)] (k + 1, a2f n v ids[k] z2 its) (by simp only [go_sem]; rfl) ?_ ⟨h1, hins z2⟩ (by simp only; omega)
           simp only [go_sem]
           simp [nW]
           done)
        | (refine nE [(1, 6)] (k + 1, a2f n v ids[k] z2 its) (by simp only [go_sem]; rfl) ?_ ⟨h1, hins z2⟩ (by simp only; omega)
           simp only [go_sem]
           simp [nW]
           done)
        | (refine nE [(1, 7)] (k + 1, a2f n v ids[k] z2 its) (by simp only [go_sem]; rfl) ?_ ⟨h1, hins z2⟩ (by simp only; omega)
           simp only [go_sem]
           simp [nW]
           done)
    ·have e : n = its.length := by omega
     have hfx : lH v its = n := by rw [hf, e, List.drop_length]; rfl
     have h5' : ((n : Int) < (its.length : Int)) = False := by simp [h5]
     have hins : ∀ z2, (a2f n v ids[k] z2 its).map (·.1) = ((dW s ids name).take (k + 1)).foldl fO [] := fun z2 => by
      rw [hvk, List.foldl_append, ← hq]
      simp only [List.foldl_cons, List.foldl_nil]
      subst hfx
      exact (a3u v ids[k] z2 fun hl => by omega).symm
     refine WP.sees (Sees.frz 1 rfl) ?_
     simp only [go_sem]
     have qH := aI @h5 (aI @h5' (aI @h1 (aI @decide_false (aI @kI (aI @kJ (aI @oZ (aI @pE @yL))))))); repeat' (with_reducible first | refine nY ?_ | (refine mX ?_; try simp only [go_sem, qH]) | refine kD ?_ | (apply rF [0,4,10,12,13] [] [1,2,3,5,6,7,8,9] [1,2,3,5,6,7,8,9] ((.c 0 [] [1,2,3,5,6,7,8,9] (.c 4 [] [5,6,7,8,9] (.c 10 [11] [5,11] (.c 12 [] [] (.c 13 [14] [14] .n .n) .n) .n) (.c 10 [11] [1,2,3,5,11] (.c 4 [] [5,11] (.c 12 [] [] (.c 13 [14] [14] .n .n) .n) (.c 12 [] [1,2,3] (.c 4 [] [] (.c 13 [14] [14] .n .n) .n) .n)) .n)) (.c 10 [11] [1,2,3,5,11] (.c 0 [] [1,2,3,5,11] (.c 4 [] [5,11] (.c 12 [] [] (.c 13 [14] [14] .n .n) .n) (.c 12 [] [1,2,3] (.c 4 [] [] (.c 13 [14] [14] .n .n) .n) .n)) (.c 12 [] [1,2,3] (.c 0 [] [1,2,3] (.c 4 [] [] (.c 13 [14] [14] .n .n) .n) .n) .n)) .n))) (by simp only [go_sem]; rfl) (by simp only [go_sem]; rfl) (by simp only [go_sem]; rfl) (by decide +kernel); (focus simp only [go_sem]; done)) | exact aT | refine aK (uX ?_) ?_ | refine aL (aX ?_) ?_ | refine aM (aX ?_) ?_ | exact bH | exact oH | exact uB | refine rD ?_ | (refine rT [13] [] ?_) | (refine dB (aX ?_) (uX ?_)) | (refine dS (aX ?_) ?_) | refine aO ?_ | fail)
     all_goals
      refine ⟨by simp, b2S fun z2 => ?_⟩
      have qH := aI @h5 (aI @h5' (aI @h1 (aI @kI (aI @kJ (aI @oZ (aI @pE @yL)))))); repeat' (with_reducible first | refine nX ?_ | (refine mX ?_; try simp only [go_sem, qH]) | refine kD ?_ | exact aT | refine aK (uX ?_) ?_ | refine aL (aX ?_) ?_ | refine aM (aX ?_) ?_ | exact uB | refine aO ?_ | fail)
     all_goals
      first | refine WP.sees (Sees.poolM 2 5 rfl rfl (by decide)) ?_ | refine WP.sees (Sees.poolM 2 6 rfl rfl (by decide)) ?_ | refine WP.sees (Sees.poolM 2 7 rfl rfl (by decide)) ?_
      refine WP.sees (Sees.poolP 2 rfl (a4X n v ids[k] z2 its)) ?_
      simp only [go_sem]
      have q0 := @h5; have q1 := @h5'; have q2 := @h1; have q3 := @kI; have q4 := @kJ; have q5 := @oZ; have q6 := @pE; have q7 := @yL; refine a0Q ?_
     all_goals
      first
      | (refine nE [(1, 5)] (k + 1, a2f n v ids[k] z2 its) (by simp only [go_sem]; rfl) ?_ ⟨h1, hins z2⟩ (by simp only; omega)
         simp only [go_sem]
         simp [nW]
         done)
      | (refine nE [(1, 6)] (k + 1, a2f n v ids[k] z2 its) (by simp only [go_sem]; rfl) ?_ ⟨h1, hins z2⟩ (by simp only; omega)
         simp only [go_sem]
         simp [nW]
         done)
      | (refine nE [(1, 7)] (k + 1, a2f n v ids[k] z2 its) (by simp only [go_sem]; rfl) ?_ ⟨h1, hins z2⟩ (by simp only; omega)
         simp only [go_sem]
         simp [nW]
         done)
  ·simp only [decide_eq_false_iff_not] at h1
   have e : k = ids.length := by omega
   subst e
   have hvl : (dW s ids name).length = ids.length := by simp [dW]
   rw [← hvl, List.take_length] at hq
   rw [← hq]
   refine aD ?_
   refine nP (Sees.unpool 1 2 (its.map itO) (by rw [List.map_map]; rfl) rfl (by rw [List.map_map]; exact List.Perm.refl _)) ?_
   simp only [go_sem]
   have hclr : (its.map itO).map qW = (its.map (·.1)).map dO := by
    rw [List.map_map, List.map_map]
    exact List.map_congr_left fun p _ => b0G p
   exact aA ⟨⟨_, rfl, by simp only [go_sem, hclr]⟩, trivial⟩
end Opq
end Go.Proofs.YtakopfjdmmnjcaaGreatDoor
end
section
set_option maxRecDepth 100000
set_option maxHeartbeats 4000000
namespace Go.Proofs.YtakopfjdmmnjcaaGreatDoor
open Go Go.Sx Go.RowKit Go.Proofs
theorem b3C {x : TValue × Int} {l : List TGroup} {B : Nat} (hx : iL x.1 ≤ B) (hl : ∀ g ∈ l, iL g.fValue ≤ B) : ∀ g ∈ fO l x, iL g.fValue ≤ B := fun g hg => by
 rcases insG_mem hg with e | ⟨g', h1, h2⟩
 ·rw [e]; exact hx
 ·rw [← h2]; exact hl g' h1
theorem b3D {B : Nat} (xs : List (TValue × Int)) : ∀ l : List TGroup, (∀ x ∈ xs, iL x.1 ≤ B) → (∀ g ∈ l, iL g.fValue ≤ B) → ∀ g ∈ xs.foldl fO l, iL g.fValue ≤ B := by
 induction xs with
 | nil => intro l _ h; exact h
 | cons x xs ih => intro l hx hl; exact ih (fO l x) (fun y hy => hx y (List.mem_cons_of_mem _ hy)) (b3C (hx x List.mem_cons_self) hl)
theorem a4W (n : ByteArray) : ∀ l : List TAttr, iL (getAttr n l) ≤ bG iW l + 1
 | [] => by
  show (⟨#[]⟩ : ByteArray).size ≤ bG iW [] + 1
  have : (⟨#[]⟩ : ByteArray).size = 0 := rfl
  omega
 | a :: l => by
  have := a4W n l
  unfold getAttr
  split
  ·simp only [bG, iW]; omega
  ·simp only [bG]; omega
theorem b0F (B : Nat) : ∀ l : List TGroup, (∀ g ∈ l, iL g.fValue ≤ B) → bG tT l ≤ l.length * B + bG (fun g => g.fIDs.length) l
 | [], _ => by simp [bG]
 | g :: l, h => by
  have h1 := h g List.mem_cons_self
  have h2 := b0F B l fun x hx => h x (List.mem_cons_of_mem _ hx)
  simp only [bG, tT, List.length_cons, Nat.add_mul, Nat.one_mul]
  omega
theorem a9s (B : Nat) (s : TStore) (ids : List Int) (name : ByteArray) (hs : aW s ≤ B) : fD ((dW s ids name).foldl fO []) ≤ ids.length * (B + 3) ∧ ((dW s ids name).foldl fO []).length ≤ ids.length := by
 have h1 := b3D (B := B + 1) (dW s ids name) [] (fun x hx => by
  obtain ⟨id, _, rfl⟩ := List.mem_map.1 hx
  have := a4W name (gU id s.fFiles).fAttrs
  have h2 := a0p id s.fFiles
  have h3 : bG iW (gU id s.fFiles).fAttrs ≤ bV (gU id s.fFiles) := by unfold bV fG; omega
  have h4 : fT s.fFiles ≤ aW s := by unfold aW; omega
  simp only
  omega) (by simp)
 have h2 := b0F (B + 1) _ h1
 have h3 := a6i (dW s ids name) []
 have h4 : (dW s ids name).length = ids.length := by simp [dW]
 simp only [bG, List.length_nil, Nat.zero_add] at h3
 have h5 : ((dW s ids name).foldl fO []).length * (B + 1) ≤ ids.length * (B + 1) := Nat.mul_le_mul_right _ (by omega)
 have h6 : ids.length * (B + 3) = ids.length * (B + 1) + ids.length + ids.length := by rw [Nat.mul_add, Nat.mul_add]; omega
 unfold fD
 exact ⟨by omega, by omega⟩
theorem b8l (s : TStore) (ids : List Int) (name : ByteArray) (hs : aW s ≤ 1048576) (hi : ids.length ≤ 12) : fD ((dW s ids name).foldl fO []) ≤ 67108864 := by
 have h := (a9s 1048576 s ids name hs).1
 have h2 : ids.length * (1048576 + 3) ≤ 12 * (1048576 + 3) := Nat.mul_le_mul_right _ hi
 omega
end Go.Proofs.YtakopfjdmmnjcaaGreatDoor
end
