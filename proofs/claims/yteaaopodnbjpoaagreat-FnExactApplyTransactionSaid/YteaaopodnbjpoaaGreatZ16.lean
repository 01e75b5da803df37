/- Joined texts. -/
import Derived.Test.YteaaopodnbjpoaaGreatZ13
import Derived.Sort.Walk0
import Derived.Test.YteaaopodnbjpoaaGreatZ12
import Derived.Test.YteaaopodnbjpoaaGreatZ10
import Derived.Test.YteaaopodnbjpoaaGreatZ06
import Derived.Test.YteaaopodnbjpoaaGreatZ03
import Derived.Laws.IdiomCopy
import Derived.Deep.AppendSrc
import Derived.Test.YteaaopodnbjpoaaGreatZ07
import Derived.Shelf.RegionOpenPlain
import Derived.WalkKit
import Derived.Deep.Draws
import Derived.Lib.Walk
import Derived.Lib.SliceRun
import Derived.Lib.AppendZeros
import Derived.Laws.Externs
import Derived.Laws.NewBlocks
set_option linter.all false
section
namespace Go.Sx.Clos
section
variable {β : Type} [DecidableEq β]
def Closed (E : List (β × List β)) (S : List β) : Prop := ∀ e ∈ E, (∃ x ∈ e.2, x ∈ S) → e.1 ∈ S
def wsm (w : β → Nat) : List β → Nat
 | [] => 0
 | x :: l => w x + wsm w l
def kI (w : β → Nat) : List (β × List β) → List β → Nat
 | [], _ => 0
 | e :: E, S => (if e.1 ∈ S then 0 else w e.1) + kI w E S
theorem a2F (w : β → Nat) (E : List (β × List β)) {S T : List β} (h : ∀ x ∈ S, x ∈ T) : kI w E T ≤ kI w E S := by
 induction E with
 | nil => simp [kI]
 | cons e E ih =>
  simp only [kI]
  by_cases h1 : e.1 ∈ S
  ·have h2 := h _ h1; simp [h1, h2]; exact ih
  ·by_cases h2 : e.1 ∈ T
   ·simp [h1, h2]; omega
   ·simp [h1, h2]; exact ih
theorem a1Y (w : β → Nat) (E : List (β × List β)) {S T : List β} (h : ∀ x ∈ S, x ∈ T) {y : β} (hy : ∃ e ∈ E, e.1 = y) (h1 : y ∈ T) (h2 : ¬ y ∈ S) : kI w E T + w y ≤ kI w E S := by
 induction E with
 | nil => obtain ⟨e, he, _⟩ := hy; simp at he
 | cons e E ih =>
  obtain ⟨e', he', rfl⟩ := hy
  rcases List.mem_cons.1 he' with rfl | hm
  ·have := a2F w E h
   simp only [kI]
   simp [h1, h2]; omega
  ·have := ih ⟨e', hm, rfl⟩
   simp only [kI]
   by_cases h3 : e.1 ∈ S
   ·have h4 := h _ h3; simp [h3, h4]; exact this
   ·by_cases h4 : e.1 ∈ T
    ·simp [h3, h4]; omega
    ·simp [h3, h4]; omega
theorem b3K (E : List (β × List β)) (S : List β) : kI (fun _ => 1) E S ≤ E.length := by
 induction E with
 | nil => simp [kI]
 | cons e E ih => simp only [kI, List.length_cons]; split <;> omega
variable (put : List β → β → List β)
def askC (name : β) (out asks : List β) : List β := asks.foldl (fun o a => if a ∈ o then put o name else o) out
def round (E : List (β × List β)) (S : List β) : List β := E.foldl (fun o e => askC put e.1 o e.2) S
def jK (E : List (β × List β)) : Nat → List β → List β
 | 0, S => S
 | n + 1, S => round put E (jK E n S)
variable {put} (hput : ∀ l s x, x ∈ put l s ↔ x = s ∨ x ∈ l)
include hput
theorem a1u (name : β) (asks : List β) : ∀ (out : List β) (x : β), x ∈ askC put name out asks ↔ x ∈ out ∨ (x = name ∧ ∃ a ∈ asks, a ∈ out) := by
 induction asks with
 | nil => intro out x; simp [askC]
 | cons a asks ih =>
  intro out x
  have ih' := ih (if a ∈ out then put out name else out) x
  unfold askC at *
  rw [List.foldl_cons, ih']
  by_cases h : a ∈ out
  ·simp only [h, if_true, hput]
   constructor
   ·rintro ((rfl | h1) | ⟨rfl, _⟩)
    ·exact .inr ⟨rfl, a, List.mem_cons_self, h⟩
    ·exact .inl h1
    ·exact .inr ⟨rfl, a, List.mem_cons_self, h⟩
   ·rintro (h1 | ⟨rfl, _⟩)
    ·exact .inl (.inr h1)
    ·exact .inl (.inl rfl)
  ·simp only [h, if_false]
   constructor
   ·rintro (h1 | ⟨rfl, b, hb, h2⟩)
    ·exact .inl h1
    ·exact .inr ⟨rfl, b, List.mem_cons_of_mem _ hb, h2⟩
   ·rintro (h1 | ⟨rfl, b, hb, h2⟩)
    ·exact .inl h1
    ·rcases List.mem_cons.1 hb with rfl | hb
     ·exact absurd h2 h
     ·exact .inr ⟨rfl, b, hb, h2⟩
theorem yY (E : List (β × List β)) : ∀ (S : List β), ∀ x ∈ S, x ∈ round put E S := by
 induction E with
 | nil => intro S x h; exact h
 | cons e E ih =>
  intro S x h
  exact ih _ x ((a1u hput e.1 e.2 S x).2 (.inl h))
theorem a2G (E : List (β × List β)) {T : List β} (hT : Closed E T) : ∀ (S : List β), (∀ x ∈ S, x ∈ T) → ∀ x ∈ round put E S, x ∈ T := by
 induction E with
 | nil => intro S h; exact h
 | cons e E ih =>
  intro S h
  refine ih (fun e' he' => hT e' (List.mem_cons_of_mem _ he')) _ (fun x hx => ?_)
  rcases (a1u hput e.1 e.2 S x).1 hx with h1 | ⟨rfl, a, ha, h2⟩
  ·exact h x h1
  ·exact hT e List.mem_cons_self ⟨a, ha, h a h2⟩
theorem b1k (E : List (β × List β)) : ∀ (S : List β) (e : β × List β), e ∈ E → (∃ x ∈ e.2, x ∈ S) → e.1 ∈ round put E S := by
 induction E with
 | nil => intro S e he; simp at he
 | cons e0 E ih =>
  intro S e he h
  rcases List.mem_cons.1 he with rfl | he
  ·exact yY hput E _ _ ((a1u hput e.1 e.2 S e.1).2 (.inr ⟨rfl, h⟩))
  ·obtain ⟨x, hx, hs⟩ := h
   exact ih _ e he ⟨x, hx, (a1u hput e0.1 e0.2 S x).2 (.inl hs)⟩
theorem round_new (E : List (β × List β)) : ∀ (S : List β) (x : β), x ∈ round put E S → x ∈ S ∨ ∃ e ∈ E, e.1 = x := by
 induction E with
 | nil => intro S x h; exact .inl h
 | cons e E ih =>
  intro S x h
  rcases ih _ x h with h | ⟨e', he', rfl⟩
  ·rcases (a1u hput e.1 e.2 S x).1 h with h | ⟨rfl, _⟩
   ·exact .inl h
   ·exact .inr ⟨e, List.mem_cons_self, rfl⟩
  ·exact .inr ⟨e', List.mem_cons_of_mem _ he', rfl⟩
theorem a4T (E : List (β × List β)) (S : List β) : ∀ (n : Nat), ∀ x ∈ S, x ∈ jK put E n S
 | 0, x, h => h
 | n + 1, x, h => yY hput E _ x (a4T E S n x h)
theorem a1v (E : List (β × List β)) {S T : List β} (hT : Closed E T) (h : ∀ x ∈ S, x ∈ T) : ∀ (n : Nat), ∀ x ∈ jK put E n S, x ∈ T
 | 0, x, hx => h x hx
 | n + 1, x, hx => a2G hput E hT _ (a1v E hT h n) x hx
theorem rounds_count (E : List (β × List β)) (S : List β) : ∀ (n : Nat), Closed E (jK put E n S) ∨ kI (fun _ => 1) E (jK put E n S) + n ≤ E.length
 | 0 => .inr (by simpa [jK] using b3K E S)
 | n + 1 => by
  rcases rounds_count E S n with h | h
  ·refine .inl (fun e he hx => ?_)
   obtain ⟨x, hx, hs⟩ := hx
   have hs' := a2G hput E h _ (fun y hy => hy) x hs
   exact yY hput E _ _ (h e he ⟨x, hx, hs'⟩)
  ·by_cases hc : Closed E (jK put E (n + 1) S)
   ·exact .inl hc
   ·refine .inr ?_
    have hn : ∃ y, y ∈ round put E (jK put E n S) ∧ ¬ y ∈ jK put E n S := Classical.byContradiction fun hno => hc (fun e he hx => by
     obtain ⟨x, hx, hs⟩ := hx
     have hs' : x ∈ jK put E n S := Classical.byContradiction fun h' => hno ⟨x, hs, h'⟩
     exact b1k hput E _ e he ⟨x, hx, hs'⟩)
    obtain ⟨y, h1, h2⟩ := hn
    have hy : ∃ e ∈ E, e.1 = y := by
     rcases round_new hput E _ y h1 with h | h
     ·exact absurd h h2
     ·exact h
    have := a1Y (fun _ => 1) E (yY hput E (jK put E n S)) hy h1 h2
    simp only [jK]
    omega
omit hput in
theorem b2u {P : List β → Prop} {Nm : β → Prop} (hP : ∀ o n, P o → Nm n → P (put o n)) (name : β) (hn : Nm name) (asks : List β) : ∀ out, P out → P (askC put name out asks) := by
 induction asks with
 | nil => intro out h; exact h
 | cons a asks ih =>
  intro out h
  unfold askC at *
  rw [List.foldl_cons]
  refine ih _ ?_
  split
  ·exact hP _ _ h hn
  ·exact h
omit hput in
theorem a6B {P : List β → Prop} {Nm : β → Prop} (hP : ∀ o n, P o → Nm n → P (put o n)) (E : List (β × List β)) : (∀ e ∈ E, Nm e.1) → ∀ S, P S → P (round put E S) := by
 induction E with
 | nil => intro _ S h; exact h
 | cons e E ih => intro hn S h; exact ih (fun e he => hn e (List.mem_cons_of_mem _ he)) _ (b2u hP e.1 (hn e List.mem_cons_self) e.2 S h)
omit hput in
theorem a4U {P : List β → Prop} {Nm : β → Prop} (hP : ∀ o n, P o → Nm n → P (put o n)) (E : List (β × List β)) (hn : ∀ e ∈ E, Nm e.1) {S : List β} (h : P S) : ∀ n, P (jK put E n S)
 | 0 => h
 | n + 1 => a6B hP E hn _ (a4U hP E hn h n)
theorem a5B (E : List (β × List β)) (S : List β) : Closed E (jK put E (E.length + 1) S) := by
 rcases rounds_count hput E S (E.length + 1) with h | h
 ·exact h
 ·omega
theorem a9B (E : List (β × List β)) {S O : List β} (h1 : ∀ x ∈ S, x ∈ O) (h2 : Closed E O) (h3 : ∀ T : List β, Closed E T → (∀ x ∈ S, x ∈ T) → ∀ x ∈ O, x ∈ T) (x : β) : x ∈ O ↔ x ∈ jK put E (E.length + 1) S :=
 ⟨fun h => h3 _ (a5B hput E S) (a4T hput E S _) x h, fun h => a1v hput E h2 h1 _ x h⟩
omit hput
theorem yB {lt : β → β → Prop} (hi : ∀ x, ¬ lt x x) (ht : ∀ x y z, lt x y → lt y z → lt x z) : ∀ {l m : List β}, l.Pairwise lt → m.Pairwise lt → (∀ x, x ∈ l ↔ x ∈ m) → l = m
 | [], [], _, _, _ => rfl
 | [], b :: m, _, _, h => by have := (h b).2 List.mem_cons_self; simp at this
 | a :: l, [], _, _, h => by have := (h a).1 List.mem_cons_self; simp at this
 | a :: l, b :: m, h1, h2, h => by
  rw [List.pairwise_cons] at h1 h2
  have hab : a = b := by
   rcases List.mem_cons.1 ((h a).1 List.mem_cons_self) with e | e
   ·exact e
   ·rcases List.mem_cons.1 ((h b).2 List.mem_cons_self) with e' | e'
    ·exact e'.symm
    ·exact absurd (ht _ _ _ (h1.1 b e') (h2.1 a e)) (hi a)
  subst hab
  congr 1
  refine yB hi ht h1.2 h2.2 (fun x => ⟨fun hx => ?_, fun hx => ?_⟩)
  ·rcases List.mem_cons.1 ((h x).1 (List.mem_cons_of_mem _ hx)) with e | e
   ·subst e; exact absurd (h1.1 x hx) (hi x)
   ·exact e
  ·rcases List.mem_cons.1 ((h x).2 (List.mem_cons_of_mem _ hx)) with e | e
   ·subst e; exact absurd (h2.1 x hx) (hi x)
   ·exact e
end
end Go.Sx.Clos
namespace Go.Proofs.YteaaopodnbjpoaaGreat
open Go Go.Sx Go.RowKit Go.Proofs
theorem b8D {x y : ByteArray} (h : bl x = bl y) : x = y := by rw [← a9t x, ← a9t y, h]
def ltS (x y : ByteArray) : Prop := bl x < bl y
theorem oO (x y : ByteArray) : gD x y = true ↔ ltS x y := by
 unfold gD ltS bl
 rw [Go.Proofs.bytesLess_eq, decide_eq_true_eq, ByteArray.toList_eq, ByteArray.toList_eq]
theorem qE (x : ByteArray) : ¬ ltS x x := List.lt_irrefl (bl x)
theorem yZ (x y z : ByteArray) (h : ltS x y) (k : ltS y z) : ltS x z := List.lt_trans h k
theorem b5K {x y : List UInt8} (h : x ≤ y) (k : x ≠ y) : x < y := Classical.byContradiction fun hn => k (List.le_antisymm h (List.not_lt.1 hn))
theorem b7k {x y : ByteArray} (h : ¬ ltS x y) (k : x ≠ y) : ltS y x := b5K (List.not_lt.1 h) fun e => k (b8D e).symm
theorem b3L (y s : ByteArray) (l : List ByteArray) : putS (y :: l) s = if gD y s then y :: putS l s else if y = s then y :: l else s :: y :: l := by
 unfold putS
 cases h : gD y s with
 | true =>
  have hg : geS s y = false := by simp [geS, h]
  simp only [fstIx, hg, Bool.false_eq_true, if_false, List.drop_succ_cons, if_true]
  split
  ·rfl
  ·simp [insAt]
 | false =>
  have hg : geS s y = true := by simp [geS, h]
  simp only [fstIx, hg, if_true, List.drop_zero, List.head?_cons, Bool.false_eq_true, if_false, Option.some.injEq]
  split
  ·rfl
  ·simp [insAt]
theorem qV (s : ByteArray) : ∀ {l : List ByteArray}, l.Pairwise ltS → (putS l s).Pairwise ltS
 | [], _ => by simp [putS, fstIx, insAt]
 | y :: l, h => by
  rw [b3L]
  rw [List.pairwise_cons] at h
  split
  ·rename_i hlt
   rw [List.pairwise_cons]
   refine ⟨fun x hx => ?_, qV s h.2⟩
   rcases (tT l s x).1 hx with rfl | hx
   ·exact (oO _ _).1 hlt
   ·exact h.1 x hx
  ·rename_i hlt
   split
   ·exact List.pairwise_cons.2 h
   ·rename_i hne
    have hs : ltS s y := b7k (fun hh => hlt ((oO _ _).2 hh)) hne
    refine List.pairwise_cons.2 ⟨fun x hx => ?_, List.pairwise_cons.2 h⟩
    rcases List.mem_cons.1 hx with rfl | hx
    ·exact hs
    ·exact yZ _ _ _ hs (h.1 x hx)
theorem a7O (l : List ByteArray) : ∀ {a : List ByteArray}, a.Pairwise ltS → (l.foldl putS a).Pairwise ltS := by
 induction l with
 | nil => intro a h; exact h
 | cons y l ih => intro a h; exact ih (qV y h)
theorem a9C (l : List ByteArray) : (putL l).Pairwise ltS := a7O l List.Pairwise.nil
theorem zO (d : Array (List UInt8)) (hs : ∀ i j, i < j → j < d.size → d[i]! ≤ d[j]!) : ∀ m, m ≤ d.size → (Lib.compactUpTo d m).Pairwise (fun x y => x < y) ∧ ∀ x ∈ Lib.compactUpTo d m, 0 < m ∧ x ≤ d[m - 1]!
 | 0, _ => by simp [Lib.compactUpTo]
 | m + 1, hm => by
  obtain ⟨h1, h2⟩ := zO d hs m (by omega)
  rw [Lib.compactUpTo_succ]
  have hup : ∀ x ∈ Lib.compactUpTo d m, x ≤ d[m]! := fun x hx => by
   obtain ⟨h0, h3⟩ := h2 x hx
   exact List.le_trans h3 (hs (m - 1) m (by omega) (by omega))
  refine ⟨?_, fun x hx => ⟨by omega, ?_⟩⟩
  ·cases hk : Lib.keeps d m with
   | false => simpa using h1
   | true =>
    rw [List.pairwise_append]
    refine ⟨h1, by simp, fun x hx y hy => ?_⟩
    simp only [if_true, List.mem_singleton] at hy
    subst hy
    obtain ⟨h0, h3⟩ := h2 x hx
    have hne : d[m]! ≠ d[m - 1]! := fun e => by rw [Lib.keeps_neg h0 e] at hk; cases hk
    have hle := hs (m - 1) m (by omega) (by omega)
    refine b5K (hup x hx) fun e => hne ?_
    rw [e] at h3
    exact List.le_antisymm h3 hle
  ·rcases List.mem_append.1 hx with h | h
   ·exact hup x h
   ·split at h
    ·simp only [List.mem_singleton] at h; subst h; exact List.le_refl _
    ·simp at h
theorem a7P (l : List ByteArray) : (eX l).Pairwise ltS := by
 have e : (tV l).map bl = oD (l.map bl) := by
  unfold tV
  rw [List.map_map]
  have : (bl ∘ lb) = id := by funext x; exact b5y x
  rw [this, List.map_id]
 unfold eX a6v
 rw [e, List.pairwise_map]
 have hs : (oD (l.map bl)).Pairwise (fun a b => decide (a ≤ b) = true) := by
  refine List.pairwise_mergeSort (le := fun x y : List UInt8 => decide (x ≤ y)) (fun a b c h k => decide_eq_true (List.le_trans (of_decide_eq_true h) (of_decide_eq_true k))) (fun a b => ?_) (l.map bl)
  by_cases h : a ≤ b
  ·simp [h]
  ·have : b ≤ a := List.le_of_lt (List.not_le.1 h)
   simp [this]
 have h := (zO (oD (l.map bl)).toArray (fun i j hij hj => by
  have hj' : j < (oD (l.map bl)).length := by simpa using hj
  have hi' : i < (oD (l.map bl)).length := by omega
  have := List.pairwise_iff_getElem.1 hs i j hi' hj' hij
  simpa [getElem!_pos, hi', hj'] using of_decide_eq_true this) (oD (l.map bl)).length (by simp)).1
 exact h.imp (fun {x y} h => by show bl (lb x) < bl (lb y); exact h)
end Go.Proofs.YteaaopodnbjpoaaGreat
end
section
namespace Go.Proofs.YteaaopodnbjpoaaGreat
open Go Go.Sx Go.RowKit Go.Proofs
theorem kJ {x : TStore} : bR x = true ↔ (∀ k, k < x.fFiles.length → iI x k = true) ∧ okSchema x.fSchema = true ∧ x.fFiles.length ≤ 12 ∧ 1 ≤ x.fNextID ∧ x.fNextID ≤ 61 := by
 unfold bR inB
 simp only [Bool.and_eq_true, List.all_eq_true, List.mem_range, decide_eq_true_eq]
 constructor
 ·rintro ⟨h1, h2, h3, h4, h5⟩; exact ⟨h1, h2, by omega, h4, h5⟩
 ·rintro ⟨h1, h2, h3, h4, h5⟩; exact ⟨h1, h2, by omega, h4, h5⟩
theorem gK {x : TStore} {k : Nat} (h : k < x.fFiles.length) : iI x k = true ↔ eU x.fSchema x.fFiles[k] = true ∧ x.fFiles[k].fID < x.fNextID ∧ a7F x.fFiles k = true := by
 unfold iI
 rw [List.getElem?_eq_getElem h]
 simp only [Bool.and_eq_true, Bool.not_eq_true', decide_eq_false_iff_not, Int.not_le]
theorem a2a {s : List TField} {f : TFile} (h : eU s f = true) : 1 ≤ f.fID ∧ f.fID ≤ 60 := by
 unfold eU inB at h
 simp only [Bool.and_eq_true, decide_eq_true_eq] at h
 exact h.2.1
def mkF (s : TStore) (f : TFile) : TFile := { f with fID := s.fNextID }
def iQ (s : TStore) (f : TFile) : Bool := bR s && (decide (s.fFiles.length < 12) && eU s.fSchema (mkF s f))
def nS (s : TStore) (f : TFile) : TStore := if iQ s f then ⟨s.fSchema, s.fFiles ++ [mkF s f], s.fNextID + 1⟩ else s
def a1w (s : TStore) (f : TFile) : Int := if iQ s f then s.fNextID else 0
theorem b3N {s : TStore} {f : TFile} : iQ s f = true ↔ bR s = true ∧ s.fFiles.length < 12 ∧ eU s.fSchema (mkF s f) = true := by
 unfold iQ; simp only [Bool.and_eq_true, decide_eq_true_eq]
theorem b8G {s : TStore} {f : TFile} (h : iQ s f = true) : bR (nS s f) = true := by
 obtain ⟨hs, hl, hf⟩ := b3N.1 h
 obtain ⟨h1, h2, h3, h4, h5⟩ := kJ.1 hs
 have hid := a2a hf
 have hid2 : 1 ≤ s.fNextID ∧ s.fNextID ≤ 60 := hid
 unfold nS
 rw [if_pos h]
 refine kJ.2 ⟨fun k hk => ?_, h2, by simp; omega, by simp only; omega, by simp only; omega⟩
 rw [gK hk]
 simp only [List.length_append, List.length_cons, List.length_nil] at hk
 by_cases e : k < s.fFiles.length
 ·obtain ⟨q1, q2, q3⟩ := (gK e).1 (h1 k e)
  refine ⟨by simp only [List.getElem_append_left e]; exact q1, by simp only [List.getElem_append_left e]; omega, ?_⟩
  by_cases h0 : 0 < k
  ·rw [qB _ _ h0 (by simp; omega)]
   rw [qB _ _ h0 e] at q3
   simpa only [List.getElem_append_left e, List.getElem_append_left (show k - 1 < s.fFiles.length by omega)] using q3
  ·exact a4J _ _ h0
 ·have ek : k = s.fFiles.length := by omega
  subst ek
  refine ⟨by simpa using hf, by simp [mkF]; omega, ?_⟩
  by_cases h0 : 0 < s.fFiles.length
  ·rw [qB _ _ h0 (by simp)]
   have e1 : s.fFiles.length - 1 < s.fFiles.length := by omega
   have q := ((gK e1).1 (h1 _ e1)).2.1
   simp only [List.getElem_append_left e1, List.getElem_append_right (Nat.le_refl _), Nat.sub_self, List.getElem_cons_zero, mkF, Bool.not_eq_true', decide_eq_false_iff_not]
   omega
  ·exact a4J _ _ h0
theorem b1o (s : TStore) (f : TFile) : aL (nS s f) ≤ aL s + wFile f + 1 := by
 unfold nS
 split
 ·unfold aL bY
  simp only [List.length_append, List.length_cons, List.length_nil]
  have : wsum wFile (s.fFiles ++ [mkF s f]) = wsum wFile s.fFiles + wFile f := by
   have key : ∀ l : List TFile, wsum wFile (l ++ [mkF s f]) = wsum wFile l + wFile f := by
    intro l
    induction l with
    | nil => simp [wsum, wFile, mkF]
    | cons x l ih => simp only [List.cons_append, wsum, ih]; omega
   exact key _
  rw [this]; omega
 ·omega
end Go.Proofs.YteaaopodnbjpoaaGreat
end
section
namespace Go.Proofs.YteaaopodnbjpoaaGreat
open Go Go.Sx Go.RowKit Go.Proofs
def ixF (id : Int) (l : List TFile) : Int := dX (fun f => decide (f.fID = id)) l 0
theorem ixF_cases (id : Int) (l : List TFile) : (ixF id l = -1) ∨ ∃ p : Nat, ixF id l = p ∧ ∃ h : p < l.length, l[p].fID = id := by
 rcases idxP_spec (fun f : TFile => decide (f.fID = id)) l 0 with h | ⟨k, e1, e2, e5, e6⟩
 ·exact .inl h.1
 ·exact .inr ⟨k, by unfold ixF; rw [e1]; simp, e2, by simpa using e5⟩
def zF : TFile := ⟨0, 0, false, 0, []⟩
def iP (id : Int) (l : List TFile) : TFile := if 0 ≤ ixF id l then l.getD (ixF id l).toNat zF else zF
theorem a4V {id : Int} {l : List TFile} (h : ixF id l = -1) : iP id l = zF := by unfold iP; rw [h]; rfl
theorem a1Z {id : Int} {l : List TFile} {p : Nat} (h : ixF id l = p) (hp : p < l.length) : iP id l = l[p] := by unfold iP; rw [h, if_pos (by omega)]; simp [hp]
theorem b2v (id : Int) (l : List TFile) : wFile (iP id l) ≤ bY l := by
 rcases ixF_cases id l with h | ⟨p, h, hp, _⟩
 ·rw [a4V h]; simp [zF, wFile, dN, wsum]
 ·rw [a1Z h hp]; have := bA wFile l hp; unfold bY; omega
def fJ {α : Type} (p : Nat) (l : List α) : List α := l.take p ++ l.drop (p + 1)
theorem wC {α : Type} {p : Nat} {l : List α} (h : p < l.length) : (fJ p l).length = l.length - 1 := by simp [fJ]; omega
theorem b2w {α β : Type} (f : α → β) (p : Nat) (l : List α) : (fJ p l).map f = fJ p (l.map f) := by simp [fJ]
theorem a7Q {α : Type} {p k : Nat} {l : List α} (h : p < l.length) (hk : k < (fJ p l).length) (e : k < p) : (fJ p l)[k] = l[k] := by
 simp only [fJ]
 rw [List.getElem_append_left (by simp; omega), List.getElem_take]
theorem b1l {α : Type} {p k : Nat} {l : List α} (h : p < l.length) (hk : k < (fJ p l).length) (e : ¬ k < p) : (fJ p l)[k] = l[k + 1]'(by rw [wC h] at hk; omega) := by
 simp only [fJ]
 rw [List.getElem_append_right (by simp; omega), List.getElem_drop]
 congr 1
 simp; omega
theorem b5L {α : Type} (f : α → Nat) : ∀ (p : Nat) (l : List α), wsum f (fJ p l) ≤ wsum f l
 | _, [] => by simp [fJ, wsum]
 | 0, x :: l => by simp [fJ, wsum]
 | p + 1, x :: l => by
  have ih := b5L f p l
  simp only [fJ, List.take_succ_cons, List.drop_succ_cons, List.cons_append, wsum] at ih ⊢
  omega
theorem b5M {α : Type} (f : α → Nat) (y : α) : ∀ (p : Nat) (l : List α), wsum f (l.set p y) ≤ wsum f l + f y
 | _, [] => by simp [wsum]
 | 0, x :: l => by simp only [List.set_cons_zero, wsum]; omega
 | p + 1, x :: l => by
  have ih := b5M f y p l
  simp only [List.set_cons_succ, wsum]
  omega
theorem wD {s : TStore} (h : bR s = true) (j : Nat) (h0 : 0 < j) (hj : j < s.fFiles.length) : s.fFiles[j - 1].fID < s.fFiles[j].fID := by
 have q := ((gK hj).1 ((kJ.1 h).1 j hj)).2.2
 rw [qB _ _ h0 hj] at q
 simp only [Bool.not_eq_true', decide_eq_false_iff_not] at q
 omega
theorem a7R (l : List TFile) (k : Nat) (hk : k < l.length) (h : ∀ h0 : 0 < k, (l[k - 1]'(by omega)).fID < l[k].fID) : a7F l k = true := by
 by_cases h0 : 0 < k
 ·rw [qB _ _ h0 hk]
  have := h h0
  simp only [Bool.not_eq_true', decide_eq_false_iff_not]
  omega
 ·exact a4J _ _ h0
def lT (s : TStore) (id : Int) : Bool := bR s && decide (0 ≤ ixF id s.fFiles)
def yC (s : TStore) (id : Int) : TStore := if lT s id then ⟨s.fSchema, fJ (ixF id s.fFiles).toNat s.fFiles, s.fNextID⟩ else s
theorem b8E {s : TStore} {id : Int} (h : lT s id = true) : bR (yC s id) = true := by
 have h' := h
 unfold lT at h'
 rw [Bool.and_eq_true, decide_eq_true_eq] at h'
 obtain ⟨hs, hi⟩ := h'
 obtain ⟨h1, h2, h3, h4, h5⟩ := kJ.1 hs
 rcases ixF_cases id s.fFiles with e | ⟨p, e, hp, _⟩
 ·omega
 unfold yC
 rw [if_pos h, e, Int.toNat_natCast]
 have hl := wC hp
 refine kJ.2 ⟨fun k hk => ?_, h2, by simp only [hl]; omega, h4, h5⟩
 rw [gK hk]
 simp only at hk ⊢
 by_cases ek : k < p
 ·have e1 := a7Q hp hk ek
  obtain ⟨q1, q2, q3⟩ := (gK (by omega)).1 (h1 k (by omega))
  refine ⟨by rw [e1]; exact q1, by rw [e1]; exact q2, a7R _ _ hk fun h0 => ?_⟩
  rw [e1, a7Q hp (by omega) (by omega)]
  exact wD hs k h0 (by omega)
 ·have e1 := b1l hp hk ek
  have hk1 : k + 1 < s.fFiles.length := by rw [hl] at hk; omega
  obtain ⟨q1, q2, q3⟩ := (gK hk1).1 (h1 (k + 1) hk1)
  refine ⟨by rw [e1]; exact q1, by rw [e1]; exact q2, a7R _ _ hk fun h0 => ?_⟩
  have u1 := wD hs (k + 1) (by omega) hk1
  simp only [Nat.add_sub_cancel] at u1
  by_cases ep : k - 1 < p
  ·rw [e1, a7Q hp (by omega) ep]
   have u2 := wD hs k h0 (by omega)
   omega
  ·rw [e1, b1l hp (by omega) ep]
   have ee : k - 1 + 1 = k := by omega
   simp only [ee]
   exact u1
theorem b1m (s : TStore) (id : Int) : aL (yC s id) ≤ aL s := by
 unfold yC
 split
 ·have h := b5L wFile (ixF id s.fFiles).toNat s.fFiles
  have hl : (fJ (ixF id s.fFiles).toNat s.fFiles).length ≤ s.fFiles.length := by simp [fJ]; omega
  unfold aL bY; simp only; omega
 ·omega
def jD (s : TStore) (f : TFile) : Bool := bR s && (decide (0 ≤ ixF f.fID s.fFiles) && eU s.fSchema f)
def tY (s : TStore) (f : TFile) : TStore := if jD s f then ⟨s.fSchema, s.fFiles.set (ixF f.fID s.fFiles).toNat f, s.fNextID⟩ else s
theorem b3M {s : TStore} {f : TFile} : jD s f = true ↔ bR s = true ∧ 0 ≤ ixF f.fID s.fFiles ∧ eU s.fSchema f = true := by
 unfold jD; simp only [Bool.and_eq_true, decide_eq_true_eq]
theorem b8F {s : TStore} {f : TFile} (h : jD s f = true) : bR (tY s f) = true := by
 obtain ⟨hs, hi, hf⟩ := b3M.1 h
 obtain ⟨h1, h2, h3, h4, h5⟩ := kJ.1 hs
 rcases ixF_cases f.fID s.fFiles with e | ⟨p, e, hp, hid⟩
 ·omega
 unfold tY
 rw [if_pos h, e, Int.toNat_natCast]
 have key : ∀ j (hj : j < (s.fFiles.set p f).length), (s.fFiles.set p f)[j].fID = (s.fFiles[j]'(by simpa using hj)).fID := by
  intro j hj
  rw [List.getElem_set]
  split
  ·rename_i ej; subst ej; exact hid.symm
  ·rfl
 refine kJ.2 ⟨fun k hk => ?_, h2, by simpa using h3, h4, h5⟩
 rw [gK hk]
 simp only at hk ⊢
 have hk' : k < s.fFiles.length := by simpa using hk
 obtain ⟨q1, q2, q3⟩ := (gK hk').1 (h1 k hk')
 refine ⟨?_, by rw [key k hk]; exact q2, a7R _ _ hk fun h0 => ?_⟩
 ·rw [List.getElem_set]
  split
  ·exact hf
  ·exact q1
 ·rw [key k hk, key (k - 1) (by omega)]
  exact wD hs k h0 hk'
theorem b1n (s : TStore) (f : TFile) : aL (tY s f) ≤ aL s + wFile f := by
 unfold tY
 split
 ·have h := b5M wFile f (ixF f.fID s.fFiles).toNat s.fFiles
  unfold aL bY; simp only [List.length_set]; omega
 ·omega
end Go.Proofs.YteaaopodnbjpoaaGreat
end
section
namespace Go.Proofs.YteaaopodnbjpoaaGreat
open Go Go.Sx Go.RowKit Go.Proofs Go.Sx.Clos
def eqD (s : ByteArray) (o : TDir) : Bool := decide (o.fName = s)
def gtD (s : ByteArray) (o : TDir) : Bool := !(gD o.fName s || decide (o.fName = s))
def setAt (d : List TDir) (x : TDir) : List TDir := if fstIx (eqD x.fName) d < d.length then d.set (fstIx (eqD x.fName) d) x else insAt (fstIx (gtD x.fName) d) x d
def mQ (d : List TDir) (x : TDir) : Bool := bJ d && bJ (setAt d x)
def jR (d : List TDir) (x : TDir) : List TDir := if mQ d x then setAt d x else d
theorem placeD_fst (d : List TDir) (s : ByteArray) : (placeD d s = -1 ∧ fstIx (eqD s) d = d.length) ∨ (placeD d s = (fstIx (eqD s) d : Nat) ∧ fstIx (eqD s) d < d.length) := by
 rcases idxP_fst (fun x : TDir => decide (x.fName = s)) d 0 with ⟨_, h1, h2⟩ | ⟨h1, h2⟩
 ·exact .inl ⟨h1, h2⟩
 ·exact .inr ⟨by unfold placeD; rw [h1, Nat.zero_add]; rfl, h2⟩
def mR (x : TDir) (a : List TDir × Bool) (e : TDir) : List TDir × Bool :=
 let b := if !a.2 && !gD e.fName x.fName then (a.1 ++ [x], true) else a
 (if e.fName = x.fName then b.1 else b.1 ++ [e], b.2)
def b5J (x : TDir) (a : List TDir × Bool) : List TDir := if a.2 then a.1 else a.1 ++ [x]
theorem a0p (x : TDir) : ∀ (l o : List TDir), (∀ e ∈ l, e.fName ≠ x.fName) → l.foldl (mR x) (o, true) = (o ++ l, true)
 | [], o, _ => by simp
 | e :: l, o, h => by
  have h1 := h e (by simp)
  rw [List.foldl_cons, show mR x (o, true) e = (o ++ [e], true) by simp [mR, h1], a0p x l _ (fun y hy => h y (by simp [hy]))]
  simp
theorem a4S {α : Type} (p : α → Bool) : ∀ l : List α, (∀ x ∈ l, p x = false) → fstIx p l = l.length
 | [], _ => rfl
 | x :: l, h => by rw [fstIx, h x (by simp), a4S p l (fun y hy => h y (by simp [hy]))]; simp
theorem a6A (x : TDir) : ∀ (l o : List TDir), (l.map TDir.fName).Pairwise ltS → b5J x (l.foldl (mR x) (o, false)) = o ++ setAt l x
 | [], o, _ => by simp [b5J, setAt, fstIx, insAt]
 | e :: l, o, h => by
  rw [List.map_cons, List.pairwise_cons] at h
  obtain ⟨h1, h2⟩ := h
  have hgt : ¬ ltS e.fName x.fName → ∀ y ∈ l, y.fName ≠ x.fName := fun hn y hy hyx => by
   have := h1 y.fName (List.mem_map.2 ⟨y, hy, rfl⟩)
   rw [hyx] at this; exact hn this
  rw [List.foldl_cons]
  by_cases hlt : ltS e.fName x.fName
  ·have hb : gD e.fName x.fName = true := (oO _ _).2 hlt
   have hne : e.fName ≠ x.fName := fun e' => by rw [e'] at hlt; exact qE _ hlt
   rw [show mR x (o, false) e = (o ++ [e], false) by simp [mR, hb, hne], a6A x l _ h2]
   have e1 : fstIx (eqD x.fName) (e :: l) = fstIx (eqD x.fName) l + 1 := by rw [fstIx]; simp [eqD, hne]
   have e2 : fstIx (gtD x.fName) (e :: l) = fstIx (gtD x.fName) l + 1 := by rw [fstIx]; simp [gtD, hb]
   unfold setAt
   rw [e1, e2]
   by_cases hc : fstIx (eqD x.fName) l < l.length
   ·rw [if_pos hc, if_pos (by simpa using hc)]; simp
   ·rw [if_neg hc, if_neg (by simpa using hc)]; simp [insAt]
  ·have hb : gD e.fName x.fName = false := by
    cases hq : gD e.fName x.fName
    ·rfl
    ·exact absurd ((oO _ _).1 hq) hlt
   have hr := hgt hlt
   by_cases hne : e.fName = x.fName
   ·have hb2 : gD x.fName x.fName = false := by rw [hne] at hb; exact hb
    rw [show mR x (o, false) e = (o ++ [x], true) by simp [mR, hb2, hne], a0p x l _ hr]
    have e1 : fstIx (eqD x.fName) (e :: l) = 0 := by rw [fstIx]; simp [eqD, hne]
    unfold setAt
    rw [e1]
    simp [b5J]
   ·rw [show mR x (o, false) e = (o ++ [x] ++ [e], true) by simp [mR, hb, hne], a0p x l _ hr]
    have e1 : fstIx (eqD x.fName) (e :: l) = (e :: l).length := a4S _ _ fun y hy => by
     rcases List.mem_cons.1 hy with rfl | hy
     ·simp [eqD, hne]
     ·simp [eqD, hr y hy]
    have e2 : fstIx (gtD x.fName) (e :: l) = 0 := by rw [fstIx]; simp [gtD, hb, hne]
    unfold setAt
    rw [e1, e2]
    simp [b5J, insAt]
theorem yX {d : List TDir} (h : bJ d = true) : (d.map TDir.fName).Pairwise ltS := by
 unfold bJ at h
 rw [Bool.and_eq_true, List.all_eq_true] at h
 have key : ∀ k (h0 : 0 < k) (hk : k < d.length), ltS d[k - 1].fName d[k].fName := fun k h0 hk => by
  have h1 := h.1 k (List.mem_range.2 hk)
  unfold jI at h1
  rw [List.getElem?_eq_getElem hk] at h1
  simp only [Bool.and_eq_true] at h1
  have h2 := h1.2.1
  rw [kQ TDir.fName d k h0 hk] at h2
  exact (oO _ _).1 h2
 have all : ∀ j, ∀ i (hi : i < j) (hj : j < d.length), ltS d[i].fName d[j].fName := by
  intro j
  induction j with
  | zero => intro i hi; omega
  | succ j ih =>
   intro i hi hj
   have h1 := key (j + 1) (by omega) hj
   simp only [Nat.add_sub_cancel] at h1
   by_cases e : i = j
   ·subst e; exact h1
   ·exact yZ _ _ _ (ih i (by omega) (by omega)) h1
 refine List.pairwise_iff_getElem.2 fun i j hi hj hij => ?_
 simp only [List.getElem_map]
 exact all j i hij (by simpa using hj)
theorem b1i {d : List TDir} (x : TDir) (h : bJ d = true) : b5J x (d.foldl (mR x) ([], false)) = setAt d x := by
 rw [a6A x d [] (yX h)]; simp
theorem b3J (x : TDir) (l : List TDir) : ∀ (a : List TDir × Bool), (l.foldl (mR x) a).1.length + (if (l.foldl (mR x) a).2 then 0 else 1) ≤ a.1.length + l.length + (if a.2 then 0 else 1) := by
 induction l with
 | nil => intro a; obtain ⟨o, p⟩ := a; cases p <;> simp
 | cons e l ih =>
  intro a
  rw [List.foldl_cons]
  refine Nat.le_trans (ih _) ?_
  obtain ⟨o, p⟩ := a
  cases p <;> cases hb : gD e.fName x.fName <;> by_cases hn : e.fName = x.fName <;> (try rw [hn] at hb) <;> simp [mR, hb, hn] <;> omega
theorem a7N (d : List TDir) (x : TDir) : aP (setAt d x) ≤ aP d + wDir x + 1 := by
 unfold setAt
 split
 ·have := b5M wDir x (fstIx (eqD x.fName) d) d
  unfold aP; simp only [List.length_set]; omega
 ·have key : ∀ (i : Nat) (l : List TDir), i ≤ l.length → wsum wDir (insAt i x l) = wsum wDir l + wDir x := by
   intro i
   induction i with
   | zero => intro l _; simp [insAt, wsum]; omega
   | succ i ih =>
    intro l hl
    cases l with
    | nil => simp at hl
    | cons y l =>
     have := ih l (by simpa using hl)
     simp only [insAt, List.take_succ_cons, List.drop_succ_cons, List.cons_append, wsum] at this ⊢
     omega
  have h1 := key (fstIx (gtD x.fName) d) d (tC _ _)
  have h2 := a6p (fstIx (gtD x.fName) d) x d (tC _ _)
  unfold aP; omega
theorem b1j (d : List TDir) (x : TDir) : aP (jR d x) ≤ aP d + wDir x + 1 := by
 unfold jR
 split
 ·exact a7N d x
 ·omega
end Go.Proofs.YteaaopodnbjpoaaGreat
end
section
set_option maxRecDepth 100000
namespace Go.Sx
open Go Go.RowKit
theorem wE {P : Program} (w : World) (dT sT ty elem : TypeId) (k b o dLen dCap : Nat) (a : Addr) (sLen sCap : Nat) (cs : List Value)
    (hu : P.underlying dT = some (.slice elem)) (hs : (P.info? elem).map (·.size) = some k) (hn : cs.length = Nat.min sLen dLen * k)
    (hsrc : ∀ j v, cs[j]? = some v → w.cell? (a.add j) = some v) (hc : ∀ j, j < cs.length → (w.cell? ⟨b, o + j, none⟩).isSome = true) (hf : ∀ j, j < cs.length → w.frozen? ⟨b, o + j, none⟩ = false) (h1 : ∀ v ∈ cs, v.oneCell' = true) :
    (Builtin.copy_ #[dT, sT] ty #[.slice (some ⟨b, o, none⟩) dLen dCap, .slice (some a) sLen sCap]).run P w = .ok (goInt (Nat.min sLen dLen)) (w.setCells b o cs) := by
 have hl := run_loadCells_list (P := P) w a cs hsrc
 have hst := run_storeCells_cells (P := P) b o cs 0 w (by simpa using hc) (by simpa using hf) h1
 rw [hn] at hl
 cases hq : P.info? elem with
 | none => simp [hq] at hs
 | some i =>
  have hi : i.size = k := by simpa [hq] using hs
  simp [Builtin.copy_, run_underlying hu, Builtin.lenOf, Builtin.firstCells, sizeOf, typeInfo, hq, hi, hl, hst]
theorem a2H {P : Program} (w : World) (t e ty : TypeId) (z : Value) (ht : P.underlying t = some (.slice e)) (hv : ∀ w, (zeroValue e).run P w = .ok z w) (b o n c : Nat) (hn : 0 < n)
    (hc : ∀ j, j < n * z.cells.size → (w.cell? ⟨b, o + j, none⟩).isSome = true) (hf : ∀ j, j < n * z.cells.size → w.frozen? ⟨b, o + j, none⟩ = false) (h1 : ∀ v ∈ (Builtin.zeroCells z.cells n).toList, v.oneCell' = true) :
    (Builtin.clear_ #[t] ty #[.slice (some ⟨b, o, none⟩) n c]).run P w = .ok (.tuple #[]) (w.setCells b o (Builtin.zeroCells z.cells n).toList) := by
 have hl : (Builtin.zeroCells z.cells n).toList.length = n * z.cells.size := by simp [Builtin.zeroCells]
 have hst := run_storeCells_cells (P := P) b o (Builtin.zeroCells z.cells n).toList 0 w (by rw [hl]; simpa using hc) (by rw [hl]; simpa using hf) h1
 simp only [Nat.add_zero] at hst
 obtain ⟨m, rfl⟩ : ∃ m, n = m + 1 := ⟨n - 1, by omega⟩
 simp [Builtin.clear_, run_underlying ht, hv, hst]
theorem rQ (z : Array Value) (n : Nat) : (Builtin.zeroCells z n).toList.length = n * z.size := by simp [Builtin.zeroCells]
theorem zP {z : Array Value} (h : ∀ v ∈ z.toList, v.oneCell' = true) (n : Nat) : ∀ v ∈ (Builtin.zeroCells z n).toList, v.oneCell' = true := by
 intro v hv
 obtain ⟨j, hj, rfl⟩ := List.mem_iff_getElem.1 hv
 rw [rQ] at hj
 have hz : 0 < z.size := by
  rcases Nat.eq_zero_or_pos z.size with e | e
  ·rw [e] at hj; omega
  ·exact e
 have hm : j % z.size < z.size := Nat.mod_lt _ hz
 simp only [Builtin.zeroCells, Array.toList_map, Array.toList_range, List.getElem_map, List.getElem_range]
 rw [getElem!_pos z (j % z.size) hm]
 exact h _ (by simp)
theorem LayL.take {V : View} {ds : List D} {ys : List Value} {Ss : List (List Nat)} (h : LayL V ds ys Ss) (n : Nat) : LayL V (ds.take n) (ys.take n) (Ss.take n) :=
 ⟨by simp [h.1], by simp [h.2.1], fun k d y S h1 h2 h3 => by
  rw [List.getElem?_take] at h1 h2 h3
  split at h1
  ·rw [if_pos ‹_›] at h2 h3; exact h.2.2 k d y S h1 h2 h3
  ·cases h1⟩
theorem LayL.drop {V : View} {ds : List D} {ys : List Value} {Ss : List (List Nat)} (h : LayL V ds ys Ss) (n : Nat) : LayL V (ds.drop n) (ys.drop n) (Ss.drop n) :=
 ⟨by simp [h.1], by simp [h.2.1], fun k d y S h1 h2 h3 => by
  rw [List.getElem?_drop] at h1 h2 h3
  exact h.2.2 _ d y S h1 h2 h3⟩
theorem a4X {α : Type} {sz : Nat} : ∀ {rows : List (List α)}, (∀ r ∈ rows, r.length = sz) → rows.flatten.length = rows.length * sz
 | [], _ => by simp
 | r :: rows, h => by
  rw [List.flatten_cons, List.length_append, a4X (fun r hr => h r (by simp [hr])), h r (by simp), List.length_cons, Nat.add_mul]; omega
theorem tZ {α : Type} {sz : Nat} : ∀ {rows : List (List α)} (i : Nat), (∀ r ∈ rows, r.length = sz) → (rows.take i).flatten = rows.flatten.take (i * sz)
 | [], i, _ => by simp
 | r :: rows, 0, h => by simp
 | r :: rows, i + 1, h => by
  have e := h r (by simp)
  rw [List.take_succ_cons, List.flatten_cons, List.flatten_cons, tZ i (fun r hr => h r (by simp [hr])), List.take_append, List.take_of_length_le (l := r) (by rw [e, Nat.add_mul]; omega)]
  congr 2
  rw [e, Nat.add_mul]; omega
theorem nE {α : Type} {sz : Nat} : ∀ {rows : List (List α)} (i : Nat), (∀ r ∈ rows, r.length = sz) → (rows.drop i).flatten = rows.flatten.drop (i * sz)
 | [], i, _ => by simp
 | r :: rows, 0, h => by simp
 | r :: rows, i + 1, h => by
  have e := h r (by simp)
  rw [List.drop_succ_cons, List.flatten_cons, nE i (fun r hr => h r (by simp [hr])), List.drop_append, List.drop_of_length_le (l := r) (by rw [e, Nat.add_mul]; omega), List.nil_append]
  congr 1
  rw [e, Nat.add_mul]; omega
theorem RowAt.drew {w wr : World} {b ty N : Nat} {F : List Value} (h : RowAt w wr b ty N F) : RowAt w wr.drew b ty N F := by
 obtain ⟨c, h1, h2, h3⟩ := h.cells
 exact ⟨⟨c, h1, h2, h3⟩, rG h.grown ⟨rfl, rfl, rfl, Nat.le_refl _, fun _ _ _ => rfl⟩⟩
theorem RowAt.shape {w wr : World} {b ty N : Nat} {F : List Value} (h : RowAt w wr b ty N F) : wr.shape? b = some (ty, N) := by
 obtain ⟨c, h1, h2, h3⟩ := h.cells
 simp [World.shape?, h1, h2]
theorem RowAt.pre {w wr : World} {b ty N : Nat} {F G : List Value} (h : RowAt w wr b ty N F) (hp : G <+: F) : RowAt w wr b ty N G := by
 obtain ⟨c, h1, h2, h3⟩ := h.cells
 exact ⟨⟨c, h1, h2, hp.trans h3⟩, h.grown⟩
theorem a1x {V : View} {w : World} {ty sz : Nat} {rows : List (List D)} {y : Value} {S : List Nat} (h : RowR V w ty sz rows y S) :
    (∀ r ∈ rows, r.length = sz) ∧ ((((∃ ao, y = .slice ao 0 0) ∧ rows = [] ∧ S = [])) ∨ ∃ b cap ys Ss, y = .slice (some ⟨b, 0, none⟩) rows.length cap ∧ rows.length ≤ cap ∧ cap ≤ maxLen ∧ RowAt w w b ty (cap * sz) ys ∧ ys.length = rows.length * sz ∧ LayL V rows.flatten ys Ss ∧ V b = none ∧ S = b :: Ss.flatten) := by
 obtain ⟨h0, ys, Ss, h1, h3⟩ := h
 refine ⟨h0, ?_⟩
 rcases h3 with h3 | ⟨b, cap, c, rfl, e3, e4, e5, e6, e7, e8, rfl⟩
 ·exact .inl h3
 ·exact .inr ⟨b, cap, ys, Ss, rfl, e3, e4, ⟨⟨c, e5, e6, e7⟩, a0R w _⟩, by rw [h1.1, a4X h0], h1, e8, rfl⟩
theorem b1p {V : View} {w w' : World} {ty sz b cap : Nat} {rows : List (List D)} {ys : List Value} {Ss : List (List Nat)} {G : List Value} (hu : ∀ r ∈ rows, r.length = sz) (hl : LayL V rows.flatten ys Ss) (h : RowAt w w' b ty (cap * sz) (ys ++ G)) (hn : rows.length ≤ cap) (hcap : cap ≤ maxLen) (hV : V b = none) :
    RowR V w' ty sz rows (.slice (some ⟨b, 0, none⟩) rows.length cap) (b :: Ss.flatten) := by
 obtain ⟨c, h1, h2, h3⟩ := h.cells
 exact ⟨hu, ys, Ss, hl, .inr ⟨b, cap, c, rfl, hn, hcap, h1, h2, (List.prefix_append _ _).trans h3, hV, rfl⟩⟩
theorem yD {w w' : World} {r : Option Nat} (h : w.grownBy w' (some w.heap.size)) : w.grownBy w' r :=
 ⟨h.os, h.tape, h.output, h.size, fun k hk _ => h.block k hk fun e => by cases e; omega⟩
theorem b1q (w : World) (o : Obj) : (w.alloc o).drew = w.drew.alloc o := rfl
theorem RowAt.freshd (w : World) (c : Array Value) (ty : Nat) : RowAt w (w.drew.alloc (.cells c ty)) w.heap.size ty c.size c.toList := by
 have hh : (w.drew.alloc (.cells c ty)).heap = w.heap.push (.cells c ty) := rfl
 refine ⟨⟨c, by rw [hh, Array.getElem?_push, if_pos rfl], rfl, List.prefix_refl _⟩, rfl, rfl, rfl, by rw [hh, Array.size_push]; omega, fun k hk _ => ?_⟩
 rw [hh, Array.getElem?_push, if_neg (Nat.ne_of_lt hk)]
theorem b7l {V : View} {rows : List (List D)} {r : List D} {ys vs : List Value} {Ss Ts : List (List Nat)} {k : Nat} (i : Nat) (hu : ∀ r ∈ rows, r.length = k) (hl : LayL V rows.flatten ys Ss) (hl2 : LayL V r vs Ts) :
    LayL V (rows.take i ++ r :: rows.drop i).flatten (ys.take (i * k) ++ vs ++ ys.drop (i * k)) (Ss.take (i * k) ++ Ts ++ Ss.drop (i * k)) := by
 have h := ((hl.take (i * k)).append hl2).append (hl.drop (i * k))
 rw [← tZ i hu, ← nE i hu] at h
 simpa [List.append_assoc] using h
theorem b5N (Ss Ts : List (List Nat)) (n : Nat) : (Ss.take n ++ Ts ++ Ss.drop n).flatten.Perm (Ss.flatten ++ Ts.flatten) := by
 have e : Ss.flatten = (Ss.take n).flatten ++ (Ss.drop n).flatten := by rw [← List.flatten_append, List.take_append_drop]
 rw [e, List.flatten_append, List.flatten_append, List.append_assoc, List.append_assoc]
 exact List.Perm.append_left _ List.perm_append_comm
theorem a4Y {V : View} {w w' : World} {ty sz b cap : Nat} {rows : List (List D)} {r : List D} {ys vs : List Value} {Ss Ts : List (List Nat)} {S S2 : List Nat} {i : Nat} (hi : i ≤ rows.length) (hu : ∀ r ∈ rows, r.length = sz) (hr : r.length = sz) (hl : LayL V rows.flatten ys Ss) (hl2 : LayL V r vs Ts)
    (h : RowAt w w' b ty (cap * sz) (ys.take (i * sz) ++ vs ++ ys.drop (i * sz))) (hn : rows.length + 1 ≤ cap) (hcap : cap ≤ maxLen) (hV : V b = none) (hb : b ∈ S ∨ (w.heap.size ≤ b ∧ b < w'.heap.size)) (hS : ∀ n ∈ Ss.flatten, n ∈ S) (hT : ∀ n ∈ Ts.flatten, n ∈ S2) (hnd : (b :: (Ss.flatten ++ Ts.flatten)).Nodup) :
    ∃ S', RowR V w' ty sz (rows.take i ++ r :: rows.drop i) (.slice (some ⟨b, 0, none⟩) (rows.length + 1) cap) S' ∧ S'.Nodup ∧ ∀ n ∈ S', n ∈ S ∨ n ∈ S2 ∨ (w.heap.size ≤ n ∧ n < w'.heap.size) := by
 have hlen : (rows.take i ++ r :: rows.drop i).length = rows.length + 1 := by simp; omega
 have hup := b1p (cap := cap) (G := []) (w := w) (fun x hx => by
  rcases List.mem_append.1 hx with h' | h'
  ·exact hu x (List.mem_of_mem_take h')
  ·rcases List.mem_cons.1 h' with rfl | h'
   ·exact hr
   ·exact hu x (List.mem_of_mem_drop h')) (b7l i hu hl hl2) (by simpa using h) (by rw [hlen]; exact hn) hcap hV
 rw [hlen] at hup
 have hp := b5N Ss Ts (i * sz)
 refine ⟨_, hup, ?_, fun n hn' => ?_⟩
 ·exact (hp.cons b).nodup_iff.2 hnd
 ·rcases List.mem_cons.1 hn' with rfl | hn'
  ·rcases hb with hb | hb
   ·exact .inl hb
   ·exact .inr (.inr hb)
  ·rcases List.mem_append.1 (hp.mem_iff.1 hn') with h' | h'
   ·exact .inl (hS n h')
   ·exact .inr (.inl (hT n h'))
end Go.Sx
end
section
set_option maxRecDepth 100000
namespace Go.Sx
open Go Go.RowKit
structure DelK (k : Nat) (xs : List (List Value × Bool)) (i j : Nat) (F : List Value) : Prop where
 un : ∀ x ∈ xs, x.1.length = k
 len : F.length = xs.length * k
 ij : i < j
 jn : j ≤ xs.length
 lo : F.take (i * k) = (((xs.take j).filter fun x => !x.2).map (·.1)).flatten
 hi : F.drop (j * k) = ((xs.drop j).map (·.1)).flatten
 il : i = ((xs.take j).filter fun x => !x.2).length
theorem b3O {k : Nat} {xs : List (List Value × Bool)} (h : ∀ x ∈ xs, x.1.length = k) : ((xs.map (·.1)).flatten).length = xs.length * k := by
 rw [a4X (sz := k) fun r hr => by obtain ⟨x, hx, rfl⟩ := List.mem_map.1 hr; exact h x hx, List.length_map]
theorem DelK.at {k : Nat} {xs : List (List Value × Bool)} {i j : Nat} {F : List Value} (h : DelK k xs i j F) (hj : j < xs.length) {t : Nat} {v : Value} (ht : xs[j].1[t]? = some v) : F[j * k + t]? = some v := by
 have h0 : (F.drop (j * k))[t]? = ((xs.drop j).map (·.1)).flatten[t]? := by rw [h.hi]
 rw [List.getElem?_drop] at h0
 rw [h0, List.drop_eq_getElem_cons hj, List.map_cons, List.flatten_cons, List.getElem?_append_left (List.getElem?_eq_some_iff.1 ht).1]
 exact ht
theorem b5O (xs : List (List Value × Bool)) (k : Nat) (h : ∀ j (hj : j < xs.length), j < k → xs[j].2 = false) : (xs.take k).filter (fun x => !x.2) = xs.take k := by
 refine List.filter_eq_self.2 fun x hx => ?_
 obtain ⟨j, hj, rfl⟩ := List.mem_iff_getElem.1 hx
 simp only [List.length_take] at hj
 rw [List.getElem_take, h j (by omega) (by omega)]; rfl
theorem DelK.start {k n : Nat} {xs : List (List Value × Bool)} (hu : ∀ x ∈ xs, x.1.length = k) (hn : n < xs.length) (h : ∀ j (hj : j < xs.length), j < n → xs[j].2 = false) (hp : xs[n].2 = true) : DelK k xs n (n + 1) (xs.map (·.1)).flatten := by
 have e1 : (xs.take (n + 1)).filter (fun x => !x.2) = xs.take n := by
  rw [List.take_succ_eq_append_getElem hn, List.filter_append, b5O xs n h]
  simp [hp]
 have hu' : ∀ r ∈ xs.map (·.1), r.length = k := fun r hr => by obtain ⟨x, hx, rfl⟩ := List.mem_map.1 hr; exact hu x hx
 refine ⟨hu, b3O hu, by omega, by omega, ?_, ?_, ?_⟩
 ·rw [e1, List.map_take, tZ n hu']
 ·rw [List.map_drop, nE (n + 1) hu']
 ·rw [e1]; simp; omega
theorem DelK.keep {k : Nat} {xs : List (List Value × Bool)} {i j : Nat} {F : List Value} (h : DelK k xs i j F) (hj : j < xs.length) (hp : xs[j].2 = false) : DelK k xs (i + 1) (j + 1) (F.take (i * k) ++ xs[j].1 ++ F.drop (i * k + xs[j].1.length)) := by
 have e1 : (xs.take (j + 1)).filter (fun x => !x.2) = (xs.take j).filter (fun x => !x.2) ++ [xs[j]] := by
  rw [List.take_succ_eq_append_getElem hj, List.filter_append]
  simp [hp]
 have hl := h.len
 have hij := h.ij
 have hu := h.un xs[j] (List.getElem_mem hj)
 have hle : (i + 1) * k ≤ j * k := Nat.mul_le_mul_right k hij
 have hle2 : (j + 1) * k ≤ xs.length * k := Nat.mul_le_mul_right k hj
 rw [Nat.add_mul] at hle hle2
 simp only [Nat.one_mul] at hle hle2
 have hFl : i * k + k ≤ F.length := by omega
 refine ⟨h.un, ?_, by omega, by omega, ?_, ?_, ?_⟩
 ·simp only [List.length_append, List.length_take, List.length_drop, hu]; omega
 ·rw [List.take_append_of_le_length (by simp [hu, Nat.add_mul]; omega), List.take_of_length_le (by simp [hu, Nat.add_mul]; omega), e1, List.map_append, List.flatten_append, h.lo]; simp
 ·rw [List.drop_append, List.drop_of_length_le (by simp [hu, Nat.add_mul]; omega), List.nil_append, List.drop_drop]
  have e2 : F.drop ((j + 1) * k) = ((xs.drop (j + 1)).map (·.1)).flatten := by
   have hu' : ∀ r ∈ (xs.drop j).map (·.1), r.length = k := fun r hr => by obtain ⟨x, hx, rfl⟩ := List.mem_map.1 hr; exact h.un x (List.mem_of_mem_drop hx)
   have := nE 1 hu'
   rw [Nat.add_mul, ← List.drop_drop, h.hi, ← this, ← List.map_drop, List.drop_drop]
  rw [← e2]
  congr 1
  simp only [List.length_append, List.length_take, hu, Nat.add_mul]
  omega
 ·rw [e1, List.length_append, ← h.il]; rfl
theorem DelK.skip {k : Nat} {xs : List (List Value × Bool)} {i j : Nat} {F : List Value} (h : DelK k xs i j F) (hj : j < xs.length) (hp : xs[j].2 = true) : DelK k xs i (j + 1) F := by
 have e1 : (xs.take (j + 1)).filter (fun x => !x.2) = (xs.take j).filter (fun x => !x.2) := by
  rw [List.take_succ_eq_append_getElem hj, List.filter_append]
  simp [hp]
 have hij := h.ij
 refine ⟨h.un, h.len, by omega, by omega, by rw [e1]; exact h.lo, ?_, by rw [e1]; exact h.il⟩
 have hu' : ∀ r ∈ (xs.drop j).map (·.1), r.length = k := fun r hr => by obtain ⟨x, hx, rfl⟩ := List.mem_map.1 hr; exact h.un x (List.mem_of_mem_drop hx)
 have := nE 1 hu'
 rw [Nat.add_mul, ← List.drop_drop, h.hi, ← this, ← List.map_drop, List.drop_drop]
theorem DelK.fin {k : Nat} {xs : List (List Value × Bool)} {i : Nat} {F : List Value} (h : DelK k xs i xs.length F) : F.take (i * k) = ((xs.filter fun x => !x.2).map (·.1)).flatten ∧ i = (xs.filter fun x => !x.2).length := by
 have h1 := h.lo
 have h2 := h.il
 rw [List.take_length] at h1 h2
 exact ⟨h1, h2⟩
theorem RowAt.other {w wr W : World} {b ty N : Nat} {F : List Value} (h : RowAt w wr b ty N F) (hb : Below wr.heap.size wr W) : RowAt w W b ty N F := h.behind hb
def b8H {τ : Type} (k : Nat) (p : τ → Bool) : List Value → List τ → List (List Value × Bool)
 | _, [] => []
 | ys, x :: l => (ys.take k, p x) :: b8H k p (ys.drop k) l
def b7m {α τ : Type} (k : Nat) (p : τ → Bool) : List α → List τ → List α
 | _, [] => []
 | ys, x :: l => (if p x then [] else ys.take k) ++ b7m k p (ys.drop k) l
theorem LayL.sel {τ : Type} {V : View} {k : Nat} (enc : τ → List D) (p : τ → Bool) (he : ∀ x, (enc x).length = k) : ∀ (l : List τ) (ys : List Value) (Ss : List (List Nat)), LayL V (l.map enc).flatten ys Ss → LayL V ((l.filter fun x => !p x).map enc).flatten (b7m k p ys l) (b7m k p Ss l)
 | [], ys, Ss, h => LayL.nil V
 | x :: l, ys, Ss, h => by
  have h1 := h.take k
  have h2 := h.drop k
  simp only [List.map_cons, List.flatten_cons] at h1 h2
  rw [List.take_left' (he x)] at h1
  rw [List.drop_left' (he x)] at h2
  have ih := LayL.sel enc p he l _ _ h2
  simp only [b7m, List.filter_cons]
  cases p x
  ·simp only [Bool.not_false, if_true, Bool.false_eq_true, if_false, List.map_cons, List.flatten_cons]
   exact h1.append ih
  ·simp only [Bool.not_true, Bool.false_eq_true, if_false, if_true, List.nil_append]
   exact ih
theorem a2J {α : Type} {l m : List (List α)} (h : l.Sublist m) : l.flatten.Sublist m.flatten := by
 induction h with
 | slnil => exact List.Sublist.refl _
 | cons a _ ih => exact ih.trans (by simp)
 | cons_cons a _ ih => simp only [List.flatten_cons]; exact (List.Sublist.refl a).append ih
end Go.Sx
end
section
namespace Go.Proofs.YteaaopodnbjpoaaGreat
open Go Go.Sx Go.RowKit Go.Proofs Go.Lib
theorem uC {P : Program} {ops : Array Oper} {o : Oper} {a : Act} {w : World} {K : Act → World → Prop} {Q : Exit → Act → World → Prop} {E : Prop}
    (hg : o.guard = none) (d x : Operand) (dT sT : TypeId) (hop : o.op = Op.call { callee := Callee.builtin Builtin.append, args := #[d, x], argTypes := #[dT, sT] })
    (v u : Value) (hd : a.eval d = v) (hx : a.eval x = u) {v' : Value} {w' : World} (hr : (Builtin.append_ #[dT, sT] o.type #[v, u]).run P w = .ok v' w') (hK : K (a.put o.dst v') w') :
    if Region.wanted o (yielded ops a.tmps) = true then Oper.wp P o a w K Q else E := by
 have hw : Region.wanted o (yielded ops a.tmps) = true := by simp [Region.wanted, hg]
 rw [if_pos hw]
 unfold Oper.wp
 simp [execOp, hop, resolve, invoke, builtin, hd, hx, hr, Result.andThen]
 exact hK
set_option maxHeartbeats 4000000 in
set_option maxRecDepth 1000000 in
theorem a5C (b c i n : Nat) (F : List Value) (w : World) (hi : i < n) (hn : n ≤ c) (hc63 : c ≤ 9223372036854775807) (hF : F.length = n * 5) (hR : RowAt w w b 70 (c * 5) F) (h1F : ∀ v ∈ F, v.oneCell' = true) :
    Calls Tryz.prog 232 #[.slice (some ⟨b, 0, none⟩) n c, .int .i64 i, .int .i64 ((i : Int) + 1)] w fun e w' =>
     e = .returned (.slice (some ⟨b, 0, none⟩) (n - 1) c) ∧ ∃ G, RowAt w w' b 70 (c * 5) (F.take (i * 5) ++ F.drop ((i + 1) * 5) ++ G) := by
 obtain ⟨i0, hi0, hzs⟩ : ∃ i0, Tryz.prog.info? 70 = some i0 ∧ i0.size = 5 := ⟨Tryz.t70, by kernel_rfl, rfl⟩
 have hdl : (F.drop ((i + 1) * 5)).length = (n - (i + 1)) * 5 := by rw [List.length_drop, hF, Nat.sub_mul]
 have h1D : ∀ v ∈ F.drop ((i + 1) * 5), v.oneCell' = true := fun v hv => h1F v (List.mem_of_mem_drop hv)
 have hsrc : ∀ a cc, (n - (i + 1) ≠ 0 → a = ⟨b, (i + 1) * 5, none⟩) → Src Tryz.prog i0.size 35 (.slice (some a) (n - (i + 1)) cc) (n - (i + 1)) (F.drop ((i + 1) * 5)) w.drew := fun a cc ha => by
  have hRd := hR.drew
  refine Src.ofSlice w.drew Tryz.underlying35 a (n - (i + 1)) cc _ (by rw [hzs, hdl]) (fun j u hj => ?_) h1D
  have hjl := (List.getElem?_eq_some_iff.1 hj).1
  rw [hdl] at hjl
  rw [ha (by intro e; rw [e] at hjl; omega), Addr.add_lit]
  exact hRd.cell (by rwa [List.getElem?_drop] at hj)
 have hsub : i + (n - (i + 1)) = n - 1 := by omega
 have hle1 : i * 5 + (n - (i + 1)) * 5 ≤ c * 5 := by rw [← Nat.add_mul]; exact Nat.mul_le_mul_right _ (by omega)
 have hle2 : i * 5 ≤ n * 5 := Nat.mul_le_mul_right _ (by omega)
 have hRd := hR.drew
 have hrun : ∀ a cc ty, (n - (i + 1) ≠ 0 → a = ⟨b, (i + 1) * 5, none⟩) → (Builtin.append_ #[35, 35] ty #[.slice (some ⟨b, 0, none⟩) i c, .slice (some a) (n - (i + 1)) cc]).run Tryz.prog w.drew = .ok (.slice (some ⟨b, 0, none⟩) (n - 1) c) (w.drew.setCells b (i * 5) (F.drop ((i + 1) * 5))) := fun a cc ty ha => by
  have h := run_append_room_src w.drew 35 35 ty 70 i0 Tryz.underlying35 hi0 b 0 i c _ (n - (i + 1)) _ (hsrc a cc ha) (by omega) (fun j hj => hRd.there (by rw [hdl] at hj; rw [hzs]; omega)) (fun j hj => hRd.frozen _)
  rw [hzs, Nat.zero_add, hsub] at h
  exact h
 have hR1 := hRd.set (F.drop ((i + 1) * 5)) (s := i * 5) (by rw [hF]; exact hle2) (by rw [hdl]; exact hle1)
 obtain ⟨W1, hW1⟩ : ∃ W1, W1 = w.drew.setCells b (i * 5) (F.drop ((i + 1) * 5)) := ⟨_, rfl⟩
 rw [← hW1] at hrun hR1
 have hlF1 : (F.take (i * 5) ++ F.drop ((i + 1) * 5) ++ F.drop (i * 5 + (F.drop ((i + 1) * 5)).length)).length = n * 5 := by
  simp only [List.length_append, List.length_take, List.length_drop, hF]
  have h1 : (i + 1) * 5 ≤ n * 5 := Nat.mul_le_mul_right _ hi
  rw [Nat.add_mul] at h1 ⊢
  omega
 have hn1 : (n - 1) * 5 + 5 = n * 5 := by
  have : (n - 1 + 1) * 5 = n * 5 := by congr 1; omega
  rw [Nat.add_mul] at this; omega
 have hnc : n * 5 ≤ c * 5 := Nat.mul_le_mul_right _ hn
 have hzl := rQ (.agg #[.int .i64 0, .int .i64 0, .bool false, .int .i64 0, .slice none 0 0] : Value).cells 1
 have hz5 : (.agg #[.int .i64 0, .int .i64 0, .bool false, .int .i64 0, .slice none 0 0] : Value).cells.size = 5 := rfl
 rw [hz5] at hzl
 have hcl : ∀ ty cc, (Builtin.clear_ #[35] ty #[.slice (some ⟨b, (n - 1) * 5, none⟩) 1 cc]).run Tryz.prog W1 = .ok (.tuple #[]) (W1.setCells b ((n - 1) * 5) (Builtin.zeroCells (.agg #[.int .i64 0, .int .i64 0, .bool false, .int .i64 0, .slice none 0 0] : Value).cells 1).toList) :=
  fun ty cc => a2H W1 _ _ ty _ Tryz.underlying35 (fun w => Tryz.zeroValue70 w) b ((n - 1) * 5) _ _ (by omega) (fun t ht => hR1.there (by rw [hz5] at ht; omega)) (fun t ht => hR1.frozen _) (zP (by intro v hv; simp [Value.cells] at hv; rcases hv with rfl | rfl | rfl | rfl | rfl <;> rfl) _)
 have HE : Aside (∃ G, RowAt w (W1.setCells b ((n - 1) * 5) (Builtin.zeroCells (.agg #[.int .i64 0, .int .i64 0, .bool false, .int .i64 0, .slice none 0 0] : Value).cells 1).toList) b 70 (c * 5) (F.take (i * 5) ++ F.drop ((i + 1) * 5) ++ G)) := by
  have h := hR1.set (Builtin.zeroCells (.agg #[.int .i64 0, .int .i64 0, .bool false, .int .i64 0, .slice none 0 0] : Value).cells 1).toList (s := (n - 1) * 5) (by rw [hlF1]; omega) (by rw [hzl]; omega)
  have hd1 : (F.take (i * 5) ++ F.drop ((i + 1) * 5)).length = (n - 1) * 5 := by
   simp only [List.length_append, List.length_take, hdl, hF]
   have h2 : i * 5 + (n - (i + 1)) * 5 = (n - 1) * 5 := by rw [← Nat.add_mul, hsub]
   omega
  rw [List.take_append_of_le_length (by rw [hd1]; omega), List.take_of_length_le (by rw [hd1]; omega), List.append_assoc] at h
  exact ⟨_, h⟩
 have hb3 : (i : Int) + 1 ≤ (n : Int) := by omega
 have hb1 : (0 : Int) ≤ (i : Int) + 1 := by omega
 have hb4 : ¬ ((i : Int) = (i : Int) + 1) := by omega
 have hb5 : (i : Int) ≤ (i : Int) + 1 := by omega
 have htn : ((i : Int) + 1).toNat = i + 1 := by omega
 have hin : i ≤ n := by omega
 have hic : i ≤ c := by omega
 have hb6 : ((n - 1 : Nat) : Int) ≤ (n : Int) := by omega
 have hb7 : n - (n - 1) = 1 := by omega
 have hb8 : ¬ (c = n - 1) := by omega
 have mixed := fol
 clear hR hRd hR1 hsrc h1F h1D hlF1 hzl hz5 hn1 hnc hle1 hle2
 by_cases hci : c = i + 1
 ·have hni : n = i + 1 := by omega
  subst hni
  subst hci
  have hnil : F.drop ((i + 1) * 5) = [] := List.eq_nil_of_length_eq_zero (by rw [hdl, Nat.sub_self, Nat.zero_mul])
  have hW0 : W1 = w.drew := by rw [hW1, hnil]; rfl
  rw [hW0] at hcl HE
  simp only [Nat.add_sub_cancel] at hcl HE
  clear hW1 hW0 hF hdl hrun hnil
  go_enter Tryz.func232, Tryz.ntmps232
  go_wp2_with fail
  go_region_law_o (fail)
  go_wp2
  go_ret
  exact ⟨rfl, HE.out⟩
 ·clear hW1 hF hdl
  go_enter Tryz.func232, Tryz.ntmps232
  go_wp2_with fail
  go_region_law_o (refine uC rfl _ _ 35 35 rfl (.slice (some ⟨b, 0, none⟩) i c) (.slice (some ⟨b, (i + 1) * 5, none⟩) (n - (i + 1)) (c - (i + 1))) (by simp [Act.eval, Act.put]) (by simp [Act.eval, Act.put]) (hrun ⟨b, (i + 1) * 5, none⟩ (c - (i + 1)) _ (fun _ => rfl)) ?_)
  go_wp2
  go_ret
  exact ⟨rfl, HE.out⟩
theorem a2I (l : List TFile) (i : Nat) (hi : i < l.length) (hl : l.length ≤ 8388608) :
    FnI Tryz.prog 232 70 5 (l.map bB) [oi i, oi ((i : Int) + 1)] false ((fJ i l).map bB) := by
 refine ⟨Tryz.call232, fun V w y S vs hm hrow hnd hlt hargs => ?_⟩
 have hl1 : vs.length = 2 := by have := hargs.1; simpa using this
 match vs, hl1 with
 | [v1, v2], _ =>
  obtain ⟨_, e1⟩ : ∃ S, Lay V (.v (.int .i64 i)) v1 S := hargs.2 0 _ v1 rfl rfl
  obtain ⟨_, e2⟩ : ∃ S, Lay V (.v (.int .i64 ((i : Int) + 1))) v2 S := hargs.2 1 _ v2 rfl rfl
  cases e1; cases e2
  obtain ⟨hu, h⟩ := a1x hrow
  have hi' : i < (l.map bB).length := by simpa using hi
  rcases h with ⟨_, hnil, _⟩ | ⟨b, cap, ys, Ss, rfl, e3, e4, hR, el, eL, eV, rfl⟩
  ·rw [hnil] at hi'; exact absurd hi' (by simp)
  ·have hup2 := eL.take (i * 5)
   have hup3 := eL.drop ((i + 1) * 5)
   rw [← tZ i hu] at hup2
   rw [← nE (i + 1) hu] at hup3
   have hL := hup2.append hup3
   rw [← List.flatten_append] at hL
   refine (a5C b cap i (l.map bB).length ys w hi' e3 (by unfold maxLen at e4; omega) el hR eL.oneCell).mono ?_
   rintro e w' ⟨rfl, G, hG⟩
   have hlen : ((l.map bB).take i ++ (l.map bB).drop (i + 1)).length = (l.map bB).length - 1 := by simp; omega
   have hrw := b1p (V := V) (cap := cap) (fun r hr => by
    rcases List.mem_append.1 hr with h' | h'
    ·exact hu r (List.mem_of_mem_take h')
    ·exact hu r (List.mem_of_mem_drop h')) hL hG (by rw [hlen]; omega) e4 eV
   rw [hlen] at hrw
   have hsub : (Ss.take (i * 5) ++ Ss.drop ((i + 1) * 5)).Sublist Ss := by
    conv => rhs; rw [← List.take_append_drop (i * 5) Ss]
    refine List.Sublist.append_left ?_ _
    rw [Nat.add_mul, ← List.drop_drop]
    exact List.drop_sublist _ _
   have hfs := a2J hsub
   refine ⟨_, rfl, (fun h => (by cases h)), ⟨hG.grown, b :: (Ss.take (i * 5) ++ Ss.drop ((i + 1) * 5)).flatten, ?_, ?_, (fun n hn => .inl ?_), (fun h => (by cases h))⟩⟩
   ·rw [b2w]; exact hrw
   ·exact hnd.sublist (hfs.cons_cons b)
   ·exact (hfs.cons_cons b).subset hn
end Go.Proofs.YteaaopodnbjpoaaGreat
end
