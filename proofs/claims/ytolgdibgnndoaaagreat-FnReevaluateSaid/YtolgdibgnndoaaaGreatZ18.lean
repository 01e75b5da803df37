/- Joined texts. -/
import Derived.Test.YtolgdibgnndoaaaGreatZ12
import Derived.Sort.Walk0
import Derived.Test.YtolgdibgnndoaaaGreatZ07
import Derived.Test.YtolgdibgnndoaaaGreatZ09
import Derived.Test.YtolgdibgnndoaaaGreatZ14
import Derived.Test.YtolgdibgnndoaaaGreatZ10
import Derived.Test.YtolgdibgnndoaaaGreatZ06
import Derived.Test.YtolgdibgnndoaaaGreatZ17
set_option linter.all false
section
namespace Go.Sx.Clos
section
variable {β : Type} [DecidableEq β]
def Closed (E : List (β × List β)) (S : List β) : Prop := ∀ e ∈ E, (∃ x ∈ e.2, x ∈ S) → e.1 ∈ S
def wsm (w : β → Nat) : List β → Nat
 | [] => 0
 | x :: l => w x + wsm w l
def jC (w : β → Nat) : List (β × List β) → List β → Nat
 | [], _ => 0
 | e :: E, S => (if e.1 ∈ S then 0 else w e.1) + jC w E S
theorem a0i (w : β → Nat) (E : List (β × List β)) {S T : List β} (h : ∀ x ∈ S, x ∈ T) : jC w E T ≤ jC w E S := by
 induction E with
 | nil => simp [jC]
 | cons e E ih =>
  simp only [jC]
  by_cases h1 : e.1 ∈ S
  ·have h2 := h _ h1; simp [h1, h2]; exact ih
  ·by_cases h2 : e.1 ∈ T
   ·simp [h1, h2]; omega
   ·simp [h1, h2]; exact ih
theorem zM (w : β → Nat) (E : List (β × List β)) {S T : List β} (h : ∀ x ∈ S, x ∈ T) {y : β} (hy : ∃ e ∈ E, e.1 = y) (h1 : y ∈ T) (h2 : ¬ y ∈ S) : jC w E T + w y ≤ jC w E S := by
 induction E with
 | nil => obtain ⟨e, he, _⟩ := hy; simp at he
 | cons e E ih =>
  obtain ⟨e', he', rfl⟩ := hy
  rcases List.mem_cons.1 he' with rfl | hm
  ·have := a0i w E h
   simp only [jC]
   simp [h1, h2]; omega
  ·have := ih ⟨e', hm, rfl⟩
   simp only [jC]
   by_cases h3 : e.1 ∈ S
   ·have h4 := h _ h3; simp [h3, h4]; exact this
   ·by_cases h4 : e.1 ∈ T
    ·simp [h3, h4]; omega
    ·simp [h3, h4]; omega
theorem a8F (E : List (β × List β)) (S : List β) : jC (fun _ => 1) E S ≤ E.length := by
 induction E with
 | nil => simp [jC]
 | cons e E ih => simp only [jC, List.length_cons]; split <;> omega
variable (put : List β → β → List β)
def askC (name : β) (out asks : List β) : List β := asks.foldl (fun o a => if a ∈ o then put o name else o) out
def round (E : List (β × List β)) (S : List β) : List β := E.foldl (fun o e => askC put e.1 o e.2) S
def iF (E : List (β × List β)) : Nat → List β → List β
 | 0, S => S
 | n + 1, S => round put E (iF E n S)
variable {put} (hput : ∀ l s x, x ∈ put l s ↔ x = s ∨ x ∈ l)
include hput
theorem yO (name : β) (asks : List β) : ∀ (out : List β) (x : β), x ∈ askC put name out asks ↔ x ∈ out ∨ (x = name ∧ ∃ a ∈ asks, a ∈ out) := by
 induction asks with
 | nil => intro out x; simp [askC]
 | cons a asks ih =>
  intro out x
  have ih' := ih (if a ∈ out then put out name else out) x
  unfold askC at *
  rw [List.foldl_cons, ih']
  by_cases h : a ∈ out
  ·simp only [h, if_true, hput]
   constructor
   ·rintro ((rfl | h1) | ⟨rfl, _⟩)
    ·exact .inr ⟨rfl, a, List.mem_cons_self, h⟩
    ·exact .inl h1
    ·exact .inr ⟨rfl, a, List.mem_cons_self, h⟩
   ·rintro (h1 | ⟨rfl, _⟩)
    ·exact .inl (.inr h1)
    ·exact .inl (.inl rfl)
  ·simp only [h, if_false]
   constructor
   ·rintro (h1 | ⟨rfl, b, hb, h2⟩)
    ·exact .inl h1
    ·exact .inr ⟨rfl, b, List.mem_cons_of_mem _ hb, h2⟩
   ·rintro (h1 | ⟨rfl, b, hb, h2⟩)
    ·exact .inl h1
    ·rcases List.mem_cons.1 hb with rfl | hb
     ·exact absurd h2 h
     ·exact .inr ⟨rfl, b, hb, h2⟩
theorem uR (E : List (β × List β)) : ∀ (S : List β), ∀ x ∈ S, x ∈ round put E S := by
 induction E with
 | nil => intro S x h; exact h
 | cons e E ih =>
  intro S x h
  exact ih _ x ((yO hput e.1 e.2 S x).2 (.inl h))
theorem a0j (E : List (β × List β)) {T : List β} (hT : Closed E T) : ∀ (S : List β), (∀ x ∈ S, x ∈ T) → ∀ x ∈ round put E S, x ∈ T := by
 induction E with
 | nil => intro S h; exact h
 | cons e E ih =>
  intro S h
  refine ih (fun e' he' => hT e' (List.mem_cons_of_mem _ he')) _ (fun x hx => ?_)
  rcases (yO hput e.1 e.2 S x).1 hx with h1 | ⟨rfl, a, ha, h2⟩
  ·exact h x h1
  ·exact hT e List.mem_cons_self ⟨a, ha, h a h2⟩
theorem a6G (E : List (β × List β)) : ∀ (S : List β) (e : β × List β), e ∈ E → (∃ x ∈ e.2, x ∈ S) → e.1 ∈ round put E S := by
 induction E with
 | nil => intro S e he; simp at he
 | cons e0 E ih =>
  intro S e he h
  rcases List.mem_cons.1 he with rfl | he
  ·exact uR hput E _ _ ((yO hput e.1 e.2 S e.1).2 (.inr ⟨rfl, h⟩))
  ·obtain ⟨x, hx, hs⟩ := h
   exact ih _ e he ⟨x, hx, (yO hput e0.1 e0.2 S x).2 (.inl hs)⟩
theorem round_new (E : List (β × List β)) : ∀ (S : List β) (x : β), x ∈ round put E S → x ∈ S ∨ ∃ e ∈ E, e.1 = x := by
 induction E with
 | nil => intro S x h; exact .inl h
 | cons e E ih =>
  intro S x h
  rcases ih _ x h with h | ⟨e', he', rfl⟩
  ·rcases (yO hput e.1 e.2 S x).1 h with h | ⟨rfl, _⟩
   ·exact .inl h
   ·exact .inr ⟨e, List.mem_cons_self, rfl⟩
  ·exact .inr ⟨e', List.mem_cons_of_mem _ he', rfl⟩
theorem a1I (E : List (β × List β)) (S : List β) : ∀ (n : Nat), ∀ x ∈ S, x ∈ iF put E n S
 | 0, x, h => h
 | n + 1, x, h => uR hput E _ x (a1I E S n x h)
theorem yP (E : List (β × List β)) {S T : List β} (hT : Closed E T) (h : ∀ x ∈ S, x ∈ T) : ∀ (n : Nat), ∀ x ∈ iF put E n S, x ∈ T
 | 0, x, hx => h x hx
 | n + 1, x, hx => a0j hput E hT _ (yP E hT h n) x hx
theorem rounds_count (E : List (β × List β)) (S : List β) : ∀ (n : Nat), Closed E (iF put E n S) ∨ jC (fun _ => 1) E (iF put E n S) + n ≤ E.length
 | 0 => .inr (by simpa [iF] using a8F E S)
 | n + 1 => by
  rcases rounds_count E S n with h | h
  ·refine .inl (fun e he hx => ?_)
   obtain ⟨x, hx, hs⟩ := hx
   have hs' := a0j hput E h _ (fun y hy => hy) x hs
   exact uR hput E _ _ (h e he ⟨x, hx, hs'⟩)
  ·by_cases hc : Closed E (iF put E (n + 1) S)
   ·exact .inl hc
   ·refine .inr ?_
    have hn : ∃ y, y ∈ round put E (iF put E n S) ∧ ¬ y ∈ iF put E n S := Classical.byContradiction fun hno => hc (fun e he hx => by
     obtain ⟨x, hx, hs⟩ := hx
     have hs' : x ∈ iF put E n S := Classical.byContradiction fun h' => hno ⟨x, hs, h'⟩
     exact a6G hput E _ e he ⟨x, hx, hs'⟩)
    obtain ⟨y, h1, h2⟩ := hn
    have hy : ∃ e ∈ E, e.1 = y := by
     rcases round_new hput E _ y h1 with h | h
     ·exact absurd h h2
     ·exact h
    have := zM (fun _ => 1) E (uR hput E (iF put E n S)) hy h1 h2
    simp only [iF]
    omega
omit hput in
theorem a7F {P : List β → Prop} {Nm : β → Prop} (hP : ∀ o n, P o → Nm n → P (put o n)) (name : β) (hn : Nm name) (asks : List β) : ∀ out, P out → P (askC put name out asks) := by
 induction asks with
 | nil => intro out h; exact h
 | cons a asks ih =>
  intro out h
  unfold askC at *
  rw [List.foldl_cons]
  refine ih _ ?_
  split
  ·exact hP _ _ h hn
  ·exact h
omit hput in
theorem a2U {P : List β → Prop} {Nm : β → Prop} (hP : ∀ o n, P o → Nm n → P (put o n)) (E : List (β × List β)) : (∀ e ∈ E, Nm e.1) → ∀ S, P S → P (round put E S) := by
 induction E with
 | nil => intro _ S h; exact h
 | cons e E ih => intro hn S h; exact ih (fun e he => hn e (List.mem_cons_of_mem _ he)) _ (a7F hP e.1 (hn e List.mem_cons_self) e.2 S h)
omit hput in
theorem a1J {P : List β → Prop} {Nm : β → Prop} (hP : ∀ o n, P o → Nm n → P (put o n)) (E : List (β × List β)) (hn : ∀ e ∈ E, Nm e.1) {S : List β} (h : P S) : ∀ n, P (iF put E n S)
 | 0 => h
 | n + 1 => a2U hP E hn _ (a1J hP E hn h n)
theorem a1Y (E : List (β × List β)) (S : List β) : Closed E (iF put E (E.length + 1) S) := by
 rcases rounds_count hput E S (E.length + 1) with h | h
 ·exact h
 ·omega
theorem a5B (E : List (β × List β)) {S O : List β} (h1 : ∀ x ∈ S, x ∈ O) (h2 : Closed E O) (h3 : ∀ T : List β, Closed E T → (∀ x ∈ S, x ∈ T) → ∀ x ∈ O, x ∈ T) (x : β) : x ∈ O ↔ x ∈ iF put E (E.length + 1) S :=
 ⟨fun h => h3 _ (a1Y hput E S) (a1I hput E S _) x h, fun h => yP hput E h2 h1 _ x h⟩
omit hput
theorem tV {lt : β → β → Prop} (hi : ∀ x, ¬ lt x x) (ht : ∀ x y z, lt x y → lt y z → lt x z) : ∀ {l m : List β}, l.Pairwise lt → m.Pairwise lt → (∀ x, x ∈ l ↔ x ∈ m) → l = m
 | [], [], _, _, _ => rfl
 | [], b :: m, _, _, h => by have := (h b).2 List.mem_cons_self; simp at this
 | a :: l, [], _, _, h => by have := (h a).1 List.mem_cons_self; simp at this
 | a :: l, b :: m, h1, h2, h => by
  rw [List.pairwise_cons] at h1 h2
  have hab : a = b := by
   rcases List.mem_cons.1 ((h a).1 List.mem_cons_self) with e | e
   ·exact e
   ·rcases List.mem_cons.1 ((h b).2 List.mem_cons_self) with e' | e'
    ·exact e'.symm
    ·exact absurd (ht _ _ _ (h1.1 b e') (h2.1 a e)) (hi a)
  subst hab
  congr 1
  refine tV hi ht h1.2 h2.2 (fun x => ⟨fun hx => ?_, fun hx => ?_⟩)
  ·rcases List.mem_cons.1 ((h x).1 (List.mem_cons_of_mem _ hx)) with e | e
   ·subst e; exact absurd (h1.1 x hx) (hi x)
   ·exact e
  ·rcases List.mem_cons.1 ((h x).2 (List.mem_cons_of_mem _ hx)) with e | e
   ·subst e; exact absurd (h2.1 x hx) (hi x)
   ·exact e
end
end Go.Sx.Clos
namespace Go.Proofs.YtolgdibgnndoaaaGreat
open Go Go.Sx Go.RowKit Go.Proofs
theorem b3h {x y : ByteArray} (h : bl x = bl y) : x = y := by rw [← a5q x, ← a5q y, h]
def ltS (x y : ByteArray) : Prop := bl x < bl y
theorem a2V (x y : ByteArray) : fM x y = true ↔ ltS x y := by
 unfold fM ltS bl
 rw [Go.Proofs.bytesLess_eq, decide_eq_true_eq, ByteArray.toList_eq, ByteArray.toList_eq]
theorem a1K (x : ByteArray) : ¬ ltS x x := List.lt_irrefl (bl x)
theorem zN (x y z : ByteArray) (h : ltS x y) (k : ltS y z) : ltS x z := List.lt_trans h k
theorem b0u {x y : List UInt8} (h : x ≤ y) (k : x ≠ y) : x < y := Classical.byContradiction fun hn => k (List.le_antisymm h (List.not_lt.1 hn))
theorem b1J {x y : ByteArray} (h : ¬ ltS x y) (k : x ≠ y) : ltS y x := b0u (List.not_lt.1 h) fun e => k (b3h e).symm
theorem a8G (y s : ByteArray) (l : List ByteArray) : putS (y :: l) s = if fM y s then y :: putS l s else if y = s then y :: l else s :: y :: l := by
 unfold putS
 cases h : fM y s with
 | true =>
  have hg : geS s y = false := by simp [geS, h]
  simp only [dW, hg, Bool.false_eq_true, if_false, List.drop_succ_cons, if_true]
  split
  ·rfl
  ·simp [iP]
 | false =>
  have hg : geS s y = true := by simp [geS, h]
  simp only [dW, hg, if_true, List.drop_zero, List.head?_cons, Bool.false_eq_true, if_false, Option.some.injEq]
  split
  ·rfl
  ·simp [iP]
theorem oF (s : ByteArray) : ∀ {l : List ByteArray}, l.Pairwise ltS → (putS l s).Pairwise ltS
 | [], _ => by simp [putS, dW, iP]
 | y :: l, h => by
  rw [a8G]
  rw [List.pairwise_cons] at h
  split
  ·rename_i hlt
   rw [List.pairwise_cons]
   refine ⟨fun x hx => ?_, oF s h.2⟩
   rcases (pX l s x).1 hx with rfl | hx
   ·exact (a2V _ _).1 hlt
   ·exact h.1 x hx
  ·rename_i hlt
   split
   ·exact List.pairwise_cons.2 h
   ·rename_i hne
    have hs : ltS s y := b1J (fun hh => hlt ((a2V _ _).2 hh)) hne
    refine List.pairwise_cons.2 ⟨fun x hx => ?_, List.pairwise_cons.2 h⟩
    rcases List.mem_cons.1 hx with rfl | hx
    ·exact hs
    ·exact zN _ _ _ hs (h.1 x hx)
theorem a4b (l : List ByteArray) : ∀ {a : List ByteArray}, a.Pairwise ltS → (l.foldl putS a).Pairwise ltS := by
 induction l with
 | nil => intro a h; exact h
 | cons y l ih => intro a h; exact ih (oF y h)
theorem a5C (l : List ByteArray) : (putL l).Pairwise ltS := a4b l List.Pairwise.nil
theorem vS (d : Array (List UInt8)) (hs : ∀ i j, i < j → j < d.size → d[i]! ≤ d[j]!) : ∀ m, m ≤ d.size → (Lib.compactUpTo d m).Pairwise (fun x y => x < y) ∧ ∀ x ∈ Lib.compactUpTo d m, 0 < m ∧ x ≤ d[m - 1]!
 | 0, _ => by simp [Lib.compactUpTo]
 | m + 1, hm => by
  obtain ⟨h1, h2⟩ := vS d hs m (by omega)
  rw [Lib.compactUpTo_succ]
  have hup : ∀ x ∈ Lib.compactUpTo d m, x ≤ d[m]! := fun x hx => by
   obtain ⟨h0, h3⟩ := h2 x hx
   exact List.le_trans h3 (hs (m - 1) m (by omega) (by omega))
  refine ⟨?_, fun x hx => ⟨by omega, ?_⟩⟩
  ·cases hk : Lib.keeps d m with
   | false => simpa using h1
   | true =>
    rw [List.pairwise_append]
    refine ⟨h1, by simp, fun x hx y hy => ?_⟩
    simp only [if_true, List.mem_singleton] at hy
    subst hy
    obtain ⟨h0, h3⟩ := h2 x hx
    have hne : d[m]! ≠ d[m - 1]! := fun e => by rw [Lib.keeps_neg h0 e] at hk; cases hk
    have hle := hs (m - 1) m (by omega) (by omega)
    refine b0u (hup x hx) fun e => hne ?_
    rw [e] at h3
    exact List.le_antisymm h3 hle
  ·rcases List.mem_append.1 hx with h | h
   ·exact hup x h
   ·split at h
    ·simp only [List.mem_singleton] at h; subst h; exact List.le_refl _
    ·simp at h
theorem a4c (l : List ByteArray) : (fQ l).Pairwise ltS := by
 have e : (pY l).map bl = lZ (l.map bl) := by
  unfold pY
  rw [List.map_map]
  have : (bl ∘ lb) = id := by funext x; exact b0c x
  rw [this, List.map_id]
 unfold fQ a2K
 rw [e, List.pairwise_map]
 have hs : (lZ (l.map bl)).Pairwise (fun a b => decide (a ≤ b) = true) := by
  refine List.pairwise_mergeSort (le := fun x y : List UInt8 => decide (x ≤ y)) (fun a b c h k => decide_eq_true (List.le_trans (of_decide_eq_true h) (of_decide_eq_true k))) (fun a b => ?_) (l.map bl)
  by_cases h : a ≤ b
  ·simp [h]
  ·have : b ≤ a := List.le_of_lt (List.not_le.1 h)
   simp [this]
 have h := (vS (lZ (l.map bl)).toArray (fun i j hij hj => by
  have hj' : j < (lZ (l.map bl)).length := by simpa using hj
  have hi' : i < (lZ (l.map bl)).length := by omega
  have := List.pairwise_iff_getElem.1 hs i j hi' hj' hij
  simpa [getElem!_pos, hi', hj'] using of_decide_eq_true this) (lZ (l.map bl)).length (by simp)).1
 exact h.imp (fun {x y} h => by show bl (lb x) < bl (lb y); exact h)
end Go.Proofs.YtolgdibgnndoaaaGreat
end
section
set_option maxRecDepth 100000
set_option maxHeartbeats 4000000
namespace Go.Proofs.YtolgdibgnndoaaaGreat
open Go Go.Sx Go.RowKit Go.Proofs
def isA (n : TNode) : Bool := decide (2 ≤ n.fOp) && decide (n.fOp ≤ 4)
def qA (q : List TNode) : List ByteArray := (q.filter isA).map TNode.fName
def b4p (q : List TNode) : Bool := q.any fun n => decide (n.fOp = 9)
def b5s (ch qa : List ByteArray) : Bool := qa.any (jN ch)
def b5t (a b : TFile) (d : TDir) : Bool := b5s (chg a b) (qA d.fQuery) || (b4p d.fQuery && !decide (a.fLink = b.fLink))
def b5u (a b : TFile) (l : List TDir) : List ByteArray := (l.filter (b5t a b)).map TDir.fName
def b5v (a b : TFile) (l : List TDir) : List ByteArray := if a.fID = b.fID then b5u a b l else dirNs l
theorem b4q (l : List TDir) (k : Nat) (h : k < l.length) : l[k].fQuery.length ≤ gL l := by
 have h1 := dI iU l h
 have h2 : l[k].fQuery.length ≤ iU l[k] := by unfold iU dR; omega
 unfold gL
 omega
end Go.Proofs.YtolgdibgnndoaaaGreat
end
section
set_option maxRecDepth 100000
set_option maxHeartbeats 4000000
namespace Go.Proofs.YtolgdibgnndoaaaGreat
open Go Go.Sx Go.RowKit Go.Proofs Go.Sx.Clos
def isD (n : TNode) : Bool := decide (8 ≤ n.fOp) && decide (n.fOp ≤ 9)
def qD (q : List TNode) : List ByteArray := (q.filter isD).map TNode.fName
theorem b0q (q : List TNode) : (qD q).length ≤ q.length := by simp only [qD, List.length_map]; exact List.length_filter_le _ _
theorem b1E (q : List TNode) (k : Nat) (h : k < q.length) : qD (q.take (k + 1)) = qD (q.take k) ++ (if isD q[k] then [q[k].fName] else []) := by
 simp only [qD, List.take_succ_eq_append_getElem h, List.filter_append, List.map_append, List.filter_cons, List.filter_nil]
 cases isD q[k] <;> rfl
def eD (l : List TDir) : List (ByteArray × List ByteArray) := l.map fun d => (d.fName, putL (qD d.fQuery))
theorem b3f (l : List TDir) : (eD l).length = l.length := by simp [eD]
def wS (s : ByteArray) : Nat := 1 + s.size
def pot (l : List TDir) (o : List ByteArray) : Nat := wsm wS o + jC wS (eD l) o
def nmD (l : List TDir) (y : ByteArray) : Prop := ∃ e ∈ eD l, e.1 = y
theorem a6E (l : List TDir) (d : TDir) (h : d ∈ l) : nmD l d.fName := ⟨_, List.mem_map.2 ⟨d, h, rfl⟩, rfl⟩
theorem a3Z (a b : List ByteArray) : wsm wS (a ++ b) = wsm wS a + wsm wS b := by
 induction a with
 | nil => simp [wsm]
 | cons x a ih => simp only [List.cons_append, wsm, ih]; omega
theorem b0r (l : List ByteArray) : wsm wS l = pK l := by
 unfold pK
 induction l with
 | nil => simp [wsm, dN]
 | cons x l ih => simp only [wsm, dN, wS, List.length_cons, ih]; omega
theorem b1F (l : List ByteArray) : l.length ≤ wsm wS l := by rw [b0r]; unfold pK; omega
theorem a7D (l : List TDir) (o : List ByteArray) : o.length ≤ pot l o := by have := b1F o; unfold pot; omega
theorem a5z (o : List ByteArray) (s : ByteArray) : wsm wS (putS o s) ≤ wsm wS o + wS s := by
 unfold putS
 split
 ·omega
 ·unfold iP
  have h := congrArg (wsm wS) (List.take_append_drop (dW (geS s) o) o)
  rw [a3Z] at h
  rw [a3Z]
  simp only [wsm]
  omega
theorem b0s (o : List ByteArray) (s : ByteArray) (h : o.Pairwise ltS) (hs : s ∈ o) : putS o s = o :=
 tV a1K zN (oF s h) h fun x => by
  rw [pX]
  constructor
  ·rintro (rfl | h)
   ·exact hs
   ·exact h
  ·exact .inr
def okS (l : List TDir) (B : Nat) (o : List ByteArray) : Prop := o.Pairwise ltS ∧ pot l o ≤ B
theorem a4a {l : List TDir} {B : Nat} (o : List ByteArray) (s : ByteArray) (h : okS l B o) (hs : nmD l s) : okS l B (putS o s) := by
 refine ⟨oF s h.1, Nat.le_trans ?_ h.2⟩
 by_cases hm : s ∈ o
 ·rw [b0s o s h.1 hm]; exact Nat.le_refl _
 ·have h1 := a5z o s
  have h2 := zM wS (eD l) (S := o) (T := putS o s) (fun x hx => (pX o s x).2 (.inr hx)) hs ((pX o s s).2 (.inl rfl)) hm
  unfold pot; omega
theorem a8D (l : List ByteArray) : ∀ a : List ByteArray, wsm wS (l.foldl putS a) ≤ wsm wS a + wsm wS l := by
 induction l with
 | nil => intro a; simp [wsm]
 | cons y l ih =>
  intro a
  have h1 := ih (putS a y)
  have h2 := a5z a y
  simp only [List.foldl_cons, wsm]; omega
theorem b0t (l : List TDir) (names : List ByteArray) : okS l (pot l names) (putL names) := by
 refine ⟨a5C names, ?_⟩
 have h1 := a8D names []
 have h2 := a0i wS (eD l) (S := names) (T := putL names) (fun x hx => (nK names x).2 hx)
 simp only [wsm] at h1
 unfold pot putL at *
 omega
def oD (l : List TDir) (names : List ByteArray) (n : Nat) : List ByteArray := iF putS (eD l) n (putL names)
def tdS (l : List TDir) (names : List ByteArray) : List ByteArray := oD l names (l.length + 1)
theorem wQ (l : List TDir) (names : List ByteArray) (n : Nat) : okS l (pot l names) (oD l names n) :=
 a1J (Nm := nmD l) (fun o s h hs => a4a o s h hs) (eD l) (fun e he => ⟨e, he, rfl⟩) (b0t l names) n
theorem a8E (l : List TDir) (B i : Nat) (S : List ByteArray) (h : okS l B S) : okS l B (round putS (eD (l.take i)) S) :=
 a2U (Nm := nmD l) (fun o s h hs => a4a o s h hs) (eD (l.take i)) (fun e he => by
  obtain ⟨d, hd, rfl⟩ := List.mem_map.1 he
  exact a6E l d (List.mem_of_mem_take hd)) S h
theorem b1G (l : List TDir) (B : Nat) (d : TDir) (hd : d ∈ l) (az S : List ByteArray) (h : okS l B S) : okS l B (askC putS d.fName S az) :=
 a7F (Nm := nmD l) (fun o s h hs => a4a o s h hs) d.fName (a6E l d hd) az S h
theorem a7E {l : List TDir} {B : Nat} {o : List ByteArray} (h : okS l B o) : o.length ≤ B := Nat.le_trans (a7D l o) h.2
theorem a6F (l : List TDir) (S : List ByteArray) (i : Nat) (h : i < l.length) : round putS (eD (l.take (i + 1))) S = askC putS l[i].fName (round putS (eD (l.take i)) S) (putL (qD l[i].fQuery)) := by
 simp only [round, eD, List.take_succ_eq_append_getElem h, List.map_append, List.map_cons, List.map_nil, List.foldl_append, List.foldl_cons, List.foldl_nil]
theorem b3g (n : ByteArray) (S Q : List ByteArray) (k : Nat) (h : k < Q.length) (hm : Q[k] ∈ askC putS n S (Q.take k)) : askC putS n S (Q.take (k + 1)) = putS (askC putS n S (Q.take k)) n := by
 unfold askC at *
 rw [List.take_succ_eq_append_getElem h, List.foldl_append, List.foldl_cons, List.foldl_nil, if_pos hm]
theorem b1H (n : ByteArray) (S Q : List ByteArray) (k : Nat) (h : k < Q.length) (hm : ¬ Q[k] ∈ askC putS n S (Q.take k)) : askC putS n S (Q.take (k + 1)) = askC putS n S (Q.take k) := by
 unfold askC at *
 rw [List.take_succ_eq_append_getElem h, List.foldl_append, List.foldl_cons, List.foldl_nil, if_neg hm]
def b1I (l : List TDir) (s : ByteArray) : List ByteArray := (l.filter fun d => jN (qD d.fQuery) s).map TDir.fName
theorem a5A (l : List TDir) (s y : ByteArray) : y ∈ b1I l s ↔ ∃ d ∈ l, s ∈ qD d.fQuery ∧ d.fName = y := by
 unfold b1I
 rw [List.mem_map]
 constructor
 ·rintro ⟨d, hd, rfl⟩
  rw [List.mem_filter] at hd
  exact ⟨d, hd.1, (tN _ _).1 hd.2, rfl⟩
 ·rintro ⟨d, hd, hs, rfl⟩
  exact ⟨d, List.mem_filter.2 ⟨hd, (tN _ _).2 hs⟩, rfl⟩
structure Good (l : List TDir) (names o : List ByteArray) : Prop where
 ext : ∀ x ∈ names, x ∈ o
 least : ∀ T, Closed (eD l) T → (∀ x ∈ names, x ∈ T) → ∀ x ∈ o, x ∈ T
 le : pot l o ≤ pot l names
theorem Good.start (l : List TDir) (names : List ByteArray) : Good l names names := ⟨fun _ h => h, fun _ _ h => h, Nat.le_refl _⟩
theorem Good.add {l : List TDir} {names o : List ByteArray} (g : Good l names o) {x y : ByteArray} (hx : x ∈ o) (hy : y ∈ b1I l x) (hn : ¬ y ∈ o) : Good l names (o ++ [y]) := by
 obtain ⟨d, hd, hq, rfl⟩ := (a5A l x y).1 hy
 refine ⟨fun z hz => List.mem_append_left _ (g.ext z hz), fun T hT h z hz => ?_, ?_⟩
 ·rcases List.mem_append.1 hz with h1 | h1
  ·exact g.least T hT h z h1
  ·simp only [List.mem_singleton] at h1
   subst h1
   exact hT _ (List.mem_map.2 ⟨d, hd, rfl⟩) ⟨x, (nK _ _).2 hq, g.least T hT h x hx⟩
 ·have h1 := zM wS (eD l) (S := o) (T := o ++ [d.fName]) (fun z hz => List.mem_append_left _ hz) (a6E l d hd) (by simp) hn
  have h2 := g.le
  have h3 := a3Z o [d.fName]
  simp only [wsm] at h3
  unfold pot at *
  omega
theorem Good.done {l : List TDir} {names o : List ByteArray} (g : Good l names o) (hc : ∀ x ∈ o, ∀ y ∈ b1I l x, y ∈ o) : fQ o = tdS l names := by
 refine tV a1K zN (a4c o) (wQ l names (l.length + 1)).1 fun x => ?_
 rw [pW]
 have h := a5B (put := putS) pX (eD l) (S := putL names) (O := o) (fun x hx => g.ext x ((nK _ _).1 hx)) (fun e he hx => by
  obtain ⟨d, hd, rfl⟩ := List.mem_map.1 he
  obtain ⟨x, hx, ho⟩ := hx
  exact hc x ho _ ((a5A l x _).2 ⟨d, hd, (nK _ _).1 hx, rfl⟩)) (fun T hT hs => g.least T hT fun x hx => hs x ((nK _ _).2 hx)) x
 rw [b3f] at h
 exact h
theorem a8C (q : List TNode) (hl : q.length ≤ 4300000) : FnC Tryz.prog 125 [.o (.d (.sl (q.map bH)))] (.o (.w 9 1 ((putL (qD q)).map eT))) := by
 refine ent Tryz.func125 rfl Tryz.call125 rfl (fun C => ?_); simp only [go_sem, st0, Tryz.ntmps125]
 refine aD ?_
 refine uM 3 0 rfl rfl ?_
 simp only [go_sem]
 refine bC (α := Nat) (fun k => [(3, .o (.d (.sl ((putL (qD (q.take k))).map eT)))), (4, oi k), (5, .o .u)]) (fun _ => []) (fun k => k ≤ q.length) (fun k => q.length - k) 0 (fun _ => ?_) ?_ ?_ (fun k hk => ?_)
 ·simp only [go_sem]
 ·simp only [go_sem]; simp [qD, putL]
 ·simp
 ·simp only [go_sem]
  refine aD ?_
  have hlen : (putL (qD (q.take k))).length ≤ 4300000 := by have h1 := lT (qD (q.take k)); have h2 := b0q (q.take k); simp at h2; omega
  refine cnd rfl (fun h1 => ?_) (fun h1 => ?_)
  ·simp only [decide_eq_true_eq, Int.ofNat_lt] at h1
   have ht := b1E q k h1
   have q0 := @h1; refine lK (show FnC Tryz.prog _ _ (ob (isD q[k])) from bO q[k].fOp 8 9) ?_
   refine cnd rfl (fun hv => ?_) (fun hv => ?_)
   ·rw [hv] at ht
    simp only [if_true] at ht
    have q0 := @h1; refine lK (uL (putL (qD (q.take k))) q[k].fName hlen) ?_
    refine aF (k + 1) ?_ ?_ ?_
    ·simp only [go_sem, ht, a1z]; simp
    ·omega
    ·omega
   ·rw [hv] at ht
    simp only [Bool.false_eq_true, if_false, List.append_nil] at ht
    have q0 := @h1; refine iH ?_
    refine aF (k + 1) ?_ ?_ ?_
    ·simp only [go_sem, ht]; simp
    ·omega
    ·omega
  ·simp only [decide_eq_false_iff_not] at h1
   have e : k = q.length := by omega
   subst e
   rw [List.take_length] at *
   refine aD ?_
   exact aA ⟨⟨_, rfl, by simp only [go_sem, List.take_length]⟩, trivial⟩
theorem a6D (q : List TNode) (hl : q.length ≤ 4300000) : FnC Tryz.prog 125 [.o (.d (.sl (q.map bH)))] (.o (.d (.sl ((putL (qD q)).map eT)))) := (a8C q hl).pu (by simp only [go_sem, and_self])
theorem a8B (l : List TDir) (names : List ByteArray) (h : gL l ≤ 4300000) (hB : pot l names ≤ 4300000) : FnC Tryz.prog 53 [.o (.d (.sl (l.map cO))), .o (.d (.sl (names.map eT)))] (.o (.w 9 1 ((tdS l names).map eT))) := by
 have hl : l.length ≤ 4300000 := by unfold gL at h; omega
 have hnl : names.length ≤ 4300000 := Nat.le_trans (a7D l names) hB
 refine ent Tryz.func53 rfl Tryz.call53 rfl (fun C => ?_); simp only [go_sem, st0, Tryz.ntmps53]
 refine aD ?_
 refine uM 5 0 rfl rfl ?_
 simp only [go_sem]
 refine bC (α := Nat) (fun k => [(5, .o (.d (.sl ((putL (names.take k)).map eT)))), (6, oi k)]) (fun _ => []) (fun k => k ≤ names.length) (fun k => names.length - k) 0 (fun _ => ?_) ?_ ?_ (fun k hk => ?_)
 ·simp only [go_sem]
 ·simp only [go_sem]; simp [putL]
 ·simp
 ·simp only [go_sem]
  refine aD ?_
  have hlen : (putL (names.take k)).length ≤ 4300000 := by have h1 := lT (names.take k); simp at h1; omega
  refine cnd rfl (fun h1 => ?_) (fun h1 => ?_)
  ·simp only [decide_eq_true_eq, Int.ofNat_lt] at h1
   have ht := a1z (names.take k) names[k]
   rw [← List.take_succ_eq_append_getElem h1] at ht
   have q0 := @h1; refine lK (uL (putL (names.take k)) names[k] hlen) ?_
   refine aF (k + 1) ?_ ?_ ?_
   ·simp only [go_sem, ht]; simp
   ·omega
   ·omega
  ·simp only [decide_eq_false_iff_not] at h1
   have e : k = names.length := by omega
   subst e
   rw [List.take_length] at *
   refine aD ?_
   refine bC (α := Nat) (fun r => [(5, .o (.d (.sl ((oD l names r).map eT)))), (7, oi r)]) (fun _ => []) (fun r => r ≤ l.length + 1) (fun r => l.length + 1 - r) 0 (fun _ => ?_) ?_ ?_ (fun r hr => ?_)
   ·simp only [go_sem]
   ·simp only [go_sem]; simp [oD, iF]
   ·simp
   ·simp only [go_sem]
    refine aD ?_
    have hokR := wQ l names r
    have hRl := Nat.le_trans (a7E hokR) hB
    refine cnd rfl (fun h2 => ?_) (fun h2 => ?_)
    ·simp only [decide_eq_true_eq, Int.ofNat_le] at h2
     refine aD ?_
     refine bC (α := Nat) (fun i => [(5, .o (.d (.sl ((round putS (eD (l.take i)) (oD l names r)).map eT)))), (8, oi i)]) (fun _ => []) (fun i => i ≤ l.length) (fun i => l.length - i) 0 (fun _ => ?_) ?_ ?_ (fun i hi => ?_)
     ·simp only [go_sem]
     ·simp only [go_sem]; simp [round, eD]
     ·simp
     ·simp only [go_sem]
      refine aD ?_
      have hokI := a8E l (pot l names) i _ hokR
      refine cnd rfl (fun h3 => ?_) (fun h3 => ?_)
      ·simp only [decide_eq_true_eq, Int.ofNat_lt] at h3
       have ht := a6F l (oD l names r) i h3
       have hq := b4q l i h3
       have hqb := b0q l[i].fQuery
       have hqc := lT (qD l[i].fQuery)
       generalize round putS (eD (l.take i)) (oD l names r) = O at *
       have q0 := @h3; refine lK (a6D l[i].fQuery (by omega)) ?_
       generalize putL (qD l[i].fQuery) = Q at *
       refine bC (α := Nat) (fun k => [(5, .o (.d (.sl ((askC putS l[i].fName O (Q.take k)).map eT)))), (10, oi k)]) (fun _ => []) (fun k => k ≤ Q.length) (fun k => Q.length - k) 0 (fun _ => ?_) ?_ ?_ (fun k hk => ?_)
       ·simp only [go_sem]
       ·simp only [go_sem]; simp [askC]
       ·simp
       ·simp only [go_sem]
        refine aD ?_
        have hokA := b1G l (pot l names) l[i] (List.getElem_mem h3) (Q.take k) O hokI
        have hAl := Nat.le_trans (a7E hokA) hB
        refine cnd rfl (fun h4 => ?_) (fun h4 => ?_)
        ·simp only [decide_eq_true_eq, Int.ofNat_lt] at h4
         have hin := b3g l[i].fName O Q k h4
         have hout := b1H l[i].fName O Q k h4
         generalize askC putS l[i].fName O (Q.take k) = A at *
         have q0 := @h3; have q1 := @h4; refine a3A (kC A Q[k] hAl) ?_
         refine cnd (b := jN A Q[k]) rfl (fun hv => ?_) (fun hv => ?_)
         ·have hin := hin ((tN A Q[k]).1 hv)
          have q0 := @h3; have q1 := @h4; refine a3A (uL A l[i].fName hAl) ?_
          refine aF (k + 1) ?_ ?_ ?_
          ·simp only [go_sem, hin]; simp
          ·omega
          ·omega
         ·have hout := hout (fun hm => by rw [(tN A Q[k]).2 hm] at hv; cases hv)
          have q0 := @h3; have q1 := @h4; refine gQ ?_
          refine aF (k + 1) ?_ ?_ ?_
          ·simp only [go_sem, hout]; simp
          ·omega
          ·omega
        ·simp only [decide_eq_false_iff_not] at h4
         have e : k = Q.length := by omega
         subst e
         rw [List.take_length] at *
         refine aD ?_
         refine aF (i + 1) ?_ ?_ ?_
         ·simp only [go_sem, ht]; simp
         ·omega
         ·omega
      ·simp only [decide_eq_false_iff_not] at h3
       have e : i = l.length := by omega
       subst e
       rw [List.take_length] at *
       refine aD ?_
       refine aF (r + 1) ?_ ?_ ?_
       ·simp only [go_sem]; simp [oD, iF]
       ·omega
       ·omega
    ·simp only [decide_eq_false_iff_not] at h2
     have e : r = l.length + 1 := by omega
     subst e
     refine aD ?_
     exact aA ⟨⟨_, rfl, by simp only [go_sem, tdS]⟩, trivial⟩
theorem a6C (l : List TDir) (p : TDir → Bool) (S : List ByteArray) (hS : ∀ d ∈ l, p d = true → d.fName ∈ S) : wsm wS ((l.filter p).map TDir.fName) + jC wS (eD l) S ≤ gL l := by
 unfold gL
 induction l with
 | nil => simp [wsm, eD, jC, dN]
 | cons d l ih =>
  have ih := ih fun d' hd' => hS d' (List.mem_cons_of_mem _ hd')
  have e : iU d = d.fName.size + dR d.fQuery := rfl
  have ee : wS d.fName = 1 + d.fName.size := rfl
  simp only [eD, List.map_cons, jC, List.filter_cons, List.length_cons, dN] at ih ⊢
  cases hp : p d with
  | true =>
   have hm := hS d List.mem_cons_self hp
   simp only [hm, if_true, List.map_cons, wsm]; omega
  | false =>
   simp only [Bool.false_eq_true, if_false]
   split <;> omega
theorem b1Q (l : List TDir) (names : List ByteArray) : pK (tdS l names) ≤ pot l names := by
 have h := (wQ l names (l.length + 1)).2
 unfold tdS
 rw [← b0r]
 unfold pot at *
 omega
def b5R (a b : TFile) (l : List TDir) : List ByteArray := tdS l (b5v a b l)
end Go.Proofs.YtolgdibgnndoaaaGreat
end
section
set_option maxRecDepth 100000
set_option maxHeartbeats 4000000
namespace Go.Proofs.YtolgdibgnndoaaaGreat
open Go Go.Sx Go.RowKit Go.Proofs
def b4r (a b : TEdit) : TEdit := if a.fOK then (if b.fOK then ⟨false, []⟩ else a) else (if b.fOK then b else ⟨false, []⟩)
def wt (q : List TNode) (f : TFile) (r : List TResult) : Nat → Nat → Bool → TEdit
 | 0, _, _ => ⟨false, []⟩
 | k + 1, i, b => match q[i]? with
  | none => ⟨false, []⟩
  | some n =>
   if mt q f r (k + 1) i = b then ⟨true, []⟩
   else if n.fOp = 3 then (if b then ⟨true, [⟨n.fName, n.fValue⟩]⟩ else ⟨false, []⟩)
   else if n.fOp = 2 then (if b then ⟨false, []⟩ else ⟨true, [⟨n.fName, ⟨0, 0, ⟨#[]⟩⟩⟩]⟩)
   else if n.fOp = 5 then wt q f r k n.fLeft.toNat (!b)
   else if n.fOp = 6 then (if b then a9N (wt q f r k n.fLeft.toNat b) (wt q f r k n.fRight.toNat b) else b4r (wt q f r k n.fLeft.toNat b) (wt q f r k n.fRight.toNat b))
   else if n.fOp = 7 then (if b then b4r (wt q f r k n.fLeft.toNat b) (wt q f r k n.fRight.toNat b) else a9N (wt q f r k n.fLeft.toNat b) (wt q f r k n.fRight.toNat b))
   else ⟨false, []⟩
def b5N (q : List TNode) (f : TFile) (r : List TResult) (b : Bool) : TEdit := if okQ q then wt q f r q.length (q.length - 1) b else ⟨false, []⟩
theorem b3i (l : List Int) (hl : l.length ≤ 9223372036854775807) : FnC Tryz.prog 7 [.o (.d (.sl (l.map oK)))] (ob (decide ((1048576 : Int) < (l.length : Int)))) := by
 refine ent Tryz.func7 rfl Tryz.call7 rfl (fun C => ?_); simp only [go_sem, st0, Tryz.ntmps7]
 refine aD ?_
 exact aA ⟨⟨_, rfl, by simp only [go_sem]⟩, trivial⟩
def amQ (x y : Int) : List TNode := [⟨3, 0, 0, ⟨#[97]⟩, ⟨1, x, ⟨#[]⟩⟩⟩, ⟨3, 0, 0, ⟨#[98]⟩, ⟨1, y, ⟨#[]⟩⟩⟩, ⟨7, 0, 1, ⟨#[]⟩, ⟨0, 0, ⟨#[]⟩⟩⟩]
def amL (x : Int) : List TNode := [⟨4, 0, 0, ⟨#[97]⟩, ⟨1, x, ⟨#[]⟩⟩⟩]
def amF : TFile := ⟨1, 0, false, 0, []⟩
end Go.Proofs.YtolgdibgnndoaaaGreat
end
section
set_option maxRecDepth 100000
set_option maxHeartbeats 4000000
namespace Go.Proofs.YtolgdibgnndoaaaGreat
open Go Go.Sx Go.RowKit Go.Proofs Go.Sx.Clos
theorem qR (s : TStore) (d : List TDir) (hs : dV s ≤ 4300000) (hd : gL d ≤ 4300000) : FnC Tryz.prog 22 [gZ s, .o (.d (.sl (d.map cO)))] (.t [(false, [.d (.sl ((evX s d [] (dirNs d)).1.map aN))]), (false, [.d (bv (evB s d))])]) := (a5y s d hs hd).pu (by simp only [go_sem, and_self])
theorem a4H (l : List Int) (hl : l.length ≤ 67108864) : FnC Tryz.prog 23 [.o (.d (slI l)), .o (.d (slI l))] (ob true) := by
 refine ent Tryz.func23 rfl Tryz.call23 rfl (fun C => ?_); simp only [go_sem, st0, Tryz.ntmps23]
 have h0 : decide ((l.length : Int) = (l.length : Int)) = true := by simp
 have q0 := @h0; have q1 := @b2q; refine gQ ?_
 refine bC (α := Nat) (fun k => [(5, oi k)]) (fun _ => []) (fun k => k ≤ l.length) (fun k => l.length - k) 0 (fun _ => ?_) ?_ ?_ (fun k hk => ?_)
 ·simp only [go_sem]
 ·simp only [go_sem]; simp
 ·simp
 ·simp only [go_sem]
  refine aD ?_
  refine cnd rfl (fun h => ?_) (fun h => ?_)
  ·simp only [decide_eq_true_eq, Int.ofNat_lt] at h
   have q0 := @h; refine iH ?_
   refine aF (k + 1) ?_ ?_ ?_
   ·simp only [go_sem]; simp
   ·exact h
   ·omega
  ·refine aD ?_
   exact aA ⟨⟨_, rfl, by simp only [go_sem]⟩, trivial⟩
theorem a1P (r : TResult) (hl : r.fIDs.length ≤ 67108864) : FnC Tryz.prog 88 [a7i r, a7i r] (ob true) := by
 refine ent Tryz.func88 rfl Tryz.call88 rfl (fun C => ?_); simp only [go_sem, st0, Tryz.ntmps88]
 have q0 := @decide_true; refine lK (a4H r.fIDs hl) ?_
 exact aA ⟨⟨_, rfl, by simp only [go_sem]⟩, trivial⟩
theorem sO (l : List TResult) (hl : aW l ≤ 67108864) : FnC Tryz.prog 28 [.o (.d (.sl (l.map aN))), .o (.d (.sl (l.map aN)))] (ob true) := by
 have hn : l.length ≤ 67108864 := by unfold aW at hl; omega
 refine ent Tryz.func28 rfl Tryz.call28 rfl (fun C => ?_); simp only [go_sem, st0, Tryz.ntmps28]
 have h0 : decide ((l.length : Int) = (l.length : Int)) = true := by simp
 have q0 := @h0; have q1 := @b2q; refine gQ ?_
 refine bC (α := Nat) (fun k => [(5, oi k)]) (fun _ => []) (fun k => k ≤ l.length) (fun k => l.length - k) 0 (fun _ => ?_) ?_ ?_ (fun k hk => ?_)
 ·simp only [go_sem]
 ·simp only [go_sem]; simp
 ·simp
 ·simp only [go_sem]
  refine aD ?_
  refine cnd rfl (fun h => ?_) (fun h => ?_)
  ·simp only [decide_eq_true_eq, Int.ofNat_lt] at h
   have hm := dI iO l h
   have hw1 : iO l[k] = l[k].fName.size + l[k].fIDs.length := rfl
   have hr := a1P l[k] (by unfold aW at hl; omega)
   have q0 := @h; refine lK hr ?_
   refine aF (k + 1) ?_ ?_ ?_
   ·simp only [go_sem]; simp
   ·exact h
   ·omega
  ·refine aD ?_
   exact aA ⟨⟨_, rfl, by simp only [go_sem]⟩, trivial⟩
theorem a3C (c : Nat) : ∀ (l : List ByteArray), (∀ s ∈ l, wS s ≤ c) → wsm wS l ≤ l.length * c
 | [], _ => by simp [wsm]
 | s :: l, h => by
  have h1 := h s List.mem_cons_self
  have h2 := a3C c l fun y hy => h y (List.mem_cons_of_mem _ hy)
  simp only [wsm, List.length_cons, Nat.add_mul]
  omega
theorem a9s (l : List TDir) (o : List ByteArray) : pot l o ≤ gL l + wsm wS o := by
 have h := a6C l (fun _ => false) o (by simp)
 unfold pot
 omega
theorem a1e (l : List TDir) (names : List ByteArray) (h : gL l ≤ 4300000) (hB : pot l names ≤ 4300000) : FnC Tryz.prog 53 [.o (.d (.sl (l.map cO))), .o (.d (.sl (names.map eT)))] (.o (.d (.sl ((tdS l names).map eT)))) := (a8B l names h hB).pu (by simp only [go_sem, and_self])
theorem a4I {l : List Int} (hl : iI l) : FnX Tryz.prog 25 [.o (.d (.sl (l.map oK)))] (fun p : TStore × List TDir × List TResult × List ByteArray => storeA p.1 ∧ dirsD 6 p.2.1 ∧ aW p.2.2.1 ≤ 95 ∧ p.2.2.2.length ≤ 4300000) (fun p => .t [(true, (gZ p.1).cells), (false, [.d (.sl (p.2.1.map cO))]), (false, [.d (.sl (p.2.2.1.map aN))]), (false, [.d (.sl (p.2.2.2.map eT))])]) := by
 refine b3P Tryz.func25 rfl Tryz.call25 rfl (fun C => ?_); simp only [go_sem, st0, Tryz.ntmps25]
 refine aD ?_
 refine b1L (a2v l hl.1 hl.2) rfl rfl ?_
 intro h hh
 simp only [go_sem]
 refine aD ?_
 first | (refine aP (a1f hl 0 h (Nat.zero_le _) hh) ⟨rfl, rfl⟩ ?_ rfl ?_; (focus first | rfl | (simp only [go_sem]; done))) | (refine hZ (a1f hl 0 h (Nat.zero_le _) hh) ⟨rfl, rfl⟩ ?_ rfl ?_; (focus first | rfl | (simp only [go_sem]; done)))
 clear hh; rintro ⟨⟨s, d⟩, i, h⟩ ⟨⟨hsA, hd⟩, hi, hh⟩; simp only at hsA hd hi hh; simp only [go_sem]
 have hsw := hsA.w
 have hdw := a3D hd (by decide)
 have e1 := qR s d (by omega) (by omega)
 refine jH e1 ?_
 first | (refine aP (dD hl 2 (by decide) (by decide) i h hi hh) ⟨rfl, rfl⟩ ?_ rfl ?_; (focus first | rfl | (simp only [go_sem]; done))) | (refine hZ (dD hl 2 (by decide) (by decide) i h hi hh) ⟨rfl, rfl⟩ ?_ rfl ?_; (focus first | rfl | (simp only [go_sem]; done)))
 clear hi hh; rintro ⟨c1, i, h⟩ ⟨q1, hi, hh⟩; simp only at q1 hi hh; simp only [go_sem]
 cases c1
 ·refine aD ?_
  refine bC (α := Nat × List ByteArray × Nat × Int) (fun x => [(11, .o (.s 3)), (12, oi x.1), (35, .o .u)]) (fun x => [(1, .box 158 [.d (.sl (l.map oK)), .d (iv x.2.2.1), .d (iv x.2.2.2)]), (3, .row 9 1 (x.2.1.map eT) true)]) (fun x => (x.1 ≤ 3 ∧ x.2.1.length = x.1 ∧ ∀ s ∈ x.2.1, w1 s) ∧ (x.2.2.1 ≤ l.length ∧ inR .i64 x.2.2.2)) (fun x => 4 - x.1) (0, [], i, h) (fun _ => ?_) ?_ ?_ (fun x hx => ?_)
  ·simp only [go_sem]
  ·simp only [go_sem]; simp
  ·exact ⟨⟨Nat.zero_le _, rfl, fun s hs => by simp at hs⟩, hi, hh⟩
  ·clear hi hh
   obtain ⟨k, ns, i, h⟩ := x
   obtain ⟨⟨k3, hk, hns⟩, hi, hh⟩ := hx
   simp only at k3 hk hns hi hh
   simp only [go_sem]
   refine aD ?_
   first | (refine aP (aG hl 4 (by decide) (by decide) i h hi hh) ⟨rfl, rfl⟩ ?_ rfl ?_; (focus first | rfl | (simp only [go_sem]; done))) | (refine hZ (aG hl 4 (by decide) (by decide) i h hi hh) ⟨rfl, rfl⟩ ?_ rfl ?_; (focus first | rfl | (simp only [go_sem]; done)))
   clear hi hh; rintro ⟨x, i, h⟩ ⟨hx, hi, hh⟩; simp only at hx hi hh; simp only [go_sem]
   refine aD ?_
   refine cnd rfl (fun hlt => ?_) (fun hlt => ?_)
   ·simp only [decide_eq_true_eq] at hlt
    have hq1 : ns.length + 1 ≤ 140737488355328 := by omega
    have hq2 : (ns.length + 1) * 16 ≤ 140737488355328 := by omega
    refine aD ?_
    first | (refine aP (qX hl i h hi hh) ⟨rfl, rfl⟩ ?_ rfl ?_; (focus first | rfl | (simp only [go_sem]; done))) | (refine hZ (qX hl i h hi hh) ⟨rfl, rfl⟩ ?_ rfl ?_; (focus first | rfl | (simp only [go_sem]; done)))
    clear hi hh; rintro ⟨nm, i, h⟩ ⟨hnm, hi, hh⟩; simp only at hnm hi hh; simp only [go_sem]
    have q0 := @hq1; have q1 := @hq2; refine gQ ?_
    refine aF (k + 1, ns ++ [nm], i, h) ?_ ?_ ?_
    ·simp only [go_sem, List.map_append, List.map_cons, List.map_nil]; simp
    ·exact ⟨⟨by simp only; omega, by simp [hk], fun s hs => by
      rcases List.mem_append.1 hs with hs | hs
      ·exact hns s hs
      ·simp only [List.mem_singleton] at hs; subst hs; exact hnm⟩, hi, hh⟩
    ·simp only; omega
   ·have hb := a3C 10 ns fun s hs => by have h1 := hns s hs; unfold w1 at h1; unfold wS; omega
    have hp := a9s d ns
    have htd := a1e d ns (by omega) (by omega)
    have htw := b1Q d ns
    have hlen : (tdS d ns).length ≤ 4300000 := by unfold pK at htw; omega
    have hr95 := a6B s d
    repeat' (with_reducible first | refine nX ?_ | (refine mX ?_; try simp only [go_sem]) | refine kD ?_ | refine aO ?_ | fail)
    refine uM 11 3 rfl rfl ?_
    simp only [go_sem]
    have qH := trivial; repeat' (with_reducible first | refine nY ?_ | (refine mX ?_; try simp only [go_sem]) | refine kD ?_ | (apply rE [5,6] [] [0,1,2,3,4] [0,1,2,3,4] ((.c 5 [] [0,1,2] (.c 6 [7,8,9] [1,2,7,8,9] .n .n) .n)) (by simp only [go_sem]; rfl) (by simp only [go_sem]; rfl) (by simp only [go_sem]; rfl) (by decide +kernel); (focus simp only [go_sem]; done)) | exact bF | refine aQ (uX ?_) ?_ | refine aR (aX ?_) ?_ | refine aT (aX ?_) ?_ | exact bR | exact oH | (refine uA ?_; simp only [go_sem]; (repeat' first | omega | refine And.intro ?_ ?_); done) | refine rD ?_ | refine cP htd ?_ | refine aO ?_ | fail)
    exact a1i (s, d, (evX s d [] (dirNs d)).1, tdS d ns) ⟨⟨_, rfl, by simp only [go_sem]; try simp⟩, by simp [dQ]⟩ ⟨hsA, hd, hr95, hlen⟩
 ·refine aD ?_
  first | (refine aP (jT hl i h hi hh) ⟨rfl, rfl⟩ ?_ rfl ?_; (focus first | rfl | (simp only [go_sem]; done))) | (refine hZ (jT hl i h hi hh) ⟨rfl, rfl⟩ ?_ rfl ?_; (focus first | rfl | (simp only [go_sem]; done)))
  clear hi hh; rintro ⟨s2, i, h⟩ ⟨hs2, hi, hh⟩; simp only at hs2 hi hh; simp only [go_sem]
  have hsw2 := sP hs2
  have e2 := qR s2 d (by omega) (by omega)
  refine jH e2 ?_
  refine bC (α := Nat × List ByteArray × Nat × Int) (fun x => [(11, .o (.s 4)), (12, oi x.1), (35, .o .u)]) (fun x => [(1, .box 158 [.d (.sl (l.map oK)), .d (iv x.2.2.1), .d (iv x.2.2.2)]), (4, .row 9 1 (x.2.1.map eT) true)]) (fun x => (x.1 ≤ 3 ∧ x.2.1.length = x.1 ∧ ∀ s ∈ x.2.1, w1 s) ∧ (x.2.2.1 ≤ l.length ∧ inR .i64 x.2.2.2)) (fun x => 4 - x.1) (0, [], i, h) (fun _ => ?_) ?_ ?_ (fun x hx => ?_)
  ·simp only [go_sem]
  ·simp only [go_sem]; simp
  ·exact ⟨⟨Nat.zero_le _, rfl, fun s hs => by simp at hs⟩, hi, hh⟩
  ·clear hi hh
   obtain ⟨k, ns, i, h⟩ := x
   obtain ⟨⟨k3, hk, hns⟩, hi, hh⟩ := hx
   simp only at k3 hk hns hi hh
   simp only [go_sem]
   refine aD ?_
   first | (refine aP (aG hl 4 (by decide) (by decide) i h hi hh) ⟨rfl, rfl⟩ ?_ rfl ?_; (focus first | rfl | (simp only [go_sem]; done))) | (refine hZ (aG hl 4 (by decide) (by decide) i h hi hh) ⟨rfl, rfl⟩ ?_ rfl ?_; (focus first | rfl | (simp only [go_sem]; done)))
   clear hi hh; rintro ⟨x, i, h⟩ ⟨hx, hi, hh⟩; simp only at hx hi hh; simp only [go_sem]
   refine aD ?_
   refine cnd rfl (fun hlt => ?_) (fun hlt => ?_)
   ·simp only [decide_eq_true_eq] at hlt
    have hq1 : ns.length + 1 ≤ 140737488355328 := by omega
    have hq2 : (ns.length + 1) * 16 ≤ 140737488355328 := by omega
    refine aD ?_
    first | (refine aP (qX hl i h hi hh) ⟨rfl, rfl⟩ ?_ rfl ?_; (focus first | rfl | (simp only [go_sem]; done))) | (refine hZ (qX hl i h hi hh) ⟨rfl, rfl⟩ ?_ rfl ?_; (focus first | rfl | (simp only [go_sem]; done)))
    clear hi hh; rintro ⟨nm, i, h⟩ ⟨hnm, hi, hh⟩; simp only at hnm hi hh; simp only [go_sem]
    have q0 := @hq1; have q1 := @hq2; refine gQ ?_
    refine aF (k + 1, ns ++ [nm], i, h) ?_ ?_ ?_
    ·simp only [go_sem, List.map_append, List.map_cons, List.map_nil]; simp
    ·exact ⟨⟨by simp only; omega, by simp [hk], fun s hs => by
      rcases List.mem_append.1 hs with hs | hs
      ·exact hns s hs
      ·simp only [List.mem_singleton] at hs; subst hs; exact hnm⟩, hi, hh⟩
    ·simp only; omega
   ·have hb := a3C 10 ns fun s hs => by have h1 := hns s hs; unfold w1 at h1; unfold wS; omega
    have hp := a9s d ns
    have htd := a1e d ns (by omega) (by omega)
    have htw := b1Q d ns
    have hlen : (tdS d ns).length ≤ 4300000 := by unfold pK at htw; omega
    have hr95 := a6B s2 d
    repeat' (with_reducible first | refine nX ?_ | (refine mX ?_; try simp only [go_sem]) | refine kD ?_ | refine aO ?_ | fail)
    refine uM 11 4 rfl rfl ?_
    simp only [go_sem]
    have qH := trivial; repeat' (with_reducible first | refine nY ?_ | (refine mX ?_; try simp only [go_sem]) | refine kD ?_ | (apply rE [5,6] [] [0,1,2,3,4] [0,1,2,3,4] ((.c 5 [] [0,1,2] (.c 6 [7,8,9] [1,2,7,8,9] .n .n) .n)) (by simp only [go_sem]; rfl) (by simp only [go_sem]; rfl) (by simp only [go_sem]; rfl) (by decide +kernel); (focus simp only [go_sem]; done)) | exact bF | refine aQ (uX ?_) ?_ | refine aR (aX ?_) ?_ | refine aT (aX ?_) ?_ | exact bR | exact oH | (refine uA ?_; simp only [go_sem]; (repeat' first | omega | refine And.intro ?_ ?_); done) | refine rD ?_ | refine cP htd ?_ | refine aO ?_ | fail)
    exact a1i (s, d, (evX s2 d [] (dirNs d)).1, tdS d ns) ⟨⟨_, rfl, by simp only [go_sem]; try simp⟩, by simp [dQ]⟩ ⟨hsA, hd, hr95, hlen⟩
theorem a6d (l : List Int) (hf : wfU l) : FnC Tryz.prog 4 [.o (.d (.sl (l.map oK)))] (ob true) := by
 refine ent Tryz.func4 rfl Tryz.call4 rfl (fun C => ?_); simp only [go_sem, st0, Tryz.ntmps4]
 have hbig := b3i l hf.1
 by_cases g : (1048576 : Int) < (l.length : Int)
 ·have g' : decide ((1048576 : Int) < (l.length : Int)) = true := by simp [g]
  have q0 := @g'; refine lK hbig ?_
  exact aA ⟨⟨_, rfl, by simp only [go_sem]⟩, trivial⟩
 have g' : decide ((1048576 : Int) < (l.length : Int)) = false := by simp [g]
 have hl : iI l := ⟨by omega, hf.2⟩
 have q0 := @g'; refine lK hbig ?_
 refine b3Q (a4I hl) rfl rfl ?_
 rintro ⟨s, d, r, ns⟩ ⟨hsA, hd, hr, hn⟩
 simp only at hsA hd hr hn
 simp only [go_sem]
 have hsw := hsA.w
 have hdw := a3D hd (by decide)
 have hdl : d.length ≤ 4300000 := by have := hd.hi; omega
 have w1 := b3e s d r ns (by omega)
 have w2 := b4o s d
 have c1 := (a0h s d r ns (by omega) (by omega) (by omega) hn).pu (res' := .t [(false, [.d (.sl ((evX s d r ns).1.map aN))]), (false, [.d (bv (evB s d))])]) (by simp only [go_sem, and_self])
 have c2 := a5x s d r ns (by omega) (by omega) (by omega) hn
 have c3 := qR s d (by omega) (by omega)
 have c4 := (a0h s d [] (dirNs d) (by omega) (by omega) (by simp [aW, dN]) (by simpa [dirNs] using hdl)).pu (res' := .t [(false, [.d (.sl ((evX s d [] (dirNs d)).1.map aN))]), (false, [.d (bv (evB s d))])]) (by simp only [go_sem, and_self])
 have c5 : FnC Tryz.prog 29 [.o (.d (.sl (d.map cO)))] (.o (.d (.sl ((dirNs d).map eT)))) := (a0w d hdl).pu (by simp only [go_sem, and_self])
 simp only [List.map_nil] at c4
 have s1 := sO (evX s d r ns).1 (by omega)
 have s2 := sO (evX s d [] (dirNs d)).1 (by omega)
 have t1 : ∀ b : Bool, (b != b) = false := fun b => by cases b <;> rfl
 have t2 : ∀ b : Bool, (b == b) = true := fun b => by cases b <;> rfl
 generalize (evX s d r ns).1 = R1 at *
 generalize (evX s d [] (dirNs d)).1 = R2 at *
 generalize evB s d = B at *
 cases B
 ·have qH := aI @t1 (aI @t2 @decide_true); repeat' (with_reducible first | refine nY ?_ | (refine mX ?_; try simp only [go_sem, qH]) | refine kD ?_ | (apply rE [3,4] [] [0,1,2] [0,1,2] ((.c 3 [] [0,1] (.c 4 [5,6,7,8,9] [5,6,7,8,9] .n .n) .n)) (by simp only [go_sem]; rfl) (by simp only [go_sem]; rfl) (by simp only [go_sem]; rfl) (by decide +kernel); (focus simp only [go_sem]; done)) | exact bF | refine aQ (uX ?_) ?_ | refine aR (aX ?_) ?_ | refine aT (aX ?_) ?_ | exact bR | exact oH | exact uB | refine rD ?_ | refine cP c1 ?_ | refine cP c2 ?_ | refine cP c3 ?_ | refine cP c4 ?_ | refine cP c5 ?_ | refine cP s1 ?_ | refine cP s2 ?_ | refine aO ?_ | fail)
  exact aA ⟨⟨_, rfl, by simp only [go_sem]⟩, trivial⟩
 ·have qH := aI @t1 (aI @t2 @decide_true); repeat' (with_reducible first | refine nY ?_ | (refine mX ?_; try simp only [go_sem, qH]) | refine kD ?_ | (apply rE [3,4] [] [0,1,2] [0,1,2] ((.c 3 [] [0,1] (.c 4 [5,6,7,8,9] [5,6,7,8,9] .n .n) .n)) (by simp only [go_sem]; rfl) (by simp only [go_sem]; rfl) (by simp only [go_sem]; rfl) (by decide +kernel); (focus simp only [go_sem]; done)) | exact bF | refine aQ (uX ?_) ?_ | refine aR (aX ?_) ?_ | refine aT (aX ?_) ?_ | exact bR | exact oH | exact uB | refine rD ?_ | refine cP c1 ?_ | refine cP c2 ?_ | refine cP c3 ?_ | refine cP c4 ?_ | refine cP c5 ?_ | refine cP s1 ?_ | refine cP s2 ?_ | refine aO ?_ | fail)
  exact aA ⟨⟨_, rfl, by simp only [go_sem]⟩, trivial⟩
end Go.Proofs.YtolgdibgnndoaaaGreat
end
