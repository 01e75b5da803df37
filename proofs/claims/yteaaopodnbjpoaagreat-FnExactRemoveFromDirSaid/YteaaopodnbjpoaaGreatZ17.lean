/- Joined texts. -/
import Derived.Test.YteaaopodnbjpoaaGreatZ13
import Derived.Sort.Walk0
import Derived.Test.YteaaopodnbjpoaaGreatZ06
set_option linter.all false
section
namespace Go.Sx.Clos
section
variable {β : Type} [DecidableEq β]
def Closed (E : List (β × List β)) (S : List β) : Prop := ∀ e ∈ E, (∃ x ∈ e.2, x ∈ S) → e.1 ∈ S
def wsm (w : β → Nat) : List β → Nat
 | [] => 0
 | x :: l => w x + wsm w l
def kM (w : β → Nat) : List (β × List β) → List β → Nat
 | [], _ => 0
 | e :: E, S => (if e.1 ∈ S then 0 else w e.1) + kM w E S
theorem a3c (w : β → Nat) (E : List (β × List β)) {S T : List β} (h : ∀ x ∈ S, x ∈ T) : kM w E T ≤ kM w E S := by
 induction E with
 | nil => simp [kM]
 | cons e E ih =>
  simp only [kM]
  by_cases h1 : e.1 ∈ S
  ·have h2 := h _ h1; simp [h1, h2]; exact ih
  ·by_cases h2 : e.1 ∈ T
   ·simp [h1, h2]; omega
   ·simp [h1, h2]; exact ih
theorem a2y (w : β → Nat) (E : List (β × List β)) {S T : List β} (h : ∀ x ∈ S, x ∈ T) {y : β} (hy : ∃ e ∈ E, e.1 = y) (h1 : y ∈ T) (h2 : ¬ y ∈ S) : kM w E T + w y ≤ kM w E S := by
 induction E with
 | nil => obtain ⟨e, he, _⟩ := hy; simp at he
 | cons e E ih =>
  obtain ⟨e', he', rfl⟩ := hy
  rcases List.mem_cons.1 he' with rfl | hm
  ·have := a3c w E h
   simp only [kM]
   simp [h1, h2]; omega
  ·have := ih ⟨e', hm, rfl⟩
   simp only [kM]
   by_cases h3 : e.1 ∈ S
   ·have h4 := h _ h3; simp [h3, h4]; exact this
   ·by_cases h4 : e.1 ∈ T
    ·simp [h3, h4]; omega
    ·simp [h3, h4]; omega
theorem b4m (E : List (β × List β)) (S : List β) : kM (fun _ => 1) E S ≤ E.length := by
 induction E with
 | nil => simp [kM]
 | cons e E ih => simp only [kM, List.length_cons]; split <;> omega
variable (put : List β → β → List β)
def askC (name : β) (out asks : List β) : List β := asks.foldl (fun o a => if a ∈ o then put o name else o) out
def round (E : List (β × List β)) (S : List β) : List β := E.foldl (fun o e => askC put e.1 o e.2) S
def jN (E : List (β × List β)) : Nat → List β → List β
 | 0, S => S
 | n + 1, S => round put E (jN E n S)
variable {put} (hput : ∀ l s x, x ∈ put l s ↔ x = s ∨ x ∈ l)
include hput
theorem a1O (name : β) (asks : List β) : ∀ (out : List β) (x : β), x ∈ askC put name out asks ↔ x ∈ out ∨ (x = name ∧ ∃ a ∈ asks, a ∈ out) := by
 induction asks with
 | nil => intro out x; simp [askC]
 | cons a asks ih =>
  intro out x
  have ih' := ih (if a ∈ out then put out name else out) x
  unfold askC at *
  rw [List.foldl_cons, ih']
  by_cases h : a ∈ out
  ·simp only [h, if_true, hput]
   constructor
   ·rintro ((rfl | h1) | ⟨rfl, _⟩)
    ·exact .inr ⟨rfl, a, List.mem_cons_self, h⟩
    ·exact .inl h1
    ·exact .inr ⟨rfl, a, List.mem_cons_self, h⟩
   ·rintro (h1 | ⟨rfl, _⟩)
    ·exact .inl (.inr h1)
    ·exact .inl (.inl rfl)
  ·simp only [h, if_false]
   constructor
   ·rintro (h1 | ⟨rfl, b, hb, h2⟩)
    ·exact .inl h1
    ·exact .inr ⟨rfl, b, List.mem_cons_of_mem _ hb, h2⟩
   ·rintro (h1 | ⟨rfl, b, hb, h2⟩)
    ·exact .inl h1
    ·rcases List.mem_cons.1 hb with rfl | hb
     ·exact absurd h2 h
     ·exact .inr ⟨rfl, b, hb, h2⟩
theorem zR (E : List (β × List β)) : ∀ (S : List β), ∀ x ∈ S, x ∈ round put E S := by
 induction E with
 | nil => intro S x h; exact h
 | cons e E ih =>
  intro S x h
  exact ih _ x ((a1O hput e.1 e.2 S x).2 (.inl h))
theorem a3d (E : List (β × List β)) {T : List β} (hT : Closed E T) : ∀ (S : List β), (∀ x ∈ S, x ∈ T) → ∀ x ∈ round put E S, x ∈ T := by
 induction E with
 | nil => intro S h; exact h
 | cons e E ih =>
  intro S h
  refine ih (fun e' he' => hT e' (List.mem_cons_of_mem _ he')) _ (fun x hx => ?_)
  rcases (a1O hput e.1 e.2 S x).1 hx with h1 | ⟨rfl, a, ha, h2⟩
  ·exact h x h1
  ·exact hT e List.mem_cons_self ⟨a, ha, h a h2⟩
theorem b1Q (E : List (β × List β)) : ∀ (S : List β) (e : β × List β), e ∈ E → (∃ x ∈ e.2, x ∈ S) → e.1 ∈ round put E S := by
 induction E with
 | nil => intro S e he; simp at he
 | cons e0 E ih =>
  intro S e he h
  rcases List.mem_cons.1 he with rfl | he
  ·exact zR hput E _ _ ((a1O hput e.1 e.2 S e.1).2 (.inr ⟨rfl, h⟩))
  ·obtain ⟨x, hx, hs⟩ := h
   exact ih _ e he ⟨x, hx, (a1O hput e0.1 e0.2 S x).2 (.inl hs)⟩
theorem round_new (E : List (β × List β)) : ∀ (S : List β) (x : β), x ∈ round put E S → x ∈ S ∨ ∃ e ∈ E, e.1 = x := by
 induction E with
 | nil => intro S x h; exact .inl h
 | cons e E ih =>
  intro S x h
  rcases ih _ x h with h | ⟨e', he', rfl⟩
  ·rcases (a1O hput e.1 e.2 S x).1 h with h | ⟨rfl, _⟩
   ·exact .inl h
   ·exact .inr ⟨e, List.mem_cons_self, rfl⟩
  ·exact .inr ⟨e', List.mem_cons_of_mem _ he', rfl⟩
theorem a5u (E : List (β × List β)) (S : List β) : ∀ (n : Nat), ∀ x ∈ S, x ∈ jN put E n S
 | 0, x, h => h
 | n + 1, x, h => zR hput E _ x (a5u E S n x h)
theorem a1P (E : List (β × List β)) {S T : List β} (hT : Closed E T) (h : ∀ x ∈ S, x ∈ T) : ∀ (n : Nat), ∀ x ∈ jN put E n S, x ∈ T
 | 0, x, hx => h x hx
 | n + 1, x, hx => a3d hput E hT _ (a1P E hT h n) x hx
theorem rounds_count (E : List (β × List β)) (S : List β) : ∀ (n : Nat), Closed E (jN put E n S) ∨ kM (fun _ => 1) E (jN put E n S) + n ≤ E.length
 | 0 => .inr (by simpa [jN] using b4m E S)
 | n + 1 => by
  rcases rounds_count E S n with h | h
  ·refine .inl (fun e he hx => ?_)
   obtain ⟨x, hx, hs⟩ := hx
   have hs' := a3d hput E h _ (fun y hy => hy) x hs
   exact zR hput E _ _ (h e he ⟨x, hx, hs'⟩)
  ·by_cases hc : Closed E (jN put E (n + 1) S)
   ·exact .inl hc
   ·refine .inr ?_
    have hn : ∃ y, y ∈ round put E (jN put E n S) ∧ ¬ y ∈ jN put E n S := Classical.byContradiction fun hno => hc (fun e he hx => by
     obtain ⟨x, hx, hs⟩ := hx
     have hs' : x ∈ jN put E n S := Classical.byContradiction fun h' => hno ⟨x, hs, h'⟩
     exact b1Q hput E _ e he ⟨x, hx, hs'⟩)
    obtain ⟨y, h1, h2⟩ := hn
    have hy : ∃ e ∈ E, e.1 = y := by
     rcases round_new hput E _ y h1 with h | h
     ·exact absurd h h2
     ·exact h
    have := a2y (fun _ => 1) E (zR hput E (jN put E n S)) hy h1 h2
    simp only [jN]
    omega
omit hput in
theorem b2T {P : List β → Prop} {Nm : β → Prop} (hP : ∀ o n, P o → Nm n → P (put o n)) (name : β) (hn : Nm name) (asks : List β) : ∀ out, P out → P (askC put name out asks) := by
 induction asks with
 | nil => intro out h; exact h
 | cons a asks ih =>
  intro out h
  unfold askC at *
  rw [List.foldl_cons]
  refine ih _ ?_
  split
  ·exact hP _ _ h hn
  ·exact h
omit hput in
theorem a7f {P : List β → Prop} {Nm : β → Prop} (hP : ∀ o n, P o → Nm n → P (put o n)) (E : List (β × List β)) : (∀ e ∈ E, Nm e.1) → ∀ S, P S → P (round put E S) := by
 induction E with
 | nil => intro _ S h; exact h
 | cons e E ih => intro hn S h; exact ih (fun e he => hn e (List.mem_cons_of_mem _ he)) _ (b2T hP e.1 (hn e List.mem_cons_self) e.2 S h)
omit hput in
theorem a5v {P : List β → Prop} {Nm : β → Prop} (hP : ∀ o n, P o → Nm n → P (put o n)) (E : List (β × List β)) (hn : ∀ e ∈ E, Nm e.1) {S : List β} (h : P S) : ∀ n, P (jN put E n S)
 | 0 => h
 | n + 1 => a7f hP E hn _ (a5v hP E hn h n)
theorem a6k (E : List (β × List β)) (S : List β) : Closed E (jN put E (E.length + 1) S) := by
 rcases rounds_count hput E S (E.length + 1) with h | h
 ·exact h
 ·omega
theorem b0n (E : List (β × List β)) {S O : List β} (h1 : ∀ x ∈ S, x ∈ O) (h2 : Closed E O) (h3 : ∀ T : List β, Closed E T → (∀ x ∈ S, x ∈ T) → ∀ x ∈ O, x ∈ T) (x : β) : x ∈ O ↔ x ∈ jN put E (E.length + 1) S :=
 ⟨fun h => h3 _ (a6k hput E S) (a5u hput E S _) x h, fun h => a1P hput E h2 h1 _ x h⟩
omit hput
theorem yQ {lt : β → β → Prop} (hi : ∀ x, ¬ lt x x) (ht : ∀ x y z, lt x y → lt y z → lt x z) : ∀ {l m : List β}, l.Pairwise lt → m.Pairwise lt → (∀ x, x ∈ l ↔ x ∈ m) → l = m
 | [], [], _, _, _ => rfl
 | [], b :: m, _, _, h => by have := (h b).2 List.mem_cons_self; simp at this
 | a :: l, [], _, _, h => by have := (h a).1 List.mem_cons_self; simp at this
 | a :: l, b :: m, h1, h2, h => by
  rw [List.pairwise_cons] at h1 h2
  have hab : a = b := by
   rcases List.mem_cons.1 ((h a).1 List.mem_cons_self) with e | e
   ·exact e
   ·rcases List.mem_cons.1 ((h b).2 List.mem_cons_self) with e' | e'
    ·exact e'.symm
    ·exact absurd (ht _ _ _ (h1.1 b e') (h2.1 a e)) (hi a)
  subst hab
  congr 1
  refine yQ hi ht h1.2 h2.2 (fun x => ⟨fun hx => ?_, fun hx => ?_⟩)
  ·rcases List.mem_cons.1 ((h x).1 (List.mem_cons_of_mem _ hx)) with e | e
   ·subst e; exact absurd (h1.1 x hx) (hi x)
   ·exact e
  ·rcases List.mem_cons.1 ((h x).2 (List.mem_cons_of_mem _ hx)) with e | e
   ·subst e; exact absurd (h2.1 x hx) (hi x)
   ·exact e
end
end Go.Sx.Clos
namespace Go.Proofs.YteaaopodnbjpoaaGreat
open Go Go.Sx Go.RowKit Go.Proofs
theorem b8N {x y : ByteArray} (h : bl x = bl y) : x = y := by rw [← b0b x, ← b0b y, h]
def ltS (x y : ByteArray) : Prop := bl x < bl y
theorem pW (x y : ByteArray) : gQ x y = true ↔ ltS x y := by
 unfold gQ ltS bl
 rw [Go.Proofs.bytesLess_eq, decide_eq_true_eq, ByteArray.toList_eq, ByteArray.toList_eq]
theorem a5w (x : ByteArray) : ¬ ltS x x := List.lt_irrefl (bl x)
theorem uN (x y z : ByteArray) (h : ltS x y) (k : ltS y z) : ltS x z := List.lt_trans h k
theorem b6d {x y : List UInt8} (h : x ≤ y) (k : x ≠ y) : x < y := Classical.byContradiction fun hn => k (List.le_antisymm h (List.not_lt.1 hn))
theorem b2U {x y : ByteArray} (h : ¬ ltS x y) (k : x ≠ y) : ltS y x := b6d (List.not_lt.1 h) fun e => k (b8N e).symm
theorem b4n (y s : ByteArray) (l : List ByteArray) : putS (y :: l) s = if gQ y s then y :: putS l s else if y = s then y :: l else s :: y :: l := by
 unfold putS
 cases h : gQ y s with
 | true =>
  have hg : geS s y = false := by simp [geS, h]
  simp only [bW, hg, Bool.false_eq_true, if_false, List.drop_succ_cons, if_true]
  split
  ·rfl
  ·simp [eU]
 | false =>
  have hg : geS s y = true := by simp [geS, h]
  simp only [bW, hg, if_true, List.drop_zero, List.head?_cons, Bool.false_eq_true, if_false, Option.some.injEq]
  split
  ·rfl
  ·simp [eU]
theorem rY (s : ByteArray) : ∀ {l : List ByteArray}, l.Pairwise ltS → (putS l s).Pairwise ltS
 | [], _ => by simp [putS, bW, eU]
 | y :: l, h => by
  rw [b4n]
  rw [List.pairwise_cons] at h
  split
  ·rename_i hlt
   rw [List.pairwise_cons]
   refine ⟨fun x hx => ?_, rY s h.2⟩
   rcases (uK l s x).1 hx with rfl | hx
   ·exact (pW _ _).1 hlt
   ·exact h.1 x hx
  ·rename_i hlt
   split
   ·exact List.pairwise_cons.2 h
   ·rename_i hne
    have hs : ltS s y := b2U (fun hh => hlt ((pW _ _).2 hh)) hne
    refine List.pairwise_cons.2 ⟨fun x hx => ?_, List.pairwise_cons.2 h⟩
    rcases List.mem_cons.1 hx with rfl | hx
    ·exact hs
    ·exact uN _ _ _ hs (h.1 x hx)
theorem a8n (l : List ByteArray) : ∀ {a : List ByteArray}, a.Pairwise ltS → (l.foldl putS a).Pairwise ltS := by
 induction l with
 | nil => intro a h; exact h
 | cons y l ih => intro a h; exact ih (rY y h)
theorem b0o (l : List ByteArray) : (putL l).Pairwise ltS := a8n l List.Pairwise.nil
theorem a0g (d : Array (List UInt8)) (hs : ∀ i j, i < j → j < d.size → d[i]! ≤ d[j]!) : ∀ m, m ≤ d.size → (Lib.compactUpTo d m).Pairwise (fun x y => x < y) ∧ ∀ x ∈ Lib.compactUpTo d m, 0 < m ∧ x ≤ d[m - 1]!
 | 0, _ => by simp [Lib.compactUpTo]
 | m + 1, hm => by
  obtain ⟨h1, h2⟩ := a0g d hs m (by omega)
  rw [Lib.compactUpTo_succ]
  have hup : ∀ x ∈ Lib.compactUpTo d m, x ≤ d[m]! := fun x hx => by
   obtain ⟨h0, h3⟩ := h2 x hx
   exact List.le_trans h3 (hs (m - 1) m (by omega) (by omega))
  refine ⟨?_, fun x hx => ⟨by omega, ?_⟩⟩
  ·cases hk : Lib.keeps d m with
   | false => simpa using h1
   | true =>
    rw [List.pairwise_append]
    refine ⟨h1, by simp, fun x hx y hy => ?_⟩
    simp only [if_true, List.mem_singleton] at hy
    subst hy
    obtain ⟨h0, h3⟩ := h2 x hx
    have hne : d[m]! ≠ d[m - 1]! := fun e => by rw [Lib.keeps_neg h0 e] at hk; cases hk
    have hle := hs (m - 1) m (by omega) (by omega)
    refine b6d (hup x hx) fun e => hne ?_
    rw [e] at h3
    exact List.le_antisymm h3 hle
  ·rcases List.mem_append.1 hx with h | h
   ·exact hup x h
   ·split at h
    ·simp only [List.mem_singleton] at h; subst h; exact List.le_refl _
    ·simp at h
theorem a8o (l : List ByteArray) : (eH l).Pairwise ltS := by
 have e : (uL l).map bl = pF (l.map bl) := by
  unfold uL
  rw [List.map_map]
  have : (bl ∘ lb) = id := by funext x; exact b5P x
  rw [this, List.map_id]
 unfold eH a7a
 rw [e, List.pairwise_map]
 have hs : (pF (l.map bl)).Pairwise (fun a b => decide (a ≤ b) = true) := by
  refine List.pairwise_mergeSort (le := fun x y : List UInt8 => decide (x ≤ y)) (fun a b c h k => decide_eq_true (List.le_trans (of_decide_eq_true h) (of_decide_eq_true k))) (fun a b => ?_) (l.map bl)
  by_cases h : a ≤ b
  ·simp [h]
  ·have : b ≤ a := List.le_of_lt (List.not_le.1 h)
   simp [this]
 have h := (a0g (pF (l.map bl)).toArray (fun i j hij hj => by
  have hj' : j < (pF (l.map bl)).length := by simpa using hj
  have hi' : i < (pF (l.map bl)).length := by omega
  have := List.pairwise_iff_getElem.1 hs i j hi' hj' hij
  simpa [getElem!_pos, hi', hj'] using of_decide_eq_true this) (pF (l.map bl)).length (by simp)).1
 exact h.imp (fun {x y} h => by show bl (lb x) < bl (lb y); exact h)
end Go.Proofs.YteaaopodnbjpoaaGreat
end
section
set_option maxRecDepth 100000
set_option maxHeartbeats 4000000
namespace Go.Proofs.YteaaopodnbjpoaaGreat
open Go Go.Sx Go.RowKit Go.Proofs
def isA (n : TNode) : Bool := decide (2 ≤ n.fOp) && decide (n.fOp ≤ 4)
def qA (q : List TNode) : List ByteArray := (q.filter isA).map TNode.fName
theorem a5x (q : List TNode) : (qA q).length ≤ q.length := by simp only [qA, List.length_map]; exact List.length_filter_le _ _
theorem b2V (q : List TNode) (k : Nat) (h : k < q.length) : qA (q.take (k + 1)) = qA (q.take k) ++ (if isA q[k] then [q[k].fName] else []) := by
 simp only [qA, List.take_succ_eq_append_getElem h, List.filter_append, List.map_append, List.filter_cons, List.filter_nil]
 cases isA q[k] <;> rfl
theorem b4o (q : List TNode) (hl : q.length ≤ 4300000) : FnC Tryz.prog 268 [.o (.d (.sl (q.map aT)))] (.o (.w 9 1 ((putL (qA q)).map dD))) := by
 refine ent Tryz.func268 rfl Tryz.call268 rfl (fun C => ?_); simp only [go_sem, st0, Tryz.ntmps268]
 refine aD ?_
 refine wL 3 0 rfl rfl ?_
 simp only [go_sem]
 refine aM (α := Nat) (fun k => [(3, .o (.d (.sl ((putL (qA (q.take k))).map dD)))), (4, oi k), (5, .o .u)]) (fun _ => []) (fun k => k ≤ q.length) (fun k => q.length - k) 0 (fun _ => ?_) ?_ ?_ (fun k hk => ?_)
 ·simp only [go_sem]
 ·simp only [go_sem]; simp [qA, putL]
 ·simp
 ·simp only [go_sem]
  refine aD ?_
  have hlen : (putL (qA (q.take k))).length ≤ 4300000 := by have h1 := iZ (qA (q.take k)); have h2 := a5x (q.take k); simp at h2; omega
  refine cnd rfl (fun h1 => ?_) (fun h1 => ?_)
  ·simp only [decide_eq_true_eq, Int.ofNat_lt] at h1
   have ht := b2V q k h1
   have q0 := @h1; refine eZ (show FnC Tryz.prog _ _ (ob (isA q[k])) from bS q[k].fOp 2 4) ?_
   refine cnd rfl (fun hv => ?_) (fun hv => ?_)
   ·rw [hv] at ht
    simp only [if_true] at ht
    have q0 := @h1; refine eZ (pO (putL (qA (q.take k))) q[k].fName hlen) ?_
    refine aC (k + 1) ?_ ?_ ?_
    ·simp only [go_sem, ht, yN]; simp
    ·omega
    ·omega
   ·rw [hv] at ht
    simp only [Bool.false_eq_true, if_false, List.append_nil] at ht
    have q0 := @h1; refine fD ?_
    refine aC (k + 1) ?_ ?_ ?_
    ·simp only [go_sem, ht]; simp
    ·omega
    ·omega
  ·simp only [decide_eq_false_iff_not] at h1
   have e : k = q.length := by omega
   subst e
   rw [List.take_length] at *
   refine aD ?_
   exact aA ⟨⟨_, rfl, by simp only [go_sem, List.take_length]⟩, trivial⟩
theorem b4p (q : List TNode) (hl : q.length ≤ 4300000) : FnC Tryz.prog 277 [.o (.d (.sl (q.map aT)))] (.o (.w 9 1 ((eH (qA q)).map dD))) := by
 refine ent Tryz.func277 rfl Tryz.call277 rfl (fun C => ?_); simp only [go_sem, st0, Tryz.ntmps277]
 refine aD ?_
 refine aM (α := Nat) (fun k => [(3, .o (.s 0)), (6, .o .u), (9, oi k)]) (fun k => [(0, .row 9 1 ((qA (q.take k)).map dD) true)]) (fun k => k ≤ q.length) (fun k => q.length - k) 0 (fun _ => ?_) ?_ ?_ (fun k hk => ?_)
 ·simp only [go_sem]
 ·simp only [go_sem]; simp [qA]
 ·simp
 ·simp only [go_sem]
  refine aD ?_
  have hlen : (qA (q.take k)).length ≤ 4300000 := by have h2 := a5x (q.take k); simp at h2; omega
  refine cnd rfl (fun h1 => ?_) (fun h1 => ?_)
  ·simp only [decide_eq_true_eq, Int.ofNat_lt] at h1
   have ht := b2V q k h1
   have hl1 : (qA (q.take k)).length + 1 ≤ 140737488355328 := by omega
   have hl2 : ((qA (q.take k)).length + 1) * 16 ≤ 140737488355328 := by omega
   by_cases c2 : q[k].fOp = 2
   ·rw [if_pos (by simp [isA, c2])] at ht
    have q0 := @h1; have q1 := @c2; have q2 := @decide_true; refine lT ?_
    refine aC (k + 1) ?_ ?_ ?_
    ·simp only [go_sem, ht, List.map_append]; simp
    ·omega
    ·omega
   by_cases c3 : q[k].fOp = 3
   ·rw [if_pos (by simp [isA, c3])] at ht
    have q0 := @h1; have q1 := @c2; have q2 := @c3; have q3 := @decide_true; have q4 := @decide_false; refine a1b ?_
    refine aC (k + 1) ?_ ?_ ?_
    ·simp only [go_sem, ht, List.map_append]; simp
    ·omega
    ·omega
   by_cases c4 : q[k].fOp = 4
   ·rw [if_pos (by simp [isA, c4])] at ht
    have q0 := @h1; have q1 := @c2; have q2 := @c3; have q3 := @c4; have q4 := @decide_true; have q5 := @decide_false; refine b5f ?_
    refine aC (k + 1) ?_ ?_ ?_
    ·simp only [go_sem, ht, List.map_append]; simp
    ·omega
    ·omega
   ·rw [if_neg (by simp only [isA, Bool.and_eq_true, decide_eq_true_eq]; omega), List.append_nil] at ht
    have q0 := @h1; have q1 := @c2; have q2 := @c3; have q3 := @c4; have q4 := @decide_true; have q5 := @decide_false; refine b5f ?_
    refine aC (k + 1) ?_ ?_ ?_
    ·simp only [go_sem, ht]; simp
    ·omega
    ·omega
  ·simp only [decide_eq_false_iff_not] at h1
   have e : k = q.length := by omega
   subst e
   rw [List.take_length] at *
   refine fK (lI (qA q) hlen) ?_
   exact aA ⟨⟨_, rfl, by simp only [go_sem, List.take_length]⟩, trivial⟩
def rA (q : List TNode) : Bool := q.any fun n => decide (n.fOp = 9)
theorem b1R (q : List TNode) (k : Nat) (h : k < q.length) : rA (q.drop k) = (decide (q[k].fOp = 9) || rA (q.drop (k + 1))) := by rw [List.drop_eq_getElem_cons h]; rfl
theorem a0h (q : List TNode) (hl : q.length ≤ 4300000) : FnC Tryz.prog 267 [.o (.d (.sl (q.map aT)))] (ob (rA q)) := by
 refine ent Tryz.func267 rfl Tryz.call267 rfl (fun C => ?_); simp only [go_sem, st0, Tryz.ntmps267]
 refine aD ?_
 refine aM (α := Nat) (fun k => [(3, oi k)]) (fun k => []) (fun k => k ≤ q.length ∧ rA (q.drop k) = rA q) (fun k => q.length - k) 0 (fun _ => ?_) ?_ ?_ (fun k hk => ?_)
 ·simp only [go_sem]
 ·simp only [go_sem]; try simp
 ·simp
 ·simp only [go_sem]
  obtain ⟨hk, hg⟩ := hk
  refine aD ?_
  refine cnd rfl (fun h1 => ?_) (fun h1 => ?_)
  ·simp only [decide_eq_true_eq, Int.ofNat_lt] at h1
   have hd := b1R q k h1
   rw [hg] at hd
   by_cases hv : q[k].fOp = 9
   ·have hd' : rA q = true := by rw [hd, hv]; simp
    have q0 := @h1; have q1 := @hv; have q2 := @decide_true; refine lT ?_
    exact aA ⟨⟨_, rfl, by simp only [go_sem, hd']⟩, trivial⟩
   ·have q0 := @h1; have q1 := @hv; have q2 := @decide_false; refine lT ?_
    refine aC (k + 1) ?_ ?_ ?_
    ·simp only [go_sem]; try simp
    ·exact ⟨by omega, by rw [hd]; simp [hv]⟩
    ·omega
  ·simp only [decide_eq_false_iff_not] at h1
   have e : k = q.length := by omega
   subst e
   have hn : rA q = false := by rw [← hg, List.drop_length]; rfl
   refine aD ?_
   exact aA ⟨⟨_, rfl, by simp only [go_sem, hn]⟩, trivial⟩
theorem b7y (attrs : List ByteArray) (s : ByteArray) (hl : attrs.length ≤ 4300000) : FnC Tryz.prog 279 [os s, .o (.q [.sl (attrs.map dD)])] (ob (hasS attrs s)) := by
 refine ent Tryz.func279 rfl Tryz.call279 rfl (fun C => ?_); simp only [go_sem, st0, Tryz.ntmps279]
 refine fK (eT attrs s hl) ?_
 exact aA ⟨⟨_, rfl, by simp only [go_sem]⟩, trivial⟩
theorem b7z (n : TNode) : FnC Tryz.prog 281 [wY n] (ob (decide (n.fOp = 9))) := by
 refine ent Tryz.func281 rfl Tryz.call281 rfl (fun C => ?_); simp only [go_sem, st0, Tryz.ntmps281]
 refine aD ?_
 exact aA ⟨⟨_, rfl, by simp only [go_sem]⟩, trivial⟩
theorem a1Q (f : Nat) (p : TNode → Bool) (l : List TNode) (hf : ∀ s ∈ l, FnC Tryz.prog f [wY s] (ob (p s))) (hl : l.length ≤ 8388608) : FnC Tryz.prog 308 [.o (.d (.sl (l.map aT))), .o (.f f [])] (oi (dI p l 0)) := by
 refine ent Tryz.func308 rfl Tryz.call308 rfl (fun C => ?_); simp only [go_sem, st0, Tryz.ntmps308]
 refine aD ?_
 refine aM (α := Nat) (fun k => [(8, oi k)]) (fun _ => []) (fun k => k ≤ l.length ∧ dI p l 0 = dI p (l.drop k) k) (fun k => l.length - k) 0 (fun _ => ?_) ?_ ?_ (fun k hk => ?_)
 ·simp only [go_sem]
 ·simp only [go_sem]; simp
 ·simp
 ·obtain ⟨hk, hq⟩ := hk
  simp only [go_sem]
  refine aD ?_
  refine cnd rfl (fun h => ?_) (fun h => ?_)
  ·simp only [decide_eq_true_eq, Int.ofNat_lt] at h
   have hd := List.drop_eq_getElem_cons h
   rw [hd, dI] at hq
   have q0 := @h; refine eZ (hf l[k] (List.getElem_mem h)) ?_
   refine cnd rfl (fun h2 => ?_) (fun h2 => ?_)
   ·refine aD ?_
    exact aA ⟨⟨_, rfl, by simp only [go_sem, hq, h2]⟩, trivial⟩
   ·refine aD ?_
    refine aC (k + 1) ?_ ?_ ?_
    ·simp only [go_sem]; simp
    ·rw [hq, h2]; exact ⟨h, by simp⟩
    ·omega
  ·simp only [decide_eq_false_iff_not] at h
   have e : k = l.length := by omega
   subst e
   simp only [List.drop_length, dI] at hq
   refine aD ?_
   exact aA ⟨⟨_, rfl, by simp only [go_sem, hq]⟩, trivial⟩
theorem yR (f : Nat) (p : TNode → Bool) (l : List TNode) (hf : ∀ s ∈ l, FnC Tryz.prog f [wY s] (ob (p s))) (hl : l.length ≤ 8388608) : FnC Tryz.prog 280 [.o (.d (.sl (l.map aT))), .o (.f f [])] (ob (l.any p)) := by
 refine ent Tryz.func280 rfl Tryz.call280 rfl (fun C => ?_); simp only [go_sem, st0, Tryz.ntmps280]
 refine fK (a1Q f p l hf hl) ?_
 exact aA ⟨⟨_, rfl, by simp only [go_sem, yF]⟩, trivial⟩
theorem a2z (f : Nat) (c : List D) (p : ByteArray → Bool) (l : List ByteArray) (hf : ∀ s ∈ l, FnC Tryz.prog f [os s, .o (.q c)] (ob (p s))) (hl : l.length ≤ 4300000) : FnC Tryz.prog 278 [.o (.d (.sl (l.map dD))), .o (.f f [c])] (ob (l.any p)) := by
 refine ent Tryz.func278 rfl Tryz.call278 rfl (fun C => ?_); simp only [go_sem, st0, Tryz.ntmps278]
 refine fK (a6d f c p l hf hl) ?_
 exact aA ⟨⟨_, rfl, by simp only [go_sem, yF]⟩, trivial⟩
theorem wP (q : List TNode) (hl : q.length ≤ 4300000) : FnC Tryz.prog 277 [.o (.d (.sl (q.map aT)))] (.o (.d (.sl ((eH (qA q)).map dD)))) := (b4p q hl).pu (by simp only [go_sem, and_self])
theorem a5y (q : List TNode) (hl : q.length ≤ 4300000) : FnC Tryz.prog 268 [.o (.d (.sl (q.map aT)))] (.o (.d (.sl ((putL (qA q)).map dD)))) := (b4o q hl).pu (by simp only [go_sem, and_self])
theorem a3x (a b : TFile) (h : wFile a + wFile b ≤ 4300000) : FnC Tryz.prog 276 [bC a, bC b] (.o (.d (.sl ((eH (chg a b)).map dD)))) := (a5l a b h).pu (by simp only [go_sem, and_self])
theorem a3y (a b : TFile) (h : wFile a + wFile b ≤ 4300000) : FnC Tryz.prog 266 [bC a, bC b] (.o (.d (.sl ((putL (chg a b)).map dD)))) := (a5m a b h).pu (by simp only [go_sem, and_self])
def b4q (ch qa : List ByteArray) : Bool := qa.any (hasS ch)
theorem b6e (ch qa : List ByteArray) : (eH ch).any (hasS (eH qa)) = b4q ch qa := by
 rw [Bool.eq_iff_iff]
 simp only [b4q, List.any_eq_true, kK, nP]
 constructor <;> rintro ⟨x, h1, h2⟩ <;> exact ⟨x, h2, h1⟩
theorem b0p (ch qa : List ByteArray) : (putL qa).any (hasS (putL ch)) = b4q ch qa := by
 rw [Bool.eq_iff_iff]
 simp only [b4q, List.any_eq_true, kK, oQ]
def affB (a b : TFile) (d : TDir) : Bool := b4q (chg a b) (qA d.fQuery) || (rA d.fQuery && !decide (a.fLink = b.fLink))
def sU (a b : TFile) (l : List TDir) : List ByteArray := (l.filter (affB a b)).map TDir.fName
def a1R (a b : TFile) (l : List TDir) : List ByteArray := if a.fID = b.fID then sU a b l else dirNs l
theorem a5z (a b : TFile) (l : List TDir) : (sU a b l).length ≤ l.length := by simp only [sU, List.length_map]; exact List.length_filter_le _ _
theorem a2A (a b : TFile) (l : List TDir) (k : Nat) (h : k < l.length) : sU a b (l.take (k + 1)) = sU a b (l.take k) ++ (if affB a b l[k] then [l[k].fName] else []) := by
 simp only [sU, List.take_succ_eq_append_getElem h, List.filter_append, List.map_append, List.filter_cons, List.filter_nil]
 cases affB a b l[k] <;> rfl
theorem b0q (l : List TDir) (k : Nat) (h : k < l.length) : l[k].fQuery.length ≤ aY l := by
 have h1 := bB wDir l h
 have h2 : l[k].fQuery.length ≤ wDir l[k] := by unfold wDir bK; omega
 unfold aY
 omega
theorem b2W (a b : TFile) (h : wFile a + wFile b ≤ 4300000) : (chg a b).length ≤ 4300000 := by
 have h1 := a8c a b (attrNs a.fAttrs ++ attrNs b.fAttrs)
 rw [List.length_append, iN, iN] at h1
 unfold wFile aV at h
 unfold chg; omega
theorem a6l (l : List TDir) (a b : TFile) (h : aY l + (wFile a + wFile b) ≤ 4300000) : FnC Tryz.prog 231 [.o (.d (.sl (l.map aS))), bC a, bC b] (.o (.w 9 1 ((a1R a b l).map dD))) := by
 have hl : l.length ≤ 4300000 := by unfold aY at h; omega
 have hch := b2W a b (by omega)
 refine ent Tryz.func231 rfl Tryz.call231 rfl (fun C => ?_); simp only [go_sem, st0, Tryz.ntmps231]
 by_cases hid : a.fID = b.fID
 case neg =>
  have hid' : decide (a.fID = b.fID) = false := by simp [hid]
  have q0 := @hid'; refine eZ (yG l hl) ?_
  exact aA ⟨⟨_, rfl, by simp only [go_sem, a1R, hid, if_false]⟩, trivial⟩
 have hid' : decide (a.fID = b.fID) = true := by simp [hid]
 have q0 := @hid'; refine eZ (a3x a b (by omega)) ?_
 refine aM (α := Nat) (fun k => [(8, .o (.s 2)), (24, .o .u), (27, oi k)]) (fun k => [(2, .row 9 1 ((sU a b (l.take k)).map dD) true)]) (fun k => k ≤ l.length) (fun k => l.length - k) 0 (fun _ => ?_) ?_ ?_ (fun k hk => ?_)
 ·simp only [go_sem]
 ·simp only [go_sem]; simp [sU]
 ·simp
 ·simp only [go_sem]
  refine aD ?_
  have hlen : (sU a b (l.take k)).length ≤ 4300000 := by have h2 := a5z a b (l.take k); simp at h2; omega
  refine cnd rfl (fun h1 => ?_) (fun h1 => ?_)
  ·simp only [decide_eq_true_eq, Int.ofNat_lt] at h1
   have ht := a2A a b l k h1
   have hq := b0q l k h1
   have hqa := uJ (qA l[k].fQuery)
   have hqb := a5x l[k].fQuery
   have hl1 : (sU a b (l.take k)).length + 1 ≤ 140737488355328 := by omega
   have hl2 : ((sU a b (l.take k)).length + 1) * 16 ≤ 140737488355328 := by omega
   have hc := a2z 279 [.sl ((eH (qA l[k].fQuery)).map dD)] (hasS (eH (qA l[k].fQuery))) (eH (chg a b)) (fun s _ => b7y _ s (by omega)) (by have := uJ (chg a b); omega)
   rw [b6e] at hc
   have hn := yR 281 (fun n => decide (n.fOp = 9)) l[k].fQuery (fun n _ => b7z n) (by omega)
   have hn : FnC Tryz.prog _ _ (ob (rA l[k].fQuery)) := hn
   cases hh : b4q (chg a b) (qA l[k].fQuery)
   case true =>
    rw [if_pos (by simp [affB, hh])] at ht
    have q0 := @h1; have q1 := @hh; refine b9m (wP l[k].fQuery (by omega)) hc hn ?_
    refine aC (k + 1) ?_ ?_ ?_
    ·simp only [go_sem, ht, List.map_append]; simp
    ·omega
    ·omega
   cases hL : rA l[k].fQuery
   case false =>
    rw [if_neg (by simp [affB, hh, hL]), List.append_nil] at ht
    have q0 := @h1; have q1 := @hh; have q2 := @hL; refine b8s (wP l[k].fQuery (by omega)) hc hn ?_
    refine aC (k + 1) ?_ ?_ ?_
    ·simp only [go_sem, ht]; simp
    ·omega
    ·omega
   by_cases hk2 : a.fLink = b.fLink
   ·rw [if_neg (by simp [affB, hh, hL, hk2]), List.append_nil] at ht
    have hk' : decide (a.fLink = b.fLink) = true := by simp [hk2]
    have q0 := @h1; have q1 := @hh; have q2 := @hL; have q3 := @hk'; refine b9o (wP l[k].fQuery (by omega)) hc hn ?_
    refine aC (k + 1) ?_ ?_ ?_
    ·simp only [go_sem, ht]; simp
    ·omega
    ·omega
   ·rw [if_pos (by simp [affB, hh, hL, hk2])] at ht
    have hk' : decide (a.fLink = b.fLink) = false := by simp [hk2]
    have q0 := @h1; have q1 := @hh; have q2 := @hL; have q3 := @hk'; refine b9o (wP l[k].fQuery (by omega)) hc hn ?_
    refine aC (k + 1) ?_ ?_ ?_
    ·simp only [go_sem, ht, List.map_append]; simp
    ·omega
    ·omega
  ·simp only [decide_eq_false_iff_not] at h1
   have e : k = l.length := by omega
   subst e
   rw [List.take_length] at *
   refine aD ?_
   exact aA ⟨⟨_, rfl, by simp only [go_sem, List.take_length, a1R, hid, if_true]⟩, trivial⟩
theorem a6m (l : List TDir) (a b : TFile) (h : aY l + (wFile a + wFile b) ≤ 4300000) : FnC Tryz.prog 219 [.o (.d (.sl (l.map aS))), bC a, bC b] (.o (.w 9 1 ((a1R a b l).map dD))) := by
 have hl : l.length ≤ 4300000 := by unfold aY at h; omega
 have hch := b2W a b (by omega)
 have hpl : (putL (chg a b)).length ≤ 4300000 := by have := iZ (chg a b); omega
 refine ent Tryz.func219 rfl Tryz.call219 rfl (fun C => ?_); simp only [go_sem, st0, Tryz.ntmps219]
 by_cases hid : a.fID = b.fID
 case neg =>
  have hid' : decide (a.fID = b.fID) = false := by simp [hid]
  have q0 := @hid'; refine eZ (a3w l hl) ?_
  exact aA ⟨⟨_, rfl, by simp only [go_sem, a1R, hid, if_false]⟩, trivial⟩
 have hid' : decide (a.fID = b.fID) = true := by simp [hid]
 have q0 := @hid'; refine eZ (a3y a b (by omega)) ?_
 by_cases hk2 : a.fLink = b.fLink
 ·have hk' : decide (a.fLink = b.fLink) = true := by simp [hk2]
  refine aM (α := Nat) (fun k => [(7, .o (.s 2)), (9, oi k), (20, .o .u)]) (fun k => [(2, .row 9 1 ((sU a b (l.take k)).map dD) true)]) (fun k => k ≤ l.length) (fun k => l.length - k) 0 (fun _ => ?_) ?_ ?_ (fun k hk => ?_)
  ·simp only [go_sem]
  ·simp only [go_sem]; simp [sU]
  ·simp
  ·simp only [go_sem]
   refine aD ?_
   have hlen : (sU a b (l.take k)).length ≤ 4300000 := by have h2 := a5z a b (l.take k); simp at h2; omega
   refine cnd rfl (fun h1 => ?_) (fun h1 => ?_)
   ·simp only [decide_eq_true_eq, Int.ofNat_lt] at h1
    have ht := a2A a b l k h1
    have hq := b0q l k h1
    have hqa := iZ (qA l[k].fQuery)
    have hqb := a5x l[k].fQuery
    have hl1 : (sU a b (l.take k)).length + 1 ≤ 140737488355328 := by omega
    have hl2 : ((sU a b (l.take k)).length + 1) * 16 ≤ 140737488355328 := by omega
    have hhit : affB a b l[k] = ((putL (qA l[k].fQuery)).any (hasS (putL (chg a b)))) := by rw [b0p]; simp [affB, hk2, Bool.or_comm]
    have hQl : (putL (qA l[k].fQuery)).length ≤ 4300000 := by omega
    have q0 := @h1; have q1 := @hk'; refine sI (a0h l[k].fQuery (by omega)) (a5y l[k].fQuery (by omega)) ?_
    generalize putL (qA l[k].fQuery) = Q at *
    refine aM (α := Nat) (fun n => [(10, ob ((Q.take n).any (hasS (putL (chg a b))))), (12, oi n)]) (fun n => []) (fun n => n ≤ Q.length) (fun n => Q.length - n) 0 (fun _ => ?_) ?_ ?_ (fun n hn => ?_)
    ·simp only [go_sem]
    ·simp only [go_sem]; simp
    ·simp
    ·simp only [go_sem]
     refine aD ?_
     refine cnd rfl (fun h2 => ?_) (fun h2 => ?_)
     ·simp only [decide_eq_true_eq, Int.ofNat_lt] at h2
      have hv : ((Q.take (n + 1)).any (hasS (putL (chg a b)))) = (((Q.take n).any (hasS (putL (chg a b)))) || hasS (putL (chg a b)) Q[n]) := by rw [List.take_succ_eq_append_getElem h2, List.any_append]; simp [Bool.or_assoc]
      generalize ((Q.take n).any (hasS (putL (chg a b)))) = v at *
      cases v
      ·have q0 := @h2; refine eZ (gY (putL (chg a b)) Q[n] hpl) ?_
       refine aC (n + 1) ?_ ?_ ?_
       ·simp only [go_sem, hv]; simp
       ·omega
       ·omega
      ·have q0 := @h2; refine eZ (gY (putL (chg a b)) Q[n] hpl) ?_
       refine aC (n + 1) ?_ ?_ ?_
       ·simp only [go_sem, hv]; simp
       ·omega
       ·omega
     ·simp only [decide_eq_false_iff_not] at h2
      have e : n = Q.length := by omega
      subst e
      rw [List.take_length, ← hhit]
      refine aD ?_
      refine cnd (b := affB a b l[k]) rfl (fun hv => ?_) (fun hv => ?_)
      ·rw [if_pos hv] at ht
       have q0 := @h1; refine fD ?_
       refine aC (k + 1) ?_ ?_ ?_
       ·simp only [go_sem, ht, List.map_append]; simp
       ·omega
       ·omega
      ·rw [if_neg (by simp [hv]), List.append_nil] at ht
       have q0 := @h1; refine fD ?_
       refine aC (k + 1) ?_ ?_ ?_
       ·simp only [go_sem, ht]; simp
       ·omega
       ·omega
   ·simp only [decide_eq_false_iff_not] at h1
    have e : k = l.length := by omega
    subst e
    rw [List.take_length] at *
    refine aD ?_
    exact aA ⟨⟨_, rfl, by simp only [go_sem, List.take_length, a1R, hid, if_true]⟩, trivial⟩
 ·have hk' : decide (a.fLink = b.fLink) = false := by simp [hk2]
  refine aM (α := Nat) (fun k => [(7, .o (.s 2)), (9, oi k), (20, .o .u)]) (fun k => [(2, .row 9 1 ((sU a b (l.take k)).map dD) true)]) (fun k => k ≤ l.length) (fun k => l.length - k) 0 (fun _ => ?_) ?_ ?_ (fun k hk => ?_)
  ·simp only [go_sem]
  ·simp only [go_sem]; simp [sU]
  ·simp
  ·simp only [go_sem]
   refine aD ?_
   have hlen : (sU a b (l.take k)).length ≤ 4300000 := by have h2 := a5z a b (l.take k); simp at h2; omega
   refine cnd rfl (fun h1 => ?_) (fun h1 => ?_)
   ·simp only [decide_eq_true_eq, Int.ofNat_lt] at h1
    have ht := a2A a b l k h1
    have hq := b0q l k h1
    have hqa := iZ (qA l[k].fQuery)
    have hqb := a5x l[k].fQuery
    have hl1 : (sU a b (l.take k)).length + 1 ≤ 140737488355328 := by omega
    have hl2 : ((sU a b (l.take k)).length + 1) * 16 ≤ 140737488355328 := by omega
    have hhit : affB a b l[k] = (rA l[k].fQuery || (putL (qA l[k].fQuery)).any (hasS (putL (chg a b)))) := by rw [b0p]; simp [affB, hk2, Bool.or_comm]
    have hQl : (putL (qA l[k].fQuery)).length ≤ 4300000 := by omega
    have q0 := @h1; have q1 := @hk'; refine sI (a0h l[k].fQuery (by omega)) (a5y l[k].fQuery (by omega)) ?_
    generalize putL (qA l[k].fQuery) = Q at *
    refine aM (α := Nat) (fun n => [(10, ob (rA l[k].fQuery || (Q.take n).any (hasS (putL (chg a b))))), (12, oi n)]) (fun n => []) (fun n => n ≤ Q.length) (fun n => Q.length - n) 0 (fun _ => ?_) ?_ ?_ (fun n hn => ?_)
    ·simp only [go_sem]
    ·simp only [go_sem]; simp
    ·simp
    ·simp only [go_sem]
     refine aD ?_
     refine cnd rfl (fun h2 => ?_) (fun h2 => ?_)
     ·simp only [decide_eq_true_eq, Int.ofNat_lt] at h2
      have hv : (rA l[k].fQuery || (Q.take (n + 1)).any (hasS (putL (chg a b)))) = ((rA l[k].fQuery || (Q.take n).any (hasS (putL (chg a b)))) || hasS (putL (chg a b)) Q[n]) := by rw [List.take_succ_eq_append_getElem h2, List.any_append]; simp [Bool.or_assoc]
      generalize (rA l[k].fQuery || (Q.take n).any (hasS (putL (chg a b)))) = v at *
      cases v
      ·have q0 := @h2; refine eZ (gY (putL (chg a b)) Q[n] hpl) ?_
       refine aC (n + 1) ?_ ?_ ?_
       ·simp only [go_sem, hv]; simp
       ·omega
       ·omega
      ·have q0 := @h2; refine eZ (gY (putL (chg a b)) Q[n] hpl) ?_
       refine aC (n + 1) ?_ ?_ ?_
       ·simp only [go_sem, hv]; simp
       ·omega
       ·omega
     ·simp only [decide_eq_false_iff_not] at h2
      have e : n = Q.length := by omega
      subst e
      rw [List.take_length, ← hhit]
      refine aD ?_
      refine cnd (b := affB a b l[k]) rfl (fun hv => ?_) (fun hv => ?_)
      ·rw [if_pos hv] at ht
       have q0 := @h1; refine fD ?_
       refine aC (k + 1) ?_ ?_ ?_
       ·simp only [go_sem, ht, List.map_append]; simp
       ·omega
       ·omega
      ·rw [if_neg (by simp [hv]), List.append_nil] at ht
       have q0 := @h1; refine fD ?_
       refine aC (k + 1) ?_ ?_ ?_
       ·simp only [go_sem, ht]; simp
       ·omega
       ·omega
   ·simp only [decide_eq_false_iff_not] at h1
    have e : k = l.length := by omega
    subst e
    rw [List.take_length] at *
    refine aD ?_
    exact aA ⟨⟨_, rfl, by simp only [go_sem, List.take_length, a1R, hid, if_true]⟩, trivial⟩
theorem a5A (l : List TDir) (a b : TFile) (h : aY l + (wFile a + wFile b) ≤ 4300000) : FnC Tryz.prog 231 [.o (.d (.sl (l.map aS))), bC a, bC b] (.o (.d (.sl ((a1R a b l).map dD)))) := (a6l l a b h).pu (by simp only [go_sem, and_self])
theorem a5B (l : List TDir) (a b : TFile) (h : aY l + (wFile a + wFile b) ≤ 4300000) : FnC Tryz.prog 219 [.o (.d (.sl (l.map aS))), bC a, bC b] (.o (.d (.sl ((a1R a b l).map dD)))) := (a6m l a b h).pu (by simp only [go_sem, and_self])
end Go.Proofs.YteaaopodnbjpoaaGreat
end
section
set_option maxRecDepth 100000
set_option maxHeartbeats 4000000
namespace Go.Proofs.YteaaopodnbjpoaaGreat
open Go Go.Sx Go.RowKit Go.Proofs Go.Sx.Clos
def isD (n : TNode) : Bool := decide (8 ≤ n.fOp) && decide (n.fOp ≤ 9)
def qD (q : List TNode) : List ByteArray := (q.filter isD).map TNode.fName
theorem a8k (q : List TNode) : (qD q).length ≤ q.length := by simp only [qD, List.length_map]; exact List.length_filter_le _ _
theorem b2R (q : List TNode) (k : Nat) (h : k < q.length) : qD (q.take (k + 1)) = qD (q.take k) ++ (if isD q[k] then [q[k].fName] else []) := by
 simp only [qD, List.take_succ_eq_append_getElem h, List.filter_append, List.map_append, List.filter_cons, List.filter_nil]
 cases isD q[k] <;> rfl
def eD (l : List TDir) : List (ByteArray × List ByteArray) := l.map fun d => (d.fName, putL (qD d.fQuery))
theorem b8L (l : List TDir) : (eD l).length = l.length := by simp [eD]
def wS (s : ByteArray) : Nat := 1 + s.size
def pot (l : List TDir) (o : List ByteArray) : Nat := wsm wS o + kM wS (eD l) o
def nmD (l : List TDir) (y : ByteArray) : Prop := ∃ e ∈ eD l, e.1 = y
theorem b1O (l : List TDir) (d : TDir) (h : d ∈ l) : nmD l d.fName := ⟨_, List.mem_map.2 ⟨d, h, rfl⟩, rfl⟩
theorem a8l (a b : List ByteArray) : wsm wS (a ++ b) = wsm wS a + wsm wS b := by
 induction a with
 | nil => simp [wsm]
 | cons x a ih => simp only [List.cons_append, wsm, ih]; omega
theorem b5Z (l : List ByteArray) : wsm wS l = tV l := by
 unfold tV
 induction l with
 | nil => simp [wsm, wsum]
 | cons x l ih => simp only [wsm, wsum, wS, List.length_cons, ih]; omega
theorem b7v (l : List ByteArray) : l.length ≤ wsm wS l := by rw [b5Z]; unfold tV; omega
theorem a1N (l : List TDir) (o : List ByteArray) : o.length ≤ pot l o := by have := b7v o; unfold pot; omega
theorem b0k (o : List ByteArray) (s : ByteArray) : wsm wS (putS o s) ≤ wsm wS o + wS s := by
 unfold putS
 split
 ·omega
 ·unfold eU
  have h := congrArg (wsm wS) (List.take_append_drop (bW (geS s) o) o)
  rw [a8l] at h
  rw [a8l]
  simp only [wsm]
  omega
theorem b6a (o : List ByteArray) (s : ByteArray) (h : o.Pairwise ltS) (hs : s ∈ o) : putS o s = o :=
 yQ a5w uN (rY s h) h fun x => by
  rw [uK]
  constructor
  ·rintro (rfl | h)
   ·exact hs
   ·exact h
  ·exact .inr
def okS (l : List TDir) (B : Nat) (o : List ByteArray) : Prop := o.Pairwise ltS ∧ pot l o ≤ B
theorem a8m {l : List TDir} {B : Nat} (o : List ByteArray) (s : ByteArray) (h : okS l B o) (hs : nmD l s) : okS l B (putS o s) := by
 refine ⟨rY s h.1, Nat.le_trans ?_ h.2⟩
 by_cases hm : s ∈ o
 ·rw [b6a o s h.1 hm]; exact Nat.le_refl _
 ·have h1 := b0k o s
  have h2 := a2y wS (eD l) (S := o) (T := putS o s) (fun x hx => (uK o s x).2 (.inr hx)) hs ((uK o s s).2 (.inl rfl)) hm
  unfold pot; omega
theorem b4j (l : List ByteArray) : ∀ a : List ByteArray, wsm wS (l.foldl putS a) ≤ wsm wS a + wsm wS l := by
 induction l with
 | nil => intro a; simp [wsm]
 | cons y l ih =>
  intro a
  have h1 := ih (putS a y)
  have h2 := b0k a y
  simp only [List.foldl_cons, wsm]; omega
theorem b6b (l : List TDir) (names : List ByteArray) : okS l (pot l names) (putL names) := by
 refine ⟨b0o names, ?_⟩
 have h1 := b4j names []
 have h2 := a3c wS (eD l) (S := names) (T := putL names) (fun x hx => (oQ names x).2 hx)
 simp only [wsm] at h1
 unfold pot putL at *
 omega
def rX (l : List TDir) (names : List ByteArray) (n : Nat) : List ByteArray := jN putS (eD l) n (putL names)
def tdS (l : List TDir) (names : List ByteArray) : List ByteArray := rX l names (l.length + 1)
theorem a0D (l : List TDir) (names : List ByteArray) (n : Nat) : okS l (pot l names) (rX l names n) :=
 a5v (Nm := nmD l) (fun o s h hs => a8m o s h hs) (eD l) (fun e he => ⟨e, he, rfl⟩) (b6b l names) n
theorem b4k (l : List TDir) (B i : Nat) (S : List ByteArray) (h : okS l B S) : okS l B (round putS (eD (l.take i)) S) :=
 a7f (Nm := nmD l) (fun o s h hs => a8m o s h hs) (eD (l.take i)) (fun e he => by
  obtain ⟨d, hd, rfl⟩ := List.mem_map.1 he
  exact b1O l d (List.mem_of_mem_take hd)) S h
theorem b7w (l : List TDir) (B : Nat) (d : TDir) (hd : d ∈ l) (az S : List ByteArray) (h : okS l B S) : okS l B (askC putS d.fName S az) :=
 b2T (Nm := nmD l) (fun o s h hs => a8m o s h hs) d.fName (b1O l d hd) az S h
theorem b2S {l : List TDir} {B : Nat} {o : List ByteArray} (h : okS l B o) : o.length ≤ B := Nat.le_trans (a1N l o) h.2
theorem b1P (l : List TDir) (S : List ByteArray) (i : Nat) (h : i < l.length) : round putS (eD (l.take (i + 1))) S = askC putS l[i].fName (round putS (eD (l.take i)) S) (putL (qD l[i].fQuery)) := by
 simp only [round, eD, List.take_succ_eq_append_getElem h, List.map_append, List.map_cons, List.map_nil, List.foldl_append, List.foldl_cons, List.foldl_nil]
theorem b8M (n : ByteArray) (S Q : List ByteArray) (k : Nat) (h : k < Q.length) (hm : Q[k] ∈ askC putS n S (Q.take k)) : askC putS n S (Q.take (k + 1)) = putS (askC putS n S (Q.take k)) n := by
 unfold askC at *
 rw [List.take_succ_eq_append_getElem h, List.foldl_append, List.foldl_cons, List.foldl_nil, if_pos hm]
theorem b7x (n : ByteArray) (S Q : List ByteArray) (k : Nat) (h : k < Q.length) (hm : ¬ Q[k] ∈ askC putS n S (Q.take k)) : askC putS n S (Q.take (k + 1)) = askC putS n S (Q.take k) := by
 unfold askC at *
 rw [List.take_succ_eq_append_getElem h, List.foldl_append, List.foldl_cons, List.foldl_nil, if_neg hm]
def wO (l : List TDir) (s : ByteArray) : List ByteArray := (l.filter fun d => hasS (qD d.fQuery) s).map TDir.fName
theorem b0l (l : List TDir) (s y : ByteArray) : y ∈ wO l s ↔ ∃ d ∈ l, s ∈ qD d.fQuery ∧ d.fName = y := by
 unfold wO
 rw [List.mem_map]
 constructor
 ·rintro ⟨d, hd, rfl⟩
  rw [List.mem_filter] at hd
  exact ⟨d, hd.1, (kK _ _).1 hd.2, rfl⟩
 ·rintro ⟨d, hd, hs, rfl⟩
  exact ⟨d, List.mem_filter.2 ⟨hd, (kK _ _).2 hs⟩, rfl⟩
theorem b0m (l : List TDir) (s : ByteArray) : (wO l s).length ≤ l.length := by simp only [wO, List.length_map]; exact List.length_filter_le _ _
theorem b4l (l : List TDir) (s : ByteArray) (k : Nat) (h : k < l.length) : wO (l.take (k + 1)) s = wO (l.take k) s ++ (if hasS (qD l[k].fQuery) s then [l[k].fName] else []) := by
 simp only [wO, List.take_succ_eq_append_getElem h, List.filter_append, List.map_append, List.filter_cons, List.filter_nil]
 cases hasS (qD l[k].fQuery) s <;> rfl
structure Good (l : List TDir) (names o : List ByteArray) : Prop where
 ext : ∀ x ∈ names, x ∈ o
 least : ∀ T, Closed (eD l) T → (∀ x ∈ names, x ∈ T) → ∀ x ∈ o, x ∈ T
 le : pot l o ≤ pot l names
theorem Good.start (l : List TDir) (names : List ByteArray) : Good l names names := ⟨fun _ h => h, fun _ _ h => h, Nat.le_refl _⟩
theorem Good.add {l : List TDir} {names o : List ByteArray} (g : Good l names o) {x y : ByteArray} (hx : x ∈ o) (hy : y ∈ wO l x) (hn : ¬ y ∈ o) : Good l names (o ++ [y]) := by
 obtain ⟨d, hd, hq, rfl⟩ := (b0l l x y).1 hy
 refine ⟨fun z hz => List.mem_append_left _ (g.ext z hz), fun T hT h z hz => ?_, ?_⟩
 ·rcases List.mem_append.1 hz with h1 | h1
  ·exact g.least T hT h z h1
  ·simp only [List.mem_singleton] at h1
   subst h1
   exact hT _ (List.mem_map.2 ⟨d, hd, rfl⟩) ⟨x, (oQ _ _).2 hq, g.least T hT h x hx⟩
 ·have h1 := a2y wS (eD l) (S := o) (T := o ++ [d.fName]) (fun z hz => List.mem_append_left _ hz) (b1O l d hd) (by simp) hn
  have h2 := g.le
  have h3 := a8l o [d.fName]
  simp only [wsm] at h3
  unfold pot at *
  omega
theorem Good.done {l : List TDir} {names o : List ByteArray} (g : Good l names o) (hc : ∀ x ∈ o, ∀ y ∈ wO l x, y ∈ o) : eH o = tdS l names := by
 refine yQ a5w uN (a8o o) (a0D l names (l.length + 1)).1 fun x => ?_
 rw [nP]
 have h := b0n (put := putS) uK (eD l) (S := putL names) (O := o) (fun x hx => g.ext x ((oQ _ _).1 hx)) (fun e he hx => by
  obtain ⟨d, hd, rfl⟩ := List.mem_map.1 he
  obtain ⟨x, hx, ho⟩ := hx
  exact hc x ho _ ((b0l l x _).2 ⟨d, hd, (oQ _ _).1 hx, rfl⟩)) (fun T hT hs => g.least T hT fun x hx => hs x ((oQ _ _).2 hx)) x
 rw [b8L] at h
 exact h
theorem b4g (q : List TNode) (hl : q.length ≤ 4300000) : FnC Tryz.prog 222 [.o (.d (.sl (q.map aT)))] (.o (.w 9 1 ((putL (qD q)).map dD))) := by
 refine ent Tryz.func222 rfl Tryz.call222 rfl (fun C => ?_); simp only [go_sem, st0, Tryz.ntmps222]
 refine aD ?_
 refine wL 3 0 rfl rfl ?_
 simp only [go_sem]
 refine aM (α := Nat) (fun k => [(3, .o (.d (.sl ((putL (qD (q.take k))).map dD)))), (4, oi k), (5, .o .u)]) (fun _ => []) (fun k => k ≤ q.length) (fun k => q.length - k) 0 (fun _ => ?_) ?_ ?_ (fun k hk => ?_)
 ·simp only [go_sem]
 ·simp only [go_sem]; simp [qD, putL]
 ·simp
 ·simp only [go_sem]
  refine aD ?_
  have hlen : (putL (qD (q.take k))).length ≤ 4300000 := by have h1 := iZ (qD (q.take k)); have h2 := a8k (q.take k); simp at h2; omega
  refine cnd rfl (fun h1 => ?_) (fun h1 => ?_)
  ·simp only [decide_eq_true_eq, Int.ofNat_lt] at h1
   have ht := b2R q k h1
   have q0 := @h1; refine eZ (show FnC Tryz.prog _ _ (ob (isD q[k])) from bS q[k].fOp 8 9) ?_
   refine cnd rfl (fun hv => ?_) (fun hv => ?_)
   ·rw [hv] at ht
    simp only [if_true] at ht
    have q0 := @h1; refine eZ (pO (putL (qD (q.take k))) q[k].fName hlen) ?_
    refine aC (k + 1) ?_ ?_ ?_
    ·simp only [go_sem, ht, yN]; simp
    ·omega
    ·omega
   ·rw [hv] at ht
    simp only [Bool.false_eq_true, if_false, List.append_nil] at ht
    have q0 := @h1; refine fD ?_
    refine aC (k + 1) ?_ ?_ ?_
    ·simp only [go_sem, ht]; simp
    ·omega
    ·omega
  ·simp only [decide_eq_false_iff_not] at h1
   have e : k = q.length := by omega
   subst e
   rw [List.take_length] at *
   refine aD ?_
   exact aA ⟨⟨_, rfl, by simp only [go_sem, List.take_length]⟩, trivial⟩
theorem b0i (n : TNode) : FnC Tryz.prog 284 [wY n] (ob (isD n)) := by
 refine ent Tryz.func284 rfl Tryz.call284 rfl (fun C => ?_); simp only [go_sem, st0, Tryz.ntmps284]
 by_cases c8 : n.fOp = 8
 ·have hd : isD n = true := by simp [isD, c8]
  have q0 := @c8; have q1 := @decide_true; refine fI ?_
  exact aA ⟨⟨_, rfl, by simp only [go_sem, hd]⟩, trivial⟩
 by_cases c9 : n.fOp = 9
 ·have hd : isD n = true := by simp [isD, c9]
  have q0 := @c8; have q1 := @c9; have q2 := @decide_true; have q3 := @decide_false; refine kC ?_
  exact aA ⟨⟨_, rfl, by simp only [go_sem, hd]⟩, trivial⟩
 ·have hd : isD n = false := by
   rw [← Bool.not_eq_true]
   simp only [isD, Bool.and_eq_true, decide_eq_true_eq]; omega
  have q0 := @c8; have q1 := @c9; have q2 := @decide_true; have q3 := @decide_false; refine kC ?_
  exact aA ⟨⟨_, rfl, by simp only [go_sem, hd]⟩, trivial⟩
theorem b4h (q : List TNode) (hl : q.length ≤ 4300000) : FnC Tryz.prog 238 [.o (.d (.sl (q.map aT)))] (.o (.w 9 1 ((eH (qD q)).map dD))) := by
 refine ent Tryz.func238 rfl Tryz.call238 rfl (fun C => ?_); simp only [go_sem, st0, Tryz.ntmps238]
 refine aD ?_
 refine aM (α := Nat) (fun k => [(3, .o (.s 0)), (6, .o .u), (9, oi k)]) (fun k => [(0, .row 9 1 ((qD (q.take k)).map dD) true)]) (fun k => k ≤ q.length) (fun k => q.length - k) 0 (fun _ => ?_) ?_ ?_ (fun k hk => ?_)
 ·simp only [go_sem]
 ·simp only [go_sem]; simp [qD]
 ·simp
 ·simp only [go_sem]
  refine aD ?_
  have hlen : (qD (q.take k)).length ≤ 4300000 := by have h2 := a8k (q.take k); simp at h2; omega
  refine cnd rfl (fun h1 => ?_) (fun h1 => ?_)
  ·simp only [decide_eq_true_eq, Int.ofNat_lt] at h1
   have ht := b2R q k h1
   have hl1 : (qD (q.take k)).length + 1 ≤ 140737488355328 := by omega
   have hl2 : ((qD (q.take k)).length + 1) * 16 ≤ 140737488355328 := by omega
   have q0 := @h1; refine eZ (b0i q[k]) ?_
   refine cnd (b := isD q[k]) rfl (fun hv => ?_) (fun hv => ?_)
   ·rw [if_pos hv] at ht
    have q0 := @h1; refine fD ?_
    refine aC (k + 1) ?_ ?_ ?_
    ·simp only [go_sem, ht, List.map_append]; simp
    ·omega
    ·omega
   ·rw [if_neg (by simp [hv]), List.append_nil] at ht
    have q0 := @h1; refine fD ?_
    refine aC (k + 1) ?_ ?_ ?_
    ·simp only [go_sem, ht]; simp
    ·omega
    ·omega
  ·simp only [decide_eq_false_iff_not] at h1
   have e : k = q.length := by omega
   subst e
   rw [List.take_length] at *
   refine fK (lI (qD q) hlen) ?_
   exact aA ⟨⟨_, rfl, by simp only [go_sem, List.take_length]⟩, trivial⟩
theorem b1L (q : List TNode) (hl : q.length ≤ 4300000) : FnC Tryz.prog 238 [.o (.d (.sl (q.map aT)))] (.o (.d (.sl ((eH (qD q)).map dD)))) := (b4h q hl).pu (by simp only [go_sem, and_self])
theorem b1M (q : List TNode) (hl : q.length ≤ 4300000) : FnC Tryz.prog 222 [.o (.d (.sl (q.map aT)))] (.o (.d (.sl ((putL (qD q)).map dD)))) := (b4g q hl).pu (by simp only [go_sem, and_self])
theorem b4i (l : List ByteArray) (s : ByteArray) : hasS (eH l) s = hasS l s := by rw [Bool.eq_iff_iff, kK, kK, nP]
theorem b1N (l : List TDir) (s : ByteArray) (h : aY l ≤ 4300000) : FnC Tryz.prog 189 [.o (.d (.sl (l.map aS))), os s] (.o (.w 9 1 ((wO l s).map dD))) := by
 have hl : l.length ≤ 4300000 := by unfold aY at h; omega
 refine ent Tryz.func189 rfl Tryz.call189 rfl (fun C => ?_); simp only [go_sem, st0, Tryz.ntmps189]
 refine aD ?_
 refine aM (α := Nat) (fun k => [(5, .o (.s 0)), (8, .o .u), (11, oi k)]) (fun k => [(0, .row 9 1 ((wO (l.take k) s).map dD) true)]) (fun k => k ≤ l.length) (fun k => l.length - k) 0 (fun _ => ?_) ?_ ?_ (fun k hk => ?_)
 ·simp only [go_sem]
 ·simp only [go_sem]; simp [wO]
 ·simp
 ·simp only [go_sem]
  refine aD ?_
  have hlen : (wO (l.take k) s).length ≤ 4300000 := by have h2 := b0m (l.take k) s; simp at h2; omega
  refine cnd rfl (fun h1 => ?_) (fun h1 => ?_)
  ·simp only [decide_eq_true_eq, Int.ofNat_lt] at h1
   have ht := b4l l s k h1
   have hq := b0q l k h1
   have hqa := uJ (qD l[k].fQuery)
   have hqb := a8k l[k].fQuery
   have hl1 : (wO (l.take k) s).length + 1 ≤ 140737488355328 := by omega
   have hl2 : ((wO (l.take k) s).length + 1) * 16 ≤ 140737488355328 := by omega
   have hc := eT (eH (qD l[k].fQuery)) s (by omega)
   rw [b4i] at hc
   have q0 := @h1; refine a4n (b1L l[k].fQuery (by omega)) hc ?_
   refine cnd (b := hasS (qD l[k].fQuery) s) rfl (fun hv => ?_) (fun hv => ?_)
   ·rw [if_pos hv] at ht
    have q0 := @h1; refine fD ?_
    refine aC (k + 1) ?_ ?_ ?_
    ·simp only [go_sem, ht, List.map_append]; simp
    ·omega
    ·omega
   ·rw [if_neg (by simp [hv]), List.append_nil] at ht
    have q0 := @h1; refine fD ?_
    refine aC (k + 1) ?_ ?_ ?_
    ·simp only [go_sem, ht]; simp
    ·omega
    ·omega
  ·simp only [decide_eq_false_iff_not] at h1
   have e : k = l.length := by omega
   subst e
   rw [List.take_length] at *
   refine aD ?_
   exact aA ⟨⟨_, rfl, by simp only [go_sem, List.take_length]⟩, trivial⟩
theorem b0j (l : List TDir) (s : ByteArray) (h : aY l ≤ 4300000) : FnC Tryz.prog 189 [.o (.d (.sl (l.map aS))), os s] (.o (.d (.sl ((wO l s).map dD)))) := (b1N l s h).pu (by simp only [go_sem, and_self])
theorem b4e (l : List TDir) (names : List ByteArray) (h : aY l ≤ 4300000) (hB : pot l names ≤ 4300000) : FnC Tryz.prog 111 [.o (.d (.sl (l.map aS))), .o (.d (.sl (names.map dD)))] (.o (.w 9 1 ((tdS l names).map dD))) := by
 have hl : l.length ≤ 4300000 := by unfold aY at h; omega
 have hnl : names.length ≤ 4300000 := Nat.le_trans (a1N l names) hB
 refine ent Tryz.func111 rfl Tryz.call111 rfl (fun C => ?_); simp only [go_sem, st0, Tryz.ntmps111]
 refine fK (a2N names hnl) ?_
 refine aM (α := Nat × List ByteArray) (fun x => [(5, .o (.s 0)), (6, oi x.1), (10, .o .u)]) (fun x => [(0, .row 9 1 (x.2.map dD) true)]) (fun x => x.1 ≤ x.2.length ∧ Good l names x.2 ∧ ∀ z ∈ x.2.take x.1, ∀ y ∈ wO l z, y ∈ x.2) (fun x => 4300001 - x.1) (0, names) (fun _ => ?_) ?_ ?_ (fun x hx => ?_)
 ·simp only [go_sem]
 ·simp only [go_sem]; simp
 ·exact ⟨Nat.zero_le _, Good.start l names, by simp⟩
 ·obtain ⟨i, o⟩ := x
  obtain ⟨hi, hg, hp⟩ := hx
  simp only at hi hg hp
  have hol : o.length ≤ 4300000 := Nat.le_trans (a1N l o) (Nat.le_trans hg.le hB)
  simp only [go_sem]
  refine aD ?_
  refine cnd rfl (fun h1 => ?_) (fun h1 => ?_)
  ·simp only [decide_eq_true_eq, Int.ofNat_lt] at h1
   have hoi : o[i] ∈ o.take (i + 1) := by rw [List.take_succ_eq_append_getElem h1]; exact List.mem_append_right _ List.mem_cons_self
   have hLl := b0m l o[i]
   have q0 := @h1; refine eZ (b0j l o[i] h) ?_
   generalize hL : wO l o[i] = L at *
   refine aM (α := Nat × List ByteArray) (fun y => [(5, .o (.s 0)), (12, .o .u), (18, .o .u), (20, .o .u), (24, oi y.1)]) (fun y => [(0, .row 9 1 (y.2.map dD) true)]) (fun y => y.1 ≤ L.length ∧ Good l names y.2 ∧ y.2.take (i + 1) = o.take (i + 1) ∧ i < y.2.length ∧ (∀ z ∈ L.take y.1, z ∈ y.2) ∧ ∀ z ∈ o.take i, ∀ y' ∈ wO l z, y' ∈ y.2) (fun y => L.length - y.1) (0, o) (fun _ => ?_) ?_ ?_ (fun y hy => ?_)
   ·simp only [go_sem]
   ·simp only [go_sem]; simp
   ·exact ⟨Nat.zero_le _, hg, rfl, h1, by simp, hp⟩
   ·obtain ⟨k, q⟩ := y
    obtain ⟨hk, hgq, htk, hiq, hdn, hpq⟩ := hy
    simp only at hk hgq htk hiq hdn hpq
    have hql : q.length ≤ 4300000 := Nat.le_trans (a1N l q) (Nat.le_trans hgq.le hB)
    simp only [go_sem]
    refine aD ?_
    refine cnd rfl (fun h2 => ?_) (fun h2 => ?_)
    ·simp only [decide_eq_true_eq, Int.ofNat_lt] at h2
     have hqi : o[i] ∈ q := by rw [← htk] at hoi; exact List.mem_of_mem_take hoi
     have hll1 : q.length + 1 ≤ 140737488355328 := by omega
     have hll2 : (q.length + 1) * 16 ≤ 140737488355328 := by omega
     have qH := @h2; repeat' (with_reducible first | refine nY ?_ | (refine mX ?_; try simp only [go_sem, qH]) | refine kD ?_ | refine rD ?_ | refine vL (eT q L[k] hql) ?_ | refine aO ?_ | fail)
     refine cnd (b := !hasS q L[k]) rfl (fun hv => ?_) (fun hv => ?_)
     ·have hm : ¬ L[k] ∈ q := fun hm => by rw [(kK q L[k]).2 hm] at hv; cases hv
      have q0 := @h2; refine fD ?_
      refine aC (k + 1, q ++ [L[k]]) ?_ ?_ ?_
      ·simp only [go_sem, List.map_append]; simp
      ·refine ⟨h2, hgq.add hqi (by rw [hL]; exact List.getElem_mem h2) hm, ?_, by simp; omega, fun z hz => ?_, fun z hz y' hy' => List.mem_append_left _ (hpq z hz y' hy')⟩
       ·rw [List.take_append_of_le_length (by omega)]; exact htk
       ·rw [List.take_succ_eq_append_getElem h2] at hz
        rcases List.mem_append.1 hz with hz | hz
        ·exact List.mem_append_left _ (hdn z hz)
        ·exact List.mem_append_right _ hz
      ·simp only; omega
     ·have hm : L[k] ∈ q := (kK q L[k]).1 (by simpa using hv)
      have q0 := @h2; refine fD ?_
      refine aC (k + 1, q) ?_ ?_ ?_
      ·simp only [go_sem]; simp
      ·refine ⟨h2, hgq, htk, hiq, fun z hz => ?_, hpq⟩
       rw [List.take_succ_eq_append_getElem h2] at hz
       rcases List.mem_append.1 hz with hz | hz
       ·exact hdn z hz
       ·simp only [List.mem_singleton] at hz; subst hz; exact hm
      ·simp only; omega
    ·simp only [decide_eq_false_iff_not] at h2
     have e : k = L.length := by omega
     subst e
     rw [List.take_length] at hdn
     refine aD ?_
     refine aC (i + 1, q) ?_ ?_ ?_
     ·simp only [go_sem]; simp
     ·refine ⟨hiq, hgq, fun z hz y' hy' => ?_⟩
      simp only at hz
      rw [htk, List.take_succ_eq_append_getElem h1] at hz
      rcases List.mem_append.1 hz with hz | hz
      ·exact hpq z hz y' hy'
      ·simp only [List.mem_singleton] at hz; subst hz; rw [hL] at hy'; exact hdn y' hy'
     ·simp only; omega
  ·simp only [decide_eq_false_iff_not] at h1
   have e : i = o.length := by omega
   subst e
   rw [List.take_length] at hp
   have hd := hg.done hp
   refine fK (lI o hol) ?_
   exact aA ⟨⟨_, rfl, by simp only [go_sem, hd]⟩, trivial⟩
theorem b4f (l : List TDir) (names : List ByteArray) (h : aY l ≤ 4300000) (hB : pot l names ≤ 4300000) : FnC Tryz.prog 161 [.o (.d (.sl (l.map aS))), .o (.d (.sl (names.map dD)))] (.o (.w 9 1 ((tdS l names).map dD))) := by
 have hl : l.length ≤ 4300000 := by unfold aY at h; omega
 have hnl : names.length ≤ 4300000 := Nat.le_trans (a1N l names) hB
 refine ent Tryz.func161 rfl Tryz.call161 rfl (fun C => ?_); simp only [go_sem, st0, Tryz.ntmps161]
 refine aD ?_
 refine wL 5 0 rfl rfl ?_
 simp only [go_sem]
 refine aM (α := Nat) (fun k => [(5, .o (.d (.sl ((putL (names.take k)).map dD)))), (6, oi k)]) (fun _ => []) (fun k => k ≤ names.length) (fun k => names.length - k) 0 (fun _ => ?_) ?_ ?_ (fun k hk => ?_)
 ·simp only [go_sem]
 ·simp only [go_sem]; simp [putL]
 ·simp
 ·simp only [go_sem]
  refine aD ?_
  have hlen : (putL (names.take k)).length ≤ 4300000 := by have h1 := iZ (names.take k); simp at h1; omega
  refine cnd rfl (fun h1 => ?_) (fun h1 => ?_)
  ·simp only [decide_eq_true_eq, Int.ofNat_lt] at h1
   have ht := yN (names.take k) names[k]
   rw [← List.take_succ_eq_append_getElem h1] at ht
   have q0 := @h1; refine eZ (pO (putL (names.take k)) names[k] hlen) ?_
   refine aC (k + 1) ?_ ?_ ?_
   ·simp only [go_sem, ht]; simp
   ·omega
   ·omega
  ·simp only [decide_eq_false_iff_not] at h1
   have e : k = names.length := by omega
   subst e
   rw [List.take_length] at *
   refine aD ?_
   refine aM (α := Nat) (fun r => [(5, .o (.d (.sl ((rX l names r).map dD)))), (7, oi r)]) (fun _ => []) (fun r => r ≤ l.length + 1) (fun r => l.length + 1 - r) 0 (fun _ => ?_) ?_ ?_ (fun r hr => ?_)
   ·simp only [go_sem]
   ·simp only [go_sem]; simp [rX, jN]
   ·simp
   ·simp only [go_sem]
    refine aD ?_
    have hokR := a0D l names r
    have hRl := Nat.le_trans (b2S hokR) hB
    refine cnd rfl (fun h2 => ?_) (fun h2 => ?_)
    ·simp only [decide_eq_true_eq, Int.ofNat_le] at h2
     refine aD ?_
     refine aM (α := Nat) (fun i => [(5, .o (.d (.sl ((round putS (eD (l.take i)) (rX l names r)).map dD)))), (8, oi i)]) (fun _ => []) (fun i => i ≤ l.length) (fun i => l.length - i) 0 (fun _ => ?_) ?_ ?_ (fun i hi => ?_)
     ·simp only [go_sem]
     ·simp only [go_sem]; simp [round, eD]
     ·simp
     ·simp only [go_sem]
      refine aD ?_
      have hokI := b4k l (pot l names) i _ hokR
      refine cnd rfl (fun h3 => ?_) (fun h3 => ?_)
      ·simp only [decide_eq_true_eq, Int.ofNat_lt] at h3
       have ht := b1P l (rX l names r) i h3
       have hq := b0q l i h3
       have hqb := a8k l[i].fQuery
       have hqc := iZ (qD l[i].fQuery)
       generalize round putS (eD (l.take i)) (rX l names r) = O at *
       have q0 := @h3; refine eZ (b1M l[i].fQuery (by omega)) ?_
       generalize putL (qD l[i].fQuery) = Q at *
       refine aM (α := Nat) (fun k => [(5, .o (.d (.sl ((askC putS l[i].fName O (Q.take k)).map dD)))), (10, oi k)]) (fun _ => []) (fun k => k ≤ Q.length) (fun k => Q.length - k) 0 (fun _ => ?_) ?_ ?_ (fun k hk => ?_)
       ·simp only [go_sem]
       ·simp only [go_sem]; simp [askC]
       ·simp
       ·simp only [go_sem]
        refine aD ?_
        have hokA := b7w l (pot l names) l[i] (List.getElem_mem h3) (Q.take k) O hokI
        have hAl := Nat.le_trans (b2S hokA) hB
        refine cnd rfl (fun h4 => ?_) (fun h4 => ?_)
        ·simp only [decide_eq_true_eq, Int.ofNat_lt] at h4
         have hin := b8M l[i].fName O Q k h4
         have hout := b7x l[i].fName O Q k h4
         generalize askC putS l[i].fName O (Q.take k) = A at *
         have q0 := @h3; have q1 := @h4; refine jZ (gY A Q[k] hAl) ?_
         refine cnd (b := hasS A Q[k]) rfl (fun hv => ?_) (fun hv => ?_)
         ·have hin := hin ((kK A Q[k]).1 hv)
          have q0 := @h3; have q1 := @h4; refine jZ (pO A l[i].fName hAl) ?_
          refine aC (k + 1) ?_ ?_ ?_
          ·simp only [go_sem, hin]; simp
          ·omega
          ·omega
         ·have hout := hout (fun hm => by rw [(kK A Q[k]).2 hm] at hv; cases hv)
          have q0 := @h3; have q1 := @h4; refine fI ?_
          refine aC (k + 1) ?_ ?_ ?_
          ·simp only [go_sem, hout]; simp
          ·omega
          ·omega
        ·simp only [decide_eq_false_iff_not] at h4
         have e : k = Q.length := by omega
         subst e
         rw [List.take_length] at *
         refine aD ?_
         refine aC (i + 1) ?_ ?_ ?_
         ·simp only [go_sem, ht]; simp
         ·omega
         ·omega
      ·simp only [decide_eq_false_iff_not] at h3
       have e : i = l.length := by omega
       subst e
       rw [List.take_length] at *
       refine aD ?_
       refine aC (r + 1) ?_ ?_ ?_
       ·simp only [go_sem]; simp [rX, jN]
       ·omega
       ·omega
    ·simp only [decide_eq_false_iff_not] at h2
     have e : r = l.length + 1 := by omega
     subst e
     refine aD ?_
     exact aA ⟨⟨_, rfl, by simp only [go_sem, tdS]⟩, trivial⟩
theorem b1I (l : List TDir) (p : TDir → Bool) (S : List ByteArray) (hS : ∀ d ∈ l, p d = true → d.fName ∈ S) : wsm wS ((l.filter p).map TDir.fName) + kM wS (eD l) S ≤ aY l := by
 unfold aY
 induction l with
 | nil => simp [wsm, eD, kM, wsum]
 | cons d l ih =>
  have ih := ih fun d' hd' => hS d' (List.mem_cons_of_mem _ hd')
  have e : wDir d = d.fName.size + bK d.fQuery := rfl
  have ee : wS d.fName = 1 + d.fName.size := rfl
  simp only [eD, List.map_cons, kM, List.filter_cons, List.length_cons, wsum] at ih ⊢
  cases hp : p d with
  | true =>
   have hm := hS d List.mem_cons_self hp
   simp only [hm, if_true, List.map_cons, wsm]; omega
  | false =>
   simp only [Bool.false_eq_true, if_false]
   split <;> omega
theorem a5t (a b : TFile) (l : List TDir) : pot l (a1R a b l) ≤ aY l := by
 have hgen : ∀ p : TDir → Bool, pot l ((l.filter p).map TDir.fName) ≤ aY l := fun p => b1I l p _ fun d hd hp => List.mem_map.2 ⟨d, List.mem_filter.2 ⟨hd, hp⟩, rfl⟩
 unfold a1R
 split
 ·exact hgen _
 ·have := hgen (fun _ => true)
  rw [List.filter_eq_self.2 (by simp)] at this
  exact this
theorem b9E (l : List TDir) (names : List ByteArray) : tV (tdS l names) ≤ pot l names := by
 have h := (a0D l names (l.length + 1)).2
 unfold tdS
 rw [← b5Z]
 unfold pot at *
 omega
def a8j (a b : TFile) (l : List TDir) : List ByteArray := tdS l (a1R a b l)
theorem b8K (a b : TFile) (l : List TDir) : tV (a8j a b l) ≤ aY l := Nat.le_trans (b9E l _) (a5t a b l)
theorem b1J (l : List TDir) (a b : TFile) (h : aY l + (wFile a + wFile b) ≤ 4300000) : FnC Tryz.prog 180 [.o (.d (.sl (l.map aS))), bC a, bC b] (.o (.w 9 1 ((a8j a b l).map dD))) := by
 have hp := a5t a b l
 refine ent Tryz.func180 rfl Tryz.call180 rfl (fun C => ?_); simp only [go_sem, st0, Tryz.ntmps180]
 refine a7J (a5A l a b h) (b4e l (a1R a b l) (by omega) (by omega)) ?_
 exact aA ⟨⟨_, rfl, by simp only [go_sem, a8j]⟩, trivial⟩
theorem b1K (l : List TDir) (a b : TFile) (h : aY l + (wFile a + wFile b) ≤ 4300000) : FnC Tryz.prog 157 [.o (.d (.sl (l.map aS))), bC a, bC b] (.o (.w 9 1 ((a8j a b l).map dD))) := by
 have hp := a5t a b l
 refine ent Tryz.func157 rfl Tryz.call157 rfl (fun C => ?_); simp only [go_sem, st0, Tryz.ntmps157]
 refine a7J (a5B l a b h) (b4f l (a1R a b l) (by omega) (by omega)) ?_
 exact aA ⟨⟨_, rfl, by simp only [go_sem, a8j]⟩, trivial⟩
end Go.Proofs.YteaaopodnbjpoaaGreat
end
