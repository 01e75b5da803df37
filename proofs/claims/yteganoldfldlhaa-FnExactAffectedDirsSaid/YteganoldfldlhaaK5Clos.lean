/-
  Closure under named steps, reckoned in two ways; sorted lists.
-/
import Derived.Test.YteganoldfldlhaaK2Once
import Derived.Sort.Walk0
set_option linter.all false
namespace Go.Sx.Clos
section
variable {β : Type} [DecidableEq β]
def Closed (E : List (β × List β)) (S : List β) : Prop := ∀ e ∈ E, (∃ x ∈ e.2, x ∈ S) → e.1 ∈ S
def wsm (w : β → Nat) : List β → Nat
  | [] => 0
  | x :: l => w x + wsm w l
def unseen (w : β → Nat) : List (β × List β) → List β → Nat
  | [], _ => 0
  | e :: E, S => (if e.1 ∈ S then 0 else w e.1) + unseen w E S
theorem unseen_mono (w : β → Nat) (E : List (β × List β)) {S T : List β} (h : ∀ x ∈ S, x ∈ T) : unseen w E T ≤ unseen w E S := by
  induction E with
  | nil => simp [unseen]
  | cons e E ih =>
    simp only [unseen]
    by_cases h1 : e.1 ∈ S
    · have h2 := h _ h1; simp [h1, h2]; exact ih
    · by_cases h2 : e.1 ∈ T
      · simp [h1, h2]; omega
      · simp [h1, h2]; exact ih
theorem unseen_lt (w : β → Nat) (E : List (β × List β)) {S T : List β} (h : ∀ x ∈ S, x ∈ T) {y : β} (hy : ∃ e ∈ E, e.1 = y) (h1 : y ∈ T) (h2 : ¬ y ∈ S) : unseen w E T + w y ≤ unseen w E S := by
  induction E with
  | nil => obtain ⟨e, he, _⟩ := hy; simp at he
  | cons e E ih =>
    obtain ⟨e', he', rfl⟩ := hy
    rcases List.mem_cons.1 he' with rfl | hm
    · have := unseen_mono w E h
      simp only [unseen]
      simp [h1, h2]; omega
    · have := ih ⟨e', hm, rfl⟩
      simp only [unseen]
      by_cases h3 : e.1 ∈ S
      · have h4 := h _ h3; simp [h3, h4]; exact this
      · by_cases h4 : e.1 ∈ T
        · simp [h3, h4]; omega
        · simp [h3, h4]; omega
theorem unseen_le (E : List (β × List β)) (S : List β) : unseen (fun _ => 1) E S ≤ E.length := by
  induction E with
  | nil => simp [unseen]
  | cons e E ih => simp only [unseen, List.length_cons]; split <;> omega

variable (put : List β → β → List β)
def askC (name : β) (out asks : List β) : List β := asks.foldl (fun o a => if a ∈ o then put o name else o) out
def round (E : List (β × List β)) (S : List β) : List β := E.foldl (fun o e => askC put e.1 o e.2) S
def rounds (E : List (β × List β)) : Nat → List β → List β
  | 0, S => S
  | n + 1, S => round put E (rounds E n S)
variable {put} (hput : ∀ l s x, x ∈ put l s ↔ x = s ∨ x ∈ l)
include hput
theorem mem_ask (name : β) (asks : List β) : ∀ (out : List β) (x : β), x ∈ askC put name out asks ↔ x ∈ out ∨ (x = name ∧ ∃ a ∈ asks, a ∈ out) := by
  induction asks with
  | nil => intro out x; simp [askC]
  | cons a asks ih =>
    intro out x
    have ih' := ih (if a ∈ out then put out name else out) x
    unfold askC at *
    rw [List.foldl_cons, ih']
    by_cases h : a ∈ out
    · simp only [h, if_true, hput]
      constructor
      · rintro ((rfl | h1) | ⟨rfl, _⟩)
        · exact .inr ⟨rfl, a, List.mem_cons_self, h⟩
        · exact .inl h1
        · exact .inr ⟨rfl, a, List.mem_cons_self, h⟩
      · rintro (h1 | ⟨rfl, _⟩)
        · exact .inl (.inr h1)
        · exact .inl (.inl rfl)
    · simp only [h, if_false]
      constructor
      · rintro (h1 | ⟨rfl, b, hb, h2⟩)
        · exact .inl h1
        · exact .inr ⟨rfl, b, List.mem_cons_of_mem _ hb, h2⟩
      · rintro (h1 | ⟨rfl, b, hb, h2⟩)
        · exact .inl h1
        · rcases List.mem_cons.1 hb with rfl | hb
          · exact absurd h2 h
          · exact .inr ⟨rfl, b, hb, h2⟩
theorem round_ext (E : List (β × List β)) : ∀ (S : List β), ∀ x ∈ S, x ∈ round put E S := by
  induction E with
  | nil => intro S x h; exact h
  | cons e E ih =>
    intro S x h
    exact ih _ x ((mem_ask hput e.1 e.2 S x).2 (.inl h))
theorem round_sound (E : List (β × List β)) {T : List β} (hT : Closed E T) : ∀ (S : List β), (∀ x ∈ S, x ∈ T) → ∀ x ∈ round put E S, x ∈ T := by
  induction E with
  | nil => intro S h; exact h
  | cons e E ih =>
    intro S h
    refine ih (fun e' he' => hT e' (List.mem_cons_of_mem _ he')) _ (fun x hx => ?_)
    rcases (mem_ask hput e.1 e.2 S x).1 hx with h1 | ⟨rfl, a, ha, h2⟩
    · exact h x h1
    · exact hT e List.mem_cons_self ⟨a, ha, h a h2⟩
theorem round_step (E : List (β × List β)) : ∀ (S : List β) (e : β × List β), e ∈ E → (∃ x ∈ e.2, x ∈ S) → e.1 ∈ round put E S := by
  induction E with
  | nil => intro S e he; simp at he
  | cons e0 E ih =>
    intro S e he h
    rcases List.mem_cons.1 he with rfl | he
    · exact round_ext hput E _ _ ((mem_ask hput e.1 e.2 S e.1).2 (.inr ⟨rfl, h⟩))
    · obtain ⟨x, hx, hs⟩ := h
      exact ih _ e he ⟨x, hx, (mem_ask hput e0.1 e0.2 S x).2 (.inl hs)⟩
theorem round_new (E : List (β × List β)) : ∀ (S : List β) (x : β), x ∈ round put E S → x ∈ S ∨ ∃ e ∈ E, e.1 = x := by
  induction E with
  | nil => intro S x h; exact .inl h
  | cons e E ih =>
    intro S x h
    rcases ih _ x h with h | ⟨e', he', rfl⟩
    · rcases (mem_ask hput e.1 e.2 S x).1 h with h | ⟨rfl, _⟩
      · exact .inl h
      · exact .inr ⟨e, List.mem_cons_self, rfl⟩
    · exact .inr ⟨e', List.mem_cons_of_mem _ he', rfl⟩
theorem rounds_ext (E : List (β × List β)) (S : List β) : ∀ (n : Nat), ∀ x ∈ S, x ∈ rounds put E n S
  | 0, x, h => h
  | n + 1, x, h => round_ext hput E _ x (rounds_ext E S n x h)
theorem rounds_sound (E : List (β × List β)) {S T : List β} (hT : Closed E T) (h : ∀ x ∈ S, x ∈ T) : ∀ (n : Nat), ∀ x ∈ rounds put E n S, x ∈ T
  | 0, x, hx => h x hx
  | n + 1, x, hx => round_sound hput E hT _ (rounds_sound E hT h n) x hx
theorem rounds_count (E : List (β × List β)) (S : List β) : ∀ (n : Nat), Closed E (rounds put E n S) ∨ unseen (fun _ => 1) E (rounds put E n S) + n ≤ E.length
  | 0 => .inr (by simpa [rounds] using unseen_le E S)
  | n + 1 => by
    rcases rounds_count E S n with h | h
    · refine .inl (fun e he hx => ?_)
      obtain ⟨x, hx, hs⟩ := hx
      have hs' := round_sound hput E h _ (fun y hy => hy) x hs
      exact round_ext hput E _ _ (h e he ⟨x, hx, hs'⟩)
    · by_cases hc : Closed E (rounds put E (n + 1) S)
      · exact .inl hc
      · refine .inr ?_
        have hn : ∃ y, y ∈ round put E (rounds put E n S) ∧ ¬ y ∈ rounds put E n S := Classical.byContradiction fun hno => hc (fun e he hx => by
          obtain ⟨x, hx, hs⟩ := hx
          have hs' : x ∈ rounds put E n S := Classical.byContradiction fun h' => hno ⟨x, hs, h'⟩
          exact round_step hput E _ e he ⟨x, hx, hs'⟩)
        obtain ⟨y, h1, h2⟩ := hn
        have hy : ∃ e ∈ E, e.1 = y := by
          rcases round_new hput E _ y h1 with h | h
          · exact absurd h h2
          · exact h
        have := unseen_lt (fun _ => 1) E (round_ext hput E (rounds put E n S)) hy h1 h2
        simp only [rounds]
        omega
omit hput in
theorem ask_ind {P : List β → Prop} {Nm : β → Prop} (hP : ∀ o n, P o → Nm n → P (put o n)) (name : β) (hn : Nm name) (asks : List β) : ∀ out, P out → P (askC put name out asks) := by
  induction asks with
  | nil => intro out h; exact h
  | cons a asks ih =>
    intro out h
    unfold askC at *
    rw [List.foldl_cons]
    refine ih _ ?_
    split
    · exact hP _ _ h hn
    · exact h
omit hput in
theorem round_ind {P : List β → Prop} {Nm : β → Prop} (hP : ∀ o n, P o → Nm n → P (put o n)) (E : List (β × List β)) : (∀ e ∈ E, Nm e.1) → ∀ S, P S → P (round put E S) := by
  induction E with
  | nil => intro _ S h; exact h
  | cons e E ih => intro hn S h; exact ih (fun e he => hn e (List.mem_cons_of_mem _ he)) _ (ask_ind hP e.1 (hn e List.mem_cons_self) e.2 S h)
omit hput in
theorem rounds_ind {P : List β → Prop} {Nm : β → Prop} (hP : ∀ o n, P o → Nm n → P (put o n)) (E : List (β × List β)) (hn : ∀ e ∈ E, Nm e.1) {S : List β} (h : P S) : ∀ n, P (rounds put E n S)
  | 0 => h
  | n + 1 => round_ind hP E hn _ (rounds_ind hP E hn h n)
theorem rounds_closed (E : List (β × List β)) (S : List β) : Closed E (rounds put E (E.length + 1) S) := by
  rcases rounds_count hput E S (E.length + 1) with h | h
  · exact h
  · omega
/-- A closed list that holds the first ones and lies in every closed one has the same members. -/
theorem rounds_same (E : List (β × List β)) {S O : List β} (h1 : ∀ x ∈ S, x ∈ O) (h2 : Closed E O) (h3 : ∀ T : List β, Closed E T → (∀ x ∈ S, x ∈ T) → ∀ x ∈ O, x ∈ T) (x : β) : x ∈ O ↔ x ∈ rounds put E (E.length + 1) S :=
  ⟨fun h => h3 _ (rounds_closed hput E S) (rounds_ext hput E S _) x h, fun h => rounds_sound hput E h2 h1 _ x h⟩
omit hput
theorem sorted_same {lt : β → β → Prop} (hi : ∀ x, ¬ lt x x) (ht : ∀ x y z, lt x y → lt y z → lt x z) : ∀ {l m : List β}, l.Pairwise lt → m.Pairwise lt → (∀ x, x ∈ l ↔ x ∈ m) → l = m
  | [], [], _, _, _ => rfl
  | [], b :: m, _, _, h => by have := (h b).2 List.mem_cons_self; simp at this
  | a :: l, [], _, _, h => by have := (h a).1 List.mem_cons_self; simp at this
  | a :: l, b :: m, h1, h2, h => by
    rw [List.pairwise_cons] at h1 h2
    have hab : a = b := by
      rcases List.mem_cons.1 ((h a).1 List.mem_cons_self) with e | e
      · exact e
      · rcases List.mem_cons.1 ((h b).2 List.mem_cons_self) with e' | e'
        · exact e'.symm
        · exact absurd (ht _ _ _ (h1.1 b e') (h2.1 a e)) (hi a)
    subst hab
    congr 1
    refine sorted_same hi ht h1.2 h2.2 (fun x => ⟨fun hx => ?_, fun hx => ?_⟩)
    · rcases List.mem_cons.1 ((h x).1 (List.mem_cons_of_mem _ hx)) with e | e
      · subst e; exact absurd (h1.1 x hx) (hi x)
      · exact e
    · rcases List.mem_cons.1 ((h x).2 (List.mem_cons_of_mem _ hx)) with e | e
      · subst e; exact absurd (h2.1 x hx) (hi x)
      · exact e
end
end Go.Sx.Clos

namespace Go.Proofs.Yteganoldfldlhaa
open Go Go.Sx Go.RowKit Go.Proofs
theorem bl_inj {x y : ByteArray} (h : bl x = bl y) : x = y := by rw [← lb_bl x, ← lb_bl y, h]
def ltS (x y : ByteArray) : Prop := bl x < bl y
theorem strLt_iff (x y : ByteArray) : strLt x y = true ↔ ltS x y := by
  unfold strLt ltS bl
  rw [Go.Proofs.bytesLess_eq, decide_eq_true_eq, ByteArray.toList_eq, ByteArray.toList_eq]
theorem ltS_irrefl (x : ByteArray) : ¬ ltS x x := List.lt_irrefl (bl x)
theorem ltS_trans (x y z : ByteArray) (h : ltS x y) (k : ltS y z) : ltS x z := List.lt_trans h k
theorem ltL_of {x y : List UInt8} (h : x ≤ y) (k : x ≠ y) : x < y := Classical.byContradiction fun hn => k (List.le_antisymm h (List.not_lt.1 hn))
theorem ltS_tri {x y : ByteArray} (h : ¬ ltS x y) (k : x ≠ y) : ltS y x := ltL_of (List.not_lt.1 h) fun e => k (bl_inj e).symm
theorem putS_cons (y s : ByteArray) (l : List ByteArray) : putS (y :: l) s = if strLt y s then y :: putS l s else if y = s then y :: l else s :: y :: l := by
  unfold putS
  cases h : strLt y s with
  | true =>
    have hg : geS s y = false := by simp [geS, h]
    simp only [fstIx, hg, Bool.false_eq_true, if_false, List.drop_succ_cons, if_true]
    split
    · rfl
    · simp [insAt]
  | false =>
    have hg : geS s y = true := by simp [geS, h]
    simp only [fstIx, hg, if_true, List.drop_zero, List.head?_cons, Bool.false_eq_true, if_false, Option.some.injEq]
    split
    · rfl
    · simp [insAt]
theorem putS_sorted (s : ByteArray) : ∀ {l : List ByteArray}, l.Pairwise ltS → (putS l s).Pairwise ltS
  | [], _ => by simp [putS, fstIx, insAt]
  | y :: l, h => by
    rw [putS_cons]
    rw [List.pairwise_cons] at h
    split
    · rename_i hlt
      rw [List.pairwise_cons]
      refine ⟨fun x hx => ?_, putS_sorted s h.2⟩
      rcases (mem_putS l s x).1 hx with rfl | hx
      · exact (strLt_iff _ _).1 hlt
      · exact h.1 x hx
    · rename_i hlt
      split
      · exact List.pairwise_cons.2 h
      · rename_i hne
        have hs : ltS s y := ltS_tri (fun hh => hlt ((strLt_iff _ _).2 hh)) hne
        refine List.pairwise_cons.2 ⟨fun x hx => ?_, List.pairwise_cons.2 h⟩
        rcases List.mem_cons.1 hx with rfl | hx
        · exact hs
        · exact ltS_trans _ _ _ hs (h.1 x hx)
theorem foldl_sorted (l : List ByteArray) : ∀ {a : List ByteArray}, a.Pairwise ltS → (l.foldl putS a).Pairwise ltS := by
  induction l with
  | nil => intro a h; exact h
  | cons y l ih => intro a h; exact ih (putS_sorted y h)
theorem putL_sorted (l : List ByteArray) : (putL l).Pairwise ltS := foldl_sorted l List.Pairwise.nil
theorem compUp_sorted (d : Array (List UInt8)) (hs : ∀ i j, i < j → j < d.size → d[i]! ≤ d[j]!) : ∀ m, m ≤ d.size → (Lib.compactUpTo d m).Pairwise (fun x y => x < y) ∧ ∀ x ∈ Lib.compactUpTo d m, 0 < m ∧ x ≤ d[m - 1]!
  | 0, _ => by simp [Lib.compactUpTo]
  | m + 1, hm => by
    obtain ⟨h1, h2⟩ := compUp_sorted d hs m (by omega)
    rw [Lib.compactUpTo_succ]
    have hup : ∀ x ∈ Lib.compactUpTo d m, x ≤ d[m]! := fun x hx => by
      obtain ⟨h0, h3⟩ := h2 x hx
      exact List.le_trans h3 (hs (m - 1) m (by omega) (by omega))
    refine ⟨?_, fun x hx => ⟨by omega, ?_⟩⟩
    · cases hk : Lib.keeps d m with
      | false => simpa using h1
      | true =>
        rw [List.pairwise_append]
        refine ⟨h1, by simp, fun x hx y hy => ?_⟩
        simp only [if_true, List.mem_singleton] at hy
        subst hy
        obtain ⟨h0, h3⟩ := h2 x hx
        have hne : d[m]! ≠ d[m - 1]! := fun e => by rw [Lib.keeps_neg h0 e] at hk; cases hk
        have hle := hs (m - 1) m (by omega) (by omega)
        refine ltL_of (hup x hx) fun e => hne ?_
        rw [e] at h3
        exact List.le_antisymm h3 hle
    · rcases List.mem_append.1 hx with h | h
      · exact hup x h
      · split at h
        · simp only [List.mem_singleton] at h; subst h; exact List.le_refl _
        · simp at h
theorem onceS_sorted (l : List ByteArray) : (onceS l).Pairwise ltS := by
  have e : (sortS l).map bl = sortB (l.map bl) := by
    unfold sortS
    rw [List.map_map]
    have : (bl ∘ lb) = id := by funext x; exact bl_lb x
    rw [this, List.map_id]
  unfold onceS compS
  rw [e, List.pairwise_map]
  have hs : (sortB (l.map bl)).Pairwise (fun a b => decide (a ≤ b) = true) := by
    refine List.pairwise_mergeSort (le := fun x y : List UInt8 => decide (x ≤ y)) (fun a b c h k => decide_eq_true (List.le_trans (of_decide_eq_true h) (of_decide_eq_true k))) (fun a b => ?_) (l.map bl)
    by_cases h : a ≤ b
    · simp [h]
    · have : b ≤ a := List.le_of_lt (List.not_le.1 h)
      simp [this]
  have h := (compUp_sorted (sortB (l.map bl)).toArray (fun i j hij hj => by
    have hj' : j < (sortB (l.map bl)).length := by simpa using hj
    have hi' : i < (sortB (l.map bl)).length := by omega
    have := List.pairwise_iff_getElem.1 hs i j hi' hj' hij
    simpa [getElem!_pos, hi', hj'] using of_decide_eq_true this) (sortB (l.map bl)).length (by simp)).1
  exact h.imp (fun {x y} h => by show bl (lb x) < bl (lb y); exact h)

end Go.Proofs.Yteganoldfldlhaa
