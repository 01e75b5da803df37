/- Joined texts. -/
import Derived.Test.YtddimbdeggomaaaGreatZ13
import Derived.Sort.Walk0
import Derived.Test.YtddimbdeggomaaaGreatZ07
set_option linter.all false
section
namespace Go.Sx.Clos
section
variable {β : Type} [DecidableEq β]
def Closed (E : List (β × List β)) (S : List β) : Prop := ∀ e ∈ E, (∃ x ∈ e.2, x ∈ S) → e.1 ∈ S
def wsm (w : β → Nat) : List β → Nat
 | [] => 0
 | x :: l => w x + wsm w l
def unseen (w : β → Nat) : List (β × List β) → List β → Nat
 | [], _ => 0
 | e :: E, S => (if e.1 ∈ S then 0 else w e.1) + unseen w E S
theorem unseen_mono (w : β → Nat) (E : List (β × List β)) {S T : List β} (h : ∀ x ∈ S, x ∈ T) : unseen w E T ≤ unseen w E S := by
 induction E with
 | nil => simp [unseen]
 | cons e E ih =>
  simp only [unseen]
  by_cases h1 : e.1 ∈ S
  ·have h2 := h _ h1; simp [h1, h2]; exact ih
  ·by_cases h2 : e.1 ∈ T
   ·simp [h1, h2]; omega
   ·simp [h1, h2]; exact ih
theorem unseen_lt (w : β → Nat) (E : List (β × List β)) {S T : List β} (h : ∀ x ∈ S, x ∈ T) {y : β} (hy : ∃ e ∈ E, e.1 = y) (h1 : y ∈ T) (h2 : ¬ y ∈ S) : unseen w E T + w y ≤ unseen w E S := by
 induction E with
 | nil => obtain ⟨e, he, _⟩ := hy; simp at he
 | cons e E ih =>
  obtain ⟨e', he', rfl⟩ := hy
  rcases List.mem_cons.1 he' with rfl | hm
  ·have := unseen_mono w E h
   simp only [unseen]
   simp [h1, h2]; omega
  ·have := ih ⟨e', hm, rfl⟩
   simp only [unseen]
   by_cases h3 : e.1 ∈ S
   ·have h4 := h _ h3; simp [h3, h4]; exact this
   ·by_cases h4 : e.1 ∈ T
    ·simp [h3, h4]; omega
    ·simp [h3, h4]; omega
theorem unseen_le (E : List (β × List β)) (S : List β) : unseen (fun _ => 1) E S ≤ E.length := by
 induction E with
 | nil => simp [unseen]
 | cons e E ih => simp only [unseen, List.length_cons]; split <;> omega
variable (put : List β → β → List β)
def askC (name : β) (out asks : List β) : List β := asks.foldl (fun o a => if a ∈ o then put o name else o) out
def round (E : List (β × List β)) (S : List β) : List β := E.foldl (fun o e => askC put e.1 o e.2) S
def rounds (E : List (β × List β)) : Nat → List β → List β
 | 0, S => S
 | n + 1, S => round put E (rounds E n S)
variable {put} (hput : ∀ l s x, x ∈ put l s ↔ x = s ∨ x ∈ l)
include hput
theorem mem_ask (name : β) (asks : List β) : ∀ (out : List β) (x : β), x ∈ askC put name out asks ↔ x ∈ out ∨ (x = name ∧ ∃ a ∈ asks, a ∈ out) := by
 induction asks with
 | nil => intro out x; simp [askC]
 | cons a asks ih =>
  intro out x
  have ih' := ih (if a ∈ out then put out name else out) x
  unfold askC at *
  rw [List.foldl_cons, ih']
  by_cases h : a ∈ out
  ·simp only [h, if_true, hput]
   constructor
   ·rintro ((rfl | h1) | ⟨rfl, _⟩)
    ·exact .inr ⟨rfl, a, List.mem_cons_self, h⟩
    ·exact .inl h1
    ·exact .inr ⟨rfl, a, List.mem_cons_self, h⟩
   ·rintro (h1 | ⟨rfl, _⟩)
    ·exact .inl (.inr h1)
    ·exact .inl (.inl rfl)
  ·simp only [h, if_false]
   constructor
   ·rintro (h1 | ⟨rfl, b, hb, h2⟩)
    ·exact .inl h1
    ·exact .inr ⟨rfl, b, List.mem_cons_of_mem _ hb, h2⟩
   ·rintro (h1 | ⟨rfl, b, hb, h2⟩)
    ·exact .inl h1
    ·rcases List.mem_cons.1 hb with rfl | hb
     ·exact absurd h2 h
     ·exact .inr ⟨rfl, b, hb, h2⟩
theorem round_ext (E : List (β × List β)) : ∀ (S : List β), ∀ x ∈ S, x ∈ round put E S := by
 induction E with
 | nil => intro S x h; exact h
 | cons e E ih =>
  intro S x h
  exact ih _ x ((mem_ask hput e.1 e.2 S x).2 (.inl h))
theorem round_sound (E : List (β × List β)) {T : List β} (hT : Closed E T) : ∀ (S : List β), (∀ x ∈ S, x ∈ T) → ∀ x ∈ round put E S, x ∈ T := by
 induction E with
 | nil => intro S h; exact h
 | cons e E ih =>
  intro S h
  refine ih (fun e' he' => hT e' (List.mem_cons_of_mem _ he')) _ (fun x hx => ?_)
  rcases (mem_ask hput e.1 e.2 S x).1 hx with h1 | ⟨rfl, a, ha, h2⟩
  ·exact h x h1
  ·exact hT e List.mem_cons_self ⟨a, ha, h a h2⟩
theorem round_step (E : List (β × List β)) : ∀ (S : List β) (e : β × List β), e ∈ E → (∃ x ∈ e.2, x ∈ S) → e.1 ∈ round put E S := by
 induction E with
 | nil => intro S e he; simp at he
 | cons e0 E ih =>
  intro S e he h
  rcases List.mem_cons.1 he with rfl | he
  ·exact round_ext hput E _ _ ((mem_ask hput e.1 e.2 S e.1).2 (.inr ⟨rfl, h⟩))
  ·obtain ⟨x, hx, hs⟩ := h
   exact ih _ e he ⟨x, hx, (mem_ask hput e0.1 e0.2 S x).2 (.inl hs)⟩
theorem round_new (E : List (β × List β)) : ∀ (S : List β) (x : β), x ∈ round put E S → x ∈ S ∨ ∃ e ∈ E, e.1 = x := by
 induction E with
 | nil => intro S x h; exact .inl h
 | cons e E ih =>
  intro S x h
  rcases ih _ x h with h | ⟨e', he', rfl⟩
  ·rcases (mem_ask hput e.1 e.2 S x).1 h with h | ⟨rfl, _⟩
   ·exact .inl h
   ·exact .inr ⟨e, List.mem_cons_self, rfl⟩
  ·exact .inr ⟨e', List.mem_cons_of_mem _ he', rfl⟩
theorem rounds_ext (E : List (β × List β)) (S : List β) : ∀ (n : Nat), ∀ x ∈ S, x ∈ rounds put E n S
 | 0, x, h => h
 | n + 1, x, h => round_ext hput E _ x (rounds_ext E S n x h)
theorem rounds_sound (E : List (β × List β)) {S T : List β} (hT : Closed E T) (h : ∀ x ∈ S, x ∈ T) : ∀ (n : Nat), ∀ x ∈ rounds put E n S, x ∈ T
 | 0, x, hx => h x hx
 | n + 1, x, hx => round_sound hput E hT _ (rounds_sound E hT h n) x hx
theorem rounds_count (E : List (β × List β)) (S : List β) : ∀ (n : Nat), Closed E (rounds put E n S) ∨ unseen (fun _ => 1) E (rounds put E n S) + n ≤ E.length
 | 0 => .inr (by simpa [rounds] using unseen_le E S)
 | n + 1 => by
  rcases rounds_count E S n with h | h
  ·refine .inl (fun e he hx => ?_)
   obtain ⟨x, hx, hs⟩ := hx
   have hs' := round_sound hput E h _ (fun y hy => hy) x hs
   exact round_ext hput E _ _ (h e he ⟨x, hx, hs'⟩)
  ·by_cases hc : Closed E (rounds put E (n + 1) S)
   ·exact .inl hc
   ·refine .inr ?_
    have hn : ∃ y, y ∈ round put E (rounds put E n S) ∧ ¬ y ∈ rounds put E n S := Classical.byContradiction fun hno => hc (fun e he hx => by
     obtain ⟨x, hx, hs⟩ := hx
     have hs' : x ∈ rounds put E n S := Classical.byContradiction fun h' => hno ⟨x, hs, h'⟩
     exact round_step hput E _ e he ⟨x, hx, hs'⟩)
    obtain ⟨y, h1, h2⟩ := hn
    have hy : ∃ e ∈ E, e.1 = y := by
     rcases round_new hput E _ y h1 with h | h
     ·exact absurd h h2
     ·exact h
    have := unseen_lt (fun _ => 1) E (round_ext hput E (rounds put E n S)) hy h1 h2
    simp only [rounds]
    omega
omit hput in
theorem ask_ind {P : List β → Prop} {Nm : β → Prop} (hP : ∀ o n, P o → Nm n → P (put o n)) (name : β) (hn : Nm name) (asks : List β) : ∀ out, P out → P (askC put name out asks) := by
 induction asks with
 | nil => intro out h; exact h
 | cons a asks ih =>
  intro out h
  unfold askC at *
  rw [List.foldl_cons]
  refine ih _ ?_
  split
  ·exact hP _ _ h hn
  ·exact h
omit hput in
theorem round_ind {P : List β → Prop} {Nm : β → Prop} (hP : ∀ o n, P o → Nm n → P (put o n)) (E : List (β × List β)) : (∀ e ∈ E, Nm e.1) → ∀ S, P S → P (round put E S) := by
 induction E with
 | nil => intro _ S h; exact h
 | cons e E ih => intro hn S h; exact ih (fun e he => hn e (List.mem_cons_of_mem _ he)) _ (ask_ind hP e.1 (hn e List.mem_cons_self) e.2 S h)
omit hput in
theorem rounds_ind {P : List β → Prop} {Nm : β → Prop} (hP : ∀ o n, P o → Nm n → P (put o n)) (E : List (β × List β)) (hn : ∀ e ∈ E, Nm e.1) {S : List β} (h : P S) : ∀ n, P (rounds put E n S)
 | 0 => h
 | n + 1 => round_ind hP E hn _ (rounds_ind hP E hn h n)
theorem rounds_closed (E : List (β × List β)) (S : List β) : Closed E (rounds put E (E.length + 1) S) := by
 rcases rounds_count hput E S (E.length + 1) with h | h
 ·exact h
 ·omega
theorem rounds_same (E : List (β × List β)) {S O : List β} (h1 : ∀ x ∈ S, x ∈ O) (h2 : Closed E O) (h3 : ∀ T : List β, Closed E T → (∀ x ∈ S, x ∈ T) → ∀ x ∈ O, x ∈ T) (x : β) : x ∈ O ↔ x ∈ rounds put E (E.length + 1) S :=
 ⟨fun h => h3 _ (rounds_closed hput E S) (rounds_ext hput E S _) x h, fun h => rounds_sound hput E h2 h1 _ x h⟩
omit hput
theorem sorted_same {lt : β → β → Prop} (hi : ∀ x, ¬ lt x x) (ht : ∀ x y z, lt x y → lt y z → lt x z) : ∀ {l m : List β}, l.Pairwise lt → m.Pairwise lt → (∀ x, x ∈ l ↔ x ∈ m) → l = m
 | [], [], _, _, _ => rfl
 | [], b :: m, _, _, h => by have := (h b).2 List.mem_cons_self; simp at this
 | a :: l, [], _, _, h => by have := (h a).1 List.mem_cons_self; simp at this
 | a :: l, b :: m, h1, h2, h => by
  rw [List.pairwise_cons] at h1 h2
  have hab : a = b := by
   rcases List.mem_cons.1 ((h a).1 List.mem_cons_self) with e | e
   ·exact e
   ·rcases List.mem_cons.1 ((h b).2 List.mem_cons_self) with e' | e'
    ·exact e'.symm
    ·exact absurd (ht _ _ _ (h1.1 b e') (h2.1 a e)) (hi a)
  subst hab
  congr 1
  refine sorted_same hi ht h1.2 h2.2 (fun x => ⟨fun hx => ?_, fun hx => ?_⟩)
  ·rcases List.mem_cons.1 ((h x).1 (List.mem_cons_of_mem _ hx)) with e | e
   ·subst e; exact absurd (h1.1 x hx) (hi x)
   ·exact e
  ·rcases List.mem_cons.1 ((h x).2 (List.mem_cons_of_mem _ hx)) with e | e
   ·subst e; exact absurd (h2.1 x hx) (hi x)
   ·exact e
end
end Go.Sx.Clos
namespace Go.Proofs.YtddimbdeggomaaaGreat
open Go Go.Sx Go.RowKit Go.Proofs
theorem bl_inj {x y : ByteArray} (h : bl x = bl y) : x = y := by rw [← lb_bl x, ← lb_bl y, h]
def ltS (x y : ByteArray) : Prop := bl x < bl y
theorem strLt_iff (x y : ByteArray) : strLt x y = true ↔ ltS x y := by
 unfold strLt ltS bl
 rw [Go.Proofs.bytesLess_eq, decide_eq_true_eq, ByteArray.toList_eq, ByteArray.toList_eq]
theorem ltS_irrefl (x : ByteArray) : ¬ ltS x x := List.lt_irrefl (bl x)
theorem ltS_trans (x y z : ByteArray) (h : ltS x y) (k : ltS y z) : ltS x z := List.lt_trans h k
theorem ltL_of {x y : List UInt8} (h : x ≤ y) (k : x ≠ y) : x < y := Classical.byContradiction fun hn => k (List.le_antisymm h (List.not_lt.1 hn))
theorem ltS_tri {x y : ByteArray} (h : ¬ ltS x y) (k : x ≠ y) : ltS y x := ltL_of (List.not_lt.1 h) fun e => k (bl_inj e).symm
theorem putS_cons (y s : ByteArray) (l : List ByteArray) : putS (y :: l) s = if strLt y s then y :: putS l s else if y = s then y :: l else s :: y :: l := by
 unfold putS
 cases h : strLt y s with
 | true =>
  have hg : geS s y = false := by simp [geS, h]
  simp only [fstIx, hg, Bool.false_eq_true, if_false, List.drop_succ_cons, if_true]
  split
  ·rfl
  ·simp [insAt]
 | false =>
  have hg : geS s y = true := by simp [geS, h]
  simp only [fstIx, hg, if_true, List.drop_zero, List.head?_cons, Bool.false_eq_true, if_false, Option.some.injEq]
  split
  ·rfl
  ·simp [insAt]
theorem putS_sorted (s : ByteArray) : ∀ {l : List ByteArray}, l.Pairwise ltS → (putS l s).Pairwise ltS
 | [], _ => by simp [putS, fstIx, insAt]
 | y :: l, h => by
  rw [putS_cons]
  rw [List.pairwise_cons] at h
  split
  ·rename_i hlt
   rw [List.pairwise_cons]
   refine ⟨fun x hx => ?_, putS_sorted s h.2⟩
   rcases (mem_putS l s x).1 hx with rfl | hx
   ·exact (strLt_iff _ _).1 hlt
   ·exact h.1 x hx
  ·rename_i hlt
   split
   ·exact List.pairwise_cons.2 h
   ·rename_i hne
    have hs : ltS s y := ltS_tri (fun hh => hlt ((strLt_iff _ _).2 hh)) hne
    refine List.pairwise_cons.2 ⟨fun x hx => ?_, List.pairwise_cons.2 h⟩
    rcases List.mem_cons.1 hx with rfl | hx
    ·exact hs
    ·exact ltS_trans _ _ _ hs (h.1 x hx)
theorem foldl_sorted (l : List ByteArray) : ∀ {a : List ByteArray}, a.Pairwise ltS → (l.foldl putS a).Pairwise ltS := by
 induction l with
 | nil => intro a h; exact h
 | cons y l ih => intro a h; exact ih (putS_sorted y h)
theorem putL_sorted (l : List ByteArray) : (putL l).Pairwise ltS := foldl_sorted l List.Pairwise.nil
theorem compUp_sorted (d : Array (List UInt8)) (hs : ∀ i j, i < j → j < d.size → d[i]! ≤ d[j]!) : ∀ m, m ≤ d.size → (Lib.compactUpTo d m).Pairwise (fun x y => x < y) ∧ ∀ x ∈ Lib.compactUpTo d m, 0 < m ∧ x ≤ d[m - 1]!
 | 0, _ => by simp [Lib.compactUpTo]
 | m + 1, hm => by
  obtain ⟨h1, h2⟩ := compUp_sorted d hs m (by omega)
  rw [Lib.compactUpTo_succ]
  have hup : ∀ x ∈ Lib.compactUpTo d m, x ≤ d[m]! := fun x hx => by
   obtain ⟨h0, h3⟩ := h2 x hx
   exact List.le_trans h3 (hs (m - 1) m (by omega) (by omega))
  refine ⟨?_, fun x hx => ⟨by omega, ?_⟩⟩
  ·cases hk : Lib.keeps d m with
   | false => simpa using h1
   | true =>
    rw [List.pairwise_append]
    refine ⟨h1, by simp, fun x hx y hy => ?_⟩
    simp only [if_true, List.mem_singleton] at hy
    subst hy
    obtain ⟨h0, h3⟩ := h2 x hx
    have hne : d[m]! ≠ d[m - 1]! := fun e => by rw [Lib.keeps_neg h0 e] at hk; cases hk
    have hle := hs (m - 1) m (by omega) (by omega)
    refine ltL_of (hup x hx) fun e => hne ?_
    rw [e] at h3
    exact List.le_antisymm h3 hle
  ·rcases List.mem_append.1 hx with h | h
   ·exact hup x h
   ·split at h
    ·simp only [List.mem_singleton] at h; subst h; exact List.le_refl _
    ·simp at h
theorem onceS_sorted (l : List ByteArray) : (onceS l).Pairwise ltS := by
 have e : (sortS l).map bl = sortB (l.map bl) := by
  unfold sortS
  rw [List.map_map]
  have : (bl ∘ lb) = id := by funext x; exact bl_lb x
  rw [this, List.map_id]
 unfold onceS compS
 rw [e, List.pairwise_map]
 have hs : (sortB (l.map bl)).Pairwise (fun a b => decide (a ≤ b) = true) := by
  refine List.pairwise_mergeSort (le := fun x y : List UInt8 => decide (x ≤ y)) (fun a b c h k => decide_eq_true (List.le_trans (of_decide_eq_true h) (of_decide_eq_true k))) (fun a b => ?_) (l.map bl)
  by_cases h : a ≤ b
  ·simp [h]
  ·have : b ≤ a := List.le_of_lt (List.not_le.1 h)
   simp [this]
 have h := (compUp_sorted (sortB (l.map bl)).toArray (fun i j hij hj => by
  have hj' : j < (sortB (l.map bl)).length := by simpa using hj
  have hi' : i < (sortB (l.map bl)).length := by omega
  have := List.pairwise_iff_getElem.1 hs i j hi' hj' hij
  simpa [getElem!_pos, hi', hj'] using of_decide_eq_true this) (sortB (l.map bl)).length (by simp)).1
 exact h.imp (fun {x y} h => by show bl (lb x) < bl (lb y); exact h)
end Go.Proofs.YtddimbdeggomaaaGreat
end
section
set_option maxRecDepth 100000
set_option maxHeartbeats 4000000
namespace Go.Proofs.YtddimbdeggomaaaGreat
open Go Go.Sx Go.RowKit Go.Proofs
def isA (n : TNode) : Bool := decide (2 ≤ n.fOp) && decide (n.fOp ≤ 4)
def qA (q : List TNode) : List ByteArray := (q.filter isA).map TNode.fName
theorem qA_len (q : List TNode) : (qA q).length ≤ q.length := by simp only [qA, List.length_map]; exact List.length_filter_le _ _
theorem qA_take (q : List TNode) (k : Nat) (h : k < q.length) : qA (q.take (k + 1)) = qA (q.take k) ++ (if isA q[k] then [q[k].fName] else []) := by
 simp only [qA, List.take_succ_eq_append_getElem h, List.filter_append, List.map_append, List.filter_cons, List.filter_nil]
 cases isA q[k] <;> rfl
theorem specQA_ok (q : List TNode) (hl : q.length ≤ 4300000) : FnC Tryz.prog 260 [.o (.d (.sl (q.map encNode)))] (.o (.w 9 1 ((putL (qA q)).map encS))) := by
 refine ent Tryz.func260 rfl Tryz.call260 rfl (fun C => ?_); simp only [go_sem, st0, Tryz.ntmps260]
 refine w0_0 ?_
 refine WP_frzd 3 0 rfl rfl ?_
 simp only [go_sem]
 refine WP_lp (α := Nat) (fun k => [(3, .o (.d (.sl ((putL (qA (q.take k))).map encS)))), (4, oi k), (5, .o .u)]) (fun _ => []) (fun k => k ≤ q.length) (fun k => q.length - k) 0 (fun _ => ?_) ?_ ?_ (fun k hk => ?_)
 ·simp only [go_sem]
 ·simp only [go_sem]; simp [qA, putL]
 ·simp
 ·simp only [go_sem]
  refine w0_0 ?_
  have hlen : (putL (qA (q.take k))).length ≤ 4300000 := by have h1 := putL_len (qA (q.take k)); have h2 := qA_len (q.take k); simp at h2; omega
  refine cnd rfl (fun h1 => ?_) (fun h1 => ?_)
  ·simp only [decide_eq_true_eq, Int.ofNat_lt] at h1
   have ht := qA_take q k h1
   have q0 := @h1; refine w1_1 (show FnC Tryz.prog _ _ (ob (isA q[k])) from l01In_ok q[k].fOp 2 4) ?_
   refine cnd rfl (fun hv => ?_) (fun hv => ?_)
   ·rw [hv] at ht
    simp only [if_true] at ht
    have q0 := @h1; refine w1_1 (l04Put_ok (putL (qA (q.take k))) q[k].fName hlen) ?_
    refine L_next (k + 1) ?_ ?_ ?_
    ·simp only [go_sem, ht, putL_app]; simp
    ·omega
    ·omega
   ·rw [hv] at ht
    simp only [Bool.false_eq_true, if_false, List.append_nil] at ht
    have q0 := @h1; refine w1_0 ?_
    refine L_next (k + 1) ?_ ?_ ?_
    ·simp only [go_sem, ht]; simp
    ·omega
    ·omega
  ·simp only [decide_eq_false_iff_not] at h1
   have e : k = q.length := by omega
   subst e
   rw [List.take_length] at *
   refine w0_0 ?_
   exact retK_ret ⟨⟨_, rfl, by simp only [go_sem, List.take_length]⟩, trivial⟩
theorem implQA_ok (q : List TNode) (hl : q.length ≤ 4300000) : FnC Tryz.prog 262 [.o (.d (.sl (q.map encNode)))] (.o (.w 9 1 ((onceS (qA q)).map encS))) := by
 refine ent Tryz.func262 rfl Tryz.call262 rfl (fun C => ?_); simp only [go_sem, st0, Tryz.ntmps262]
 refine w0_0 ?_
 refine WP_lp (α := Nat) (fun k => [(3, .o (.s 0)), (6, .o .u), (9, oi k)]) (fun k => [(0, .row 9 1 ((qA (q.take k)).map encS) true)]) (fun k => k ≤ q.length) (fun k => q.length - k) 0 (fun _ => ?_) ?_ ?_ (fun k hk => ?_)
 ·simp only [go_sem]
 ·simp only [go_sem]; simp [qA]
 ·simp
 ·simp only [go_sem]
  refine w0_0 ?_
  have hlen : (qA (q.take k)).length ≤ 4300000 := by have h2 := qA_len (q.take k); simp at h2; omega
  refine cnd rfl (fun h1 => ?_) (fun h1 => ?_)
  ·simp only [decide_eq_true_eq, Int.ofNat_lt] at h1
   have ht := qA_take q k h1
   have hl1 : (qA (q.take k)).length + 1 ≤ 140737488355328 := by omega
   have hl2 : ((qA (q.take k)).length + 1) * 16 ≤ 140737488355328 := by omega
   by_cases c2 : q[k].fOp = 2
   ·rw [if_pos (by simp [isA, c2])] at ht
    have q0 := @h1; have q1 := @c2; have q2 := @decide_true; refine w3_0 ?_
    refine L_next (k + 1) ?_ ?_ ?_
    ·simp only [go_sem, ht, List.map_append]; simp
    ·omega
    ·omega
   by_cases c3 : q[k].fOp = 3
   ·rw [if_pos (by simp [isA, c3])] at ht
    have q0 := @h1; have q1 := @c2; have q2 := @c3; have q3 := @decide_true; have q4 := @decide_false; refine w5_0 ?_
    refine L_next (k + 1) ?_ ?_ ?_
    ·simp only [go_sem, ht, List.map_append]; simp
    ·omega
    ·omega
   by_cases c4 : q[k].fOp = 4
   ·rw [if_pos (by simp [isA, c4])] at ht
    have q0 := @h1; have q1 := @c2; have q2 := @c3; have q3 := @c4; have q4 := @decide_true; have q5 := @decide_false; refine w6_0 ?_
    refine L_next (k + 1) ?_ ?_ ?_
    ·simp only [go_sem, ht, List.map_append]; simp
    ·omega
    ·omega
   ·rw [if_neg (by simp only [isA, Bool.and_eq_true, decide_eq_true_eq]; omega), List.append_nil] at ht
    have q0 := @h1; have q1 := @c2; have q2 := @c3; have q3 := @c4; have q4 := @decide_true; have q5 := @decide_false; refine w6_0 ?_
    refine L_next (k + 1) ?_ ?_ ?_
    ·simp only [go_sem, ht]; simp
    ·omega
    ·omega
  ·simp only [decide_eq_false_iff_not] at h1
   have e : k = q.length := by omega
   subst e
   rw [List.take_length] at *
   refine w0_1 (sortedOnce_ok (qA q) hlen) ?_
   exact retK_ret ⟨⟨_, rfl, by simp only [go_sem, List.take_length]⟩, trivial⟩
def linkQ (q : List TNode) : Bool := q.any fun n => decide (n.fOp = 9)
theorem linkQ_drop (q : List TNode) (k : Nat) (h : k < q.length) : linkQ (q.drop k) = (decide (q[k].fOp = 9) || linkQ (q.drop (k + 1))) := by rw [List.drop_eq_getElem_cons h]; rfl
theorem specLinked_ok (q : List TNode) (hl : q.length ≤ 4300000) : FnC Tryz.prog 259 [.o (.d (.sl (q.map encNode)))] (ob (linkQ q)) := by
 refine ent Tryz.func259 rfl Tryz.call259 rfl (fun C => ?_); simp only [go_sem, st0, Tryz.ntmps259]
 refine w0_0 ?_
 refine WP_lp (α := Nat) (fun k => [(3, oi k)]) (fun k => []) (fun k => k ≤ q.length ∧ linkQ (q.drop k) = linkQ q) (fun k => q.length - k) 0 (fun _ => ?_) ?_ ?_ (fun k hk => ?_)
 ·simp only [go_sem]
 ·simp only [go_sem]; try simp
 ·simp
 ·simp only [go_sem]
  obtain ⟨hk, hg⟩ := hk
  refine w0_0 ?_
  refine cnd rfl (fun h1 => ?_) (fun h1 => ?_)
  ·simp only [decide_eq_true_eq, Int.ofNat_lt] at h1
   have hd := linkQ_drop q k h1
   rw [hg] at hd
   by_cases hv : q[k].fOp = 9
   ·have hd' : linkQ q = true := by rw [hd, hv]; simp
    have q0 := @h1; have q1 := @hv; have q2 := @decide_true; refine w3_0 ?_
    exact retK_ret ⟨⟨_, rfl, by simp only [go_sem, hd']⟩, trivial⟩
   ·have q0 := @h1; have q1 := @hv; have q2 := @decide_false; refine w3_0 ?_
    refine L_next (k + 1) ?_ ?_ ?_
    ·simp only [go_sem]; try simp
    ·exact ⟨by omega, by rw [hd]; simp [hv]⟩
    ·omega
  ·simp only [decide_eq_false_iff_not] at h1
   have e : k = q.length := by omega
   subst e
   have hn : linkQ q = false := by rw [← hg, List.drop_length]; rfl
   refine w0_0 ?_
   exact retK_ret ⟨⟨_, rfl, by simp only [go_sem, hn]⟩, trivial⟩
theorem aff1_ok (attrs : List ByteArray) (s : ByteArray) (hl : attrs.length ≤ 4300000) : FnC Tryz.prog 264 [os s, .o (.q [.sl (attrs.map encS)])] (ob (hasS attrs s)) := by
 refine ent Tryz.func264 rfl Tryz.call264 rfl (fun C => ?_); simp only [go_sem, st0, Tryz.ntmps264]
 refine w0_1 (containsS_ok attrs s hl) ?_
 exact retK_ret ⟨⟨_, rfl, by simp only [go_sem]⟩, trivial⟩
theorem aff2_ok (n : TNode) : FnC Tryz.prog 266 [gNode n] (ob (decide (n.fOp = 9))) := by
 refine ent Tryz.func266 rfl Tryz.call266 rfl (fun C => ?_); simp only [go_sem, st0, Tryz.ntmps266]
 refine w0_0 ?_
 exact retK_ret ⟨⟨_, rfl, by simp only [go_sem]⟩, trivial⟩
theorem indexFuncNode0_ok (f : Nat) (p : TNode → Bool) (l : List TNode) (hf : ∀ s ∈ l, FnC Tryz.prog f [gNode s] (ob (p s))) (hl : l.length ≤ 8388608) : FnC Tryz.prog 300 [.o (.d (.sl (l.map encNode))), .o (.f f [])] (oi (idxP p l 0)) := by
 refine ent Tryz.func300 rfl Tryz.call300 rfl (fun C => ?_); simp only [go_sem, st0, Tryz.ntmps300]
 refine w0_0 ?_
 refine WP_lp (α := Nat) (fun k => [(8, oi k)]) (fun _ => []) (fun k => k ≤ l.length ∧ idxP p l 0 = idxP p (l.drop k) k) (fun k => l.length - k) 0 (fun _ => ?_) ?_ ?_ (fun k hk => ?_)
 ·simp only [go_sem]
 ·simp only [go_sem]; simp
 ·simp
 ·obtain ⟨hk, hq⟩ := hk
  simp only [go_sem]
  refine w0_0 ?_
  refine cnd rfl (fun h => ?_) (fun h => ?_)
  ·simp only [decide_eq_true_eq, Int.ofNat_lt] at h
   have hd := List.drop_eq_getElem_cons h
   rw [hd, idxP] at hq
   have q0 := @h; refine w1_1 (hf l[k] (List.getElem_mem h)) ?_
   refine cnd rfl (fun h2 => ?_) (fun h2 => ?_)
   ·refine w0_0 ?_
    exact retK_ret ⟨⟨_, rfl, by simp only [go_sem, hq, h2]⟩, trivial⟩
   ·refine w0_0 ?_
    refine L_next (k + 1) ?_ ?_ ?_
    ·simp only [go_sem]; simp
    ·rw [hq, h2]; exact ⟨h, by simp⟩
    ·omega
  ·simp only [decide_eq_false_iff_not] at h
   have e : k = l.length := by omega
   subst e
   simp only [List.drop_length, idxP] at hq
   refine w0_0 ?_
   exact retK_ret ⟨⟨_, rfl, by simp only [go_sem, hq]⟩, trivial⟩
theorem containsFuncNode0_ok (f : Nat) (p : TNode → Bool) (l : List TNode) (hf : ∀ s ∈ l, FnC Tryz.prog f [gNode s] (ob (p s))) (hl : l.length ≤ 8388608) : FnC Tryz.prog 265 [.o (.d (.sl (l.map encNode))), .o (.f f [])] (ob (l.any p)) := by
 refine ent Tryz.func265 rfl Tryz.call265 rfl (fun C => ?_); simp only [go_sem, st0, Tryz.ntmps265]
 refine w0_1 (indexFuncNode0_ok f p l hf hl) ?_
 exact retK_ret ⟨⟨_, rfl, by simp only [go_sem, idxP_any]⟩, trivial⟩
theorem containsFuncS_ok (f : Nat) (c : List D) (p : ByteArray → Bool) (l : List ByteArray) (hf : ∀ s ∈ l, FnC Tryz.prog f [os s, .o (.q c)] (ob (p s))) (hl : l.length ≤ 4300000) : FnC Tryz.prog 263 [.o (.d (.sl (l.map encS))), .o (.f f [c])] (ob (l.any p)) := by
 refine ent Tryz.func263 rfl Tryz.call263 rfl (fun C => ?_); simp only [go_sem, st0, Tryz.ntmps263]
 refine w0_1 (indexFuncS_ok f c p l hf hl) ?_
 exact retK_ret ⟨⟨_, rfl, by simp only [go_sem, idxP_any]⟩, trivial⟩
theorem implQAd_ok (q : List TNode) (hl : q.length ≤ 4300000) : FnC Tryz.prog 262 [.o (.d (.sl (q.map encNode)))] (.o (.d (.sl ((onceS (qA q)).map encS)))) := (implQA_ok q hl).pu (by simp only [go_sem, and_self])
theorem specQAd_ok (q : List TNode) (hl : q.length ≤ 4300000) : FnC Tryz.prog 260 [.o (.d (.sl (q.map encNode)))] (.o (.d (.sl ((putL (qA q)).map encS)))) := (specQA_ok q hl).pu (by simp only [go_sem, and_self])
theorem implChangedd_ok (a b : TFile) (h : wFile a + wFile b ≤ 4300000) : FnC Tryz.prog 261 [gFile a, gFile b] (.o (.d (.sl ((onceS (chg a b)).map encS)))) := (implChanged_ok a b h).pu (by simp only [go_sem, and_self])
theorem specChangedd_ok (a b : TFile) (h : wFile a + wFile b ≤ 4300000) : FnC Tryz.prog 258 [gFile a, gFile b] (.o (.d (.sl ((putL (chg a b)).map encS)))) := (specChanged_ok a b h).pu (by simp only [go_sem, and_self])
def hitA (ch qa : List ByteArray) : Bool := qa.any (hasS ch)
theorem hit_impl (ch qa : List ByteArray) : (onceS ch).any (hasS (onceS qa)) = hitA ch qa := by
 rw [Bool.eq_iff_iff]
 simp only [hitA, List.any_eq_true, hasS_mem, mem_onceS]
 constructor <;> rintro ⟨x, h1, h2⟩ <;> exact ⟨x, h2, h1⟩
theorem hit_spec (ch qa : List ByteArray) : (putL qa).any (hasS (putL ch)) = hitA ch qa := by
 rw [Bool.eq_iff_iff]
 simp only [hitA, List.any_eq_true, hasS_mem, mem_putL]
def affB (a b : TFile) (d : TDir) : Bool := hitA (chg a b) (qA d.fQuery) || (linkQ d.fQuery && !decide (a.fLink = b.fLink))
def affL (a b : TFile) (l : List TDir) : List ByteArray := (l.filter (affB a b)).map TDir.fName
def affD (a b : TFile) (l : List TDir) : List ByteArray := if a.fID = b.fID then affL a b l else dirNs l
theorem affL_len (a b : TFile) (l : List TDir) : (affL a b l).length ≤ l.length := by simp only [affL, List.length_map]; exact List.length_filter_le _ _
theorem affL_take (a b : TFile) (l : List TDir) (k : Nat) (h : k < l.length) : affL a b (l.take (k + 1)) = affL a b (l.take k) ++ (if affB a b l[k] then [l[k].fName] else []) := by
 simp only [affL, List.take_succ_eq_append_getElem h, List.filter_append, List.map_append, List.filter_cons, List.filter_nil]
 cases affB a b l[k] <;> rfl
theorem dir_w (l : List TDir) (k : Nat) (h : k < l.length) : l[k].fQuery.length ≤ wDirS l := by
 have h1 := wsum_get wDir l h
 have h2 : l[k].fQuery.length ≤ wDir l[k] := by unfold wDir wNodeS; omega
 unfold wDirS
 omega
theorem chg_len (a b : TFile) (h : wFile a + wFile b ≤ 4300000) : (chg a b).length ≤ 4300000 := by
 have h1 := chL_len a b (attrNs a.fAttrs ++ attrNs b.fAttrs)
 rw [List.length_append, attrNs_len, attrNs_len] at h1
 unfold wFile wAttrS at h
 unfold chg; omega
theorem implDirect_ok (l : List TDir) (a b : TFile) (h : wDirS l + (wFile a + wFile b) ≤ 4300000) : FnC Tryz.prog 193 [.o (.d (.sl (l.map encDir))), gFile a, gFile b] (.o (.w 9 1 ((affD a b l).map encS))) := by
 have hl : l.length ≤ 4300000 := by unfold wDirS at h; omega
 have hch := chg_len a b (by omega)
 refine ent Tryz.func193 rfl Tryz.call193 rfl (fun C => ?_); simp only [go_sem, st0, Tryz.ntmps193]
 by_cases hid : a.fID = b.fID
 case neg =>
  have hid' : decide (a.fID = b.fID) = false := by simp [hid]
  have q0 := @hid'; refine w1_1 (dirNames_ok l hl) ?_
  exact retK_ret ⟨⟨_, rfl, by simp only [go_sem, affD, hid, if_false]⟩, trivial⟩
 have hid' : decide (a.fID = b.fID) = true := by simp [hid]
 have q0 := @hid'; refine w1_1 (implChangedd_ok a b (by omega)) ?_
 refine WP_lp (α := Nat) (fun k => [(8, .o (.s 2)), (24, .o .u), (27, oi k)]) (fun k => [(2, .row 9 1 ((affL a b (l.take k)).map encS) true)]) (fun k => k ≤ l.length) (fun k => l.length - k) 0 (fun _ => ?_) ?_ ?_ (fun k hk => ?_)
 ·simp only [go_sem]
 ·simp only [go_sem]; simp [affL]
 ·simp
 ·simp only [go_sem]
  refine w0_0 ?_
  have hlen : (affL a b (l.take k)).length ≤ 4300000 := by have h2 := affL_len a b (l.take k); simp at h2; omega
  refine cnd rfl (fun h1 => ?_) (fun h1 => ?_)
  ·simp only [decide_eq_true_eq, Int.ofNat_lt] at h1
   have ht := affL_take a b l k h1
   have hq := dir_w l k h1
   have hqa := onceS_len (qA l[k].fQuery)
   have hqb := qA_len l[k].fQuery
   have hl1 : (affL a b (l.take k)).length + 1 ≤ 140737488355328 := by omega
   have hl2 : ((affL a b (l.take k)).length + 1) * 16 ≤ 140737488355328 := by omega
   have hc := containsFuncS_ok 264 [.sl ((onceS (qA l[k].fQuery)).map encS)] (hasS (onceS (qA l[k].fQuery))) (onceS (chg a b)) (fun s _ => aff1_ok _ s (by omega)) (by have := onceS_len (chg a b); omega)
   rw [hit_impl] at hc
   have hn := containsFuncNode0_ok 266 (fun n => decide (n.fOp = 9)) l[k].fQuery (fun n _ => aff2_ok n) (by omega)
   have hn : FnC Tryz.prog _ _ (ob (linkQ l[k].fQuery)) := hn
   cases hh : hitA (chg a b) (qA l[k].fQuery)
   case true =>
    rw [if_pos (by simp [affB, hh])] at ht
    have q0 := @h1; have q1 := @hh; refine w2_3 (implQAd_ok l[k].fQuery (by omega)) hc hn ?_
    refine L_next (k + 1) ?_ ?_ ?_
    ·simp only [go_sem, ht, List.map_append]; simp
    ·omega
    ·omega
   cases hL : linkQ l[k].fQuery
   case false =>
    rw [if_neg (by simp [affB, hh, hL]), List.append_nil] at ht
    have q0 := @h1; have q1 := @hh; have q2 := @hL; refine w3_3 (implQAd_ok l[k].fQuery (by omega)) hc hn ?_
    refine L_next (k + 1) ?_ ?_ ?_
    ·simp only [go_sem, ht]; simp
    ·omega
    ·omega
   by_cases hk2 : a.fLink = b.fLink
   ·rw [if_neg (by simp [affB, hh, hL, hk2]), List.append_nil] at ht
    have hk' : decide (a.fLink = b.fLink) = true := by simp [hk2]
    have q0 := @h1; have q1 := @hh; have q2 := @hL; have q3 := @hk'; refine w4_3 (implQAd_ok l[k].fQuery (by omega)) hc hn ?_
    refine L_next (k + 1) ?_ ?_ ?_
    ·simp only [go_sem, ht]; simp
    ·omega
    ·omega
   ·rw [if_pos (by simp [affB, hh, hL, hk2])] at ht
    have hk' : decide (a.fLink = b.fLink) = false := by simp [hk2]
    have q0 := @h1; have q1 := @hh; have q2 := @hL; have q3 := @hk'; refine w4_3 (implQAd_ok l[k].fQuery (by omega)) hc hn ?_
    refine L_next (k + 1) ?_ ?_ ?_
    ·simp only [go_sem, ht, List.map_append]; simp
    ·omega
    ·omega
  ·simp only [decide_eq_false_iff_not] at h1
   have e : k = l.length := by omega
   subst e
   rw [List.take_length] at *
   refine w0_0 ?_
   exact retK_ret ⟨⟨_, rfl, by simp only [go_sem, List.take_length, affD, hid, if_true]⟩, trivial⟩
theorem specDirect_ok (l : List TDir) (a b : TFile) (h : wDirS l + (wFile a + wFile b) ≤ 4300000) : FnC Tryz.prog 192 [.o (.d (.sl (l.map encDir))), gFile a, gFile b] (.o (.w 9 1 ((affD a b l).map encS))) := by
 have hl : l.length ≤ 4300000 := by unfold wDirS at h; omega
 have hch := chg_len a b (by omega)
 have hpl : (putL (chg a b)).length ≤ 4300000 := by have := putL_len (chg a b); omega
 refine ent Tryz.func192 rfl Tryz.call192 rfl (fun C => ?_); simp only [go_sem, st0, Tryz.ntmps192]
 by_cases hid : a.fID = b.fID
 case neg =>
  have hid' : decide (a.fID = b.fID) = false := by simp [hid]
  have q0 := @hid'; refine w1_1 (specDirNames_ok l hl) ?_
  exact retK_ret ⟨⟨_, rfl, by simp only [go_sem, affD, hid, if_false]⟩, trivial⟩
 have hid' : decide (a.fID = b.fID) = true := by simp [hid]
 have q0 := @hid'; refine w1_1 (specChangedd_ok a b (by omega)) ?_
 by_cases hk2 : a.fLink = b.fLink
 ·have hk' : decide (a.fLink = b.fLink) = true := by simp [hk2]
  refine WP_lp (α := Nat) (fun k => [(7, .o (.s 2)), (9, oi k), (20, .o .u)]) (fun k => [(2, .row 9 1 ((affL a b (l.take k)).map encS) true)]) (fun k => k ≤ l.length) (fun k => l.length - k) 0 (fun _ => ?_) ?_ ?_ (fun k hk => ?_)
  ·simp only [go_sem]
  ·simp only [go_sem]; simp [affL]
  ·simp
  ·simp only [go_sem]
   refine w0_0 ?_
   have hlen : (affL a b (l.take k)).length ≤ 4300000 := by have h2 := affL_len a b (l.take k); simp at h2; omega
   refine cnd rfl (fun h1 => ?_) (fun h1 => ?_)
   ·simp only [decide_eq_true_eq, Int.ofNat_lt] at h1
    have ht := affL_take a b l k h1
    have hq := dir_w l k h1
    have hqa := putL_len (qA l[k].fQuery)
    have hqb := qA_len l[k].fQuery
    have hl1 : (affL a b (l.take k)).length + 1 ≤ 140737488355328 := by omega
    have hl2 : ((affL a b (l.take k)).length + 1) * 16 ≤ 140737488355328 := by omega
    have hhit : affB a b l[k] = ((putL (qA l[k].fQuery)).any (hasS (putL (chg a b)))) := by rw [hit_spec]; simp [affB, hk2, Bool.or_comm]
    have hQl : (putL (qA l[k].fQuery)).length ≤ 4300000 := by omega
    have q0 := @h1; have q1 := @hk'; refine w2_2 (specLinked_ok l[k].fQuery (by omega)) (specQAd_ok l[k].fQuery (by omega)) ?_
    generalize putL (qA l[k].fQuery) = Q at *
    refine WP_lp (α := Nat) (fun n => [(10, ob ((Q.take n).any (hasS (putL (chg a b))))), (12, oi n)]) (fun n => []) (fun n => n ≤ Q.length) (fun n => Q.length - n) 0 (fun _ => ?_) ?_ ?_ (fun n hn => ?_)
    ·simp only [go_sem]
    ·simp only [go_sem]; simp
    ·simp
    ·simp only [go_sem]
     refine w0_0 ?_
     refine cnd rfl (fun h2 => ?_) (fun h2 => ?_)
     ·simp only [decide_eq_true_eq, Int.ofNat_lt] at h2
      have hv : ((Q.take (n + 1)).any (hasS (putL (chg a b)))) = (((Q.take n).any (hasS (putL (chg a b)))) || hasS (putL (chg a b)) Q[n]) := by rw [List.take_succ_eq_append_getElem h2, List.any_append]; simp [Bool.or_assoc]
      generalize ((Q.take n).any (hasS (putL (chg a b)))) = v at *
      cases v
      ·have q0 := @h2; refine w1_1 (l12Has_ok (putL (chg a b)) Q[n] hpl) ?_
       refine L_next (n + 1) ?_ ?_ ?_
       ·simp only [go_sem, hv]; simp
       ·omega
       ·omega
      ·have q0 := @h2; refine w1_1 (l12Has_ok (putL (chg a b)) Q[n] hpl) ?_
       refine L_next (n + 1) ?_ ?_ ?_
       ·simp only [go_sem, hv]; simp
       ·omega
       ·omega
     ·simp only [decide_eq_false_iff_not] at h2
      have e : n = Q.length := by omega
      subst e
      rw [List.take_length, ← hhit]
      refine w0_0 ?_
      refine cnd (b := affB a b l[k]) rfl (fun hv => ?_) (fun hv => ?_)
      ·rw [if_pos hv] at ht
       have q0 := @h1; refine w1_0 ?_
       refine L_next (k + 1) ?_ ?_ ?_
       ·simp only [go_sem, ht, List.map_append]; simp
       ·omega
       ·omega
      ·rw [if_neg (by simp [hv]), List.append_nil] at ht
       have q0 := @h1; refine w1_0 ?_
       refine L_next (k + 1) ?_ ?_ ?_
       ·simp only [go_sem, ht]; simp
       ·omega
       ·omega
   ·simp only [decide_eq_false_iff_not] at h1
    have e : k = l.length := by omega
    subst e
    rw [List.take_length] at *
    refine w0_0 ?_
    exact retK_ret ⟨⟨_, rfl, by simp only [go_sem, List.take_length, affD, hid, if_true]⟩, trivial⟩
 ·have hk' : decide (a.fLink = b.fLink) = false := by simp [hk2]
  refine WP_lp (α := Nat) (fun k => [(7, .o (.s 2)), (9, oi k), (20, .o .u)]) (fun k => [(2, .row 9 1 ((affL a b (l.take k)).map encS) true)]) (fun k => k ≤ l.length) (fun k => l.length - k) 0 (fun _ => ?_) ?_ ?_ (fun k hk => ?_)
  ·simp only [go_sem]
  ·simp only [go_sem]; simp [affL]
  ·simp
  ·simp only [go_sem]
   refine w0_0 ?_
   have hlen : (affL a b (l.take k)).length ≤ 4300000 := by have h2 := affL_len a b (l.take k); simp at h2; omega
   refine cnd rfl (fun h1 => ?_) (fun h1 => ?_)
   ·simp only [decide_eq_true_eq, Int.ofNat_lt] at h1
    have ht := affL_take a b l k h1
    have hq := dir_w l k h1
    have hqa := putL_len (qA l[k].fQuery)
    have hqb := qA_len l[k].fQuery
    have hl1 : (affL a b (l.take k)).length + 1 ≤ 140737488355328 := by omega
    have hl2 : ((affL a b (l.take k)).length + 1) * 16 ≤ 140737488355328 := by omega
    have hhit : affB a b l[k] = (linkQ l[k].fQuery || (putL (qA l[k].fQuery)).any (hasS (putL (chg a b)))) := by rw [hit_spec]; simp [affB, hk2, Bool.or_comm]
    have hQl : (putL (qA l[k].fQuery)).length ≤ 4300000 := by omega
    have q0 := @h1; have q1 := @hk'; refine w2_2 (specLinked_ok l[k].fQuery (by omega)) (specQAd_ok l[k].fQuery (by omega)) ?_
    generalize putL (qA l[k].fQuery) = Q at *
    refine WP_lp (α := Nat) (fun n => [(10, ob (linkQ l[k].fQuery || (Q.take n).any (hasS (putL (chg a b))))), (12, oi n)]) (fun n => []) (fun n => n ≤ Q.length) (fun n => Q.length - n) 0 (fun _ => ?_) ?_ ?_ (fun n hn => ?_)
    ·simp only [go_sem]
    ·simp only [go_sem]; simp
    ·simp
    ·simp only [go_sem]
     refine w0_0 ?_
     refine cnd rfl (fun h2 => ?_) (fun h2 => ?_)
     ·simp only [decide_eq_true_eq, Int.ofNat_lt] at h2
      have hv : (linkQ l[k].fQuery || (Q.take (n + 1)).any (hasS (putL (chg a b)))) = ((linkQ l[k].fQuery || (Q.take n).any (hasS (putL (chg a b)))) || hasS (putL (chg a b)) Q[n]) := by rw [List.take_succ_eq_append_getElem h2, List.any_append]; simp [Bool.or_assoc]
      generalize (linkQ l[k].fQuery || (Q.take n).any (hasS (putL (chg a b)))) = v at *
      cases v
      ·have q0 := @h2; refine w1_1 (l12Has_ok (putL (chg a b)) Q[n] hpl) ?_
       refine L_next (n + 1) ?_ ?_ ?_
       ·simp only [go_sem, hv]; simp
       ·omega
       ·omega
      ·have q0 := @h2; refine w1_1 (l12Has_ok (putL (chg a b)) Q[n] hpl) ?_
       refine L_next (n + 1) ?_ ?_ ?_
       ·simp only [go_sem, hv]; simp
       ·omega
       ·omega
     ·simp only [decide_eq_false_iff_not] at h2
      have e : n = Q.length := by omega
      subst e
      rw [List.take_length, ← hhit]
      refine w0_0 ?_
      refine cnd (b := affB a b l[k]) rfl (fun hv => ?_) (fun hv => ?_)
      ·rw [if_pos hv] at ht
       have q0 := @h1; refine w1_0 ?_
       refine L_next (k + 1) ?_ ?_ ?_
       ·simp only [go_sem, ht, List.map_append]; simp
       ·omega
       ·omega
      ·rw [if_neg (by simp [hv]), List.append_nil] at ht
       have q0 := @h1; refine w1_0 ?_
       refine L_next (k + 1) ?_ ?_ ?_
       ·simp only [go_sem, ht]; simp
       ·omega
       ·omega
   ·simp only [decide_eq_false_iff_not] at h1
    have e : k = l.length := by omega
    subst e
    rw [List.take_length] at *
    refine w0_0 ?_
    exact retK_ret ⟨⟨_, rfl, by simp only [go_sem, List.take_length, affD, hid, if_true]⟩, trivial⟩
theorem implDirectd_ok (l : List TDir) (a b : TFile) (h : wDirS l + (wFile a + wFile b) ≤ 4300000) : FnC Tryz.prog 193 [.o (.d (.sl (l.map encDir))), gFile a, gFile b] (.o (.d (.sl ((affD a b l).map encS)))) := (implDirect_ok l a b h).pu (by simp only [go_sem, and_self])
theorem specDirectd_ok (l : List TDir) (a b : TFile) (h : wDirS l + (wFile a + wFile b) ≤ 4300000) : FnC Tryz.prog 192 [.o (.d (.sl (l.map encDir))), gFile a, gFile b] (.o (.d (.sl ((affD a b l).map encS)))) := (specDirect_ok l a b h).pu (by simp only [go_sem, and_self])
end Go.Proofs.YtddimbdeggomaaaGreat
end
section
set_option maxRecDepth 100000
set_option maxHeartbeats 4000000
namespace Go.Proofs.YtddimbdeggomaaaGreat
open Go Go.Sx Go.RowKit Go.Proofs Go.Sx.Clos
def isD (n : TNode) : Bool := decide (8 ≤ n.fOp) && decide (n.fOp ≤ 9)
def qD (q : List TNode) : List ByteArray := (q.filter isD).map TNode.fName
theorem qD_len (q : List TNode) : (qD q).length ≤ q.length := by simp only [qD, List.length_map]; exact List.length_filter_le _ _
theorem qD_take (q : List TNode) (k : Nat) (h : k < q.length) : qD (q.take (k + 1)) = qD (q.take k) ++ (if isD q[k] then [q[k].fName] else []) := by
 simp only [qD, List.take_succ_eq_append_getElem h, List.filter_append, List.map_append, List.filter_cons, List.filter_nil]
 cases isD q[k] <;> rfl
def eD (l : List TDir) : List (ByteArray × List ByteArray) := l.map fun d => (d.fName, putL (qD d.fQuery))
theorem eD_len (l : List TDir) : (eD l).length = l.length := by simp [eD]
def wS (s : ByteArray) : Nat := 1 + s.size
def pot (l : List TDir) (o : List ByteArray) : Nat := wsm wS o + unseen wS (eD l) o
def nmD (l : List TDir) (y : ByteArray) : Prop := ∃ e ∈ eD l, e.1 = y
theorem nmD_of (l : List TDir) (d : TDir) (h : d ∈ l) : nmD l d.fName := ⟨_, List.mem_map.2 ⟨d, h, rfl⟩, rfl⟩
theorem wsm_app (a b : List ByteArray) : wsm wS (a ++ b) = wsm wS a + wsm wS b := by
 induction a with
 | nil => simp [wsm]
 | cons x a ih => simp only [List.cons_append, wsm, ih]; omega
theorem wsm_eq (l : List ByteArray) : wsm wS l = wStringS l := by
 unfold wStringS
 induction l with
 | nil => simp [wsm, wsum]
 | cons x l ih => simp only [wsm, wsum, wS, List.length_cons, ih]; omega
theorem wsm_len (l : List ByteArray) : l.length ≤ wsm wS l := by rw [wsm_eq]; unfold wStringS; omega
theorem pot_len (l : List TDir) (o : List ByteArray) : o.length ≤ pot l o := by have := wsm_len o; unfold pot; omega
theorem wsm_putS (o : List ByteArray) (s : ByteArray) : wsm wS (putS o s) ≤ wsm wS o + wS s := by
 unfold putS
 split
 ·omega
 ·unfold insAt
  have h := congrArg (wsm wS) (List.take_append_drop (fstIx (geS s) o) o)
  rw [wsm_app] at h
  rw [wsm_app]
  simp only [wsm]
  omega
theorem putS_old (o : List ByteArray) (s : ByteArray) (h : o.Pairwise ltS) (hs : s ∈ o) : putS o s = o :=
 sorted_same ltS_irrefl ltS_trans (putS_sorted s h) h fun x => by
  rw [mem_putS]
  constructor
  ·rintro (rfl | h)
   ·exact hs
   ·exact h
  ·exact .inr
def okS (l : List TDir) (B : Nat) (o : List ByteArray) : Prop := o.Pairwise ltS ∧ pot l o ≤ B
theorem okS_put {l : List TDir} {B : Nat} (o : List ByteArray) (s : ByteArray) (h : okS l B o) (hs : nmD l s) : okS l B (putS o s) := by
 refine ⟨putS_sorted s h.1, Nat.le_trans ?_ h.2⟩
 by_cases hm : s ∈ o
 ·rw [putS_old o s h.1 hm]; exact Nat.le_refl _
 ·have h1 := wsm_putS o s
  have h2 := unseen_lt wS (eD l) (S := o) (T := putS o s) (fun x hx => (mem_putS o s x).2 (.inr hx)) hs ((mem_putS o s s).2 (.inl rfl)) hm
  unfold pot; omega
theorem wsm_foldl (l : List ByteArray) : ∀ a : List ByteArray, wsm wS (l.foldl putS a) ≤ wsm wS a + wsm wS l := by
 induction l with
 | nil => intro a; simp [wsm]
 | cons y l ih =>
  intro a
  have h1 := ih (putS a y)
  have h2 := wsm_putS a y
  simp only [List.foldl_cons, wsm]; omega
theorem okS_putL (l : List TDir) (names : List ByteArray) : okS l (pot l names) (putL names) := by
 refine ⟨putL_sorted names, ?_⟩
 have h1 := wsm_foldl names []
 have h2 := unseen_mono wS (eD l) (S := names) (T := putL names) (fun x hx => (mem_putL names x).2 hx)
 simp only [wsm] at h1
 unfold pot putL at *
 omega
def roundsD (l : List TDir) (names : List ByteArray) (n : Nat) : List ByteArray := rounds putS (eD l) n (putL names)
def tdS (l : List TDir) (names : List ByteArray) : List ByteArray := roundsD l names (l.length + 1)
theorem okS_rounds (l : List TDir) (names : List ByteArray) (n : Nat) : okS l (pot l names) (roundsD l names n) :=
 rounds_ind (Nm := nmD l) (fun o s h hs => okS_put o s h hs) (eD l) (fun e he => ⟨e, he, rfl⟩) (okS_putL l names) n
theorem okS_round (l : List TDir) (B i : Nat) (S : List ByteArray) (h : okS l B S) : okS l B (round putS (eD (l.take i)) S) :=
 round_ind (Nm := nmD l) (fun o s h hs => okS_put o s h hs) (eD (l.take i)) (fun e he => by
  obtain ⟨d, hd, rfl⟩ := List.mem_map.1 he
  exact nmD_of l d (List.mem_of_mem_take hd)) S h
theorem okS_ask (l : List TDir) (B : Nat) (d : TDir) (hd : d ∈ l) (az S : List ByteArray) (h : okS l B S) : okS l B (askC putS d.fName S az) :=
 ask_ind (Nm := nmD l) (fun o s h hs => okS_put o s h hs) d.fName (nmD_of l d hd) az S h
theorem okS_len {l : List TDir} {B : Nat} {o : List ByteArray} (h : okS l B o) : o.length ≤ B := Nat.le_trans (pot_len l o) h.2
theorem round_take (l : List TDir) (S : List ByteArray) (i : Nat) (h : i < l.length) : round putS (eD (l.take (i + 1))) S = askC putS l[i].fName (round putS (eD (l.take i)) S) (putL (qD l[i].fQuery)) := by
 simp only [round, eD, List.take_succ_eq_append_getElem h, List.map_append, List.map_cons, List.map_nil, List.foldl_append, List.foldl_cons, List.foldl_nil]
theorem ask_in (n : ByteArray) (S Q : List ByteArray) (k : Nat) (h : k < Q.length) (hm : Q[k] ∈ askC putS n S (Q.take k)) : askC putS n S (Q.take (k + 1)) = putS (askC putS n S (Q.take k)) n := by
 unfold askC at *
 rw [List.take_succ_eq_append_getElem h, List.foldl_append, List.foldl_cons, List.foldl_nil, if_pos hm]
theorem ask_out (n : ByteArray) (S Q : List ByteArray) (k : Nat) (h : k < Q.length) (hm : ¬ Q[k] ∈ askC putS n S (Q.take k)) : askC putS n S (Q.take (k + 1)) = askC putS n S (Q.take k) := by
 unfold askC at *
 rw [List.take_succ_eq_append_getElem h, List.foldl_append, List.foldl_cons, List.foldl_nil, if_neg hm]
def depL (l : List TDir) (s : ByteArray) : List ByteArray := (l.filter fun d => hasS (qD d.fQuery) s).map TDir.fName
theorem mem_depL (l : List TDir) (s y : ByteArray) : y ∈ depL l s ↔ ∃ d ∈ l, s ∈ qD d.fQuery ∧ d.fName = y := by
 unfold depL
 rw [List.mem_map]
 constructor
 ·rintro ⟨d, hd, rfl⟩
  rw [List.mem_filter] at hd
  exact ⟨d, hd.1, (hasS_mem _ _).1 hd.2, rfl⟩
 ·rintro ⟨d, hd, hs, rfl⟩
  exact ⟨d, List.mem_filter.2 ⟨hd, (hasS_mem _ _).2 hs⟩, rfl⟩
theorem depL_len (l : List TDir) (s : ByteArray) : (depL l s).length ≤ l.length := by simp only [depL, List.length_map]; exact List.length_filter_le _ _
theorem depL_take (l : List TDir) (s : ByteArray) (k : Nat) (h : k < l.length) : depL (l.take (k + 1)) s = depL (l.take k) s ++ (if hasS (qD l[k].fQuery) s then [l[k].fName] else []) := by
 simp only [depL, List.take_succ_eq_append_getElem h, List.filter_append, List.map_append, List.filter_cons, List.filter_nil]
 cases hasS (qD l[k].fQuery) s <;> rfl
structure Good (l : List TDir) (names o : List ByteArray) : Prop where
 ext : ∀ x ∈ names, x ∈ o
 least : ∀ T, Closed (eD l) T → (∀ x ∈ names, x ∈ T) → ∀ x ∈ o, x ∈ T
 le : pot l o ≤ pot l names
theorem Good.start (l : List TDir) (names : List ByteArray) : Good l names names := ⟨fun _ h => h, fun _ _ h => h, Nat.le_refl _⟩
theorem Good.add {l : List TDir} {names o : List ByteArray} (g : Good l names o) {x y : ByteArray} (hx : x ∈ o) (hy : y ∈ depL l x) (hn : ¬ y ∈ o) : Good l names (o ++ [y]) := by
 obtain ⟨d, hd, hq, rfl⟩ := (mem_depL l x y).1 hy
 refine ⟨fun z hz => List.mem_append_left _ (g.ext z hz), fun T hT h z hz => ?_, ?_⟩
 ·rcases List.mem_append.1 hz with h1 | h1
  ·exact g.least T hT h z h1
  ·simp only [List.mem_singleton] at h1
   subst h1
   exact hT _ (List.mem_map.2 ⟨d, hd, rfl⟩) ⟨x, (mem_putL _ _).2 hq, g.least T hT h x hx⟩
 ·have h1 := unseen_lt wS (eD l) (S := o) (T := o ++ [d.fName]) (fun z hz => List.mem_append_left _ hz) (nmD_of l d hd) (by simp) hn
  have h2 := g.le
  have h3 := wsm_app o [d.fName]
  simp only [wsm] at h3
  unfold pot at *
  omega
theorem Good.done {l : List TDir} {names o : List ByteArray} (g : Good l names o) (hc : ∀ x ∈ o, ∀ y ∈ depL l x, y ∈ o) : onceS o = tdS l names := by
 refine sorted_same ltS_irrefl ltS_trans (onceS_sorted o) (okS_rounds l names (l.length + 1)).1 fun x => ?_
 rw [mem_onceS]
 have h := rounds_same (put := putS) mem_putS (eD l) (S := putL names) (O := o) (fun x hx => g.ext x ((mem_putL _ _).1 hx)) (fun e he hx => by
  obtain ⟨d, hd, rfl⟩ := List.mem_map.1 he
  obtain ⟨x, hx, ho⟩ := hx
  exact hc x ho _ ((mem_depL l x _).2 ⟨d, hd, (mem_putL _ _).1 hx, rfl⟩)) (fun T hT hs => g.least T hT fun x hx => hs x ((mem_putL _ _).2 hx)) x
 rw [eD_len] at h
 exact h
end Go.Proofs.YtddimbdeggomaaaGreat
end
section
set_option maxRecDepth 100000
set_option maxHeartbeats 4000000
namespace Go.Proofs.YtddimbdeggomaaaGreat
open Go Go.Sx Go.RowKit Go.Proofs Go.Sx.Clos
theorem specQD_ok (q : List TNode) (hl : q.length ≤ 4300000) : FnC Tryz.prog 196 [.o (.d (.sl (q.map encNode)))] (.o (.w 9 1 ((putL (qD q)).map encS))) := by
 refine ent Tryz.func196 rfl Tryz.call196 rfl (fun C => ?_); simp only [go_sem, st0, Tryz.ntmps196]
 refine w0_0 ?_
 refine WP_frzd 3 0 rfl rfl ?_
 simp only [go_sem]
 refine WP_lp (α := Nat) (fun k => [(3, .o (.d (.sl ((putL (qD (q.take k))).map encS)))), (4, oi k), (5, .o .u)]) (fun _ => []) (fun k => k ≤ q.length) (fun k => q.length - k) 0 (fun _ => ?_) ?_ ?_ (fun k hk => ?_)
 ·simp only [go_sem]
 ·simp only [go_sem]; simp [qD, putL]
 ·simp
 ·simp only [go_sem]
  refine w0_0 ?_
  have hlen : (putL (qD (q.take k))).length ≤ 4300000 := by have h1 := putL_len (qD (q.take k)); have h2 := qD_len (q.take k); simp at h2; omega
  refine cnd rfl (fun h1 => ?_) (fun h1 => ?_)
  ·simp only [decide_eq_true_eq, Int.ofNat_lt] at h1
   have ht := qD_take q k h1
   have q0 := @h1; refine w1_1 (show FnC Tryz.prog _ _ (ob (isD q[k])) from l01In_ok q[k].fOp 8 9) ?_
   refine cnd rfl (fun hv => ?_) (fun hv => ?_)
   ·rw [hv] at ht
    simp only [if_true] at ht
    have q0 := @h1; refine w1_1 (l04Put_ok (putL (qD (q.take k))) q[k].fName hlen) ?_
    refine L_next (k + 1) ?_ ?_ ?_
    ·simp only [go_sem, ht, putL_app]; simp
    ·omega
    ·omega
   ·rw [hv] at ht
    simp only [Bool.false_eq_true, if_false, List.append_nil] at ht
    have q0 := @h1; refine w1_0 ?_
    refine L_next (k + 1) ?_ ?_ ?_
    ·simp only [go_sem, ht]; simp
    ·omega
    ·omega
  ·simp only [decide_eq_false_iff_not] at h1
   have e : k = q.length := by omega
   subst e
   rw [List.take_length] at *
   refine w0_0 ?_
   exact retK_ret ⟨⟨_, rfl, by simp only [go_sem, List.take_length]⟩, trivial⟩
theorem namesDir_ok (n : TNode) : FnC Tryz.prog 304 [gNode n] (ob (isD n)) := by
 refine ent Tryz.func304 rfl Tryz.call304 rfl (fun C => ?_); simp only [go_sem, st0, Tryz.ntmps304]
 by_cases c8 : n.fOp = 8
 ·have hd : isD n = true := by simp [isD, c8]
  have q0 := @c8; have q1 := @decide_true; refine w2_0 ?_
  exact retK_ret ⟨⟨_, rfl, by simp only [go_sem, hd]⟩, trivial⟩
 by_cases c9 : n.fOp = 9
 ·have hd : isD n = true := by simp [isD, c9]
  have q0 := @c8; have q1 := @c9; have q2 := @decide_true; have q3 := @decide_false; refine w4_0 ?_
  exact retK_ret ⟨⟨_, rfl, by simp only [go_sem, hd]⟩, trivial⟩
 ·have hd : isD n = false := by
   rw [← Bool.not_eq_true]
   simp only [isD, Bool.and_eq_true, decide_eq_true_eq]; omega
  have q0 := @c8; have q1 := @c9; have q2 := @decide_true; have q3 := @decide_false; refine w4_0 ?_
  exact retK_ret ⟨⟨_, rfl, by simp only [go_sem, hd]⟩, trivial⟩
theorem implQD_ok (q : List TNode) (hl : q.length ≤ 4300000) : FnC Tryz.prog 272 [.o (.d (.sl (q.map encNode)))] (.o (.w 9 1 ((onceS (qD q)).map encS))) := by
 refine ent Tryz.func272 rfl Tryz.call272 rfl (fun C => ?_); simp only [go_sem, st0, Tryz.ntmps272]
 refine w0_0 ?_
 refine WP_lp (α := Nat) (fun k => [(3, .o (.s 0)), (6, .o .u), (9, oi k)]) (fun k => [(0, .row 9 1 ((qD (q.take k)).map encS) true)]) (fun k => k ≤ q.length) (fun k => q.length - k) 0 (fun _ => ?_) ?_ ?_ (fun k hk => ?_)
 ·simp only [go_sem]
 ·simp only [go_sem]; simp [qD]
 ·simp
 ·simp only [go_sem]
  refine w0_0 ?_
  have hlen : (qD (q.take k)).length ≤ 4300000 := by have h2 := qD_len (q.take k); simp at h2; omega
  refine cnd rfl (fun h1 => ?_) (fun h1 => ?_)
  ·simp only [decide_eq_true_eq, Int.ofNat_lt] at h1
   have ht := qD_take q k h1
   have hl1 : (qD (q.take k)).length + 1 ≤ 140737488355328 := by omega
   have hl2 : ((qD (q.take k)).length + 1) * 16 ≤ 140737488355328 := by omega
   have q0 := @h1; refine w1_1 (namesDir_ok q[k]) ?_
   refine cnd (b := isD q[k]) rfl (fun hv => ?_) (fun hv => ?_)
   ·rw [if_pos hv] at ht
    have q0 := @h1; refine w1_0 ?_
    refine L_next (k + 1) ?_ ?_ ?_
    ·simp only [go_sem, ht, List.map_append]; simp
    ·omega
    ·omega
   ·rw [if_neg (by simp [hv]), List.append_nil] at ht
    have q0 := @h1; refine w1_0 ?_
    refine L_next (k + 1) ?_ ?_ ?_
    ·simp only [go_sem, ht]; simp
    ·omega
    ·omega
  ·simp only [decide_eq_false_iff_not] at h1
   have e : k = q.length := by omega
   subst e
   rw [List.take_length] at *
   refine w0_1 (sortedOnce_ok (qD q) hlen) ?_
   exact retK_ret ⟨⟨_, rfl, by simp only [go_sem, List.take_length]⟩, trivial⟩
theorem implQDd_ok (q : List TNode) (hl : q.length ≤ 4300000) : FnC Tryz.prog 272 [.o (.d (.sl (q.map encNode)))] (.o (.d (.sl ((onceS (qD q)).map encS)))) := (implQD_ok q hl).pu (by simp only [go_sem, and_self])
theorem specQDd_ok (q : List TNode) (hl : q.length ≤ 4300000) : FnC Tryz.prog 196 [.o (.d (.sl (q.map encNode)))] (.o (.d (.sl ((putL (qD q)).map encS)))) := (specQD_ok q hl).pu (by simp only [go_sem, and_self])
theorem hasS_once (l : List ByteArray) (s : ByteArray) : hasS (onceS l) s = hasS l s := by rw [Bool.eq_iff_iff, hasS_mem, hasS_mem, mem_onceS]
theorem implDpt_ok (l : List TDir) (s : ByteArray) (h : wDirS l ≤ 4300000) : FnC Tryz.prog 204 [.o (.d (.sl (l.map encDir))), os s] (.o (.w 9 1 ((depL l s).map encS))) := by
 have hl : l.length ≤ 4300000 := by unfold wDirS at h; omega
 refine ent Tryz.func204 rfl Tryz.call204 rfl (fun C => ?_); simp only [go_sem, st0, Tryz.ntmps204]
 refine w0_0 ?_
 refine WP_lp (α := Nat) (fun k => [(5, .o (.s 0)), (8, .o .u), (11, oi k)]) (fun k => [(0, .row 9 1 ((depL (l.take k) s).map encS) true)]) (fun k => k ≤ l.length) (fun k => l.length - k) 0 (fun _ => ?_) ?_ ?_ (fun k hk => ?_)
 ·simp only [go_sem]
 ·simp only [go_sem]; simp [depL]
 ·simp
 ·simp only [go_sem]
  refine w0_0 ?_
  have hlen : (depL (l.take k) s).length ≤ 4300000 := by have h2 := depL_len (l.take k) s; simp at h2; omega
  refine cnd rfl (fun h1 => ?_) (fun h1 => ?_)
  ·simp only [decide_eq_true_eq, Int.ofNat_lt] at h1
   have ht := depL_take l s k h1
   have hq := dir_w l k h1
   have hqa := onceS_len (qD l[k].fQuery)
   have hqb := qD_len l[k].fQuery
   have hl1 : (depL (l.take k) s).length + 1 ≤ 140737488355328 := by omega
   have hl2 : ((depL (l.take k) s).length + 1) * 16 ≤ 140737488355328 := by omega
   have hc := containsS_ok (onceS (qD l[k].fQuery)) s (by omega)
   rw [hasS_once] at hc
   have q0 := @h1; refine w1_2 (implQDd_ok l[k].fQuery (by omega)) hc ?_
   refine cnd (b := hasS (qD l[k].fQuery) s) rfl (fun hv => ?_) (fun hv => ?_)
   ·rw [if_pos hv] at ht
    have q0 := @h1; refine w1_0 ?_
    refine L_next (k + 1) ?_ ?_ ?_
    ·simp only [go_sem, ht, List.map_append]; simp
    ·omega
    ·omega
   ·rw [if_neg (by simp [hv]), List.append_nil] at ht
    have q0 := @h1; refine w1_0 ?_
    refine L_next (k + 1) ?_ ?_ ?_
    ·simp only [go_sem, ht]; simp
    ·omega
    ·omega
  ·simp only [decide_eq_false_iff_not] at h1
   have e : k = l.length := by omega
   subst e
   rw [List.take_length] at *
   refine w0_0 ?_
   exact retK_ret ⟨⟨_, rfl, by simp only [go_sem, List.take_length]⟩, trivial⟩
theorem implDptd_ok (l : List TDir) (s : ByteArray) (h : wDirS l ≤ 4300000) : FnC Tryz.prog 204 [.o (.d (.sl (l.map encDir))), os s] (.o (.d (.sl ((depL l s).map encS)))) := (implDpt_ok l s h).pu (by simp only [go_sem, and_self])
end Go.Proofs.YtddimbdeggomaaaGreat
end
section
set_option maxRecDepth 100000
set_option maxHeartbeats 4000000
namespace Go.Proofs.YtddimbdeggomaaaGreat
open Go Go.Sx Go.RowKit Go.Proofs Go.Sx.Clos
theorem implTD_ok (l : List TDir) (names : List ByteArray) (h : wDirS l ≤ 4300000) (hB : pot l names ≤ 4300000) : FnC Tryz.prog 139 [.o (.d (.sl (l.map encDir))), .o (.d (.sl (names.map encS)))] (.o (.w 9 1 ((tdS l names).map encS))) := by
 have hl : l.length ≤ 4300000 := by unfold wDirS at h; omega
 have hnl : names.length ≤ 4300000 := Nat.le_trans (pot_len l names) hB
 refine ent Tryz.func139 rfl Tryz.call139 rfl (fun C => ?_); simp only [go_sem, st0, Tryz.ntmps139]
 refine w0_1 (cloneStr_ok names hnl) ?_
 refine WP_lp (α := Nat × List ByteArray) (fun x => [(5, .o (.s 0)), (6, oi x.1), (10, .o .u)]) (fun x => [(0, .row 9 1 (x.2.map encS) true)]) (fun x => x.1 ≤ x.2.length ∧ Good l names x.2 ∧ ∀ z ∈ x.2.take x.1, ∀ y ∈ depL l z, y ∈ x.2) (fun x => 4300001 - x.1) (0, names) (fun _ => ?_) ?_ ?_ (fun x hx => ?_)
 ·simp only [go_sem]
 ·simp only [go_sem]; simp
 ·exact ⟨Nat.zero_le _, Good.start l names, by simp⟩
 ·obtain ⟨i, o⟩ := x
  obtain ⟨hi, hg, hp⟩ := hx
  simp only at hi hg hp
  have hol : o.length ≤ 4300000 := Nat.le_trans (pot_len l o) (Nat.le_trans hg.le hB)
  simp only [go_sem]
  refine w0_0 ?_
  refine cnd rfl (fun h1 => ?_) (fun h1 => ?_)
  ·simp only [decide_eq_true_eq, Int.ofNat_lt] at h1
   have hoi : o[i] ∈ o.take (i + 1) := by rw [List.take_succ_eq_append_getElem h1]; exact List.mem_append_right _ List.mem_cons_self
   have hLl := depL_len l o[i]
   have q0 := @h1; refine w1_1 (implDptd_ok l o[i] h) ?_
   generalize hL : depL l o[i] = L at *
   refine WP_lp (α := Nat × List ByteArray) (fun y => [(5, .o (.s 0)), (12, .o .u), (18, .o .u), (20, .o .u), (24, oi y.1)]) (fun y => [(0, .row 9 1 (y.2.map encS) true)]) (fun y => y.1 ≤ L.length ∧ Good l names y.2 ∧ y.2.take (i + 1) = o.take (i + 1) ∧ i < y.2.length ∧ (∀ z ∈ L.take y.1, z ∈ y.2) ∧ ∀ z ∈ o.take i, ∀ y' ∈ depL l z, y' ∈ y.2) (fun y => L.length - y.1) (0, o) (fun _ => ?_) ?_ ?_ (fun y hy => ?_)
   ·simp only [go_sem]
   ·simp only [go_sem]; simp
   ·exact ⟨Nat.zero_le _, hg, rfl, h1, by simp, hp⟩
   ·obtain ⟨k, q⟩ := y
    obtain ⟨hk, hgq, htk, hiq, hdn, hpq⟩ := hy
    simp only at hk hgq htk hiq hdn hpq
    have hql : q.length ≤ 4300000 := Nat.le_trans (pot_len l q) (Nat.le_trans hgq.le hB)
    simp only [go_sem]
    refine w0_0 ?_
    refine cnd rfl (fun h2 => ?_) (fun h2 => ?_)
    ·simp only [decide_eq_true_eq, Int.ofNat_lt] at h2
     have hqi : o[i] ∈ q := by rw [← htk] at hoi; exact List.mem_of_mem_take hoi
     have hll1 : q.length + 1 ≤ 140737488355328 := by omega
     have hll2 : (q.length + 1) * 16 ≤ 140737488355328 := by omega
     repeat' (with_reducible first | refine nY ?_ | (refine mX ?_; try simp only [go_sem, h2]) | refine kO ?_ (by decide) | refine regd (by kernel_rfl) ?_ | (refine cale (containsS_ok q L[k] hql) ?_ ?_ ?_ (uX ?_); (focus simp only [go_sem, h2]; done); (focus simp only [go_sem, h2]; done); (focus simp only [go_sem, h2]; done)) | (refine And.intro ?_ ?_; focus omega))
     refine cnd (b := !hasS q L[k]) rfl (fun hv => ?_) (fun hv => ?_)
     ·have hm : ¬ L[k] ∈ q := fun hm => by rw [(hasS_mem q L[k]).2 hm] at hv; cases hv
      have q0 := @h2; refine w1_0 ?_
      refine L_next (k + 1, q ++ [L[k]]) ?_ ?_ ?_
      ·simp only [go_sem, List.map_append]; simp
      ·refine ⟨h2, hgq.add hqi (by rw [hL]; exact List.getElem_mem h2) hm, ?_, by simp; omega, fun z hz => ?_, fun z hz y' hy' => List.mem_append_left _ (hpq z hz y' hy')⟩
       ·rw [List.take_append_of_le_length (by omega)]; exact htk
       ·rw [List.take_succ_eq_append_getElem h2] at hz
        rcases List.mem_append.1 hz with hz | hz
        ·exact List.mem_append_left _ (hdn z hz)
        ·exact List.mem_append_right _ hz
      ·simp only; omega
     ·have hm : L[k] ∈ q := (hasS_mem q L[k]).1 (by simpa using hv)
      have q0 := @h2; refine w1_0 ?_
      refine L_next (k + 1, q) ?_ ?_ ?_
      ·simp only [go_sem]; simp
      ·refine ⟨h2, hgq, htk, hiq, fun z hz => ?_, hpq⟩
       rw [List.take_succ_eq_append_getElem h2] at hz
       rcases List.mem_append.1 hz with hz | hz
       ·exact hdn z hz
       ·simp only [List.mem_singleton] at hz; subst hz; exact hm
      ·simp only; omega
    ·simp only [decide_eq_false_iff_not] at h2
     have e : k = L.length := by omega
     subst e
     rw [List.take_length] at hdn
     refine w0_0 ?_
     refine L_next (i + 1, q) ?_ ?_ ?_
     ·simp only [go_sem]; simp
     ·refine ⟨hiq, hgq, fun z hz y' hy' => ?_⟩
      simp only at hz
      rw [htk, List.take_succ_eq_append_getElem h1] at hz
      rcases List.mem_append.1 hz with hz | hz
      ·exact hpq z hz y' hy'
      ·simp only [List.mem_singleton] at hz; subst hz; rw [hL] at hy'; exact hdn y' hy'
     ·simp only; omega
  ·simp only [decide_eq_false_iff_not] at h1
   have e : i = o.length := by omega
   subst e
   rw [List.take_length] at hp
   have hd := hg.done hp
   refine w0_1 (sortedOnce_ok o hol) ?_
   exact retK_ret ⟨⟨_, rfl, by simp only [go_sem, hd]⟩, trivial⟩
theorem specTD_ok (l : List TDir) (names : List ByteArray) (h : wDirS l ≤ 4300000) (hB : pot l names ≤ 4300000) : FnC Tryz.prog 135 [.o (.d (.sl (l.map encDir))), .o (.d (.sl (names.map encS)))] (.o (.w 9 1 ((tdS l names).map encS))) := by
 have hl : l.length ≤ 4300000 := by unfold wDirS at h; omega
 have hnl : names.length ≤ 4300000 := Nat.le_trans (pot_len l names) hB
 refine ent Tryz.func135 rfl Tryz.call135 rfl (fun C => ?_); simp only [go_sem, st0, Tryz.ntmps135]
 refine w0_0 ?_
 refine WP_frzd 5 0 rfl rfl ?_
 simp only [go_sem]
 refine WP_lp (α := Nat) (fun k => [(5, .o (.d (.sl ((putL (names.take k)).map encS)))), (6, oi k)]) (fun _ => []) (fun k => k ≤ names.length) (fun k => names.length - k) 0 (fun _ => ?_) ?_ ?_ (fun k hk => ?_)
 ·simp only [go_sem]
 ·simp only [go_sem]; simp [putL]
 ·simp
 ·simp only [go_sem]
  refine w0_0 ?_
  have hlen : (putL (names.take k)).length ≤ 4300000 := by have h1 := putL_len (names.take k); simp at h1; omega
  refine cnd rfl (fun h1 => ?_) (fun h1 => ?_)
  ·simp only [decide_eq_true_eq, Int.ofNat_lt] at h1
   have ht := putL_app (names.take k) names[k]
   rw [← List.take_succ_eq_append_getElem h1] at ht
   have q0 := @h1; refine w1_1 (l04Put_ok (putL (names.take k)) names[k] hlen) ?_
   refine L_next (k + 1) ?_ ?_ ?_
   ·simp only [go_sem, ht]; simp
   ·omega
   ·omega
  ·simp only [decide_eq_false_iff_not] at h1
   have e : k = names.length := by omega
   subst e
   rw [List.take_length] at *
   refine w0_0 ?_
   refine WP_lp (α := Nat) (fun r => [(5, .o (.d (.sl ((roundsD l names r).map encS)))), (7, oi r)]) (fun _ => []) (fun r => r ≤ l.length + 1) (fun r => l.length + 1 - r) 0 (fun _ => ?_) ?_ ?_ (fun r hr => ?_)
   ·simp only [go_sem]
   ·simp only [go_sem]; simp [roundsD, rounds]
   ·simp
   ·simp only [go_sem]
    refine w0_0 ?_
    have hokR := okS_rounds l names r
    have hRl := Nat.le_trans (okS_len hokR) hB
    refine cnd rfl (fun h2 => ?_) (fun h2 => ?_)
    ·simp only [decide_eq_true_eq, Int.ofNat_le] at h2
     refine w0_0 ?_
     refine WP_lp (α := Nat) (fun i => [(5, .o (.d (.sl ((round putS (eD (l.take i)) (roundsD l names r)).map encS)))), (8, oi i)]) (fun _ => []) (fun i => i ≤ l.length) (fun i => l.length - i) 0 (fun _ => ?_) ?_ ?_ (fun i hi => ?_)
     ·simp only [go_sem]
     ·simp only [go_sem]; simp [round, eD]
     ·simp
     ·simp only [go_sem]
      refine w0_0 ?_
      have hokI := okS_round l (pot l names) i _ hokR
      refine cnd rfl (fun h3 => ?_) (fun h3 => ?_)
      ·simp only [decide_eq_true_eq, Int.ofNat_lt] at h3
       have ht := round_take l (roundsD l names r) i h3
       have hq := dir_w l i h3
       have hqb := qD_len l[i].fQuery
       have hqc := putL_len (qD l[i].fQuery)
       generalize round putS (eD (l.take i)) (roundsD l names r) = O at *
       have q0 := @h3; refine w1_1 (specQDd_ok l[i].fQuery (by omega)) ?_
       generalize putL (qD l[i].fQuery) = Q at *
       refine WP_lp (α := Nat) (fun k => [(5, .o (.d (.sl ((askC putS l[i].fName O (Q.take k)).map encS)))), (10, oi k)]) (fun _ => []) (fun k => k ≤ Q.length) (fun k => Q.length - k) 0 (fun _ => ?_) ?_ ?_ (fun k hk => ?_)
       ·simp only [go_sem]
       ·simp only [go_sem]; simp [askC]
       ·simp
       ·simp only [go_sem]
        refine w0_0 ?_
        have hokA := okS_ask l (pot l names) l[i] (List.getElem_mem h3) (Q.take k) O hokI
        have hAl := Nat.le_trans (okS_len hokA) hB
        refine cnd rfl (fun h4 => ?_) (fun h4 => ?_)
        ·simp only [decide_eq_true_eq, Int.ofNat_lt] at h4
         have hin := ask_in l[i].fName O Q k h4
         have hout := ask_out l[i].fName O Q k h4
         generalize askC putS l[i].fName O (Q.take k) = A at *
         have q0 := @h3; have q1 := @h4; refine w2_1 (l12Has_ok A Q[k] hAl) ?_
         refine cnd (b := hasS A Q[k]) rfl (fun hv => ?_) (fun hv => ?_)
         ·have hin := hin ((hasS_mem A Q[k]).1 hv)
          have q0 := @h3; have q1 := @h4; refine w2_1 (l04Put_ok A l[i].fName hAl) ?_
          refine L_next (k + 1) ?_ ?_ ?_
          ·simp only [go_sem, hin]; simp
          ·omega
          ·omega
         ·have hout := hout (fun hm => by rw [(hasS_mem A Q[k]).2 hm] at hv; cases hv)
          have q0 := @h3; have q1 := @h4; refine w2_0 ?_
          refine L_next (k + 1) ?_ ?_ ?_
          ·simp only [go_sem, hout]; simp
          ·omega
          ·omega
        ·simp only [decide_eq_false_iff_not] at h4
         have e : k = Q.length := by omega
         subst e
         rw [List.take_length] at *
         refine w0_0 ?_
         refine L_next (i + 1) ?_ ?_ ?_
         ·simp only [go_sem, ht]; simp
         ·omega
         ·omega
      ·simp only [decide_eq_false_iff_not] at h3
       have e : i = l.length := by omega
       subst e
       rw [List.take_length] at *
       refine w0_0 ?_
       refine L_next (r + 1) ?_ ?_ ?_
       ·simp only [go_sem]; simp [roundsD, rounds]
       ·omega
       ·omega
    ·simp only [decide_eq_false_iff_not] at h2
     have e : r = l.length + 1 := by omega
     subst e
     refine w0_0 ?_
     exact retK_ret ⟨⟨_, rfl, by simp only [go_sem, tdS]⟩, trivial⟩
theorem pot_filter (l : List TDir) (p : TDir → Bool) (S : List ByteArray) (hS : ∀ d ∈ l, p d = true → d.fName ∈ S) : wsm wS ((l.filter p).map TDir.fName) + unseen wS (eD l) S ≤ wDirS l := by
 unfold wDirS
 induction l with
 | nil => simp [wsm, eD, unseen, wsum]
 | cons d l ih =>
  have ih := ih fun d' hd' => hS d' (List.mem_cons_of_mem _ hd')
  have e : wDir d = d.fName.size + wNodeS d.fQuery := rfl
  have ee : wS d.fName = 1 + d.fName.size := rfl
  simp only [eD, List.map_cons, unseen, List.filter_cons, List.length_cons, wsum] at ih ⊢
  cases hp : p d with
  | true =>
   have hm := hS d List.mem_cons_self hp
   simp only [hm, if_true, List.map_cons, wsm]; omega
  | false =>
   simp only [Bool.false_eq_true, if_false]
   split <;> omega
theorem pot_affD (a b : TFile) (l : List TDir) : pot l (affD a b l) ≤ wDirS l := by
 have hgen : ∀ p : TDir → Bool, pot l ((l.filter p).map TDir.fName) ≤ wDirS l := fun p => pot_filter l p _ fun d hd hp => List.mem_map.2 ⟨d, List.mem_filter.2 ⟨hd, hp⟩, rfl⟩
 unfold affD
 split
 ·exact hgen _
 ·have := hgen (fun _ => true)
  rw [List.filter_eq_self.2 (by simp)] at this
  exact this
theorem tdS_w (l : List TDir) (names : List ByteArray) : wStringS (tdS l names) ≤ pot l names := by
 have h := (okS_rounds l names (l.length + 1)).2
 unfold tdS
 rw [← wsm_eq]
 unfold pot at *
 omega
def affA (a b : TFile) (l : List TDir) : List ByteArray := tdS l (affD a b l)
theorem affA_w (a b : TFile) (l : List TDir) : wStringS (affA a b l) ≤ wDirS l := Nat.le_trans (tdS_w l _) (pot_affD a b l)
theorem implAff_ok (l : List TDir) (a b : TFile) (h : wDirS l + (wFile a + wFile b) ≤ 4300000) : FnC Tryz.prog 131 [.o (.d (.sl (l.map encDir))), gFile a, gFile b] (.o (.w 9 1 ((affA a b l).map encS))) := by
 have hp := pot_affD a b l
 refine ent Tryz.func131 rfl Tryz.call131 rfl (fun C => ?_); simp only [go_sem, st0, Tryz.ntmps131]
 refine w0_2 (implDirectd_ok l a b h) (implTD_ok l (affD a b l) (by omega) (by omega)) ?_
 exact retK_ret ⟨⟨_, rfl, by simp only [go_sem, affA]⟩, trivial⟩
theorem specAff_ok (l : List TDir) (a b : TFile) (h : wDirS l + (wFile a + wFile b) ≤ 4300000) : FnC Tryz.prog 129 [.o (.d (.sl (l.map encDir))), gFile a, gFile b] (.o (.w 9 1 ((affA a b l).map encS))) := by
 have hp := pot_affD a b l
 refine ent Tryz.func129 rfl Tryz.call129 rfl (fun C => ?_); simp only [go_sem, st0, Tryz.ntmps129]
 refine w0_2 (specDirectd_ok l a b h) (specTD_ok l (affD a b l) (by omega) (by omega)) ?_
 exact retK_ret ⟨⟨_, rfl, by simp only [go_sem, affA]⟩, trivial⟩
end Go.Proofs.YtddimbdeggomaaaGreat
end
