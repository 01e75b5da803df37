/-
  What a query asks grows with what it names above no negation, and leans on what stays for the rest.
-/
import Derived.Test.YtgglopecipbbfaaGreatQ4Neg
import Derived.Test.YtgglopecipbbfaaGreatK7Match
set_option linter.all false
set_option maxRecDepth 100000
set_option maxHeartbeats 4000000
namespace Go.Proofs.YtgglopecipbbfaaGreat

theorem refs_two (q : List TNode) (x : Int) (i j : Nat) (hi : i < q.length) (hj : j < q.length) (hne : i ≠ j) : ref1 q[i] x + ref1 q[j] x ≤ refs q x := by
  induction q generalizing i j with
  | nil => simp at hi
  | cons n q ih =>
    have one : ∀ (q : List TNode) (m : Nat) (h : m < q.length), ref1 q[m] x ≤ refs q x := by
      intro q
      induction q with
      | nil => intro m h; simp at h
      | cons n q ih =>
        intro m h
        cases m with
        | zero => simp only [List.getElem_cons_zero, refs]; omega
        | succ m => have := ih m (by simpa using h); simp only [List.getElem_cons_succ, refs]; omega
    cases i with
    | zero =>
      cases j with
      | zero => exact (hne rfl).elim
      | succ j => have := one q j (by simpa using hj); simp only [List.getElem_cons_zero, List.getElem_cons_succ, refs]; omega
    | succ i =>
      cases j with
      | zero => have := one q i (by simpa using hi); simp only [List.getElem_cons_zero, List.getElem_cons_succ, refs]; omega
      | succ j =>
        have := ih i j (by simpa using hi) (by simpa using hj) (by omega)
        simp only [List.getElem_cons_succ, refs]; omega
theorem okQ_refs {q : List TNode} (h : okQ q = true) (l : Nat) (hl : l + 1 < q.length) : refs q l = 1 := by
  unfold okQ at h
  simp only [Bool.and_eq_true, List.all_eq_true, List.mem_range] at h
  have := h.1 l (by omega)
  unfold okAt at this
  rw [List.getElem?_eq_getElem (by omega)] at this
  simp only [Bool.and_eq_true, Bool.or_eq_true, decide_eq_true_eq] at this
  rcases this.2 with h | h
  · omega
  · exact h
def nb (L : List Bool) (i : Nat) : Bool := L.getD i false
theorem nb_set (L : List Bool) (l : Nat) (v : Bool) (x : Nat) (h : l < L.length) : nb (L.set l v) x = if x = l then v else nb L x := by
  unfold nb
  simp only [List.getD_eq_getElem?_getD, List.getElem?_set]
  by_cases e : l = x
  · subst e; simp [h]
  · rw [if_neg e, if_neg (fun e' => e e'.symm)]
/-- A step leaves alone what its node does not refer to. -/
theorem negStep_other {q : List TNode} (hq : okQ q = true) {i : Nat} (hi : i < q.length) {L : List Bool} (hL : L.length = q.length) {x : Nat} (hx : ref1 q[i] x = 0) : nb (negStep q i L) x = nb L x := by
  have hok := okQ_at hq (List.getElem?_eq_getElem hi)
  by_cases h5 : q[i].fOp = 5
  · obtain ⟨l, hl, hli⟩ := okNode_left hok (.inl h5)
    rw [negStep5 hi L h5 hl, nb_set _ _ _ _ (by omega)]
    split
    · rename_i e; subst e; simp [ref1, two, h5, hl] at hx
    · rfl
  by_cases h67 : q[i].fOp = 6 ∨ q[i].fOp = 7
  · obtain ⟨l, hl, hli⟩ := okNode_left hok (.inr h67)
    obtain ⟨m, hm, hmi⟩ := okNode_right hok h67
    have ht : two q[i] = true := by unfold two; rcases h67 with h | h <;> simp [h]
    rw [negStep67 hi L (by omega) h5 h67 hl hm, nb_set _ _ _ _ (by simp; omega), nb_set _ _ _ _ (by omega)]
    split
    · rename_i e; subst e; simp [ref1, ht, hm] at hx
    · split
      · rename_i e; subst e; simp [ref1, ht, hl] at hx
      · rfl
  · rw [negStepNo hi L h5 h67]
def negS (q : List TNode) (m : Nat) : List Bool := negJ q (q.length - m)
theorem negS_len (q : List TNode) (m : Nat) : (negS q m).length = q.length := negJ_len q _
theorem negS_step (q : List TNode) (i : Nat) (h : i < q.length) : negS q i = negStep q i (negS q (i + 1)) := negJ_step q i h
theorem ref1_le {q : List TNode} (hq : okQ q = true) {i : Nat} (hi : i < q.length) {x : Nat} (hx : i ≤ x) : ref1 q[i] x = 0 := by
  have hok := okQ_at hq (List.getElem?_eq_getElem hi)
  unfold ref1
  have a : (if (two q[i] || decide (q[i].fOp = 5)) && decide (q[i].fLeft = (x : Int)) then 1 else 0) = 0 := by
    split
    · rename_i h
      simp only [Bool.and_eq_true, Bool.or_eq_true, decide_eq_true_eq] at h
      obtain ⟨l, hl, hli⟩ := okNode_left hok (by unfold two at h; simp only [Bool.or_eq_true, decide_eq_true_eq] at h; omega)
      omega
    · rfl
  have b : (if two q[i] && decide (q[i].fRight = (x : Int)) then 1 else 0) = 0 := by
    split
    · rename_i h
      simp only [Bool.and_eq_true, decide_eq_true_eq] at h
      obtain ⟨l, hl, hli⟩ := okNode_right hok (by unfold two at h; simp only [Bool.or_eq_true, decide_eq_true_eq] at h; omega)
      omega
    · rfl
  omega
/-- From one step on nothing changes below, if no node between refers to it. -/
theorem negS_keep {q : List TNode} (hq : okQ q = true) {x : Nat} : ∀ (k m : Nat), m + k ≤ q.length → (∀ j, (hj : j < q.length) → m ≤ j → j < m + k → ref1 q[j] x = 0) → nb (negS q m) x = nb (negS q (m + k)) x
  | 0, m, _, _ => rfl
  | k + 1, m, h, hr => by
    have hm : m < q.length := by omega
    rw [negS_step q m hm, negStep_other hq hm (negS_len q (m + 1)) (hr m hm (by omega) (by omega)), negS_keep hq k (m + 1) (by omega) (fun j hj h1 h2 => hr j hj (by omega) (by omega))]
    congr 2; omega
theorem negs_at {q : List TNode} (hq : okQ q = true) (x : Nat) (hx : x < q.length) : nb (negs q) x = nb (negS q (x + 1)) x := by
  have := negS_keep hq (x := x) (x + 1) 0 (by omega) (fun j hj _ h2 => ref1_le hq hj (by omega))
  simpa [negS, negs] using this
/-- What a node hands down to what it refers to. -/
theorem negs_child {q : List TNode} (hq : okQ q = true) {i l : Nat} (hi : i < q.length) (hl : l < i) (hr : 1 ≤ ref1 q[i] l) : nb (negs q) l = nb (negStep q i (negS q (i + 1))) l := by
  rw [negs_at hq l (by omega), ← negS_step q i hi]
  have h1 := okQ_refs hq l (by omega)
  have := negS_keep hq (x := l) (i - (l + 1)) (l + 1) (by omega) (fun j hj h1' h2 => by
    have := refs_two q l i j hi hj (by omega)
    omega)
  rw [this]
  congr 2; omega
theorem negs_not {q : List TNode} (hq : okQ q = true) {i l : Nat} (hi : i < q.length) (h5 : q[i].fOp = 5) (hl : q[i].fLeft = (l : Int)) (hli : l < i) : nb (negs q) l = true := by
  rw [negs_child hq hi hli (by simp [ref1, h5, hl]), negStep5 hi _ h5 hl, nb_set _ _ _ _ (by rw [negS_len]; omega), if_pos rfl]
theorem negs_two {q : List TNode} (hq : okQ q = true) {i l m : Nat} (hi : i < q.length) (h67 : q[i].fOp = 6 ∨ q[i].fOp = 7) (hl : q[i].fLeft = (l : Int)) (hm : q[i].fRight = (m : Int)) (hli : l < i) (hmi : m < i) : nb (negs q) l = nb (negs q) i ∧ nb (negs q) m = nb (negs q) i := by
  have ht : two q[i] = true := by unfold two; rcases h67 with h | h <;> simp [h]
  have h5 : ¬ q[i].fOp = 5 := by omega
  have hL := negS_len q (i + 1)
  have e := negs_at hq i hi
  have g : (negS q (i + 1))[i]'(by omega) = nb (negs q) i := by
    rw [e]; simp [nb, List.getD_eq_getElem?_getD, hL, hi]
  rw [negs_child hq hi hli (by simp [ref1, ht, hl]), negs_child hq hi hmi (by simp [ref1, ht, hm]), negStep67 hi _ (by omega) h5 h67 hl hm]
  rw [nb_set _ m _ l (by rw [List.length_set]; omega), nb_set _ l _ l (by omega), nb_set _ m _ m (by rw [List.length_set]; omega), g]
  simp
/-- Results that grow where no negation stands above, and stay where one does. -/
theorem mt_mono {q : List TNode} (hq : okQ q = true) {f : TFile} {r r' : List TResult}
    (hP : ∀ i, (hi : i < q.length) → (q[i].fOp = 8 ∨ q[i].fOp = 9) → nb (negs q) i = false → ∀ x, hasI (resIDs q[i].fName r) x = true → hasI (resIDs q[i].fName r') x = true)
    (hN : ∀ i, (hi : i < q.length) → (q[i].fOp = 8 ∨ q[i].fOp = 9) → nb (negs q) i = true → ∀ x, hasI (resIDs q[i].fName r) x = hasI (resIDs q[i].fName r') x) :
    ∀ (k i : Nat), i < k → i < q.length → (nb (negs q) i = true → mt q f r k i = mt q f r' k i) ∧ (nb (negs q) i = false → mt q f r k i = true → mt q f r' k i = true)
  | 0, i, h, _ => by omega
  | k + 1, i, h, hi => by
    have hn := List.getElem?_eq_getElem hi
    have hok := okQ_at hq hn
    have ih := mt_mono hq (f := f) hP hN k
    by_cases h1 : q[i].fOp = 1
    · simp [mt, hn, h1]
    by_cases h2 : q[i].fOp = 2
    · simp [mt, hn, h2]
    by_cases h3 : q[i].fOp = 3
    · simp [mt, hn, h3]
    by_cases h4 : q[i].fOp = 4
    · simp [mt, hn, h4]
    by_cases h5 : q[i].fOp = 5
    · obtain ⟨l, hl, hli⟩ := okNode_left hok (.inl h5)
      have := (ih l (by omega) (by omega)).1 (negs_not hq hi h5 hl hli)
      have e : mt q f r (k + 1) i = mt q f r' (k + 1) i := by simp [mt, hn, h5, hl, this]
      exact ⟨fun _ => e, fun _ h => by rw [← e]; exact h⟩
    by_cases h67 : q[i].fOp = 6 ∨ q[i].fOp = 7
    · obtain ⟨l, hl, hli⟩ := okNode_left hok (.inr h67)
      obtain ⟨m, hm, hmi⟩ := okNode_right hok h67
      obtain ⟨n1, n2⟩ := negs_two hq hi h67 hl hm hli hmi
      have a := ih l (by omega) (by omega)
      have b := ih m (by omega) (by omega)
      rw [n1] at a
      rw [n2] at b
      refine ⟨fun hx => ?_, fun hx hm2 => ?_⟩
      · have a1 := a.1 hx
        have b1 := b.1 hx
        rcases h67 with h6 | h7
        · simp [mt, hn, h6, hl, hm, a1, b1]
        · simp [mt, hn, h7, hl, hm, a1, b1]
      · have a1 := a.2 hx
        have b1 := b.2 hx
        rcases h67 with h6 | h7
        · simp [mt, hn, h6, hl, hm] at hm2 ⊢
          exact ⟨a1 hm2.1, b1 hm2.2⟩
        · simp [mt, hn, h7, hl, hm] at hm2 ⊢
          exact hm2.imp a1 b1
    have h6 : ¬ q[i].fOp = 6 := fun h => h67 (.inl h)
    have h7 : ¬ q[i].fOp = 7 := fun h => h67 (.inr h)
    have hop := okNode_op hok
    have h89 : q[i].fOp = 8 ∨ q[i].fOp = 9 := by omega
    refine ⟨fun hx => ?_, fun hx hm2 => ?_⟩
    · have e := hN i hi h89 hx
      rcases h89 with h8 | h9
      · simp [mt, hn, h8, e]
      · simp [mt, hn, h9, e]
    · have e := hP i hi h89 hx
      rcases h89 with h8 | h9
      · simp [mt, hn, h8] at hm2 ⊢
        exact e _ hm2
      · simp [mt, hn, h9] at hm2 ⊢
        exact ⟨hm2.1, e _ hm2.2⟩
end Go.Proofs.YtgglopecipbbfaaGreat
