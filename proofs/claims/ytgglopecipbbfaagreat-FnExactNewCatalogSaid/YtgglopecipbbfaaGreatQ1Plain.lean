/-
  Levels: what is closed under edges, the least such levels; in plain Lean.
-/
import Derived.Test.YtgglopecipbbfaaGreatH2
set_option linter.all false
set_option maxRecDepth 100000
set_option maxHeartbeats 4000000
namespace Go.Proofs.YtgglopecipbbfaaGreat

def lv (L : List Nat) (i : Nat) : Nat := L.getD i 0
structure Clo (n : Nat) (E : Nat → Nat → Nat → Prop) (F : List Nat) : Prop where
  len : F.length = n
  le : ∀ i k w, E i k w → lv F k + w ≤ lv F i
structure Edges (n : Nat) (E : Nat → Nat → Nat → Prop) : Prop where
  ok : ∀ i k w, E i k w → i < n ∧ k < n ∧ w ≤ 1
structure Least (n : Nat) (E : Nat → Nat → Nat → Prop) (L : List Nat) : Prop where
  clo : Clo n E L
  le : ∀ F, Clo n E F → ∀ i, lv L i ≤ lv F i
theorem lv_ext {L M : List Nat} (h : L.length = M.length) (hi : ∀ i, lv L i = lv M i) : L = M := by
  apply List.ext_getElem h
  intro i h1 h2
  have := hi i
  simpa [lv, List.getD_eq_getElem?_getD, h1, h2] using this
theorem least_unique {n : Nat} {E : Nat → Nat → Nat → Prop} {L M : List Nat} (h : Least n E L) (k : Least n E M) : L = M :=
  lv_ext (by rw [h.clo.len, k.clo.len]) fun i => Nat.le_antisymm (h.le M k.clo i) (k.le L h.clo i)
open Classical in
noncomputable def levs (n : Nat) (E : Nat → Nat → Nat → Prop) : List Nat := if h : ∃ L, Least n E L then h.choose else []
theorem levs_eq {n : Nat} {E : Nat → Nat → Nat → Prop} {L : List Nat} (h : Least n E L) : levs n E = L := by
  have he : ∃ L, Least n E L := ⟨L, h⟩
  unfold levs
  rw [dif_pos he]
  exact least_unique he.choose_spec h
theorem levs_no {n : Nat} {E : Nat → Nat → Nat → Prop} (h : ¬ ∃ F, Clo n E F) : levs n E = [] := by
  unfold levs
  rw [dif_neg (fun ⟨L, hL⟩ => h ⟨L, hL.clo⟩)]
open Classical in
noncomputable def strat (n : Nat) (E : Nat → Nat → Nat → Prop) : Bool := if ∃ F, Clo n E F then true else false
theorem strat_yes {n : Nat} {E : Nat → Nat → Nat → Prop} {L : List Nat} (h : Clo n E L) : strat n E = true := by
  unfold strat; rw [if_pos ⟨L, h⟩]
theorem strat_no {n : Nat} {E : Nat → Nat → Nat → Prop} (h : ¬ ∃ F, Clo n E F) : strat n E = false := by
  unfold strat; rw [if_neg h]
/-- Ranks instead of levels: as closed, and small. -/
theorem clo_small {n : Nat} {E : Nat → Nat → Nat → Prop} (hE : Edges n E) {F : List Nat} (h : Clo n E F) : ∃ G, Clo n E G ∧ ∀ i, i < n → lv G i < n := by
  let r (i : Nat) : Nat := ((List.range n).filter fun j => decide (lv F j < lv F i)).length
  have hr : ∀ i, i < n → lv ((List.range n).map r) i = r i := fun i hi => by simp [lv, List.getD_eq_getElem?_getD, hi]
  have sub : ∀ (p q : Nat → Bool) (l : List Nat), (∀ j, p j = true → q j = true) → (l.filter p).length ≤ (l.filter q).length := by
    intro p q l hpq
    induction l with
    | nil => simp
    | cons x l ih =>
      simp only [List.filter_cons]
      cases hp : p x
      · cases hq : q x <;> simp <;> omega
      · rw [hpq x hp]; simpa using ih
  have sub1 : ∀ (p q : Nat → Bool) (l : List Nat) (x : Nat), x ∈ l → (∀ j, p j = true → q j = true) → p x = false → q x = true → (l.filter p).length < (l.filter q).length := by
    intro p q l x hx hpq hp hq
    induction l with
    | nil => simp at hx
    | cons y l ih =>
      simp only [List.filter_cons]
      rcases List.mem_cons.1 hx with rfl | hx
      · rw [hp, hq]
        have := sub p q l hpq
        simp
        omega
      · have := ih hx
        cases hp' : p y
        · cases hq' : q y <;> simp <;> omega
        · rw [hpq y hp']; simpa using this
  refine ⟨(List.range n).map r, ⟨by simp, fun i k w he => ?_⟩, fun i hi => ?_⟩
  · obtain ⟨hi, hk, hw⟩ := hE.ok i k w he
    rw [hr i hi, hr k hk]
    have hle := h.le i k w he
    rcases Nat.lt_or_ge w 1 with hw0 | hw1
    · have hw' : w = 0 := by omega
      subst hw'
      exact sub _ _ _ fun j hj => by simp only [decide_eq_true_eq] at hj ⊢; omega
    · have hw' : w = 1 := by omega
      subst hw'
      exact sub1 _ _ _ k (List.mem_range.2 hk) (fun j hj => by simp only [decide_eq_true_eq] at hj ⊢; omega) (by simp) (by simp only [decide_eq_true_eq]; omega)
  · rw [hr i hi]
    have := sub1 (fun j => decide (lv F j < lv F i)) (fun _ => true) (List.range n) i (List.mem_range.2 hi) (fun _ _ => rfl) (by simp) rfl
    rw [List.filter_eq_self.2 (fun _ _ => rfl), List.length_range] at this
    exact this
/-! sums -/
theorem lv_set (L : List Nat) (i v j : Nat) (h : i < L.length) : lv (L.set i v) j = if j = i then v else lv L j := by
  unfold lv
  simp only [List.getD_eq_getElem?_getD, List.getElem?_set]
  by_cases e : i = j
  · subst e; simp [h]
  · rw [if_neg e, if_neg (fun e' => e e'.symm)]
def sumN : List Nat → Nat
  | [] => 0
  | x :: l => x + sumN l
theorem sumN_set (L : List Nat) (i v : Nat) (h : i < L.length) : sumN (L.set i v) + lv L i = sumN L + v := by
  induction L generalizing i with
  | nil => simp at h
  | cons x l ih =>
    cases i with
    | zero => simp [sumN, lv]; omega
    | succ i =>
      have := ih i (by simpa using h)
      simp only [List.set_cons_succ, sumN, lv, List.getD_cons_succ] at this ⊢
      omega
theorem sumN_le (L : List Nat) (c : Nat) (h : ∀ i, i < L.length → lv L i ≤ c) : sumN L ≤ L.length * c := by
  induction L with
  | nil => simp [sumN]
  | cons x l ih =>
    have h0 : x ≤ c := by simpa [lv] using h 0 (by simp)
    have h1 := ih fun i hi => by simpa [lv] using h (i + 1) (by simpa using hi)
    simp only [sumN, List.length_cons, Nat.succ_mul]
    omega
theorem lv_rep (n i : Nat) : lv (List.replicate n 0) i = 0 := by
  simp only [lv, List.getD_eq_getElem?_getD, List.getElem?_replicate]
  split <;> rfl
/-! one edge after the other (the reference's way) -/
def up1 (i k w : Nat) (L : List Nat) : List Nat := if lv L k + w > lv L i then L.set i (lv L k + w) else L
theorem up1_len (i k w : Nat) (L : List Nat) : (up1 i k w L).length = L.length := by unfold up1; split <;> simp
theorem up1_grow (i k w : Nat) (L : List Nat) (h : i < L.length) : up1 i k w L = L ∨ sumN L < sumN (up1 i k w L) := by
  unfold up1
  split
  · rename_i hc
    have := sumN_set L i (lv L k + w) h
    right; omega
  · exact .inl rfl
theorem up1_same {i k w : Nat} {L : List Nat} (hl : i < L.length) (h : up1 i k w L = L) : lv L k + w ≤ lv L i := by
  apply Classical.byContradiction
  intro hn
  have hc : lv L k + w > lv L i := by omega
  unfold up1 at h
  rw [if_pos hc] at h
  have := lv_set L i (lv L k + w) i hl
  rw [h, if_pos rfl] at this
  omega
theorem up1_below {n : Nat} {E : Nat → Nat → Nat → Prop} {F : List Nat} (hF : Clo n E F) {i k w : Nat} (he : E i k w) {L : List Nat} (hl : i < L.length) (h : ∀ j, lv L j ≤ lv F j) : ∀ j, lv (up1 i k w L) j ≤ lv F j := by
  intro j
  unfold up1
  split
  · rw [lv_set L i _ j hl]
    split
    · rename_i e; subst e
      have := hF.le j k w he
      have := h k
      omega
    · exact h j
  · exact h j
theorem up1_bound {i k w : Nat} {L : List Nat} {B : Nat} (hl : i < L.length) (hw : w ≤ 1) (h : ∀ j, lv L j ≤ B) : ∀ j, lv (up1 i k w L) j ≤ B + 1 := by
  intro j
  unfold up1
  split
  · rw [lv_set L i _ j hl]
    split
    · have := h k; omega
    · have := h j; omega
  · have := h j; omega
/-- A list of edges, one behind the other. -/
def ups : List (Nat × Nat × Nat) → List Nat → List Nat
  | [], L => L
  | (i, k, w) :: l, L => ups l (up1 i k w L)
theorem ups_app (l m : List (Nat × Nat × Nat)) (L : List Nat) : ups (l ++ m) L = ups m (ups l L) := by
  induction l generalizing L with
  | nil => rfl
  | cons x l ih => obtain ⟨i, k, w⟩ := x; simp only [List.cons_append, ups, ih]
theorem ups_len (l : List (Nat × Nat × Nat)) (L : List Nat) : (ups l L).length = L.length := by
  induction l generalizing L with
  | nil => rfl
  | cons x l ih => obtain ⟨i, k, w⟩ := x; simp only [ups, ih, up1_len]
theorem ups_grow : ∀ (l : List (Nat × Nat × Nat)) (L : List Nat), (∀ x ∈ l, x.1 < L.length) → (ups l L = L ∧ ∀ x ∈ l, up1 x.1 x.2.1 x.2.2 L = L) ∨ sumN L < sumN (ups l L)
  | [], L, _ => .inl ⟨rfl, fun x h => by simp at h⟩
  | (i, k, w) :: l, L, h => by
    have hi := h (i, k, w) (by simp)
    have hl := ups_grow l (up1 i k w L) fun x hx => by rw [up1_len]; exact h x (by simp [hx])
    simp only [ups]
    rcases up1_grow i k w L hi with e | g
    · rw [e] at hl ⊢
      rcases hl with ⟨h1, h2⟩ | h1
      · refine .inl ⟨h1, fun x hx => ?_⟩
        rcases List.mem_cons.1 hx with rfl | hx
        · exact e
        · exact h2 x hx
      · exact .inr h1
    · rcases hl with ⟨h1, _⟩ | h1
      · rw [h1]; exact .inr g
      · exact .inr (by omega)
theorem ups_below {n : Nat} {E : Nat → Nat → Nat → Prop} {F : List Nat} (hE : Edges n E) (hF : Clo n E F) : ∀ (l : List (Nat × Nat × Nat)) (L : List Nat), L.length = n → (∀ x ∈ l, E x.1 x.2.1 x.2.2) → (∀ j, lv L j ≤ lv F j) → ∀ j, lv (ups l L) j ≤ lv F j
  | [], L, _, _, h => h
  | (i, k, w) :: l, L, hl, he, h => by
    have e := he (i, k, w) (by simp)
    exact ups_below hE hF l _ (by rw [up1_len]; exact hl) (fun x hx => he x (by simp [hx])) (up1_below hF e (by rw [hl]; exact (hE.ok _ _ _ e).1) h)
theorem ups_bound : ∀ (l : List (Nat × Nat × Nat)) (L : List Nat) (B : Nat), (∀ x ∈ l, x.1 < L.length ∧ x.2.2 ≤ 1) → (∀ j, lv L j ≤ B) → ∀ j, lv (ups l L) j ≤ B + l.length
  | [], L, B, _, h => h
  | (i, k, w) :: l, L, B, hx, h => by
    have e := hx (i, k, w) (by simp)
    have := ups_bound l (up1 i k w L) (B + 1) (fun x hx' => by rw [up1_len]; exact hx x (by simp [hx'])) (up1_bound e.1 e.2 h)
    intro j
    have := this j
    simp only [ups, List.length_cons]
    omega
/-- So many rounds. -/
def upsN (l : List (Nat × Nat × Nat)) : Nat → List Nat → List Nat
  | 0, L => L
  | r + 1, L => ups l (upsN l r L)
theorem upsN_len (l : List (Nat × Nat × Nat)) (r : Nat) (L : List Nat) : (upsN l r L).length = L.length := by
  induction r with
  | zero => rfl
  | succ r ih => simp only [upsN, ups_len, ih]
theorem upsN_bound (l : List (Nat × Nat × Nat)) (L : List Nat) (hx : ∀ x ∈ l, x.1 < L.length ∧ x.2.2 ≤ 1) (h : ∀ j, lv L j = 0) : ∀ r j, lv (upsN l r L) j ≤ r * l.length
  | 0, j => by simp [upsN, h j]
  | r + 1, j => by
    have := ups_bound l (upsN l r L) (r * l.length) (fun x hx' => by rw [upsN_len]; exact hx x hx') (upsN_bound l L hx h r) j
    simp only [upsN, Nat.succ_mul]
    omega
/-- After n * n + 2 rounds: either nothing more changes, and these are the least levels; or no levels are closed. -/
theorem upsN_ends {n : Nat} {E : Nat → Nat → Nat → Prop} (hE : Edges n E) (l : List (Nat × Nat × Nat)) (hl : ∀ x, x ∈ l ↔ E x.1 x.2.1 x.2.2) (R : Nat) (hR : n * n < R) :
    let L := upsN l R (List.replicate n 0)
    if ups l L = L then Least n E L else ¬ ∃ F, Clo n E F := by
  intro L
  have hlen : ∀ r, (upsN l r (List.replicate n 0)).length = n := fun r => by rw [upsN_len]; simp
  have hbel : ∀ F, Clo n E F → ∀ r j, lv (upsN l r (List.replicate n 0)) j ≤ lv F j := fun F hF r => by
    induction r with
    | zero => intro j; simp only [upsN, lv_rep]; omega
    | succ r ih => exact ups_below hE hF l _ (hlen r) (fun x hx => (hl x).1 hx) ih
  have hix : ∀ r, ∀ x ∈ l, x.1 < (upsN l r (List.replicate n 0)).length := fun r x hx => by rw [hlen]; exact (hE.ok _ _ _ ((hl x).1 hx)).1
  have hgrow : ∀ r, ups l (upsN l r (List.replicate n 0)) = upsN l r (List.replicate n 0) ∨ r ≤ sumN (upsN l r (List.replicate n 0)) := fun r => by
    induction r with
    | zero => exact .inr (by omega)
    | succ r ih =>
      rcases ih with e | h
      · left; simp only [upsN]; rw [e, e]
      · rcases ups_grow l _ (hix r) with ⟨e, _⟩ | g
        · left; simp only [upsN]; rw [e, e]
        · right; simp only [upsN]; omega
  by_cases hs : ups l L = L
  · rw [if_pos hs]
    refine ⟨⟨hlen R, fun i k w he => ?_⟩, fun F hF => hbel F hF R⟩
    rcases ups_grow l L (hix R) with ⟨_, h⟩ | g
    · exact up1_same (by rw [hlen]; exact (hE.ok _ _ _ he).1) (h (i, k, w) ((hl (i, k, w)).2 he))
    · rw [hs] at g; omega
  · rw [if_neg hs]
    rintro ⟨F, hF⟩
    obtain ⟨G, hG, hsm⟩ := clo_small hE hF
    rcases hgrow R with e | h
    · exact hs e
    · have h1 := sumN_le L n fun i hi => by
        have h2 := hbel G hG R i
        have h3 := hsm i (by rw [← hlen R]; exact hi)
        show lv (upsN l R (List.replicate n 0)) i ≤ n
        omega
      rw [hlen R] at h1
      show False
      have : sumN L = sumN (upsN l R (List.replicate n 0)) := rfl
      omega
end Go.Proofs.YtgglopecipbbfaaGreat
