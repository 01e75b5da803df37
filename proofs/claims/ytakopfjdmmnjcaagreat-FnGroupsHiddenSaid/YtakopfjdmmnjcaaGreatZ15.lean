/- Joined texts. -/
import Derived.Test.YtakopfjdmmnjcaaGreatZ08
import Derived.Test.YtakopfjdmmnjcaaGreatZ14
import Derived.Test.YtakopfjdmmnjcaaGreatZ13
set_option linter.all false
section
set_option maxRecDepth 100000
set_option maxHeartbeats 4000000
namespace Go.Proofs.YtakopfjdmmnjcaaGreat
def lv (L : List Nat) (i : Nat) : Nat := L.getD i 0
structure Clo (n : Nat) (E : Nat → Nat → Nat → Prop) (F : List Nat) : Prop where
 len : F.length = n
 le : ∀ i k w, E i k w → lv F k + w ≤ lv F i
structure Edges (n : Nat) (E : Nat → Nat → Nat → Prop) : Prop where
 ok : ∀ i k w, E i k w → i < n ∧ k < n ∧ w ≤ 1
structure Least (n : Nat) (E : Nat → Nat → Nat → Prop) (L : List Nat) : Prop where
 clo : Clo n E L
 le : ∀ F, Clo n E F → ∀ i, lv L i ≤ lv F i
theorem b6w {L M : List Nat} (h : L.length = M.length) (hi : ∀ i, lv L i = lv M i) : L = M := by
 apply List.ext_getElem h
 intro i h1 h2
 have := hi i
 simpa [lv, List.getD_eq_getElem?_getD, h1, h2] using this
theorem a5T {n : Nat} {E : Nat → Nat → Nat → Prop} {L M : List Nat} (h : Least n E L) (k : Least n E M) : L = M :=
 b6w (by rw [h.clo.len, k.clo.len]) fun i => Nat.le_antisymm (h.le M k.clo i) (k.le L h.clo i)
open Classical in
noncomputable def a9d (n : Nat) (E : Nat → Nat → Nat → Prop) : List Nat := if h : ∃ L, Least n E L then h.choose else []
theorem a5U {n : Nat} {E : Nat → Nat → Nat → Prop} {L : List Nat} (h : Least n E L) : a9d n E = L := by
 have he : ∃ L, Least n E L := ⟨L, h⟩
 unfold a9d
 rw [dif_pos he]
 exact a5T he.choose_spec h
theorem a5V {n : Nat} {E : Nat → Nat → Nat → Prop} (h : ¬ ∃ F, Clo n E F) : a9d n E = [] := by
 unfold a9d
 rw [dif_neg (fun ⟨L, hL⟩ => h ⟨L, hL.clo⟩)]
open Classical in
noncomputable def a1q (n : Nat) (E : Nat → Nat → Nat → Prop) : Bool := if ∃ F, Clo n E F then true else false
theorem wU {n : Nat} {E : Nat → Nat → Nat → Prop} {L : List Nat} (h : Clo n E L) : a1q n E = true := by
 unfold a1q; rw [if_pos ⟨L, h⟩]
theorem a7B {n : Nat} {E : Nat → Nat → Nat → Prop} (h : ¬ ∃ F, Clo n E F) : a1q n E = false := by
 unfold a1q; rw [if_neg h]
theorem a0U {n : Nat} {E : Nat → Nat → Nat → Prop} (hE : Edges n E) {F : List Nat} (h : Clo n E F) : ∃ G, Clo n E G ∧ ∀ i, i < n → lv G i < n := by
 let r (i : Nat) : Nat := ((List.range n).filter fun j => decide (lv F j < lv F i)).length
 have hr : ∀ i, i < n → lv ((List.range n).map r) i = r i := fun i hi => by simp [lv, List.getD_eq_getElem?_getD, hi]
 have sub : ∀ (p q : Nat → Bool) (l : List Nat), (∀ j, p j = true → q j = true) → (l.filter p).length ≤ (l.filter q).length := by
  intro p q l hpq
  induction l with
  | nil => simp
  | cons x l ih =>
   simp only [List.filter_cons]
   cases hp : p x
   ·cases hq : q x <;> simp <;> omega
   ·rw [hpq x hp]; simpa using ih
 have sub1 : ∀ (p q : Nat → Bool) (l : List Nat) (x : Nat), x ∈ l → (∀ j, p j = true → q j = true) → p x = false → q x = true → (l.filter p).length < (l.filter q).length := by
  intro p q l x hx hpq hp hq
  induction l with
  | nil => simp at hx
  | cons y l ih =>
   simp only [List.filter_cons]
   rcases List.mem_cons.1 hx with rfl | hx
   ·rw [hp, hq]
    have := sub p q l hpq
    simp
    omega
   ·have := ih hx
    cases hp' : p y
    ·cases hq' : q y <;> simp <;> omega
    ·rw [hpq y hp']; simpa using this
 refine ⟨(List.range n).map r, ⟨by simp, fun i k w he => ?_⟩, fun i hi => ?_⟩
 ·obtain ⟨hi, hk, hw⟩ := hE.ok i k w he
  rw [hr i hi, hr k hk]
  have hle := h.le i k w he
  rcases Nat.lt_or_ge w 1 with hw0 | hw1
  ·have hw' : w = 0 := by omega
   subst hw'
   exact sub _ _ _ fun j hj => by simp only [decide_eq_true_eq] at hj ⊢; omega
  ·have hw' : w = 1 := by omega
   subst hw'
   exact sub1 _ _ _ k (List.mem_range.2 hk) (fun j hj => by simp only [decide_eq_true_eq] at hj ⊢; omega) (by simp) (by simp only [decide_eq_true_eq]; omega)
 ·rw [hr i hi]
  have := sub1 (fun j => decide (lv F j < lv F i)) (fun _ => true) (List.range n) i (List.mem_range.2 hi) (fun _ _ => rfl) (by simp) rfl
  rw [List.filter_eq_self.2 (fun _ _ => rfl), List.length_range] at this
  exact this
theorem a3k (L : List Nat) (i v j : Nat) (h : i < L.length) : lv (L.set i v) j = if j = i then v else lv L j := by
 unfold lv
 simp only [List.getD_eq_getElem?_getD, List.getElem?_set]
 by_cases e : i = j
 ·subst e; simp [h]
 ·rw [if_neg e, if_neg (fun e' => e e'.symm)]
def uI : List Nat → Nat
 | [] => 0
 | x :: l => x + uI l
theorem a7C (L : List Nat) (i v : Nat) (h : i < L.length) : uI (L.set i v) + lv L i = uI L + v := by
 induction L generalizing i with
 | nil => simp at h
 | cons x l ih =>
  cases i with
  | zero => simp [uI, lv]; omega
  | succ i =>
   have := ih i (by simpa using h)
   simp only [List.set_cons_succ, uI, lv, List.getD_cons_succ] at this ⊢
   omega
theorem b0m (L : List Nat) (c : Nat) (h : ∀ i, i < L.length → lv L i ≤ c) : uI L ≤ L.length * c := by
 induction L with
 | nil => simp [uI]
 | cons x l ih =>
  have h0 : x ≤ c := by simpa [lv] using h 0 (by simp)
  have h1 := ih fun i hi => by simpa [lv] using h (i + 1) (by simpa using hi)
  simp only [uI, List.length_cons, Nat.succ_mul]
  omega
theorem a5W (n i : Nat) : lv (List.replicate n 0) i = 0 := by
 simp only [lv, List.getD_eq_getElem?_getD, List.getElem?_replicate]
 split <;> rfl
def up1 (i k w : Nat) (L : List Nat) : List Nat := if lv L k + w > lv L i then L.set i (lv L k + w) else L
theorem a2e (i k w : Nat) (L : List Nat) : (up1 i k w L).length = L.length := by unfold up1; split <;> simp
theorem up1_grow (i k w : Nat) (L : List Nat) (h : i < L.length) : up1 i k w L = L ∨ uI L < uI (up1 i k w L) := by
 unfold up1
 split
 ·rename_i hc
  have := a7C L i (lv L k + w) h
  right; omega
 ·exact .inl rfl
theorem b3n {i k w : Nat} {L : List Nat} (hl : i < L.length) (h : up1 i k w L = L) : lv L k + w ≤ lv L i := by
 apply Classical.byContradiction
 intro hn
 have hc : lv L k + w > lv L i := by omega
 unfold up1 at h
 rw [if_pos hc] at h
 have := a3k L i (lv L k + w) i hl
 rw [h, if_pos rfl] at this
 omega
theorem b1q {n : Nat} {E : Nat → Nat → Nat → Prop} {F : List Nat} (hF : Clo n E F) {i k w : Nat} (he : E i k w) {L : List Nat} (hl : i < L.length) (h : ∀ j, lv L j ≤ lv F j) : ∀ j, lv (up1 i k w L) j ≤ lv F j := by
 intro j
 unfold up1
 split
 ·rw [a3k L i _ j hl]
  split
  ·rename_i e; subst e
   have := hF.le j k w he
   have := h k
   omega
  ·exact h j
 ·exact h j
theorem b1r {i k w : Nat} {L : List Nat} {B : Nat} (hl : i < L.length) (hw : w ≤ 1) (h : ∀ j, lv L j ≤ B) : ∀ j, lv (up1 i k w L) j ≤ B + 1 := by
 intro j
 unfold up1
 split
 ·rw [a3k L i _ j hl]
  split
  ·have := h k; omega
  ·have := h j; omega
 ·have := h j; omega
def ups : List (Nat × Nat × Nat) → List Nat → List Nat
 | [], L => L
 | (i, k, w) :: l, L => ups l (up1 i k w L)
theorem a2f (l m : List (Nat × Nat × Nat)) (L : List Nat) : ups (l ++ m) L = ups m (ups l L) := by
 induction l generalizing L with
 | nil => rfl
 | cons x l ih => obtain ⟨i, k, w⟩ := x; simp only [List.cons_append, ups, ih]
theorem wV (l : List (Nat × Nat × Nat)) (L : List Nat) : (ups l L).length = L.length := by
 induction l generalizing L with
 | nil => rfl
 | cons x l ih => obtain ⟨i, k, w⟩ := x; simp only [ups, ih, a2e]
theorem ups_grow : ∀ (l : List (Nat × Nat × Nat)) (L : List Nat), (∀ x ∈ l, x.1 < L.length) → (ups l L = L ∧ ∀ x ∈ l, up1 x.1 x.2.1 x.2.2 L = L) ∨ uI L < uI (ups l L)
 | [], L, _ => .inl ⟨rfl, fun x h => by simp at h⟩
 | (i, k, w) :: l, L, h => by
  have hi := h (i, k, w) (by simp)
  have hl := ups_grow l (up1 i k w L) fun x hx => by rw [a2e]; exact h x (by simp [hx])
  simp only [ups]
  rcases up1_grow i k w L hi with e | g
  ·rw [e] at hl ⊢
   rcases hl with ⟨h1, h2⟩ | h1
   ·refine .inl ⟨h1, fun x hx => ?_⟩
    rcases List.mem_cons.1 hx with rfl | hx
    ·exact e
    ·exact h2 x hx
   ·exact .inr h1
  ·rcases hl with ⟨h1, _⟩ | h1
   ·rw [h1]; exact .inr g
   ·exact .inr (by omega)
theorem a4O {n : Nat} {E : Nat → Nat → Nat → Prop} {F : List Nat} (hE : Edges n E) (hF : Clo n E F) : ∀ (l : List (Nat × Nat × Nat)) (L : List Nat), L.length = n → (∀ x ∈ l, E x.1 x.2.1 x.2.2) → (∀ j, lv L j ≤ lv F j) → ∀ j, lv (ups l L) j ≤ lv F j
 | [], L, _, _, h => h
 | (i, k, w) :: l, L, hl, he, h => by
  have e := he (i, k, w) (by simp)
  exact a4O hE hF l _ (by rw [a2e]; exact hl) (fun x hx => he x (by simp [hx])) (b1q hF e (by rw [hl]; exact (hE.ok _ _ _ e).1) h)
theorem nZ : ∀ (l : List (Nat × Nat × Nat)) (L : List Nat) (B : Nat), (∀ x ∈ l, x.1 < L.length ∧ x.2.2 ≤ 1) → (∀ j, lv L j ≤ B) → ∀ j, lv (ups l L) j ≤ B + l.length
 | [], L, B, _, h => h
 | (i, k, w) :: l, L, B, hx, h => by
  have e := hx (i, k, w) (by simp)
  have := nZ l (up1 i k w L) (B + 1) (fun x hx' => by rw [a2e]; exact hx x (by simp [hx'])) (b1r e.1 e.2 h)
  intro j
  have := this j
  simp only [ups, List.length_cons]
  omega
def upsN (l : List (Nat × Nat × Nat)) : Nat → List Nat → List Nat
 | 0, L => L
 | r + 1, L => ups l (upsN l r L)
theorem a3l (l : List (Nat × Nat × Nat)) (r : Nat) (L : List Nat) : (upsN l r L).length = L.length := by
 induction r with
 | zero => rfl
 | succ r ih => simp only [upsN, wV, ih]
theorem a3m (l : List (Nat × Nat × Nat)) (L : List Nat) (hx : ∀ x ∈ l, x.1 < L.length ∧ x.2.2 ≤ 1) (h : ∀ j, lv L j = 0) : ∀ r j, lv (upsN l r L) j ≤ r * l.length
 | 0, j => by simp [upsN, h j]
 | r + 1, j => by
  have := nZ l (upsN l r L) (r * l.length) (fun x hx' => by rw [a3l]; exact hx x hx') (a3m l L hx h r) j
  simp only [upsN, Nat.succ_mul]
  omega
theorem a4P {n : Nat} {E : Nat → Nat → Nat → Prop} (hE : Edges n E) (l : List (Nat × Nat × Nat)) (hl : ∀ x, x ∈ l ↔ E x.1 x.2.1 x.2.2) (R : Nat) (hR : n * n < R) :
    let L := upsN l R (List.replicate n 0)
    if ups l L = L then Least n E L else ¬ ∃ F, Clo n E F := by
 intro L
 have hlen : ∀ r, (upsN l r (List.replicate n 0)).length = n := fun r => by rw [a3l]; simp
 have hbel : ∀ F, Clo n E F → ∀ r j, lv (upsN l r (List.replicate n 0)) j ≤ lv F j := fun F hF r => by
  induction r with
  | zero => intro j; simp only [upsN, a5W]; omega
  | succ r ih => exact a4O hE hF l _ (hlen r) (fun x hx => (hl x).1 hx) ih
 have hix : ∀ r, ∀ x ∈ l, x.1 < (upsN l r (List.replicate n 0)).length := fun r x hx => by rw [hlen]; exact (hE.ok _ _ _ ((hl x).1 hx)).1
 have hgrow : ∀ r, ups l (upsN l r (List.replicate n 0)) = upsN l r (List.replicate n 0) ∨ r ≤ uI (upsN l r (List.replicate n 0)) := fun r => by
  induction r with
  | zero => exact .inr (by omega)
  | succ r ih =>
   rcases ih with e | h
   ·left; simp only [upsN]; rw [e, e]
   ·rcases ups_grow l _ (hix r) with ⟨e, _⟩ | g
    ·left; simp only [upsN]; rw [e, e]
    ·right; simp only [upsN]; omega
 by_cases hs : ups l L = L
 ·rw [if_pos hs]
  refine ⟨⟨hlen R, fun i k w he => ?_⟩, fun F hF => hbel F hF R⟩
  rcases ups_grow l L (hix R) with ⟨_, h⟩ | g
  ·exact b3n (by rw [hlen]; exact (hE.ok _ _ _ he).1) (h (i, k, w) ((hl (i, k, w)).2 he))
  ·rw [hs] at g; omega
 ·rw [if_neg hs]
  rintro ⟨F, hF⟩
  obtain ⟨G, hG, hsm⟩ := a0U hE hF
  rcases hgrow R with e | h
  ·exact hs e
  ·have h1 := b0m L n fun i hi => by
    have h2 := hbel G hG R i
    have h3 := hsm i (by rw [← hlen R]; exact hi)
    show lv (upsN l R (List.replicate n 0)) i ≤ n
    omega
   rw [hlen R] at h1
   show False
   have : uI L = uI (upsN l R (List.replicate n 0)) := rfl
   omega
end Go.Proofs.YtakopfjdmmnjcaaGreat
end
section
set_option maxRecDepth 100000
set_option maxHeartbeats 4000000
namespace Go.Proofs.YtakopfjdmmnjcaaGreat
def placeD (d : List TDir) (nm : ByteArray) : Int := idxP (fun x => decide (x.fName = nm)) d 0
theorem placeD_cases (d : List TDir) (nm : ByteArray) : placeD d nm = -1 ∨ ∃ k : Nat, placeD d nm = (k : Int) ∧ k < d.length := by
 unfold placeD
 rcases idxP_fst (fun x => decide (x.fName = nm)) d 0 with ⟨_, h, _⟩ | ⟨h, hl⟩
 ·exact .inl h
 ·exact .inr ⟨_, by rw [h]; simp, hl⟩
def dV (d : List TDir) (i w : Nat) (names : List ByteArray) : List (Nat × Nat × Nat) := names.flatMap fun nm => if 0 ≤ placeD d nm then [(i, (placeD d nm).toNat, w)] else []
theorem yI (d : List TDir) (i w : Nat) (names : List ByteArray) (x : Nat × Nat × Nat) : x ∈ dV d i w names ↔ ∃ nm ∈ names, ∃ k : Nat, placeD d nm = (k : Int) ∧ x = (i, k, w) := by
 unfold dV
 simp only [List.mem_flatMap]
 constructor
 ·rintro ⟨nm, h1, h2⟩
  split at h2
  ·rename_i hp
   refine ⟨nm, h1, (placeD d nm).toNat, by omega, by simpa using h2⟩
  ·simp at h2
 ·rintro ⟨nm, h1, k, h2, rfl⟩
  refine ⟨nm, h1, ?_⟩
  rw [if_pos (by omega), h2]; simp
def qZ (d : List TDir) (i : Nat) : List (Nat × Nat × Nat) := match d[i]? with
 | none => []
 | some x => dV d i 0 (putL (dH x.fQuery false)) ++ dV d i 1 (putL (dH x.fQuery true))
def gH (d : List TDir) : List (Nat × Nat × Nat) := (List.range d.length).flatMap (qZ d)
def EE (d : List TDir) (i k w : Nat) : Prop := (i, k, w) ∈ gH d
theorem a0P (d : List TDir) (i k w : Nat) : EE d i k w ↔ ∃ x, d[i]? = some x ∧ ((w = 0 ∧ ∃ nm ∈ dH x.fQuery false, placeD d nm = (k : Int)) ∨ (w = 1 ∧ ∃ nm ∈ dH x.fQuery true, placeD d nm = (k : Int))) := by
 unfold EE gH
 simp only [List.mem_flatMap, List.mem_range]
 constructor
 ·rintro ⟨j, hj, h⟩
  unfold qZ at h
  rw [List.getElem?_eq_getElem hj] at h
  simp only [List.mem_append, yI, pJ] at h
  rcases h with ⟨nm, h1, k', h2, h3⟩ | ⟨nm, h1, k', h2, h3⟩
  ·cases h3; exact ⟨_, List.getElem?_eq_getElem hj, .inl ⟨rfl, nm, h1, h2⟩⟩
  ·cases h3; exact ⟨_, List.getElem?_eq_getElem hj, .inr ⟨rfl, nm, h1, h2⟩⟩
 ·rintro ⟨x, hx, h⟩
  refine ⟨i, (List.getElem?_eq_some_iff.1 hx).1, ?_⟩
  unfold qZ
  rw [hx]
  simp only [List.mem_append, yI, pJ]
  rcases h with ⟨rfl, nm, h1, h2⟩ | ⟨rfl, nm, h1, h2⟩
  ·exact .inl ⟨nm, h1, k, h2, rfl⟩
  ·exact .inr ⟨nm, h1, k, h2, rfl⟩
theorem wD (d : List TDir) : Edges d.length (EE d) := ⟨fun i k w h => by
 obtain ⟨x, hx, h⟩ := (a0P d i k w).1 h
 refine ⟨(List.getElem?_eq_some_iff.1 hx).1, ?_, by rcases h with ⟨rfl, _⟩ | ⟨rfl, _⟩ <;> omega⟩
 obtain ⟨nm, hp⟩ : ∃ nm, placeD d nm = (k : Int) := by rcases h with ⟨_, nm, _, h⟩ | ⟨_, nm, _, h⟩ <;> exact ⟨nm, h⟩
 rcases placeD_cases d nm with h | ⟨k', h, hl⟩ <;> omega⟩
def abv (d : List TDir) (L : List Nat) (w : Nat) : List ByteArray → Nat → Nat
 | [], m => m
 | nm :: r, m => abv d L w r (if 0 ≤ placeD d nm then (if lv L (placeD d nm).toNat + w > m then lv L (placeD d nm).toNat + w else m) else m)
theorem b3g (d : List TDir) (L : List Nat) (w : Nat) (l : List ByteArray) (k m : Nat) (h : k < l.length) : abv d L w (l.drop k) m = abv d L w (l.drop (k + 1)) (if 0 ≤ placeD d l[k] then (if lv L (placeD d l[k]).toNat + w > m then lv L (placeD d l[k]).toNat + w else m) else m) := by
 rw [List.drop_eq_getElem_cons h, abv]
theorem a8X (d : List TDir) (L : List Nat) (w c : Nat) : ∀ (l : List ByteArray) (m : Nat), abv d L w l m ≤ c ↔ m ≤ c ∧ ∀ nm ∈ l, ∀ k : Nat, placeD d nm = (k : Int) → lv L k + w ≤ c
 | [], m => by simp [abv]
 | nm :: r, m => by
  rw [abv, a8X d L w c r]
  constructor
  ·rintro ⟨h1, h2⟩
   refine ⟨?_, fun n hn k hk => ?_⟩
   ·split at h1
    ·split at h1 <;> omega
    ·exact h1
   ·rcases List.mem_cons.1 hn with rfl | hn
    ·have e : (placeD d n).toNat = k := by omega
     rw [if_pos (by omega), e] at h1
     split at h1 <;> omega
    ·exact h2 n hn k hk
  ·rintro ⟨h1, h2⟩
   refine ⟨?_, fun n hn k hk => h2 n (List.mem_cons_of_mem _ hn) k hk⟩
   split
   ·rename_i hp
    have := h2 nm (by simp) (placeD d nm).toNat (by omega)
    split <;> omega
   ·exact h1
def gT (d : List TDir) (L : List Nat) (x : TDir) : Nat := if abv d L 1 (gD (dH x.fQuery true)) 0 > abv d L 0 (gD (dH x.fQuery false)) 0 then abv d L 1 (gD (dH x.fQuery true)) 0 else abv d L 0 (gD (dH x.fQuery false)) 0
theorem a3f (d : List TDir) (L : List Nat) (i c : Nat) (h : i < d.length) : gT d L d[i] ≤ c ↔ ∀ k w, EE d i k w → lv L k + w ≤ c := by
 have h0 := a8X d L 0 c (gD (dH d[i].fQuery false)) 0
 have h1 := a8X d L 1 c (gD (dH d[i].fQuery true)) 0
 have hm : gT d L d[i] ≤ c ↔ abv d L 0 (gD (dH d[i].fQuery false)) 0 ≤ c ∧ abv d L 1 (gD (dH d[i].fQuery true)) 0 ≤ c := by
  unfold gT; split <;> omega
 rw [hm, h0, h1]
 constructor
 ·rintro ⟨⟨_, a⟩, ⟨_, b⟩⟩ k w he
  obtain ⟨x, hx, he⟩ := (a0P d i k w).1 he
  rw [List.getElem?_eq_getElem h] at hx
  cases hx
  rcases he with ⟨rfl, nm, q1, q2⟩ | ⟨rfl, nm, q1, q2⟩
  ·exact a nm ((sI _ _).2 q1) k q2
  ·exact b nm ((sI _ _).2 q1) k q2
 ·intro a
  exact ⟨⟨by omega, fun nm q k hk => a k 0 ((a0P d i k 0).2 ⟨d[i], List.getElem?_eq_getElem h, .inl ⟨rfl, nm, (sI _ _).1 q, hk⟩⟩)⟩,
   ⟨by omega, fun nm q k hk => a k 1 ((a0P d i k 1).2 ⟨d[i], List.getElem?_eq_getElem h, .inr ⟨rfl, nm, (sI _ _).1 q, hk⟩⟩)⟩⟩
structure Low (d : List TDir) (L : List Nat) : Prop where
 len : L.length = d.length
 clo : ∀ F, Clo d.length (EE d) F → ∀ j, lv L j ≤ lv F j
 small : ∀ j, lv L j ≤ d.length
theorem Low.start (d : List TDir) : Low d (List.replicate d.length 0) := ⟨by simp, fun F _ j => by rw [a5W]; omega, fun j => by rw [a5W]; omega⟩
theorem Low.least_le {d : List TDir} {L : List Nat} (h : Low d L) {i : Nat} (hi : i < d.length) {F : List Nat} (hF : Clo d.length (EE d) F) : gT d L d[i] ≤ lv F i :=
 (a3f d L i _ hi).2 fun k w he => by
  have h1 := hF.le i k w he
  have h2 := h.clo F hF k
  omega
theorem Low.over {d : List TDir} {L : List Nat} (h : Low d L) {i : Nat} (hi : i < d.length) (ho : gT d L d[i] > d.length) : ¬ ∃ F, Clo d.length (EE d) F := by
 rintro ⟨F, hF⟩
 obtain ⟨G, hG, hs⟩ := a0U (wD d) hF
 have h1 := h.least_le hi hG
 have h2 := hs i hi
 omega
theorem Low.set {d : List TDir} {L : List Nat} (h : Low d L) {i : Nat} (hi : i < d.length) (ho : ¬ gT d L d[i] > d.length) : Low d (L.set i (gT d L d[i])) := by
 have hl : i < L.length := by rw [h.len]; exact hi
 refine ⟨by simp [h.len], fun F hF j => ?_, fun j => ?_⟩
 ·rw [a3k L i _ j hl]
  split
  ·rename_i e; subst e; exact h.least_le hi hF
  ·exact h.clo F hF j
 ·rw [a3k L i _ j hl]
  split
  ·omega
  ·exact h.small j
theorem Low.done {d : List TDir} {L : List Nat} (h : Low d L) (hc : ∀ i, (hi : i < d.length) → gT d L d[i] ≤ lv L i) : Least d.length (EE d) L :=
 ⟨⟨h.len, fun i k w he => (a3f d L i _ ((wD d).ok i k w he).1).1 (hc i _) k w he⟩, h.clo⟩
theorem Low.sum {d : List TDir} {L : List Nat} (h : Low d L) : uI L ≤ d.length * d.length := by
 have := b0m L d.length fun i _ => h.small i
 rwa [h.len] at this
end Go.Proofs.YtakopfjdmmnjcaaGreat
end
section
set_option maxRecDepth 100000
set_option maxHeartbeats 4000000
namespace Go.Proofs.YtakopfjdmmnjcaaGreat
open Go Go.Sx Go.RowKit Go.Proofs
@[go_sem] def sH (n : Nat) : List D := [iv (n : Int)]
theorem b1k (nm : ByteArray) (x : TDir) : FnC Tryz.prog 203 [b7p x, .o (.q [sv nm])] (ob (decide (x.fName = nm))) := by
 refine ent Tryz.func203 rfl Tryz.call203 rfl (fun C => ?_); simp only [go_sem, st0, Tryz.ntmps203]
 refine aD ?_
 exact aA ⟨⟨_, rfl, by simp only [go_sem]⟩, trivial⟩
theorem a7t (d : List TDir) (nm : ByteArray) (hl : d.length ≤ 4300000) : FnC Tryz.prog 196 [.o (.d (.sl (d.map dG))), os nm] (oi (placeD d nm)) := by
 refine ent Tryz.func196 rfl Tryz.call196 rfl (fun C => ?_); simp only [go_sem, st0, Tryz.ntmps196]
 refine iZ (a1K _ _ (fun x => decide (x.fName = nm)) d (fun y _ => b1k nm y) (by omega)) ?_
 exact aA ⟨⟨_, rfl, by simp only [go_sem, placeD]⟩, trivial⟩
theorem kQ (d : List TDir) (nm : ByteArray) (hl : d.length ≤ 4300000) : FnC Tryz.prog 165 [.o (.d (.sl (d.map dG))), os nm] (oi (placeD d nm)) := by
 refine ent Tryz.func165 rfl Tryz.call165 rfl (fun C => ?_); simp only [go_sem, st0, Tryz.ntmps165]
 refine aD ?_
 refine aY (α := Nat) (fun k => [(5, oi k)]) (fun _ => []) (fun k => k ≤ d.length ∧ placeD d nm = idxP (fun x => decide (x.fName = nm)) (d.drop k) k) (fun k => d.length - k) 0 (fun _ => ?_) ?_ ?_ (fun k hk => ?_)
 ·simp only [go_sem]
 ·simp only [go_sem]; simp
 ·simp [placeD]
 ·obtain ⟨hk, hq⟩ := hk
  simp only [go_sem]
  refine aD ?_
  refine cnd rfl (fun h => ?_) (fun h => ?_)
  ·simp only [decide_eq_true_eq, Int.ofNat_lt] at h
   have hd := List.drop_eq_getElem_cons h
   rw [hd, idxP] at hq
   by_cases h2 : d[k].fName = nm
   ·rw [if_pos (by simp [h2])] at hq
    have q0 := @h; have q1 := @h2; have q2 := @decide_true; refine jQ ?_
    exact aA ⟨⟨_, rfl, by simp only [go_sem, hq]⟩, trivial⟩
   ·rw [if_neg (by simp [h2])] at hq
    have q0 := @h; have q1 := @h2; have q2 := @decide_false; refine jQ ?_
    refine aF (k + 1) ?_ ?_ ?_
    ·simp only [go_sem]; simp
    ·rw [hq]; exact ⟨h, by simp⟩
    ·omega
  ·simp only [decide_eq_false_iff_not] at h
   have e : k = d.length := by omega
   subst e
   simp only [List.drop_length, idxP] at hq
   refine aD ?_
   exact aA ⟨⟨_, rfl, by simp only [go_sem, hq]⟩, trivial⟩
theorem uH (L : List Nat) (i : Nat) (h : i < L.length) : L[i] = lv L i := by simp [lv, List.getD_eq_getElem?_getD, h]
def mxN (a b : Nat) : Nat := if b > a then b else a
theorem b0f (a b : Nat) : mxI (a : Int) (b : Int) = ((mxN a b : Nat) : Int) := by
 unfold mxI mxN
 split <;> split <;> omega
theorem a7u (d : List TDir) (L : List Nat) (w : Nat) (names : List ByteArray) (hd : d.length ≤ 4300000) (hL : L.length = d.length) (hn : names.length ≤ 4300000) (hB : ∀ j, lv L j ≤ 1000000) (hw : w ≤ 1) : FnC Tryz.prog 185 [.o (.d (.sl (d.map dG))), .o (.d (.sl (L.map sH))), .o (.d (.sl (names.map iQ))), oi (w : Nat)] (oi (abv d L w names 0 : Nat)) := by
 refine ent Tryz.func185 rfl Tryz.call185 rfl (fun C => ?_); simp only [go_sem, st0, Tryz.ntmps185]
 refine aD ?_
 refine aY (α := Nat × Nat) (fun x => [(9, oi (x.2 : Nat)), (15, oi x.1)]) (fun _ => []) (fun x => x.1 ≤ names.length ∧ abv d L w names 0 = abv d L w (names.drop x.1) x.2 ∧ x.2 ≤ 1000001) (fun x => names.length - x.1) (0, 0) (fun _ => ?_) ?_ ?_ (fun x hx => ?_)
 ·simp only [go_sem]
 ·simp only [go_sem]; simp
 ·simp
 ·obtain ⟨k, m⟩ := x
  obtain ⟨hk, hq, hm⟩ := hx
  simp only at hk hq hm
  simp only [go_sem]
  refine aD ?_
  refine cnd rfl (fun h => ?_) (fun h => ?_)
  ·simp only [decide_eq_true_eq, Int.ofNat_lt] at h
   rw [b3g d L w names k m h] at hq
   rcases placeD_cases d names[k] with hp | ⟨p, hp, hpl⟩
   ·rw [if_neg (by omega)] at hq
    have q0 := @h; have q1 := @hp; have q2 := @decide_true; have q3 := @decide_false; refine a2F (a7t d names[k] hd) ?_
    refine aF (k + 1, m) ?_ ?_ ?_
    ·simp only [go_sem]; simp
    ·exact ⟨by simp only; omega, hq, hm⟩
    ·simp only; omega
   ·have hpL : p < L.length := by omega
    have hb := hB p
    have hg := uH L p hpL
    have hge : (0 : Int) ≤ (p : Int) := by omega
    have hs : ((lv L p : Nat) : Int) + (w : Int) = ((lv L p + w : Nat) : Int) := by omega
    have hmx := b0f m (lv L p + w)
    rw [if_pos (by omega), hp, Int.toNat_natCast] at hq
    have q0 := @h; have q1 := @hp; have q2 := @hge; have q3 := @hpL; have q4 := @hg; have q5 := @hs; have q6 := @hmx; have q7 := @decide_true; have q8 := @decide_false; have q9 := @Int.toNat_natCast; refine a9K (a7t d names[k] hd) ?_
    refine aF (k + 1, mxN m (lv L p + w)) ?_ ?_ ?_
    ·simp only [go_sem]; simp
    ·exact ⟨by simp only; omega, hq, by simp only [mxN]; split <;> omega⟩
    ·simp only; omega
  ·simp only [decide_eq_false_iff_not] at h
   have e : k = names.length := by omega
   subst e
   rw [List.drop_length, abv] at hq
   refine aD ?_
   exact aA ⟨⟨_, rfl, by simp only [go_sem, hq]⟩, trivial⟩
theorem mD {d : List TDir} (h : dU d = true) (i : Nat) (hi : i < d.length) : okQ d[i].fQuery = true := by
 unfold dU at h
 simp only [Bool.and_eq_true, List.all_eq_true, List.mem_range] at h
 have := h.1 i hi
 unfold jK at this
 rw [List.getElem?_eq_getElem hi] at this
 simp only [Bool.and_eq_true] at this
 exact this.2.2
theorem kG {d : List TDir} (h : dU d = true) : d.length ≤ 5 := by
 unfold dU at h
 simp only [Bool.and_eq_true, decide_eq_true_eq] at h
 omega
theorem a7r (q : List TNode) (hq : okQ q = true) (hw : eU q ≤ 4300000) : FnC Tryz.prog 186 [.o (.d (.sl (q.map bS)))] (.o (.d (.sl ((gD (dH q false)).map iQ)))) := (a8Y q hq hw).pu (by simp only [go_sem, and_self])
theorem a7s (q : List TNode) (hq : okQ q = true) (hw : eU q ≤ 4300000) : FnC Tryz.prog 187 [.o (.d (.sl (q.map bS)))] (.o (.d (.sl ((gD (dH q true)).map iQ)))) := (a7w q hq hw).pu (by simp only [go_sem, and_self])
theorem a4K (d : List TDir) (L : List Nat) (names : List ByteArray) (hd : d.length ≤ 4300000) (hL : L.length = d.length) (hn : names.length ≤ 4300000) (hB : ∀ j, lv L j ≤ 1000000) : FnC Tryz.prog 185 [.o (.d (.sl (d.map dG))), .o (.d (.sl (L.map sH))), .o (.d (.sl (names.map iQ))), oi 0] (oi (abv d L 0 names 0 : Nat)) := a7u d L 0 names hd hL hn hB (by omega)
theorem a4L (d : List TDir) (L : List Nat) (names : List ByteArray) (hd : d.length ≤ 4300000) (hL : L.length = d.length) (hn : names.length ≤ 4300000) (hB : ∀ j, lv L j ≤ 1000000) : FnC Tryz.prog 185 [.o (.d (.sl (d.map dG))), .o (.d (.sl (L.map sH))), .o (.d (.sl (names.map iQ))), oi 1] (oi (abv d L 1 names 0 : Nat)) := a7u d L 1 names hd hL hn hB (by omega)
noncomputable def resL (d : List TDir) : List Nat := if dU d then a9d d.length (EE d) else []
noncomputable def mU (d : List TDir) : Bool := if dU d then a1q d.length (EE d) else false
theorem b3f (L : List Nat) (i v : Nat) : (L.map sH).set i [D.v (Value.int .i64 (v : Int))] = (L.set i v).map sH := by rw [List.map_set]; rfl
structure Pass (d : List TDir) (L : List Nat) (i : Nat) (M : List Nat) (ch : Bool) : Prop where
 low : Low d M
 no : ch = false → M = L ∧ ∀ j, (hj : j < d.length) → j < i → gT d L d[j] ≤ lv L j
 yes : ch = true → uI L < uI M
theorem Pass.start {d : List TDir} {L : List Nat} (h : Low d L) : Pass d L 0 L false := ⟨h, fun _ => ⟨rfl, fun j _ hj => by omega⟩, fun h => by cases h⟩
theorem Pass.keep {d : List TDir} {L M : List Nat} {i : Nat} {ch : Bool} (h : Pass d L i M ch) (hi : i < d.length) (hle : ¬ gT d M d[i] > lv M i) : Pass d L (i + 1) M ch := by
 refine ⟨h.low, fun hc => ⟨(h.no hc).1, fun j hj hlt => ?_⟩, h.yes⟩
 by_cases e : j = i
 ·subst e
  have := (h.no hc).1
  subst this
  omega
 ·exact (h.no hc).2 j hj (by omega)
theorem Pass.set {d : List TDir} {L M : List Nat} {i : Nat} {ch : Bool} (h : Pass d L i M ch) (hi : i < d.length) (ho : ¬ gT d M d[i] > d.length) (hgt : gT d M d[i] > lv M i) : Pass d L (i + 1) (M.set i (gT d M d[i])) true := by
 have hl : i < M.length := by rw [h.low.len]; exact hi
 have hs := a7C M i (gT d M d[i]) hl
 refine ⟨h.low.set hi ho, fun hc => (by cases hc), fun _ => ?_⟩
 cases ch with
 | false =>
  have := (h.no rfl).1
  subst this
  omega
 | true =>
  have := h.yes rfl
  omega
theorem iO (d : List TDir) (hd : gN d ≤ 4300000) : FnC Tryz.prog 170 [.o (.d (.sl (d.map dG)))] (.t [(false, [.w 3 1 ((resL d).map sH)]), (false, [.d (bv (mU d))])]) := by
 have hd0 : d.length + bI lW d ≤ 4300000 := hd
 refine ent Tryz.func170 rfl Tryz.call170 rfl (fun C => ?_); simp only [go_sem, st0, Tryz.ntmps170]
 cases hv : dU d
 ·have e1 : resL d = [] := by simp [resL, hv]
  have e2 : mU d = false := by simp [mU, hv]
  have q0 := @hv; refine lK (a0h d hd) ?_
  exact aA ⟨⟨_, rfl, by simp only [go_sem, e1, e2]⟩, by simp [cK]⟩
 have e1 : resL d = a9d d.length (EE d) := by simp [resL, hv]
 have e2 : mU d = a1q d.length (EE d) := by simp [mU, hv]
 have hl5 := kG hv
 have q0 := @hv; refine lK (a0h d hd) ?_
 refine aY (α := List Nat × Bool) (fun x => [(5, ob x.2)]) (fun x => [(0, .row 3 1 (x.1.map sH) true)]) (fun x => Low d x.1 ∧ (x.2 = false → ∀ i, (hi : i < d.length) → gT d x.1 d[i] ≤ lv x.1 i)) (fun x => if x.2 then d.length * d.length - uI x.1 + 1 else 0) (List.replicate d.length 0, true) (fun _ => ?_) ?_ ?_ (fun x hx => ?_)
 ·simp only [go_sem]
 ·simp only [go_sem]; simp [sH]
 ·exact ⟨Low.start d, fun h => by cases h⟩
 ·obtain ⟨L, ch⟩ := x
  obtain ⟨hlow, hdone⟩ := hx
  simp only at hlow hdone
  simp only [go_sem]
  refine aD ?_
  refine cnd rfl (fun h => ?_) (fun h => ?_)
  ·subst h
   refine aD ?_
   refine aY (α := Nat × List Nat × Bool) (fun x => [(5, ob x.2.2), (18, oi x.1)]) (fun x => [(0, .row 3 1 (x.2.1.map sH) true)]) (fun x => x.1 ≤ d.length ∧ Pass d L x.1 x.2.1 x.2.2) (fun x => d.length - x.1) (0, L, false) (fun _ => ?_) ?_ ?_ (fun x hx => ?_)
   ·simp only [go_sem]
   ·simp only [go_sem]; simp
   ·exact ⟨by simp, Pass.start hlow⟩
   ·obtain ⟨i, M, c⟩ := x
    obtain ⟨hi, hp⟩ := hx
    simp only at hi hp
    simp only [go_sem]
    refine aD ?_
    refine cnd rfl (fun h => ?_) (fun h => ?_)
    ·simp only [decide_eq_true_eq, Int.ofNat_lt] at h
     have hq := mD hv i h
     have hq9 := mM hq
     have hwd := dD lW d h
     have hwq : eU d[i].fQuery ≤ lW d[i] := by unfold lW; omega
     have hML : M.length = d.length := hp.low.len
     have hiM : i < M.length := by omega
     have hB : ∀ j, lv M j ≤ 1000000 := fun j => by have := hp.low.small j; omega
     have ho1 := a4M (dH d[i].fQuery false)
     have ho2 := a4M (dH d[i].fQuery true)
     have ho3 := jN d[i].fQuery false d[i].fQuery.length
     have ho4 := jN d[i].fQuery true d[i].fQuery.length
     have hk1 : (gD (dH d[i].fQuery false)).length ≤ 4300000 := by unfold dH at ho1 ⊢; omega
     have hk2 : (gD (dH d[i].fQuery true)).length ≤ 4300000 := by unfold dH at ho2 ⊢; omega
     have hmx : mxI (abv d M 0 (gD (dH d[i].fQuery false)) 0 : Nat) (abv d M 1 (gD (dH d[i].fQuery true)) 0 : Nat) = ((gT d M d[i] : Nat) : Int) := by
      rw [b0f]; rfl
     have hg := uH M i hiM
     have qH := aI @h @hmx; repeat' (with_reducible first | refine nY ?_ | (refine mX ?_; try simp only [go_sem, qH]) | refine kD ?_ | refine rD ?_ | refine cP (a7r d[i].fQuery hq (by omega)) ?_ | refine cP (a7s d[i].fQuery hq (by omega)) ?_ | refine vO (a4K d M (gD (dH d[i].fQuery false)) (by omega) hML hk1 hB) ?_ | refine vQ (a4K d M (gD (dH d[i].fQuery false)) (by omega) hML hk1 hB) ?_ | refine vO (a4L d M (gD (dH d[i].fQuery true)) (by omega) hML hk2 hB) ?_ | refine vQ (a4L d M (gD (dH d[i].fQuery true)) (by omega) hML hk2 hB) ?_ | refine aO ?_ | fail)
     refine cnd rfl (fun ho => ?_) (fun ho => ?_)
     ·simp only [decide_eq_true_eq, Int.ofNat_lt] at ho
      have hno := hp.low.over h ho
      have f1 := a5V hno
      have f2 := a7B hno
      refine aD ?_
      exact aA ⟨⟨_, rfl, by simp only [go_sem, e1, e2, f1, f2]⟩, by simp [cK]⟩
     ·simp only [decide_eq_false_iff_not, Int.ofNat_lt] at ho
      have q0 := @h; have q1 := @hiM; have q2 := @hg; refine jQ ?_
      refine cnd rfl (fun hgt => ?_) (fun hgt => ?_)
      ·simp only [decide_eq_true_eq, Int.ofNat_lt] at hgt
       have q0 := @h; have q1 := @hiM; have q2 := @hg; refine jQ ?_
       refine aF (i + 1, M.set i (gT d M d[i]), true) ?_ ?_ ?_
       ·simp only [go_sem, ← b3f]; simp
       ·exact ⟨by simp only; omega, hp.set h ho hgt⟩
       ·simp only; omega
      ·simp only [decide_eq_false_iff_not, Int.ofNat_lt] at hgt
       have q0 := @h; have q1 := @hiM; have q2 := @hg; refine jQ ?_
       refine aF (i + 1, M, c) ?_ ?_ ?_
       ·simp only [go_sem]; simp
       ·exact ⟨by simp only; omega, hp.keep h hgt⟩
       ·simp only; omega
    ·simp only [decide_eq_false_iff_not] at h
     have e : i = d.length := by omega
     subst e
     refine aD ?_
     refine aF (M, c) ?_ ?_ ?_
     ·simp only [go_sem]; simp
     ·exact ⟨hp.low, fun hc i hi => by
       simp only at hc
       obtain ⟨h1, h2⟩ := hp.no hc
       subst h1
       exact h2 i hi hi⟩
     ·have hs := hp.low.sum
      simp only
      cases c with
      | false => simp
      | true =>
       have := hp.yes rfl
       simp only [if_true]
       omega
  ·subst h
   have hL := hlow.done (hdone rfl)
   have f1 := a5U hL
   have f2 := wU hL.clo
   refine aD ?_
   exact aA ⟨⟨_, rfl, by simp only [go_sem, e1, e2, f1, f2]⟩, by simp [cK]⟩
theorem a7p (q : List TNode) (hq : okQ q = true) (hw : eU q ≤ 4300000) : FnC Tryz.prog 164 [.o (.d (.sl (q.map bS)))] (.o (.d (.sl ((putL (dH q false)).map iQ)))) := (a8Z q hq hw).pu (by simp only [go_sem, and_self])
theorem a7q (q : List TNode) (hq : okQ q = true) (hw : eU q ≤ 4300000) : FnC Tryz.prog 166 [.o (.d (.sl (q.map bS)))] (.o (.d (.sl ((putL (dH q true)).map iQ)))) := (a7x q hq hw).pu (by simp only [go_sem, and_self])
theorem a1l (d : List TDir) (i w : Nat) (names : List ByteArray) (k : Nat) (h : k < names.length) : dV d i w (names.take (k + 1)) = dV d i w (names.take k) ++ (if 0 ≤ placeD d names[k] then [(i, (placeD d names[k]).toNat, w)] else []) := by
 unfold dV
 rw [List.take_succ_eq_append_getElem h, List.flatMap_append]
 simp
theorem pI (d : List TDir) (i w : Nat) (names : List ByteArray) : (dV d i w names).length ≤ names.length := by
 induction names with
 | nil => simp [dV]
 | cons x l ih =>
  have e : dV d i w (x :: l) = (if 0 ≤ placeD d x then [(i, (placeD d x).toNat, w)] else []) ++ dV d i w l := by simp [dV]
  rw [e, List.length_append, List.length_cons]
  split <;> simp <;> omega
theorem sG (d : List TDir) (i w : Nat) (hi : i < d.length) (hw : w ≤ 1) (names : List ByteArray) (x : Nat × Nat × Nat) (hx : x ∈ dV d i w names) : x.1 < d.length ∧ x.2.2 ≤ 1 := by
 obtain ⟨nm, _, k, _, rfl⟩ := (yI d i w names x).1 hx
 exact ⟨hi, hw⟩
def jE (d : List TDir) (k : Nat) : List (Nat × Nat × Nat) := (List.range k).flatMap (qZ d)
theorem a1m (d : List TDir) (k : Nat) : jE d (k + 1) = jE d k ++ qZ d k := by
 simp [jE, List.range_succ, List.flatMap_append]
theorem b1j (d : List TDir) (i : Nat) (h : i < d.length) : qZ d i = dV d i 0 (putL (dH d[i].fQuery false)) ++ dV d i 1 (putL (dH d[i].fQuery true)) := by
 unfold qZ; rw [List.getElem?_eq_getElem h]
theorem a8W (d : List TDir) (hv : dU d = true) (i : Nat) : (qZ d i).length ≤ 18 := by
 unfold qZ
 cases hx : d[i]? with
 | none => simp
 | some x =>
  have hi := (List.getElem?_eq_some_iff.1 hx).1
  have hxe : d[i] = x := (List.getElem?_eq_some_iff.1 hx).2
  have hq := (mM (mD hv i hi)).2
  rw [hxe] at hq
  have h1 := pI d i 0 (putL (dH x.fQuery false))
  have h2 := pI d i 1 (putL (dH x.fQuery true))
  have h3 := wE (dH x.fQuery false)
  have h4 := wE (dH x.fQuery true)
  have h5 : (dH x.fQuery false).length ≤ x.fQuery.length := jN _ _ _
  have h6 : (dH x.fQuery true).length ≤ x.fQuery.length := jN _ _ _
  simp only [List.length_append]
  omega
theorem a3d (d : List TDir) (hv : dU d = true) (k : Nat) : (jE d k).length ≤ 18 * k := by
 induction k with
 | zero => simp [jE]
 | succ k ih => rw [a1m, List.length_append]; have := a8W d hv k; omega
theorem a4J (d : List TDir) (k : Nat) (x : Nat × Nat × Nat) (hx : x ∈ jE d k) : x.1 < d.length ∧ x.2.2 ≤ 1 := by
 unfold jE at hx
 obtain ⟨i, _, h⟩ := List.mem_flatMap.1 hx
 unfold qZ at h
 cases hd : d[i]? with
 | none => rw [hd] at h; simp at h
 | some y =>
  rw [hd] at h
  have hi := (List.getElem?_eq_some_iff.1 hd).1
  simp only [List.mem_append] at h
  rcases h with h | h
  ·exact sG d i 0 hi (by omega) _ x h
  ·exact sG d i 1 hi (by omega) _ x h
theorem b0e {i p w : Nat} {L : List Nat} (h : lv L p + w > lv L i) : up1 i p w L = L.set i (lv L p + w) := by unfold up1; rw [if_pos h]
theorem b3e {i p w : Nat} {L : List Nat} (h : ¬ lv L p + w > lv L i) : up1 i p w L = L := by unfold up1; rw [if_neg h]
theorem a3e (d : List TDir) (L : List Nat) (hv : dU d = true) (hd : gN d ≤ 4300000) (hL : L.length = d.length) (hB : ∀ j, lv L j ≤ 1000000) : FnC Tryz.prog 143 [.o (.d (.sl (d.map dG))), .o (.d (.sl (L.map sH)))] (.o (.w 3 1 ((ups (gH d) L).map sH))) := by
 have hd0 : d.length + bI lW d ≤ 4300000 := hd
 have hl5 := kG hv
 refine ent Tryz.func143 rfl Tryz.call143 rfl (fun C => ?_); simp only [go_sem, st0, Tryz.ntmps143]
 refine aD ?_
 refine aY (α := Nat) (fun i => [(5, .o (.s 0)), (13, .o .u), (15, .o .u), (6, oi i)]) (fun i => [(0, .row 3 1 ((ups (jE d i) L).map sH) true)]) (fun i => i ≤ d.length) (fun i => d.length - i) 0 (fun _ => ?_) ?_ ?_ (fun i hi => ?_)
 ·simp only [go_sem]
 ·simp only [go_sem]; simp [jE, ups]
 ·simp
 ·simp only [go_sem]
  refine aD ?_
  refine cnd rfl (fun h => ?_) (fun h => ?_)
  ·simp only [decide_eq_true_eq, Int.ofNat_lt] at h
   have hq := mD hv i h
   have hwd := dD lW d h
   have hwq : eU d[i].fQuery ≤ lW d[i] := by unfold lW; omega
   have hsuc := a1m d i
   rw [b1j d i h] at hsuc
   have hML : (ups (jE d i) L).length = d.length := by rw [wV]; exact hL
   have hMB := nZ (jE d i) L 1000000 (fun x hx => by rw [hL]; exact a4J d i x hx) hB
   have hKl := a3d d hv i
   have hfin : ups (jE d (i + 1)) L = ups (dV d i 1 (putL (dH d[i].fQuery true))) (ups (dV d i 0 (putL (dH d[i].fQuery false))) (ups (jE d i) L)) := by
    rw [hsuc, a2f, a2f]
   have hn1 := wE (dH d[i].fQuery false)
   have hn2 := wE (dH d[i].fQuery true)
   have hn3 : (dH d[i].fQuery false).length ≤ d[i].fQuery.length := jN _ _ _
   have hn4 : (dH d[i].fQuery true).length ≤ d[i].fQuery.length := jN _ _ _
   have hq9 := mM hq
   have hMB2 : ∀ j, lv (ups (jE d i) L) j ≤ 1000200 := fun j => by have := hMB j; omega
   generalize ups (jE d i) L = M at *
   have q0 := @h; refine lK (a7p d[i].fQuery hq (by omega)) ?_
   generalize putL (dH d[i].fQuery false) = P at *
   refine aY (α := Nat) (fun k => [(8, oi k)]) (fun k => [(0, .row 3 1 ((ups (dV d i 0 (P.take k)) M).map sH) true)]) (fun k => k ≤ P.length) (fun k => P.length - k) 0 (fun _ => ?_) ?_ ?_ (fun k hk => ?_)
   ·simp only [go_sem]
   ·simp only [go_sem]; simp [dV, ups]
   ·simp
   ·simp only [go_sem]
    refine aD ?_
    refine cnd rfl (fun h1 => ?_) (fun h1 => ?_)
    ·simp only [decide_eq_true_eq, Int.ofNat_lt] at h1
     have ht := a1l d i 0 P k h1
     have hXL : (ups (dV d i 0 (P.take k)) M).length = d.length := by rw [wV]; exact hML
     have hXB := nZ (dV d i 0 (P.take k)) M 1000200 (fun x hx => by rw [hML]; exact sG d i 0 h (by omega) _ x hx) hMB2
     have hel := pI d i 0 (P.take k)
     rw [List.length_take] at hel
     have hup : ups (dV d i 0 (P.take (k + 1))) M = ups (if 0 ≤ placeD d P[k] then [(i, (placeD d P[k]).toNat, 0)] else []) (ups (dV d i 0 (P.take k)) M) := by rw [ht, a2f]
     generalize ups (dV d i 0 (P.take k)) M = X at *
     have hiX : i < X.length := by omega
     have hg := uH X i hiX
     rcases placeD_cases d P[k] with hp | ⟨p, hp, hpl⟩
     ·rw [if_neg (by omega)] at hup
      have q0 := @h1; have q1 := @hp; have q2 := @decide_true; have q3 := @decide_false; refine a2F (kQ d P[k] (by omega)) ?_
      refine aF (k + 1) ?_ ?_ ?_
      ·simp only [go_sem, hup, ups]; simp
      ·omega
      ·omega
     ·have hpX : p < X.length := by omega
      have hge : (0 : Int) ≤ (p : Int) := by omega
      have hgp := uH X p hpX
      rw [if_pos (by omega), hp, Int.toNat_natCast] at hup
      simp only [ups] at hup
      by_cases hc : lv X p > lv X i
      ·have hcI : ((lv X i : Nat) : Int) < ((lv X p : Nat) : Int) := by omega
       rw [b0e (by omega), Nat.add_zero] at hup
       have qH := aI @h1 (aI @hp (aI @hge (aI @hpX (aI @hiX (aI @hg (aI @hgp (aI @hcI (aI @decide_true (aI @decide_false @Int.toNat_natCast))))))))); repeat' (with_reducible first | refine nY ?_ | (refine mX ?_; try simp only [go_sem, qH]) | refine kD ?_ | refine rD ?_ | refine cP (kQ d P[k] (by omega)) ?_ | refine aO ?_ | fail)
       refine aF (k + 1) ?_ ?_ ?_
       ·simp only [go_sem, hup, ← b3f]; simp
       ·omega
       ·omega
      ·have hcI : ¬ ((lv X i : Nat) : Int) < ((lv X p : Nat) : Int) := by omega
       rw [b3e (by omega)] at hup
       have qH := aI @h1 (aI @hp (aI @hge (aI @hpX (aI @hiX (aI @hg (aI @hgp (aI @hcI (aI @decide_true (aI @decide_false @Int.toNat_natCast))))))))); repeat' (with_reducible first | refine nY ?_ | (refine mX ?_; try simp only [go_sem, qH]) | refine kD ?_ | refine rD ?_ | refine cP (kQ d P[k] (by omega)) ?_ | refine aO ?_ | fail)
       refine aF (k + 1) ?_ ?_ ?_
       ·simp only [go_sem, hup]; simp
       ·omega
       ·omega
    ·simp only [decide_eq_false_iff_not] at h1
     have e : k = P.length := by omega
     subst e
     rw [List.take_length]
     have hXL : (ups (dV d i 0 P) M).length = d.length := by rw [wV]; exact hML
     have hXB := nZ (dV d i 0 P) M 1000200 (fun x hx => by rw [hML]; exact sG d i 0 h (by omega) _ x hx) hMB2
     have hel := pI d i 0 P
     have hXB2 : ∀ j, lv (ups (dV d i 0 P) M) j ≤ 1000400 := fun j => by have := hXB j; omega
     generalize ups (dV d i 0 P) M = Y at *
     have q0 := @h; refine lK (a7q d[i].fQuery hq (by omega)) ?_
     generalize putL (dH d[i].fQuery true) = N at *
     refine aY (α := Nat) (fun k => [(11, oi k)]) (fun k => [(0, .row 3 1 ((ups (dV d i 1 (N.take k)) Y).map sH) true)]) (fun k => k ≤ N.length) (fun k => N.length - k) 0 (fun _ => ?_) ?_ ?_ (fun k hk => ?_)
     ·simp only [go_sem]
     ·simp only [go_sem]; simp [dV, ups]
     ·simp
     ·simp only [go_sem]
      refine aD ?_
      refine cnd rfl (fun h1 => ?_) (fun h1 => ?_)
      ·simp only [decide_eq_true_eq, Int.ofNat_lt] at h1
       have ht := a1l d i 1 N k h1
       have hZL : (ups (dV d i 1 (N.take k)) Y).length = d.length := by rw [wV]; exact hXL
       have hZB := nZ (dV d i 1 (N.take k)) Y 1000400 (fun x hx => by rw [hXL]; exact sG d i 1 h (by omega) _ x hx) hXB2
       have hel := pI d i 1 (N.take k)
       rw [List.length_take] at hel
       have hup : ups (dV d i 1 (N.take (k + 1))) Y = ups (if 0 ≤ placeD d N[k] then [(i, (placeD d N[k]).toNat, 1)] else []) (ups (dV d i 1 (N.take k)) Y) := by rw [ht, a2f]
       generalize ups (dV d i 1 (N.take k)) Y = X at *
       have hiX : i < X.length := by omega
       have hg := uH X i hiX
       rcases placeD_cases d N[k] with hp | ⟨p, hp, hpl⟩
       ·rw [if_neg (by omega)] at hup
        have q0 := @h1; have q1 := @hp; have q2 := @decide_true; have q3 := @decide_false; refine a2F (kQ d N[k] (by omega)) ?_
        refine aF (k + 1) ?_ ?_ ?_
        ·simp only [go_sem, hup, ups]; simp
        ·omega
        ·omega
       ·have hpX : p < X.length := by omega
        have hge : (0 : Int) ≤ (p : Int) := by omega
        have hgp := uH X p hpX
        have hbp := hZB p
        have hs1 : ((lv X p : Nat) : Int) + 1 = ((lv X p + 1 : Nat) : Int) := by omega
        rw [if_pos (by omega), hp, Int.toNat_natCast] at hup
        simp only [ups] at hup
        by_cases hc : lv X p + 1 > lv X i
        ·have hcI : ((lv X i : Nat) : Int) < ((lv X p + 1 : Nat) : Int) := by omega
         rw [b0e hc] at hup
         have qH := aI @h1 (aI @hp (aI @hge (aI @hpX (aI @hiX (aI @hg (aI @hgp (aI @hs1 (aI @hcI (aI @decide_true (aI @decide_false @Int.toNat_natCast)))))))))); repeat' (with_reducible first | refine nY ?_ | (refine mX ?_; try simp only [go_sem, qH]) | refine kD ?_ | refine rD ?_ | refine cP (kQ d N[k] (by omega)) ?_ | refine aO ?_ | fail)
         refine aF (k + 1) ?_ ?_ ?_
         ·simp only [go_sem, hup, ← b3f]; simp
         ·omega
         ·omega
        ·have hcI : ¬ ((lv X i : Nat) : Int) < ((lv X p + 1 : Nat) : Int) := by omega
         rw [b3e hc] at hup
         have qH := aI @h1 (aI @hp (aI @hge (aI @hpX (aI @hiX (aI @hg (aI @hgp (aI @hs1 (aI @hcI (aI @decide_true (aI @decide_false @Int.toNat_natCast)))))))))); repeat' (with_reducible first | refine nY ?_ | (refine mX ?_; try simp only [go_sem, qH]) | refine kD ?_ | refine rD ?_ | refine cP (kQ d N[k] (by omega)) ?_ | refine aO ?_ | fail)
         refine aF (k + 1) ?_ ?_ ?_
         ·simp only [go_sem, hup]; simp
         ·omega
         ·omega
      ·simp only [decide_eq_false_iff_not] at h1
       have e : k = N.length := by omega
       subst e
       rw [List.take_length]
       refine aD ?_
       refine aF (i + 1) ?_ ?_ ?_
       ·simp only [go_sem, hfin]; simp
       ·omega
       ·omega
  ·simp only [decide_eq_false_iff_not] at h
   have e : i = d.length := by omega
   subst e
   refine aD ?_
   exact aA ⟨⟨_, rfl, by simp only [go_sem, jE, gH]⟩, trivial⟩
theorem a5R (A B : List Nat) (k : Nat) (hA : k < A.length) (hB : k < B.length) (h : A.take k = B.take k) (e : A[k] = B[k]) : A.take (k + 1) = B.take (k + 1) := by
 rw [List.take_succ_eq_append_getElem hA, List.take_succ_eq_append_getElem hB, h, e]
theorem b0d (A B : List Nat) (hA : A.length ≤ 4300000) (hB : B.length ≤ 4300000) : FnC Tryz.prog 144 [.o (.d (.sl (A.map sH))), .o (.d (.sl (B.map sH)))] (ob (decide (A = B))) := by
 refine ent Tryz.func144 rfl Tryz.call144 rfl (fun C => ?_); simp only [go_sem, st0, Tryz.ntmps144]
 by_cases hl : A.length = B.length
 ·have hli : ((A.length : Nat) : Int) = ((B.length : Nat) : Int) := by omega
  have q0 := @hli; have q1 := @decide_true; refine fM ?_
  refine aY (α := Nat) (fun k => [(5, oi k)]) (fun _ => []) (fun k => k ≤ A.length ∧ A.take k = B.take k) (fun k => A.length - k) 0 (fun _ => ?_) ?_ ?_ (fun k hk => ?_)
  ·simp only [go_sem]
  ·simp only [go_sem]; simp
  ·simp
  ·obtain ⟨hk, hq⟩ := hk
   simp only [go_sem]
   refine aD ?_
   refine cnd rfl (fun h => ?_) (fun h => ?_)
   ·simp only [decide_eq_true_eq, Int.ofNat_lt] at h
    have h2 : k < B.length := by omega
    by_cases he : A[k] = B[k]
    ·have hei : ((A[k] : Nat) : Int) = ((B[k] : Nat) : Int) := by omega
     have q0 := @h; have q1 := @h2; have q2 := @hei; have q3 := @decide_true; refine jX ?_
     refine aF (k + 1) ?_ ?_ ?_
     ·simp only [go_sem]; simp
     ·exact ⟨by omega, a5R A B k h h2 hq he⟩
     ·omega
    ·have hei : ¬ ((A[k] : Nat) : Int) = ((B[k] : Nat) : Int) := by omega
     have hne : decide (A = B) = false := decide_eq_false fun e => he (by subst e; rfl)
     have q0 := @h; have q1 := @h2; have q2 := @hei; have q3 := @decide_false; refine jX ?_
     exact aA ⟨⟨_, rfl, by simp only [go_sem, hne]⟩, trivial⟩
   ·simp only [decide_eq_false_iff_not] at h
    have e : k = A.length := by omega
    subst e
    rw [List.take_length, hl, List.take_length] at hq
    have hy : decide (A = B) = true := decide_eq_true hq
    refine aD ?_
    exact aA ⟨⟨_, rfl, by simp only [go_sem, hy]⟩, trivial⟩
 ·have hli : ¬ ((A.length : Nat) : Int) = ((B.length : Nat) : Int) := by omega
  have hne : decide (A = B) = false := decide_eq_false fun e => hl (by rw [e])
  have q0 := @hli; have q1 := @decide_false; refine fM ?_
  exact aA ⟨⟨_, rfl, by simp only [go_sem, hne]⟩, trivial⟩
theorem jZ (d : List TDir) (hd : gN d ≤ 4300000) : FnC Tryz.prog 112 [.o (.d (.sl (d.map dG)))] (.t [(false, [.d (.sl ((resL d).map sH))]), (false, [.d (bv (mU d))])]) := by
 have hd0 : d.length + bI lW d ≤ 4300000 := hd
 refine ent Tryz.func112 rfl Tryz.call112 rfl (fun C => ?_); simp only [go_sem, st0, Tryz.ntmps112]
 cases hv : dU d
 ·have e1 : resL d = [] := by simp [resL, hv]
  have e2 : mU d = false := by simp [mU, hv]
  have q0 := @hv; refine lK (a0i d hd) ?_
  refine jH (Sees.frz 0 rfl) ?_
  simp only [go_sem]
  exact aA ⟨⟨_, rfl, by simp only [go_sem, e1, e2, List.map_nil]⟩, by simp [cK]⟩
 have e1 : resL d = a9d d.length (EE d) := by simp [resL, hv]
 have e2 : mU d = a1q d.length (EE d) := by simp [mU, hv]
 have hl5 := kG hv
 have hsq : d.length * d.length ≤ 25 := Nat.mul_le_mul hl5 hl5
 have hmul : ((d.length : Nat) : Int) * ((d.length : Nat) : Int) = ((d.length * d.length : Nat) : Int) := by rw [Int.natCast_mul]
 have hends := a4P (wD d) (gH d) (fun x => Iff.rfl) (d.length * d.length + 2) (by omega)
 have hEl := a3d d hv d.length
 have hEok : ∀ x ∈ gH d, x.1 < (List.replicate d.length 0).length ∧ x.2.2 ≤ 1 := fun x hx => by rw [List.length_replicate]; exact a4J d d.length x hx
 have hEl2 : (gH d).length ≤ 90 := by have : gH d = jE d d.length := rfl; rw [this]; omega
 have hbd := a3m (gH d) (List.replicate d.length 0) hEok (fun j => a5W _ j)
 have hlen : ∀ r, (upsN (gH d) r (List.replicate d.length 0)).length = d.length := fun r => by rw [a3l]; simp
 generalize hN2 : d.length * d.length = N2 at *
 have hB : ∀ r, r ≤ N2 + 2 → ∀ j, lv (upsN (gH d) r (List.replicate d.length 0)) j ≤ 1000000 := fun r hr j => by
  have h1 := hbd r j
  have h2 : r * (gH d).length ≤ 27 * 90 := Nat.mul_le_mul (by omega) hEl2
  omega
 have q0 := @hv; refine lK (a0i d hd) ?_
 refine aY (α := Nat) (fun r => [(4, .o (.s 0)), (12, .o .u), (5, oi r)]) (fun r => [(0, .row 3 1 ((upsN (gH d) r (List.replicate d.length 0)).map sH) true)]) (fun r => r ≤ N2 + 2) (fun r => N2 + 2 - r) 0 (fun _ => ?_) ?_ ?_ (fun r hr => ?_)
 ·simp only [go_sem]
 ·simp only [go_sem]; simp [upsN, sH]
 ·simp
 ·simp only [go_sem]
  have q0 := @hmul; refine jW ?_
  refine cnd rfl (fun h => ?_) (fun h => ?_)
  ·simp only [decide_eq_true_eq] at h
   refine iZ (a3e d (upsN (gH d) r (List.replicate d.length 0)) hv hd (hlen r) (hB r hr)) ?_
   refine nL [(0, 1)] (r + 1) (by simp only [go_sem]; rfl) ?_ ?_ ?_
   ·simp only [go_sem, upsN]; simp
   ·omega
   ·omega
  ·simp only [decide_eq_false_iff_not] at h
   have e : r = N2 + 2 := by omega
   subst e
   have hLl := hlen (N2 + 2)
   have hLB := hB (N2 + 2) (by omega)
   simp only at hends
   generalize upsN (gH d) (N2 + 2) (List.replicate d.length 0) = L at *
   have hUl : (ups (gH d) L).length = d.length := by rw [wV]; exact hLl
   by_cases hs : ups (gH d) L = L
   ·rw [if_pos hs] at hends
    have f1 := a5U hends
    have f2 := wU hends.clo
    have hy : decide (ups (gH d) L = L) = true := decide_eq_true hs
    have q0 := @hy; refine b0S (a3e d L hv hd hLl hLB) (b0d (ups (gH d) L) L (by omega) (by omega)) ?_
    exact aA ⟨⟨_, rfl, by simp only [go_sem, e1, e2, f1, f2]⟩, by simp [cK]⟩
   ·rw [if_neg hs] at hends
    have f1 := a5V hends
    have f2 := a7B hends
    have hy : decide (ups (gH d) L = L) = false := decide_eq_false hs
    have q0 := @hy; refine b0S (a3e d L hv hd hLl hLB) (b0d (ups (gH d) L) L (by omega) (by omega)) ?_
    refine jH (Sees.frz 2 rfl) ?_
    simp only [go_sem]
    exact aA ⟨⟨_, rfl, by simp only [go_sem, e1, e2, f1, f2, List.map_nil]⟩, by simp [cK]⟩
theorem a0j (d : List TDir) (hd : gN d ≤ 4300000) : FnC Tryz.prog 63 [.o (.d (.sl (d.map dG)))] (ob (mU d)) := by
 refine ent Tryz.func63 rfl Tryz.call63 rfl (fun C => ?_); simp only [go_sem, st0, Tryz.ntmps63]
 refine iZ (jZ d hd) ?_
 exact aA ⟨⟨_, rfl, by simp only [go_sem]⟩, trivial⟩
structure dirsD (m : Nat) (d : List TDir) : Prop where
 hi : d.length ≤ m
 nm : ∀ x ∈ d, x.fName.size ≤ 7
 qy : ∀ x ∈ d, qryA x.fQuery
theorem a4u (m : Nat) : dirsD m [] := ⟨Nat.zero_le _, fun x h => by simp at h, fun x h => by simp at h⟩
theorem a1Y {p m : Nat} {q : List TNode} (h : qryD p m q) (hm : m ≤ 8) : qryA q := ⟨by have := h.hi; omega, h.nd⟩
theorem rV {m n : Nat} {d : List TDir} {x : TDir} (h : dirsD m d) (hn : d.length + 1 ≤ n) (h1 : x.fName.size ≤ 7) (h2 : qryA x.fQuery) : dirsD n (d ++ [x]) := ⟨by simpa using hn, fun y hy => by
 rcases List.mem_append.1 hy with hy | hy
 ·exact h.nm y hy
 ·simp only [List.mem_singleton] at hy; subst hy; exact h1, fun y hy => by
 rcases List.mem_append.1 hy with hy | hy
 ·exact h.qy y hy
 ·simp only [List.mem_singleton] at hy; subst hy; exact h2⟩
theorem a8I {m : Nat} {d : List TDir} (h : dirsD m d) (k : Nat) : dirsD m (d.take k) := ⟨by have := h.hi; simp; omega, fun y hy => h.nm y (List.mem_of_mem_take hy), fun y hy => h.qy y (List.mem_of_mem_take hy)⟩
theorem b2t {m n : Nat} {d : List TDir} (h : dirsD m d) (hn : m ≤ n) : dirsD n d := ⟨by have := h.hi; omega, h.nm, h.qy⟩
theorem a9L {m : Nat} {d : List TDir} (h : dirsD m d) (hm : m ≤ 6) : gN d ≤ 900 := by
 have h1 := zU lW 140 d fun x hx => by
  have h2 := h.nm x hx
  have h3 := h.qy x hx
  have h4 := b6u h3.hi h3.nd
  unfold lW
  omega
 have h2 := h.hi
 unfold gN
 have : d.length * 140 ≤ 6 * 140 := Nat.mul_le_mul_right _ (by omega)
 omega
theorem a2I {l : List Int} (hl : iT l) : Drw l 62 [] (fun d : List TDir => dirsD 4 d ∧ 0 < d.length) (fun d => .o (.w 38 2 (d.map dG))) := by
 intro i h hi hh; refine rY Tryz.func62 rfl Tryz.call62 rfl (fun C b => ?_); simp only [go_sem, Tryz.ntmps62]
 refine aD ?_
 refine aY (α := Nat × List TDir × Nat × Int) (fun x => [(3, .o (.s 1)), (4, oi x.1), (5, .o .u)]) (fun x => [(0, .pin b 97 [.sl (l.map rX), iv x.2.2.1, iv x.2.2.2]), (1, .row 38 2 (x.2.1.map dG) true)]) (fun x => (x.1 ≤ 4 ∧ x.2.1.length = x.1 ∧ dirsD 4 x.2.1) ∧ (x.2.2.1 ≤ l.length ∧ inR .i64 x.2.2.2)) (fun x => 5 - x.1) (0, [], i, h) (fun _ => ?_) ?_ ?_ (fun x hx => ?_)
 ·simp only [go_sem]
 ·simp only [go_sem]; simp
 ·exact ⟨⟨Nat.zero_le _, rfl, a4u 4⟩, hi, hh⟩
 ·clear hi hh
  obtain ⟨k, d, i, h⟩ := x
  obtain ⟨⟨k4, hk, hd⟩, hi, hh⟩ := hx
  simp only at k4 hk hd hi hh
  simp only [go_sem]
  refine aD ?_
  first | (refine bE (aH hl 4 (by decide) (by decide) i h hi hh) ⟨rfl, rfl⟩ ?_ rfl ?_; (focus first | rfl | (simp only [go_sem]; done))) | (refine hZ (aH hl 4 (by decide) (by decide) i h hi hh) ⟨rfl, rfl⟩ ?_ rfl ?_; (focus first | rfl | (simp only [go_sem]; done)))
  clear hi hh; rintro ⟨x, i, h⟩ ⟨hx, hi, hh⟩; simp only at hx hi hh; simp only [go_sem]
  refine aD ?_
  refine cnd rfl (fun hlt => ?_) (fun hlt => ?_)
  ·simp only [decide_eq_true_eq] at hlt
   have h4 : k = 0 ∨ k = 1 ∨ k = 2 ∨ k = 3 := by omega
   have hq1 : d.length + 1 ≤ 140737488355328 := by omega
   have hq2 : (d.length + 1) * 40 ≤ 140737488355328 := by omega
   have r0 : ∀ (a b c e : List D), eP [a, b, c, e] 0 = a := fun _ _ _ _ => rfl
   have r1 : ∀ (a b c e : List D), eP [a, b, c, e] 1 = b := fun _ _ _ _ => rfl
   have r2 : ∀ (a b c e : List D), eP [a, b, c, e] 2 = c := fun _ _ _ _ => rfl
   have r3 : ∀ (a b c e : List D), eP [a, b, c, e] 3 = e := fun _ _ _ _ => rfl
   have rs : ∀ (a : D), sub [a] 0 1 = some [a] := fun _ => rfl
   clear hlt hx
   rcases h4 with rfl | rfl | rfl | rfl
   ·have qH := aI @hq1 (aI @hq2 (aI @r0 (aI @r1 (aI @r2 (aI @r3 @rs))))); repeat' (with_reducible first | refine nY ?_ | (refine mX ?_; try simp only [go_sem, qH]) | refine kD ?_ | (apply rF [1,6,8,9,10] [10] [0,2,5] [0,2,5] ((.c 1 [3,4] [0,2,3,4,5] (.c 6 [7] [0,2,3,4,7] (.c 8 [] [0] (.c 9 [] [] (.c 10 [] [] .n .n) .n) .n) .n) (.c 6 [] [0,2] (.c 1 [3,4,7] [0,2,3,4,7] (.c 8 [] [0] (.c 9 [] [] (.c 10 [] [] .n .n) .n) .n) .n) .n))) (by simp only [go_sem]; rfl) (by simp only [go_sem]; rfl) (by simp only [go_sem]; rfl) (by decide +kernel); (focus simp only [go_sem]; done)) | exact bJ | refine aP (uX ?_) ?_ | refine aQ (aX ?_) ?_ | refine aR (aX ?_) ?_ | exact bY | exact oH | exact uB | refine rD ?_ | refine aO ?_ | fail)
    all_goals
     skip
     first | (refine bE (fF hl i h hi hh) ⟨rfl, rfl⟩ ?_ rfl ?_; (focus first | rfl | (simp only [go_sem]; done))) | (refine hZ (fF hl i h hi hh) ⟨rfl, rfl⟩ ?_ rfl ?_; (focus first | rfl | (simp only [go_sem]; done)))
     clear hi hh; rintro ⟨q, i, h⟩ ⟨hq, hi, hh⟩; simp only at hq hi hh; simp only [go_sem]
     have qH := aI @hq1 (aI @hq2 (aI @r0 (aI @r1 (aI @r2 (aI @r3 @rs))))); repeat' (with_reducible first | refine nY ?_ | (refine mX ?_; try simp only [go_sem, qH]) | refine kD ?_ | exact bJ | refine aP (uX ?_) ?_ | refine aQ (aX ?_) ?_ | refine aR (aX ?_) ?_ | exact uB | refine rD ?_ | refine aO ?_ | fail)
     refine aF (1, d ++ [⟨⟨#[100, 97]⟩, q⟩], i, h) ?_ ?_ ?_
     ·simp only [go_sem, List.map_append, List.map_cons, List.map_nil]; simp
     ·exact ⟨⟨by simp only; omega, by simp [hk], rV hd (by omega) (by simp only; decide) (a1Y hq (by decide))⟩, hi, hh⟩
     ·simp only; omega
   ·have qH := aI @hq1 (aI @hq2 (aI @r0 (aI @r1 (aI @r2 (aI @r3 @rs))))); repeat' (with_reducible first | refine nY ?_ | (refine mX ?_; try simp only [go_sem, qH]) | refine kD ?_ | (apply rF [1,6,8,9,10] [10] [0,2,5] [0,2,5] ((.c 1 [3,4] [0,2,3,4,5] (.c 6 [7] [0,2,3,4,7] (.c 8 [] [0] (.c 9 [] [] (.c 10 [] [] .n .n) .n) .n) .n) (.c 6 [] [0,2] (.c 1 [3,4,7] [0,2,3,4,7] (.c 8 [] [0] (.c 9 [] [] (.c 10 [] [] .n .n) .n) .n) .n) .n))) (by simp only [go_sem]; rfl) (by simp only [go_sem]; rfl) (by simp only [go_sem]; rfl) (by decide +kernel); (focus simp only [go_sem]; done)) | exact bJ | refine aP (uX ?_) ?_ | refine aQ (aX ?_) ?_ | refine aR (aX ?_) ?_ | exact bY | exact oH | exact uB | refine rD ?_ | refine aO ?_ | fail)
    all_goals
     skip
     first | (refine bE (fF hl i h hi hh) ⟨rfl, rfl⟩ ?_ rfl ?_; (focus first | rfl | (simp only [go_sem]; done))) | (refine hZ (fF hl i h hi hh) ⟨rfl, rfl⟩ ?_ rfl ?_; (focus first | rfl | (simp only [go_sem]; done)))
     clear hi hh; rintro ⟨q, i, h⟩ ⟨hq, hi, hh⟩; simp only at hq hi hh; simp only [go_sem]
     have qH := aI @hq1 (aI @hq2 (aI @r0 (aI @r1 (aI @r2 (aI @r3 @rs))))); repeat' (with_reducible first | refine nY ?_ | (refine mX ?_; try simp only [go_sem, qH]) | refine kD ?_ | exact bJ | refine aP (uX ?_) ?_ | refine aQ (aX ?_) ?_ | refine aR (aX ?_) ?_ | exact uB | refine rD ?_ | refine aO ?_ | fail)
     refine aF (2, d ++ [⟨⟨#[100, 98]⟩, q⟩], i, h) ?_ ?_ ?_
     ·simp only [go_sem, List.map_append, List.map_cons, List.map_nil]; simp
     ·exact ⟨⟨by simp only; omega, by simp [hk], rV hd (by omega) (by simp only; decide) (a1Y hq (by decide))⟩, hi, hh⟩
     ·simp only; omega
   ·have qH := aI @hq1 (aI @hq2 (aI @r0 (aI @r1 (aI @r2 (aI @r3 @rs))))); repeat' (with_reducible first | refine nY ?_ | (refine mX ?_; try simp only [go_sem, qH]) | refine kD ?_ | (apply rF [1,6,8,9,10] [10] [0,2,5] [0,2,5] ((.c 1 [3,4] [0,2,3,4,5] (.c 6 [7] [0,2,3,4,7] (.c 8 [] [0] (.c 9 [] [] (.c 10 [] [] .n .n) .n) .n) .n) (.c 6 [] [0,2] (.c 1 [3,4,7] [0,2,3,4,7] (.c 8 [] [0] (.c 9 [] [] (.c 10 [] [] .n .n) .n) .n) .n) .n))) (by simp only [go_sem]; rfl) (by simp only [go_sem]; rfl) (by simp only [go_sem]; rfl) (by decide +kernel); (focus simp only [go_sem]; done)) | exact bJ | refine aP (uX ?_) ?_ | refine aQ (aX ?_) ?_ | refine aR (aX ?_) ?_ | exact bY | exact oH | exact uB | refine rD ?_ | refine aO ?_ | fail)
    all_goals
     skip
     first | (refine bE (fF hl i h hi hh) ⟨rfl, rfl⟩ ?_ rfl ?_; (focus first | rfl | (simp only [go_sem]; done))) | (refine hZ (fF hl i h hi hh) ⟨rfl, rfl⟩ ?_ rfl ?_; (focus first | rfl | (simp only [go_sem]; done)))
     clear hi hh; rintro ⟨q, i, h⟩ ⟨hq, hi, hh⟩; simp only at hq hi hh; simp only [go_sem]
     have qH := aI @hq1 (aI @hq2 (aI @r0 (aI @r1 (aI @r2 (aI @r3 @rs))))); repeat' (with_reducible first | refine nY ?_ | (refine mX ?_; try simp only [go_sem, qH]) | refine kD ?_ | exact bJ | refine aP (uX ?_) ?_ | refine aQ (aX ?_) ?_ | refine aR (aX ?_) ?_ | exact uB | refine rD ?_ | refine aO ?_ | fail)
     refine aF (3, d ++ [⟨⟨#[100, 99]⟩, q⟩], i, h) ?_ ?_ ?_
     ·simp only [go_sem, List.map_append, List.map_cons, List.map_nil]; simp
     ·exact ⟨⟨by simp only; omega, by simp [hk], rV hd (by omega) (by simp only; decide) (a1Y hq (by decide))⟩, hi, hh⟩
     ·simp only; omega
   ·have qH := aI @hq1 (aI @hq2 (aI @r0 (aI @r1 (aI @r2 (aI @r3 @rs))))); repeat' (with_reducible first | refine nY ?_ | (refine mX ?_; try simp only [go_sem, qH]) | refine kD ?_ | (apply rF [1,6,8,9,10] [10] [0,2,5] [0,2,5] ((.c 1 [3,4] [0,2,3,4,5] (.c 6 [7] [0,2,3,4,7] (.c 8 [] [0] (.c 9 [] [] (.c 10 [] [] .n .n) .n) .n) .n) (.c 6 [] [0,2] (.c 1 [3,4,7] [0,2,3,4,7] (.c 8 [] [0] (.c 9 [] [] (.c 10 [] [] .n .n) .n) .n) .n) .n))) (by simp only [go_sem]; rfl) (by simp only [go_sem]; rfl) (by simp only [go_sem]; rfl) (by decide +kernel); (focus simp only [go_sem]; done)) | exact bJ | refine aP (uX ?_) ?_ | refine aQ (aX ?_) ?_ | refine aR (aX ?_) ?_ | exact bY | exact oH | exact uB | refine rD ?_ | refine aO ?_ | fail)
    all_goals
     skip
     first | (refine bE (fF hl i h hi hh) ⟨rfl, rfl⟩ ?_ rfl ?_; (focus first | rfl | (simp only [go_sem]; done))) | (refine hZ (fF hl i h hi hh) ⟨rfl, rfl⟩ ?_ rfl ?_; (focus first | rfl | (simp only [go_sem]; done)))
     clear hi hh; rintro ⟨q, i, h⟩ ⟨hq, hi, hh⟩; simp only at hq hi hh; simp only [go_sem]
     have qH := aI @hq1 (aI @hq2 (aI @r0 (aI @r1 (aI @r2 (aI @r3 @rs))))); repeat' (with_reducible first | refine nY ?_ | (refine mX ?_; try simp only [go_sem, qH]) | refine kD ?_ | exact bJ | refine aP (uX ?_) ?_ | refine aQ (aX ?_) ?_ | refine aR (aX ?_) ?_ | exact uB | refine rD ?_ | refine aO ?_ | fail)
     refine aF (4, d ++ [⟨⟨#[100, 100]⟩, q⟩], i, h) ?_ ?_ ?_
     ·simp only [go_sem, List.map_append, List.map_cons, List.map_nil]; simp
     ·exact ⟨⟨by simp only; omega, by simp [hk], rV hd (by omega) (by simp only; decide) (a1Y hq (by decide))⟩, hi, hh⟩
     ·simp only; omega
  ·refine aD ?_
   exact aN (d, i, h) ⟨⟨_, rfl, by simp only [go_sem]⟩, trivial⟩ ⟨(show dirsD 4 d ∧ 0 < d.length from ⟨hd, by simp only [decide_eq_false_iff_not] at hlt; omega⟩), ⟨hi, hh⟩⟩ (by simp only [go_sem])
@[go_sem] def nmY : List ByteArray := [⟨#[]⟩, ⟨#[65]⟩, ⟨#[122, 122]⟩, ⟨#[97, 98, 99, 100, 101, 102, 103]⟩]
theorem b5P (l : List TDir) : ∀ r ∈ l.map dG, r.length = 2 := by intro r hr; obtain ⟨x, _, rfl⟩ := List.mem_map.1 hr; rfl
def b2u : List TDir := [⟨⟨#[100, 97]⟩, [⟨1, 0, 0, ⟨#[]⟩, ⟨0, 0, ⟨#[]⟩⟩⟩]⟩]
theorem b2v : mU b2u = true := by
 unfold mU
 rw [if_pos (by decide +kernel)]
 refine wU (L := [0]) ⟨rfl, fun i k w h => ?_⟩
 obtain ⟨x, hx, h⟩ := (a0P _ i k w).1 h
 have h1 : dH [(⟨1, 0, 0, ⟨#[]⟩, ⟨0, 0, ⟨#[]⟩⟩⟩ : TNode)] false = [] := by decide +kernel
 have h2 : dH [(⟨1, 0, 0, ⟨#[]⟩, ⟨0, 0, ⟨#[]⟩⟩⟩ : TNode)] true = [] := by decide +kernel
 have hq : x.fQuery = [⟨1, 0, 0, ⟨#[]⟩, ⟨0, 0, ⟨#[]⟩⟩⟩] := by
  cases i with
  | zero => simp [b2u] at hx; rw [← hx]
  | succ i => simp [b2u] at hx
 rw [hq, h1, h2] at h
 rcases h with ⟨_, nm, hm, _⟩ | ⟨_, nm, hm, _⟩ <;> simp at hm
theorem a2J {l : List Int} (hl : iT l) : Drw l 28 [] (fun d : List TDir => dirsD 6 d ∧ (0 < d.length ∧ mU d = true)) (fun d => .o (.d (.sl (d.map dG)))) := by
 intro i h hi hh; refine rY Tryz.func28 rfl Tryz.call28 rfl (fun C b => ?_); simp only [go_sem, Tryz.ntmps28]
 refine aD ?_
 first | (refine bE (a2I hl i h hi hh) ⟨rfl, rfl⟩ ?_ rfl ?_; (focus first | rfl | (simp only [go_sem]; done))) | (refine hZ (a2I hl i h hi hh) ⟨rfl, rfl⟩ ?_ rfl ?_; (focus first | rfl | (simp only [go_sem]; done)))
 clear hi hh; rintro ⟨d, i, h⟩ ⟨hd, hi, hh⟩; simp only at hd hi hh; simp only [go_sem]
 have hd4 := hd.1
 clear hd
 refine aD ?_
 refine b0k 3 1 rfl rfl ?_
 simp only [go_sem]
 refine aY (α := List TDir) (fun x => [(3, .o (.d (.sl (x.map dG)))), (5, .o .u)]) (fun _ => []) (fun x => dirsD 4 x) (fun x => x.length) d (fun _ => ?_) ?_ ?_ (fun x hx => ?_)
 ·simp only [go_sem]
 ·simp only [go_sem]; simp
 ·exact hd4
 ·clear hd4
  have hst := a0j x (by have := a9L hx (by decide); omega)
  by_cases h0 : x = []
  ·subst h0
   have z0 : decide ((0 : Int) < ((0 : Nat) : Int)) = false := rfl
   have z1 : decide (((0 : Nat) : Int) = 0) = true := rfl
   simp only [go_sem]
   repeat' (with_reducible first | refine nY ?_ | (refine mX ?_; try simp only [go_sem, List.map_nil, List.length_nil, z0, z1]) | refine kO ?_ (by decide) | refine regd (by kernel_rfl) ?_ | (refine And.intro ?_ ?_; focus omega))
   first | refine kJ (Sees.frz 2 rfl) ?_ | refine kJ (Sees.frz 3 rfl) ?_ | refine kJ (Sees.frz 4 rfl) ?_
   simp only [go_sem]
   exact aN ([⟨⟨#[100, 97]⟩, [⟨1, 0, 0, ⟨#[]⟩, ⟨0, 0, ⟨#[]⟩⟩⟩]⟩], i, h) ⟨⟨_, rfl, by simp only [go_sem, List.map_set, List.map_append, List.map_cons, List.map_nil]; try rfl⟩, trivial⟩ ⟨(show dirsD 6 [⟨⟨#[100, 97]⟩, [⟨1, 0, 0, ⟨#[]⟩, ⟨0, 0, ⟨#[]⟩⟩⟩]⟩] ∧ (0 < ([⟨⟨#[100, 97]⟩, [⟨1, 0, 0, ⟨#[]⟩, ⟨0, 0, ⟨#[]⟩⟩⟩]⟩] : List TDir).length ∧ mU [⟨⟨#[100, 97]⟩, [⟨1, 0, 0, ⟨#[]⟩, ⟨0, 0, ⟨#[]⟩⟩⟩]⟩] = true) from ⟨rV (a4u 6) (by decide) (by simp only; decide) ⟨by decide, fun n hn => by simp only [List.mem_singleton] at hn; subst hn; exact gQ (inS (by decide)) in0 in0 (Nat.zero_le _) in0 in0 (Nat.zero_le _)⟩, by decide, b2v⟩), ⟨hi, hh⟩⟩ (by simp only [go_sem])
  ·have hp : 0 < x.length := List.length_pos_iff.2 h0
   have hgi : ((0 : Int) < (x.length : Int)) = True := by simp; omega
   have hgz : ((x.length : Int) = 0) = False := by simp; omega
   cases hr : mU x
   ·rw [hr] at hst
    have hm1 : (x.length : Int) - 1 = ((x.length - 1 : Nat) : Int) := by omega
    have hm2 : x.length - 1 ≤ x.length := by omega
    have hx4 := hx.hi
    simp only [go_sem]
    have qH := aI @hgi (aI @hgz (aI @hm1 (aI @hm2 @decide_true))); repeat' (with_reducible first | refine nY ?_ | (refine mX ?_; try simp only [go_sem, qH]) | refine kD ?_ | refine rD ?_ | refine And.intro (b5P _) ?_ | refine cP hst ?_ | refine aO ?_ | fail)
    refine aF (x.take (x.length - 1)) ?_ ?_ ?_
    ·simp only [go_sem, List.map_take]; simp
    ·exact a8I hx _
    ·simp; omega
   ·rw [hr] at hst
    simp only [go_sem]
    have q0 := @hgi; have q1 := @hgz; have q2 := @decide_true; have q3 := @decide_false; refine a2F hst ?_
    exact aN (x, i, h) ⟨⟨_, rfl, by simp only [go_sem]⟩, trivial⟩ ⟨(show dirsD 6 x ∧ (0 < x.length ∧ mU x = true) from ⟨b2t hx (by decide), hp, hr⟩), ⟨hi, hh⟩⟩ (by simp only [go_sem])
end Go.Proofs.YtakopfjdmmnjcaaGreat
end
section
set_option maxRecDepth 100000
set_option maxHeartbeats 4000000
namespace Go.Proofs.YtakopfjdmmnjcaaGreat
open Go Go.Sx Go.RowKit Go.Proofs Go.Lib
end Go.Proofs.YtakopfjdmmnjcaaGreat
end
