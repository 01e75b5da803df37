/- Joined texts. -/
import Derived.Test.YtgpoopjfkplilaaGreatDoorZ07
import Derived.Test.YtgpoopjfkplilaaGreatDoorZ13
import Derived.Test.YtgpoopjfkplilaaGreatDoorZ08
set_option linter.all false
section
set_option maxRecDepth 100000
set_option maxHeartbeats 4000000
namespace Go.Proofs.YtgpoopjfkplilaaGreatDoor
def lv (L : List Nat) (i : Nat) : Nat := L.getD i 0
structure Clo (n : Nat) (E : Nat → Nat → Nat → Prop) (F : List Nat) : Prop where
 len : F.length = n
 le : ∀ i k w, E i k w → lv F k + w ≤ lv F i
structure Edges (n : Nat) (E : Nat → Nat → Nat → Prop) : Prop where
 ok : ∀ i k w, E i k w → i < n ∧ k < n ∧ w ≤ 1
structure Least (n : Nat) (E : Nat → Nat → Nat → Prop) (L : List Nat) : Prop where
 clo : Clo n E L
 le : ∀ F, Clo n E F → ∀ i, lv L i ≤ lv F i
theorem b5e {L M : List Nat} (h : L.length = M.length) (hi : ∀ i, lv L i = lv M i) : L = M := by
 apply List.ext_getElem h
 intro i h1 h2
 have := hi i
 simpa [lv, List.getD_eq_getElem?_getD, h1, h2] using this
theorem a5i {n : Nat} {E : Nat → Nat → Nat → Prop} {L M : List Nat} (h : Least n E L) (k : Least n E M) : L = M :=
 b5e (by rw [h.clo.len, k.clo.len]) fun i => Nat.le_antisymm (h.le M k.clo i) (k.le L h.clo i)
open Classical in
noncomputable def a8d (n : Nat) (E : Nat → Nat → Nat → Prop) : List Nat := if h : ∃ L, Least n E L then h.choose else []
theorem a9e {n : Nat} {E : Nat → Nat → Nat → Prop} {L : List Nat} (h : Least n E L) : a8d n E = L := by
 have he : ∃ L, Least n E L := ⟨L, h⟩
 unfold a8d
 rw [dif_pos he]
 exact a5i he.choose_spec h
theorem a9f {n : Nat} {E : Nat → Nat → Nat → Prop} (h : ¬ ∃ F, Clo n E F) : a8d n E = [] := by
 unfold a8d
 rw [dif_neg (fun ⟨L, hL⟩ => h ⟨L, hL.clo⟩)]
open Classical in
noncomputable def a2p (n : Nat) (E : Nat → Nat → Nat → Prop) : Bool := if ∃ F, Clo n E F then true else false
theorem a3N {n : Nat} {E : Nat → Nat → Nat → Prop} {L : List Nat} (h : Clo n E L) : a2p n E = true := by
 unfold a2p; rw [if_pos ⟨L, h⟩]
theorem a6F {n : Nat} {E : Nat → Nat → Nat → Prop} (h : ¬ ∃ F, Clo n E F) : a2p n E = false := by
 unfold a2p; rw [if_neg h]
theorem a3O {n : Nat} {E : Nat → Nat → Nat → Prop} (hE : Edges n E) {F : List Nat} (h : Clo n E F) : ∃ G, Clo n E G ∧ ∀ i, i < n → lv G i < n := by
 let r (i : Nat) : Nat := ((List.range n).filter fun j => decide (lv F j < lv F i)).length
 have hr : ∀ i, i < n → lv ((List.range n).map r) i = r i := fun i hi => by simp [lv, List.getD_eq_getElem?_getD, hi]
 have sub : ∀ (p q : Nat → Bool) (l : List Nat), (∀ j, p j = true → q j = true) → (l.filter p).length ≤ (l.filter q).length := by
  intro p q l hpq
  induction l with
  | nil => simp
  | cons x l ih =>
   simp only [List.filter_cons]
   cases hp : p x
   ·cases hq : q x <;> simp <;> omega
   ·rw [hpq x hp]; simpa using ih
 have sub1 : ∀ (p q : Nat → Bool) (l : List Nat) (x : Nat), x ∈ l → (∀ j, p j = true → q j = true) → p x = false → q x = true → (l.filter p).length < (l.filter q).length := by
  intro p q l x hx hpq hp hq
  induction l with
  | nil => simp at hx
  | cons y l ih =>
   simp only [List.filter_cons]
   rcases List.mem_cons.1 hx with rfl | hx
   ·rw [hp, hq]
    have := sub p q l hpq
    simp
    omega
   ·have := ih hx
    cases hp' : p y
    ·cases hq' : q y <;> simp <;> omega
    ·rw [hpq y hp']; simpa using this
 refine ⟨(List.range n).map r, ⟨by simp, fun i k w he => ?_⟩, fun i hi => ?_⟩
 ·obtain ⟨hi, hk, hw⟩ := hE.ok i k w he
  rw [hr i hi, hr k hk]
  have hle := h.le i k w he
  rcases Nat.lt_or_ge w 1 with hw0 | hw1
  ·have hw' : w = 0 := by omega
   subst hw'
   exact sub _ _ _ fun j hj => by simp only [decide_eq_true_eq] at hj ⊢; omega
  ·have hw' : w = 1 := by omega
   subst hw'
   exact sub1 _ _ _ k (List.mem_range.2 hk) (fun j hj => by simp only [decide_eq_true_eq] at hj ⊢; omega) (by simp) (by simp only [decide_eq_true_eq]; omega)
 ·rw [hr i hi]
  have := sub1 (fun j => decide (lv F j < lv F i)) (fun _ => true) (List.range n) i (List.mem_range.2 hi) (fun _ _ => rfl) (by simp) rfl
  rw [List.filter_eq_self.2 (fun _ _ => rfl), List.length_range] at this
  exact this
theorem a2q (L : List Nat) (i v j : Nat) (h : i < L.length) : lv (L.set i v) j = if j = i then v else lv L j := by
 unfold lv
 simp only [List.getD_eq_getElem?_getD, List.getElem?_set]
 by_cases e : i = j
 ·subst e; simp [h]
 ·rw [if_neg e, if_neg (fun e' => e e'.symm)]
def rO : List Nat → Nat
 | [] => 0
 | x :: l => x + rO l
theorem a6G (L : List Nat) (i v : Nat) (h : i < L.length) : rO (L.set i v) + lv L i = rO L + v := by
 induction L generalizing i with
 | nil => simp at h
 | cons x l ih =>
  cases i with
  | zero => simp [rO, lv]; omega
  | succ i =>
   have := ih i (by simpa using h)
   simp only [List.set_cons_succ, rO, lv, List.getD_cons_succ] at this ⊢
   omega
theorem a9g (L : List Nat) (c : Nat) (h : ∀ i, i < L.length → lv L i ≤ c) : rO L ≤ L.length * c := by
 induction L with
 | nil => simp [rO]
 | cons x l ih =>
  have h0 : x ≤ c := by simpa [lv] using h 0 (by simp)
  have h1 := ih fun i hi => by simpa [lv] using h (i + 1) (by simpa using hi)
  simp only [rO, List.length_cons, Nat.succ_mul]
  omega
theorem a5j (n i : Nat) : lv (List.replicate n 0) i = 0 := by
 simp only [lv, List.getD_eq_getElem?_getD, List.getElem?_replicate]
 split <;> rfl
def up1 (i k w : Nat) (L : List Nat) : List Nat := if lv L k + w > lv L i then L.set i (lv L k + w) else L
theorem a1c (i k w : Nat) (L : List Nat) : (up1 i k w L).length = L.length := by unfold up1; split <;> simp
theorem up1_grow (i k w : Nat) (L : List Nat) (h : i < L.length) : up1 i k w L = L ∨ rO L < rO (up1 i k w L) := by
 unfold up1
 split
 ·rename_i hc
  have := a6G L i (lv L k + w) h
  right; omega
 ·exact .inl rfl
theorem b2i {i k w : Nat} {L : List Nat} (hl : i < L.length) (h : up1 i k w L = L) : lv L k + w ≤ lv L i := by
 apply Classical.byContradiction
 intro hn
 have hc : lv L k + w > lv L i := by omega
 unfold up1 at h
 rw [if_pos hc] at h
 have := a2q L i (lv L k + w) i hl
 rw [h, if_pos rfl] at this
 omega
theorem b0y {n : Nat} {E : Nat → Nat → Nat → Prop} {F : List Nat} (hF : Clo n E F) {i k w : Nat} (he : E i k w) {L : List Nat} (hl : i < L.length) (h : ∀ j, lv L j ≤ lv F j) : ∀ j, lv (up1 i k w L) j ≤ lv F j := by
 intro j
 unfold up1
 split
 ·rw [a2q L i _ j hl]
  split
  ·rename_i e; subst e
   have := hF.le j k w he
   have := h k
   omega
  ·exact h j
 ·exact h j
theorem b0z {i k w : Nat} {L : List Nat} {B : Nat} (hl : i < L.length) (hw : w ≤ 1) (h : ∀ j, lv L j ≤ B) : ∀ j, lv (up1 i k w L) j ≤ B + 1 := by
 intro j
 unfold up1
 split
 ·rw [a2q L i _ j hl]
  split
  ·have := h k; omega
  ·have := h j; omega
 ·have := h j; omega
def ups : List (Nat × Nat × Nat) → List Nat → List Nat
 | [], L => L
 | (i, k, w) :: l, L => ups l (up1 i k w L)
theorem a1d (l m : List (Nat × Nat × Nat)) (L : List Nat) : ups (l ++ m) L = ups m (ups l L) := by
 induction l generalizing L with
 | nil => rfl
 | cons x l ih => obtain ⟨i, k, w⟩ := x; simp only [List.cons_append, ups, ih]
theorem uS (l : List (Nat × Nat × Nat)) (L : List Nat) : (ups l L).length = L.length := by
 induction l generalizing L with
 | nil => rfl
 | cons x l ih => obtain ⟨i, k, w⟩ := x; simp only [ups, ih, a1c]
theorem ups_grow : ∀ (l : List (Nat × Nat × Nat)) (L : List Nat), (∀ x ∈ l, x.1 < L.length) → (ups l L = L ∧ ∀ x ∈ l, up1 x.1 x.2.1 x.2.2 L = L) ∨ rO L < rO (ups l L)
 | [], L, _ => .inl ⟨rfl, fun x h => by simp at h⟩
 | (i, k, w) :: l, L, h => by
  have hi := h (i, k, w) (by simp)
  have hl := ups_grow l (up1 i k w L) fun x hx => by rw [a1c]; exact h x (by simp [hx])
  simp only [ups]
  rcases up1_grow i k w L hi with e | g
  ·rw [e] at hl ⊢
   rcases hl with ⟨h1, h2⟩ | h1
   ·refine .inl ⟨h1, fun x hx => ?_⟩
    rcases List.mem_cons.1 hx with rfl | hx
    ·exact e
    ·exact h2 x hx
   ·exact .inr h1
  ·rcases hl with ⟨h1, _⟩ | h1
   ·rw [h1]; exact .inr g
   ·exact .inr (by omega)
theorem a3P {n : Nat} {E : Nat → Nat → Nat → Prop} {F : List Nat} (hE : Edges n E) (hF : Clo n E F) : ∀ (l : List (Nat × Nat × Nat)) (L : List Nat), L.length = n → (∀ x ∈ l, E x.1 x.2.1 x.2.2) → (∀ j, lv L j ≤ lv F j) → ∀ j, lv (ups l L) j ≤ lv F j
 | [], L, _, _, h => h
 | (i, k, w) :: l, L, hl, he, h => by
  have e := he (i, k, w) (by simp)
  exact a3P hE hF l _ (by rw [a1c]; exact hl) (fun x hx => he x (by simp [hx])) (b0y hF e (by rw [hl]; exact (hE.ok _ _ _ e).1) h)
theorem mU : ∀ (l : List (Nat × Nat × Nat)) (L : List Nat) (B : Nat), (∀ x ∈ l, x.1 < L.length ∧ x.2.2 ≤ 1) → (∀ j, lv L j ≤ B) → ∀ j, lv (ups l L) j ≤ B + l.length
 | [], L, B, _, h => h
 | (i, k, w) :: l, L, B, hx, h => by
  have e := hx (i, k, w) (by simp)
  have := mU l (up1 i k w L) (B + 1) (fun x hx' => by rw [a1c]; exact hx x (by simp [hx'])) (b0z e.1 e.2 h)
  intro j
  have := this j
  simp only [ups, List.length_cons]
  omega
def upsN (l : List (Nat × Nat × Nat)) : Nat → List Nat → List Nat
 | 0, L => L
 | r + 1, L => ups l (upsN l r L)
theorem a2r (l : List (Nat × Nat × Nat)) (r : Nat) (L : List Nat) : (upsN l r L).length = L.length := by
 induction r with
 | zero => rfl
 | succ r ih => simp only [upsN, uS, ih]
theorem a2s (l : List (Nat × Nat × Nat)) (L : List Nat) (hx : ∀ x ∈ l, x.1 < L.length ∧ x.2.2 ≤ 1) (h : ∀ j, lv L j = 0) : ∀ r j, lv (upsN l r L) j ≤ r * l.length
 | 0, j => by simp [upsN, h j]
 | r + 1, j => by
  have := mU l (upsN l r L) (r * l.length) (fun x hx' => by rw [a2r]; exact hx x hx') (a2s l L hx h r) j
  simp only [upsN, Nat.succ_mul]
  omega
theorem b0A {n : Nat} {E : Nat → Nat → Nat → Prop} (hE : Edges n E) (l : List (Nat × Nat × Nat)) (hl : ∀ x, x ∈ l ↔ E x.1 x.2.1 x.2.2) (R : Nat) (hR : n * n < R) :
    let L := upsN l R (List.replicate n 0)
    if ups l L = L then Least n E L else ¬ ∃ F, Clo n E F := by
 intro L
 have hlen : ∀ r, (upsN l r (List.replicate n 0)).length = n := fun r => by rw [a2r]; simp
 have hbel : ∀ F, Clo n E F → ∀ r j, lv (upsN l r (List.replicate n 0)) j ≤ lv F j := fun F hF r => by
  induction r with
  | zero => intro j; simp only [upsN, a5j]; omega
  | succ r ih => exact a3P hE hF l _ (hlen r) (fun x hx => (hl x).1 hx) ih
 have hix : ∀ r, ∀ x ∈ l, x.1 < (upsN l r (List.replicate n 0)).length := fun r x hx => by rw [hlen]; exact (hE.ok _ _ _ ((hl x).1 hx)).1
 have hgrow : ∀ r, ups l (upsN l r (List.replicate n 0)) = upsN l r (List.replicate n 0) ∨ r ≤ rO (upsN l r (List.replicate n 0)) := fun r => by
  induction r with
  | zero => exact .inr (by omega)
  | succ r ih =>
   rcases ih with e | h
   ·left; simp only [upsN]; rw [e, e]
   ·rcases ups_grow l _ (hix r) with ⟨e, _⟩ | g
    ·left; simp only [upsN]; rw [e, e]
    ·right; simp only [upsN]; omega
 by_cases hs : ups l L = L
 ·rw [if_pos hs]
  refine ⟨⟨hlen R, fun i k w he => ?_⟩, fun F hF => hbel F hF R⟩
  rcases ups_grow l L (hix R) with ⟨_, h⟩ | g
  ·exact b2i (by rw [hlen]; exact (hE.ok _ _ _ he).1) (h (i, k, w) ((hl (i, k, w)).2 he))
  ·rw [hs] at g; omega
 ·rw [if_neg hs]
  rintro ⟨F, hF⟩
  obtain ⟨G, hG, hsm⟩ := a3O hE hF
  rcases hgrow R with e | h
  ·exact hs e
  ·have h1 := a9g L n fun i hi => by
    have h2 := hbel G hG R i
    have h3 := hsm i (by rw [← hlen R]; exact hi)
    show lv (upsN l R (List.replicate n 0)) i ≤ n
    omega
   rw [hlen R] at h1
   show False
   have : rO L = rO (upsN l R (List.replicate n 0)) := rfl
   omega
end Go.Proofs.YtgpoopjfkplilaaGreatDoor
end
section
set_option maxRecDepth 100000
set_option maxHeartbeats 4000000
namespace Go.Proofs.YtgpoopjfkplilaaGreatDoor
def placeD (d : List TDir) (nm : ByteArray) : Int := wR (fun x => decide (x.fName = nm)) d 0
theorem placeD_cases (d : List TDir) (nm : ByteArray) : placeD d nm = -1 ∨ ∃ k : Nat, placeD d nm = (k : Int) ∧ k < d.length := by
 unfold placeD
 rcases idxP_fst (fun x => decide (x.fName = nm)) d 0 with ⟨_, h, _⟩ | ⟨h, hl⟩
 ·exact .inl h
 ·exact .inr ⟨_, by rw [h]; simp, hl⟩
def dB (d : List TDir) (i w : Nat) (names : List ByteArray) : List (Nat × Nat × Nat) := names.flatMap fun nm => if 0 ≤ placeD d nm then [(i, (placeD d nm).toNat, w)] else []
theorem wT (d : List TDir) (i w : Nat) (names : List ByteArray) (x : Nat × Nat × Nat) : x ∈ dB d i w names ↔ ∃ nm ∈ names, ∃ k : Nat, placeD d nm = (k : Int) ∧ x = (i, k, w) := by
 unfold dB
 simp only [List.mem_flatMap]
 constructor
 ·rintro ⟨nm, h1, h2⟩
  split at h2
  ·rename_i hp
   refine ⟨nm, h1, (placeD d nm).toNat, by omega, by simpa using h2⟩
  ·simp at h2
 ·rintro ⟨nm, h1, k, h2, rfl⟩
  refine ⟨nm, h1, ?_⟩
  rw [if_pos (by omega), h2]; simp
def oW (d : List TDir) (i : Nat) : List (Nat × Nat × Nat) := match d[i]? with
 | none => []
 | some x => dB d i 0 (putL (bY x.fQuery false)) ++ dB d i 1 (putL (bY x.fQuery true))
def gJ (d : List TDir) : List (Nat × Nat × Nat) := (List.range d.length).flatMap (oW d)
def EE (d : List TDir) (i k w : Nat) : Prop := (i, k, w) ∈ gJ d
theorem a4X (d : List TDir) (i k w : Nat) : EE d i k w ↔ ∃ x, d[i]? = some x ∧ ((w = 0 ∧ ∃ nm ∈ bY x.fQuery false, placeD d nm = (k : Int)) ∨ (w = 1 ∧ ∃ nm ∈ bY x.fQuery true, placeD d nm = (k : Int))) := by
 unfold EE gJ
 simp only [List.mem_flatMap, List.mem_range]
 constructor
 ·rintro ⟨j, hj, h⟩
  unfold oW at h
  rw [List.getElem?_eq_getElem hj] at h
  simp only [List.mem_append, wT, a6B] at h
  rcases h with ⟨nm, h1, k', h2, h3⟩ | ⟨nm, h1, k', h2, h3⟩
  ·cases h3; exact ⟨_, List.getElem?_eq_getElem hj, .inl ⟨rfl, nm, h1, h2⟩⟩
  ·cases h3; exact ⟨_, List.getElem?_eq_getElem hj, .inr ⟨rfl, nm, h1, h2⟩⟩
 ·rintro ⟨x, hx, h⟩
  refine ⟨i, (List.getElem?_eq_some_iff.1 hx).1, ?_⟩
  unfold oW
  rw [hx]
  simp only [List.mem_append, wT, a6B]
  rcases h with ⟨rfl, nm, h1, h2⟩ | ⟨rfl, nm, h1, h2⟩
  ·exact .inl ⟨nm, h1, k, h2, rfl⟩
  ·exact .inr ⟨nm, h1, k, h2, rfl⟩
theorem a2h (d : List TDir) : Edges d.length (EE d) := ⟨fun i k w h => by
 obtain ⟨x, hx, h⟩ := (a4X d i k w).1 h
 refine ⟨(List.getElem?_eq_some_iff.1 hx).1, ?_, by rcases h with ⟨rfl, _⟩ | ⟨rfl, _⟩ <;> omega⟩
 obtain ⟨nm, hp⟩ : ∃ nm, placeD d nm = (k : Int) := by rcases h with ⟨_, nm, _, h⟩ | ⟨_, nm, _, h⟩ <;> exact ⟨nm, h⟩
 rcases placeD_cases d nm with h | ⟨k', h, hl⟩ <;> omega⟩
def abv (d : List TDir) (L : List Nat) (w : Nat) : List ByteArray → Nat → Nat
 | [], m => m
 | nm :: r, m => abv d L w r (if 0 ≤ placeD d nm then (if lv L (placeD d nm).toNat + w > m then lv L (placeD d nm).toNat + w else m) else m)
theorem b1X (d : List TDir) (L : List Nat) (w : Nat) (l : List ByteArray) (k m : Nat) (h : k < l.length) : abv d L w (l.drop k) m = abv d L w (l.drop (k + 1)) (if 0 ≤ placeD d l[k] then (if lv L (placeD d l[k]).toNat + w > m then lv L (placeD d l[k]).toNat + w else m) else m) := by
 rw [List.drop_eq_getElem_cons h, abv]
theorem a7V (d : List TDir) (L : List Nat) (w c : Nat) : ∀ (l : List ByteArray) (m : Nat), abv d L w l m ≤ c ↔ m ≤ c ∧ ∀ nm ∈ l, ∀ k : Nat, placeD d nm = (k : Int) → lv L k + w ≤ c
 | [], m => by simp [abv]
 | nm :: r, m => by
  rw [abv, a7V d L w c r]
  constructor
  ·rintro ⟨h1, h2⟩
   refine ⟨?_, fun n hn k hk => ?_⟩
   ·split at h1
    ·split at h1 <;> omega
    ·exact h1
   ·rcases List.mem_cons.1 hn with rfl | hn
    ·have e : (placeD d n).toNat = k := by omega
     rw [if_pos (by omega), e] at h1
     split at h1 <;> omega
    ·exact h2 n hn k hk
  ·rintro ⟨h1, h2⟩
   refine ⟨?_, fun n hn k hk => h2 n (List.mem_cons_of_mem _ hn) k hk⟩
   split
   ·rename_i hp
    have := h2 nm (by simp) (placeD d nm).toNat (by omega)
    split <;> omega
   ·exact h1
def gI (d : List TDir) (L : List Nat) (x : TDir) : Nat := if abv d L 1 (gU (bY x.fQuery true)) 0 > abv d L 0 (gU (bY x.fQuery false)) 0 then abv d L 1 (gU (bY x.fQuery true)) 0 else abv d L 0 (gU (bY x.fQuery false)) 0
theorem a2i (d : List TDir) (L : List Nat) (i c : Nat) (h : i < d.length) : gI d L d[i] ≤ c ↔ ∀ k w, EE d i k w → lv L k + w ≤ c := by
 have h0 := a7V d L 0 c (gU (bY d[i].fQuery false)) 0
 have h1 := a7V d L 1 c (gU (bY d[i].fQuery true)) 0
 have hm : gI d L d[i] ≤ c ↔ abv d L 0 (gU (bY d[i].fQuery false)) 0 ≤ c ∧ abv d L 1 (gU (bY d[i].fQuery true)) 0 ≤ c := by
  unfold gI; split <;> omega
 rw [hm, h0, h1]
 constructor
 ·rintro ⟨⟨_, a⟩, ⟨_, b⟩⟩ k w he
  obtain ⟨x, hx, he⟩ := (a4X d i k w).1 he
  rw [List.getElem?_eq_getElem h] at hx
  cases hx
  rcases he with ⟨rfl, nm, q1, q2⟩ | ⟨rfl, nm, q1, q2⟩
  ·exact a nm ((uR _ _).2 q1) k q2
  ·exact b nm ((uR _ _).2 q1) k q2
 ·intro a
  exact ⟨⟨by omega, fun nm q k hk => a k 0 ((a4X d i k 0).2 ⟨d[i], List.getElem?_eq_getElem h, .inl ⟨rfl, nm, (uR _ _).1 q, hk⟩⟩)⟩,
   ⟨by omega, fun nm q k hk => a k 1 ((a4X d i k 1).2 ⟨d[i], List.getElem?_eq_getElem h, .inr ⟨rfl, nm, (uR _ _).1 q, hk⟩⟩)⟩⟩
structure Low (d : List TDir) (L : List Nat) : Prop where
 len : L.length = d.length
 clo : ∀ F, Clo d.length (EE d) F → ∀ j, lv L j ≤ lv F j
 small : ∀ j, lv L j ≤ d.length
theorem Low.start (d : List TDir) : Low d (List.replicate d.length 0) := ⟨by simp, fun F _ j => by rw [a5j]; omega, fun j => by rw [a5j]; omega⟩
theorem Low.least_le {d : List TDir} {L : List Nat} (h : Low d L) {i : Nat} (hi : i < d.length) {F : List Nat} (hF : Clo d.length (EE d) F) : gI d L d[i] ≤ lv F i :=
 (a2i d L i _ hi).2 fun k w he => by
  have h1 := hF.le i k w he
  have h2 := h.clo F hF k
  omega
theorem Low.over {d : List TDir} {L : List Nat} (h : Low d L) {i : Nat} (hi : i < d.length) (ho : gI d L d[i] > d.length) : ¬ ∃ F, Clo d.length (EE d) F := by
 rintro ⟨F, hF⟩
 obtain ⟨G, hG, hs⟩ := a3O (a2h d) hF
 have h1 := h.least_le hi hG
 have h2 := hs i hi
 omega
theorem Low.set {d : List TDir} {L : List Nat} (h : Low d L) {i : Nat} (hi : i < d.length) (ho : ¬ gI d L d[i] > d.length) : Low d (L.set i (gI d L d[i])) := by
 have hl : i < L.length := by rw [h.len]; exact hi
 refine ⟨by simp [h.len], fun F hF j => ?_, fun j => ?_⟩
 ·rw [a2q L i _ j hl]
  split
  ·rename_i e; subst e; exact h.least_le hi hF
  ·exact h.clo F hF j
 ·rw [a2q L i _ j hl]
  split
  ·omega
  ·exact h.small j
theorem Low.done {d : List TDir} {L : List Nat} (h : Low d L) (hc : ∀ i, (hi : i < d.length) → gI d L d[i] ≤ lv L i) : Least d.length (EE d) L :=
 ⟨⟨h.len, fun i k w he => (a2i d L i _ ((a2h d).ok i k w he).1).1 (hc i _) k w he⟩, h.clo⟩
theorem Low.sum {d : List TDir} {L : List Nat} (h : Low d L) : rO L ≤ d.length * d.length := by
 have := a9g L d.length fun i _ => h.small i
 rwa [h.len] at this
end Go.Proofs.YtgpoopjfkplilaaGreatDoor
end
section
set_option maxRecDepth 100000
set_option maxHeartbeats 4000000
namespace Go.Proofs.YtgpoopjfkplilaaGreatDoor
open Go Go.Sx Go.RowKit Go.Proofs
theorem a0K (f : Nat) (c : List D) (p : TDir → Bool) (l : List TDir) (hf : ∀ s ∈ l, FnC Tryz.prog f [b3w s, .o (.q c)] (ob (p s))) (hl : l.length ≤ 8388608) : FnC Tryz.prog 246 [.o (.d (.sl (l.map dG))), .o (.f f [c])] (oi (wR p l 0)) := by
 refine ent Tryz.func246 rfl Tryz.call246 rfl (fun C => ?_); simp only [go_sem, st0, Tryz.ntmps246]
 refine aJ ?_
 refine bE (α := Nat) (fun k => [(8, oi k)]) (fun _ => []) (fun k => k ≤ l.length ∧ wR p l 0 = wR p (l.drop k) k) (fun k => l.length - k) 0 (fun _ => ?_) ?_ ?_ (fun k hk => ?_)
 ·simp only [go_sem]
 ·simp only [go_sem]; simp
 ·simp
 ·obtain ⟨hk, hq⟩ := hk
  simp only [go_sem]
  refine aJ ?_
  refine cnd rfl (fun h => ?_) (fun h => ?_)
  ·simp only [decide_eq_true_eq, Int.ofNat_lt] at h
   have hd := List.drop_eq_getElem_cons h
   rw [hd, wR] at hq
   have q0 := @h; refine kM (hf l[k] (List.getElem_mem h)) ?_
   refine cnd rfl (fun h2 => ?_) (fun h2 => ?_)
   ·refine aJ ?_
    exact aA ⟨⟨_, rfl, by simp only [go_sem, hq, h2]⟩, trivial⟩
   ·refine aJ ?_
    refine aH (k + 1) ?_ ?_ ?_
    ·simp only [go_sem]; simp
    ·rw [hq, h2]; exact ⟨h, by simp⟩
    ·omega
  ·simp only [decide_eq_false_iff_not] at h
   have e : k = l.length := by omega
   subst e
   simp only [List.drop_length, wR] at hq
   refine aJ ?_
   exact aA ⟨⟨_, rfl, by simp only [go_sem, hq]⟩, trivial⟩
@[go_sem] def rG (n : Nat) : List D := [iv (n : Int)]
theorem b0r (nm : ByteArray) (x : TDir) : FnC Tryz.prog 247 [b3w x, .o (.q [sv nm])] (ob (decide (x.fName = nm))) := by
 refine ent Tryz.func247 rfl Tryz.call247 rfl (fun C => ?_); simp only [go_sem, st0, Tryz.ntmps247]
 refine aJ ?_
 exact aA ⟨⟨_, rfl, by simp only [go_sem]⟩, trivial⟩
theorem a6r (d : List TDir) (nm : ByteArray) (hl : d.length ≤ 4300000) : FnC Tryz.prog 227 [.o (.d (.sl (d.map dG))), os nm] (oi (placeD d nm)) := by
 refine ent Tryz.func227 rfl Tryz.call227 rfl (fun C => ?_); simp only [go_sem, st0, Tryz.ntmps227]
 refine mH (a0K _ _ (fun x => decide (x.fName = nm)) d (fun y _ => b0r nm y) (by omega)) ?_
 exact aA ⟨⟨_, rfl, by simp only [go_sem, placeD]⟩, trivial⟩
theorem jZ (d : List TDir) (nm : ByteArray) (hl : d.length ≤ 4300000) : FnC Tryz.prog 203 [.o (.d (.sl (d.map dG))), os nm] (oi (placeD d nm)) := by
 refine ent Tryz.func203 rfl Tryz.call203 rfl (fun C => ?_); simp only [go_sem, st0, Tryz.ntmps203]
 refine aJ ?_
 refine bE (α := Nat) (fun k => [(5, oi k)]) (fun _ => []) (fun k => k ≤ d.length ∧ placeD d nm = wR (fun x => decide (x.fName = nm)) (d.drop k) k) (fun k => d.length - k) 0 (fun _ => ?_) ?_ ?_ (fun k hk => ?_)
 ·simp only [go_sem]
 ·simp only [go_sem]; simp
 ·simp [placeD]
 ·obtain ⟨hk, hq⟩ := hk
  simp only [go_sem]
  refine aJ ?_
  refine cnd rfl (fun h => ?_) (fun h => ?_)
  ·simp only [decide_eq_true_eq, Int.ofNat_lt] at h
   have hd := List.drop_eq_getElem_cons h
   rw [hd, wR] at hq
   by_cases h2 : d[k].fName = nm
   ·rw [if_pos (by simp [h2])] at hq
    have q0 := @h; have q1 := @h2; have q2 := @decide_true; refine kZ ?_
    exact aA ⟨⟨_, rfl, by simp only [go_sem, hq]⟩, trivial⟩
   ·rw [if_neg (by simp [h2])] at hq
    have q0 := @h; have q1 := @h2; have q2 := @decide_false; refine kZ ?_
    refine aH (k + 1) ?_ ?_ ?_
    ·simp only [go_sem]; simp
    ·rw [hq]; exact ⟨h, by simp⟩
    ·omega
  ·simp only [decide_eq_false_iff_not] at h
   have e : k = d.length := by omega
   subst e
   simp only [List.drop_length, wR] at hq
   refine aJ ?_
   exact aA ⟨⟨_, rfl, by simp only [go_sem, hq]⟩, trivial⟩
theorem a0c (L : List Nat) (i : Nat) (h : i < L.length) : L[i] = lv L i := by simp [lv, List.getD_eq_getElem?_getD, h]
def mxN (a b : Nat) : Nat := if b > a then b else a
theorem a8X (a b : Nat) : mxI (a : Int) (b : Int) = ((mxN a b : Nat) : Int) := by
 unfold mxI mxN
 split <;> split <;> omega
theorem a6s (d : List TDir) (L : List Nat) (w : Nat) (names : List ByteArray) (hd : d.length ≤ 4300000) (hL : L.length = d.length) (hn : names.length ≤ 4300000) (hB : ∀ j, lv L j ≤ 1000000) (hw : w ≤ 1) : FnC Tryz.prog 188 [.o (.d (.sl (d.map dG))), .o (.d (.sl (L.map rG))), .o (.d (.sl (names.map bD))), oi (w : Nat)] (oi (abv d L w names 0 : Nat)) := by
 refine ent Tryz.func188 rfl Tryz.call188 rfl (fun C => ?_); simp only [go_sem, st0, Tryz.ntmps188]
 refine aJ ?_
 refine bE (α := Nat × Nat) (fun x => [(9, oi (x.2 : Nat)), (15, oi x.1)]) (fun _ => []) (fun x => x.1 ≤ names.length ∧ abv d L w names 0 = abv d L w (names.drop x.1) x.2 ∧ x.2 ≤ 1000001) (fun x => names.length - x.1) (0, 0) (fun _ => ?_) ?_ ?_ (fun x hx => ?_)
 ·simp only [go_sem]
 ·simp only [go_sem]; simp
 ·simp
 ·obtain ⟨k, m⟩ := x
  obtain ⟨hk, hq, hm⟩ := hx
  simp only at hk hq hm
  simp only [go_sem]
  refine aJ ?_
  refine cnd rfl (fun h => ?_) (fun h => ?_)
  ·simp only [decide_eq_true_eq, Int.ofNat_lt] at h
   rw [b1X d L w names k m h] at hq
   rcases placeD_cases d names[k] with hp | ⟨p, hp, hpl⟩
   ·rw [if_neg (by omega)] at hq
    have q0 := @h; have q1 := @hp; have q2 := @decide_true; have q3 := @decide_false; refine tT (a6r d names[k] hd) ?_
    refine aH (k + 1, m) ?_ ?_ ?_
    ·simp only [go_sem]; simp
    ·exact ⟨by simp only; omega, hq, hm⟩
    ·simp only; omega
   ·have hpL : p < L.length := by omega
    have hb := hB p
    have hg := a0c L p hpL
    have hge : (0 : Int) ≤ (p : Int) := by omega
    have hs : ((lv L p : Nat) : Int) + (w : Int) = ((lv L p + w : Nat) : Int) := by omega
    have hmx := a8X m (lv L p + w)
    rw [if_pos (by omega), hp, Int.toNat_natCast] at hq
    have q0 := @h; have q1 := @hp; have q2 := @hge; have q3 := @hpL; have q4 := @hg; have q5 := @hs; have q6 := @hmx; have q7 := @decide_true; have q8 := @decide_false; have q9 := @Int.toNat_natCast; refine a8I (a6r d names[k] hd) ?_
    refine aH (k + 1, mxN m (lv L p + w)) ?_ ?_ ?_
    ·simp only [go_sem]; simp
    ·exact ⟨by simp only; omega, hq, by simp only [mxN]; split <;> omega⟩
    ·simp only; omega
  ·simp only [decide_eq_false_iff_not] at h
   have e : k = names.length := by omega
   subst e
   rw [List.drop_length, abv] at hq
   refine aJ ?_
   exact aA ⟨⟨_, rfl, by simp only [go_sem, hq]⟩, trivial⟩
theorem a0b {d : List TDir} (h : dH d = true) (i : Nat) (hi : i < d.length) : okQ d[i].fQuery = true := by
 unfold dH at h
 simp only [Bool.and_eq_true, List.all_eq_true, List.mem_range] at h
 have := h.1 i hi
 unfold jE at this
 rw [List.getElem?_eq_getElem hi] at this
 simp only [Bool.and_eq_true] at this
 exact this.2.2
theorem wS {d : List TDir} (h : dH d = true) : d.length ≤ 5 := by
 unfold dH at h
 simp only [Bool.and_eq_true, decide_eq_true_eq] at h
 omega
theorem a6p (q : List TNode) (hq : okQ q = true) (hw : wNodeS q ≤ 4300000) : FnC Tryz.prog 189 [.o (.d (.sl (q.map bG)))] (.o (.d (.sl ((gU (bY q false)).map bD)))) := (a7W q hq hw).pu (by simp only [go_sem, and_self])
theorem a6q (q : List TNode) (hq : okQ q = true) (hw : wNodeS q ≤ 4300000) : FnC Tryz.prog 190 [.o (.d (.sl (q.map bG)))] (.o (.d (.sl ((gU (bY q true)).map bD)))) := (a6u q hq hw).pu (by simp only [go_sem, and_self])
theorem a3G (d : List TDir) (L : List Nat) (names : List ByteArray) (hd : d.length ≤ 4300000) (hL : L.length = d.length) (hn : names.length ≤ 4300000) (hB : ∀ j, lv L j ≤ 1000000) : FnC Tryz.prog 188 [.o (.d (.sl (d.map dG))), .o (.d (.sl (L.map rG))), .o (.d (.sl (names.map bD))), oi 0] (oi (abv d L 0 names 0 : Nat)) := a6s d L 0 names hd hL hn hB (by omega)
theorem a3H (d : List TDir) (L : List Nat) (names : List ByteArray) (hd : d.length ≤ 4300000) (hL : L.length = d.length) (hn : names.length ≤ 4300000) (hB : ∀ j, lv L j ≤ 1000000) : FnC Tryz.prog 188 [.o (.d (.sl (d.map dG))), .o (.d (.sl (L.map rG))), .o (.d (.sl (names.map bD))), oi 1] (oi (abv d L 1 names 0 : Nat)) := a6s d L 1 names hd hL hn hB (by omega)
noncomputable def resL (d : List TDir) : List Nat := if dH d then a8d d.length (EE d) else []
noncomputable def yO (d : List TDir) : Bool := if dH d then a2p d.length (EE d) else false
theorem b1W (L : List Nat) (i v : Nat) : (L.map rG).set i [D.v (Value.int .i64 (v : Int))] = (L.set i v).map rG := by rw [List.map_set]; rfl
structure Pass (d : List TDir) (L : List Nat) (i : Nat) (M : List Nat) (ch : Bool) : Prop where
 low : Low d M
 no : ch = false → M = L ∧ ∀ j, (hj : j < d.length) → j < i → gI d L d[j] ≤ lv L j
 yes : ch = true → rO L < rO M
theorem Pass.start {d : List TDir} {L : List Nat} (h : Low d L) : Pass d L 0 L false := ⟨h, fun _ => ⟨rfl, fun j _ hj => by omega⟩, fun h => by cases h⟩
theorem Pass.keep {d : List TDir} {L M : List Nat} {i : Nat} {ch : Bool} (h : Pass d L i M ch) (hi : i < d.length) (hle : ¬ gI d M d[i] > lv M i) : Pass d L (i + 1) M ch := by
 refine ⟨h.low, fun hc => ⟨(h.no hc).1, fun j hj hlt => ?_⟩, h.yes⟩
 by_cases e : j = i
 ·subst e
  have := (h.no hc).1
  subst this
  omega
 ·exact (h.no hc).2 j hj (by omega)
theorem Pass.set {d : List TDir} {L M : List Nat} {i : Nat} {ch : Bool} (h : Pass d L i M ch) (hi : i < d.length) (ho : ¬ gI d M d[i] > d.length) (hgt : gI d M d[i] > lv M i) : Pass d L (i + 1) (M.set i (gI d M d[i])) true := by
 have hl : i < M.length := by rw [h.low.len]; exact hi
 have hs := a6G M i (gI d M d[i]) hl
 refine ⟨h.low.set hi ho, fun hc => (by cases hc), fun _ => ?_⟩
 cases ch with
 | false =>
  have := (h.no rfl).1
  subst this
  omega
 | true =>
  have := h.yes rfl
  omega
theorem a2O (d : List TDir) (hd : iT d ≤ 4300000) : FnC Tryz.prog 139 [.o (.d (.sl (d.map dG)))] (.t [(false, [.w 3 1 ((resL d).map rG)]), (false, [.d (bv (yO d))])]) := by
 have hd0 : d.length + eQ lS d ≤ 4300000 := hd
 refine ent Tryz.func139 rfl Tryz.call139 rfl (fun C => ?_); simp only [go_sem, st0, Tryz.ntmps139]
 cases hv : dH d
 ·have e1 : resL d = [] := by simp [resL, hv]
  have e2 : yO d = false := by simp [yO, hv]
  have q0 := @hv; refine kM (yQ d hd) ?_
  exact aA ⟨⟨_, rfl, by simp only [go_sem, e1, e2]⟩, by simp [aM]⟩
 have e1 : resL d = a8d d.length (EE d) := by simp [resL, hv]
 have e2 : yO d = a2p d.length (EE d) := by simp [yO, hv]
 have hl5 := wS hv
 have q0 := @hv; refine kM (yQ d hd) ?_
 refine bE (α := List Nat × Bool) (fun x => [(5, ob x.2)]) (fun x => [(0, .row 3 1 (x.1.map rG) true)]) (fun x => Low d x.1 ∧ (x.2 = false → ∀ i, (hi : i < d.length) → gI d x.1 d[i] ≤ lv x.1 i)) (fun x => if x.2 then d.length * d.length - rO x.1 + 1 else 0) (List.replicate d.length 0, true) (fun _ => ?_) ?_ ?_ (fun x hx => ?_)
 ·simp only [go_sem]
 ·simp only [go_sem]; simp [rG]
 ·exact ⟨Low.start d, fun h => by cases h⟩
 ·obtain ⟨L, ch⟩ := x
  obtain ⟨hlow, hdone⟩ := hx
  simp only at hlow hdone
  simp only [go_sem]
  refine aJ ?_
  refine cnd rfl (fun h => ?_) (fun h => ?_)
  ·subst h
   refine aJ ?_
   refine bE (α := Nat × List Nat × Bool) (fun x => [(5, ob x.2.2), (18, oi x.1)]) (fun x => [(0, .row 3 1 (x.2.1.map rG) true)]) (fun x => x.1 ≤ d.length ∧ Pass d L x.1 x.2.1 x.2.2) (fun x => d.length - x.1) (0, L, false) (fun _ => ?_) ?_ ?_ (fun x hx => ?_)
   ·simp only [go_sem]
   ·simp only [go_sem]; simp
   ·exact ⟨by simp, Pass.start hlow⟩
   ·obtain ⟨i, M, c⟩ := x
    obtain ⟨hi, hp⟩ := hx
    simp only at hi hp
    simp only [go_sem]
    refine aJ ?_
    refine cnd rfl (fun h => ?_) (fun h => ?_)
    ·simp only [decide_eq_true_eq, Int.ofNat_lt] at h
     have hq := a0b hv i h
     have hq9 := fJ hq
     have hwd := dK lS d h
     have hwq : wNodeS d[i].fQuery ≤ lS d[i] := by unfold lS; omega
     have hML : M.length = d.length := hp.low.len
     have hiM : i < M.length := by omega
     have hB : ∀ j, lv M j ≤ 1000000 := fun j => by have := hp.low.small j; omega
     have ho1 := a3L (bY d[i].fQuery false)
     have ho2 := a3L (bY d[i].fQuery true)
     have ho3 := jC d[i].fQuery false d[i].fQuery.length
     have ho4 := jC d[i].fQuery true d[i].fQuery.length
     have hk1 : (gU (bY d[i].fQuery false)).length ≤ 4300000 := by unfold bY at ho1 ⊢; omega
     have hk2 : (gU (bY d[i].fQuery true)).length ≤ 4300000 := by unfold bY at ho2 ⊢; omega
     have hmx : mxI (abv d M 0 (gU (bY d[i].fQuery false)) 0 : Nat) (abv d M 1 (gU (bY d[i].fQuery true)) 0 : Nat) = ((gI d M d[i] : Nat) : Int) := by
      rw [a8X]; rfl
     have hg := a0c M i hiM
     have qH := aI @h @hmx; repeat' (with_reducible first | refine nY ?_ | (refine mX ?_; try simp only [go_sem, qH]) | refine kD ?_ | refine rD ?_ | refine cP (a6p d[i].fQuery hq (by omega)) ?_ | refine cP (a6q d[i].fQuery hq (by omega)) ?_ | refine vO (a3G d M (gU (bY d[i].fQuery false)) (by omega) hML hk1 hB) ?_ | refine vQ (a3G d M (gU (bY d[i].fQuery false)) (by omega) hML hk1 hB) ?_ | refine vO (a3H d M (gU (bY d[i].fQuery true)) (by omega) hML hk2 hB) ?_ | refine vQ (a3H d M (gU (bY d[i].fQuery true)) (by omega) hML hk2 hB) ?_ | refine aO ?_ | fail)
     refine cnd rfl (fun ho => ?_) (fun ho => ?_)
     ·simp only [decide_eq_true_eq, Int.ofNat_lt] at ho
      have hno := hp.low.over h ho
      have f1 := a9f hno
      have f2 := a6F hno
      refine aJ ?_
      exact aA ⟨⟨_, rfl, by simp only [go_sem, e1, e2, f1, f2]⟩, by simp [aM]⟩
     ·simp only [decide_eq_false_iff_not, Int.ofNat_lt] at ho
      have q0 := @h; have q1 := @hiM; have q2 := @hg; refine kZ ?_
      refine cnd rfl (fun hgt => ?_) (fun hgt => ?_)
      ·simp only [decide_eq_true_eq, Int.ofNat_lt] at hgt
       have q0 := @h; have q1 := @hiM; have q2 := @hg; refine kZ ?_
       refine aH (i + 1, M.set i (gI d M d[i]), true) ?_ ?_ ?_
       ·simp only [go_sem, ← b1W]; simp
       ·exact ⟨by simp only; omega, hp.set h ho hgt⟩
       ·simp only; omega
      ·simp only [decide_eq_false_iff_not, Int.ofNat_lt] at hgt
       have q0 := @h; have q1 := @hiM; have q2 := @hg; refine kZ ?_
       refine aH (i + 1, M, c) ?_ ?_ ?_
       ·simp only [go_sem]; simp
       ·exact ⟨by simp only; omega, hp.keep h hgt⟩
       ·simp only; omega
    ·simp only [decide_eq_false_iff_not] at h
     have e : i = d.length := by omega
     subst e
     refine aJ ?_
     refine aH (M, c) ?_ ?_ ?_
     ·simp only [go_sem]; simp
     ·exact ⟨hp.low, fun hc i hi => by
       simp only at hc
       obtain ⟨h1, h2⟩ := hp.no hc
       subst h1
       exact h2 i hi hi⟩
     ·have hs := hp.low.sum
      simp only
      cases c with
      | false => simp
      | true =>
       have := hp.yes rfl
       simp only [if_true]
       omega
  ·subst h
   have hL := hlow.done (hdone rfl)
   have f1 := a9e hL
   have f2 := a3N hL.clo
   refine aJ ?_
   exact aA ⟨⟨_, rfl, by simp only [go_sem, e1, e2, f1, f2]⟩, by simp [aM]⟩
theorem oJ (d : List TDir) (hd : iT d ≤ 4300000) : FnC Tryz.prog 88 [.o (.d (.sl (d.map dG)))] (ob (yO d)) := by
 refine ent Tryz.func88 rfl Tryz.call88 rfl (fun C => ?_); simp only [go_sem, st0, Tryz.ntmps88]
 refine mH (a2O d hd) ?_
 exact aA ⟨⟨_, rfl, by simp only [go_sem]⟩, trivial⟩
theorem a6n (q : List TNode) (hq : okQ q = true) (hw : wNodeS q ≤ 4300000) : FnC Tryz.prog 202 [.o (.d (.sl (q.map bG)))] (.o (.d (.sl ((putL (bY q false)).map bD)))) := (a7X q hq hw).pu (by simp only [go_sem, and_self])
theorem a6o (q : List TNode) (hq : okQ q = true) (hw : wNodeS q ≤ 4300000) : FnC Tryz.prog 204 [.o (.d (.sl (q.map bG)))] (.o (.d (.sl ((putL (bY q true)).map bD)))) := (a6v q hq hw).pu (by simp only [go_sem, and_self])
theorem a0z (d : List TDir) (i w : Nat) (names : List ByteArray) (k : Nat) (h : k < names.length) : dB d i w (names.take (k + 1)) = dB d i w (names.take k) ++ (if 0 ≤ placeD d names[k] then [(i, (placeD d names[k]).toNat, w)] else []) := by
 unfold dB
 rw [List.take_succ_eq_append_getElem h, List.flatMap_append]
 simp
theorem nO (d : List TDir) (i w : Nat) (names : List ByteArray) : (dB d i w names).length ≤ names.length := by
 induction names with
 | nil => simp [dB]
 | cons x l ih =>
  have e : dB d i w (x :: l) = (if 0 ≤ placeD d x then [(i, (placeD d x).toNat, w)] else []) ++ dB d i w l := by simp [dB]
  rw [e, List.length_append, List.length_cons]
  split <;> simp <;> omega
theorem qF (d : List TDir) (i w : Nat) (hi : i < d.length) (hw : w ≤ 1) (names : List ByteArray) (x : Nat × Nat × Nat) (hx : x ∈ dB d i w names) : x.1 < d.length ∧ x.2.2 ≤ 1 := by
 obtain ⟨nm, _, k, _, rfl⟩ := (wT d i w names x).1 hx
 exact ⟨hi, hw⟩
def iV (d : List TDir) (k : Nat) : List (Nat × Nat × Nat) := (List.range k).flatMap (oW d)
theorem a0A (d : List TDir) (k : Nat) : iV d (k + 1) = iV d k ++ oW d k := by
 simp [iV, List.range_succ, List.flatMap_append]
theorem b0q (d : List TDir) (i : Nat) (h : i < d.length) : oW d i = dB d i 0 (putL (bY d[i].fQuery false)) ++ dB d i 1 (putL (bY d[i].fQuery true)) := by
 unfold oW; rw [List.getElem?_eq_getElem h]
theorem a7U (d : List TDir) (hv : dH d = true) (i : Nat) : (oW d i).length ≤ 18 := by
 unfold oW
 cases hx : d[i]? with
 | none => simp
 | some x =>
  have hi := (List.getElem?_eq_some_iff.1 hx).1
  have hxe : d[i] = x := (List.getElem?_eq_some_iff.1 hx).2
  have hq := (fJ (a0b hv i hi)).2
  rw [hxe] at hq
  have h1 := nO d i 0 (putL (bY x.fQuery false))
  have h2 := nO d i 1 (putL (bY x.fQuery true))
  have h3 := uE (bY x.fQuery false)
  have h4 := uE (bY x.fQuery true)
  have h5 : (bY x.fQuery false).length ≤ x.fQuery.length := jC _ _ _
  have h6 : (bY x.fQuery true).length ≤ x.fQuery.length := jC _ _ _
  simp only [List.length_append]
  omega
theorem a2f (d : List TDir) (hv : dH d = true) (k : Nat) : (iV d k).length ≤ 18 * k := by
 induction k with
 | zero => simp [iV]
 | succ k ih => rw [a0A, List.length_append]; have := a7U d hv k; omega
theorem a3F (d : List TDir) (k : Nat) (x : Nat × Nat × Nat) (hx : x ∈ iV d k) : x.1 < d.length ∧ x.2.2 ≤ 1 := by
 unfold iV at hx
 obtain ⟨i, _, h⟩ := List.mem_flatMap.1 hx
 unfold oW at h
 cases hd : d[i]? with
 | none => rw [hd] at h; simp at h
 | some y =>
  rw [hd] at h
  have hi := (List.getElem?_eq_some_iff.1 hd).1
  simp only [List.mem_append] at h
  rcases h with h | h
  ·exact qF d i 0 hi (by omega) _ x h
  ·exact qF d i 1 hi (by omega) _ x h
theorem a8W {i p w : Nat} {L : List Nat} (h : lv L p + w > lv L i) : up1 i p w L = L.set i (lv L p + w) := by unfold up1; rw [if_pos h]
theorem b1V {i p w : Nat} {L : List Nat} (h : ¬ lv L p + w > lv L i) : up1 i p w L = L := by unfold up1; rw [if_neg h]
theorem a2g (d : List TDir) (L : List Nat) (hv : dH d = true) (hd : iT d ≤ 4300000) (hL : L.length = d.length) (hB : ∀ j, lv L j ≤ 1000000) : FnC Tryz.prog 154 [.o (.d (.sl (d.map dG))), .o (.d (.sl (L.map rG)))] (.o (.w 3 1 ((ups (gJ d) L).map rG))) := by
 have hd0 : d.length + eQ lS d ≤ 4300000 := hd
 have hl5 := wS hv
 refine ent Tryz.func154 rfl Tryz.call154 rfl (fun C => ?_); simp only [go_sem, st0, Tryz.ntmps154]
 refine aJ ?_
 refine bE (α := Nat) (fun i => [(5, .o (.s 0)), (13, .o .u), (15, .o .u), (6, oi i)]) (fun i => [(0, .row 3 1 ((ups (iV d i) L).map rG) true)]) (fun i => i ≤ d.length) (fun i => d.length - i) 0 (fun _ => ?_) ?_ ?_ (fun i hi => ?_)
 ·simp only [go_sem]
 ·simp only [go_sem]; simp [iV, ups]
 ·simp
 ·simp only [go_sem]
  refine aJ ?_
  refine cnd rfl (fun h => ?_) (fun h => ?_)
  ·simp only [decide_eq_true_eq, Int.ofNat_lt] at h
   have hq := a0b hv i h
   have hwd := dK lS d h
   have hwq : wNodeS d[i].fQuery ≤ lS d[i] := by unfold lS; omega
   have hsuc := a0A d i
   rw [b0q d i h] at hsuc
   have hML : (ups (iV d i) L).length = d.length := by rw [uS]; exact hL
   have hMB := mU (iV d i) L 1000000 (fun x hx => by rw [hL]; exact a3F d i x hx) hB
   have hKl := a2f d hv i
   have hfin : ups (iV d (i + 1)) L = ups (dB d i 1 (putL (bY d[i].fQuery true))) (ups (dB d i 0 (putL (bY d[i].fQuery false))) (ups (iV d i) L)) := by
    rw [hsuc, a1d, a1d]
   have hn1 := uE (bY d[i].fQuery false)
   have hn2 := uE (bY d[i].fQuery true)
   have hn3 : (bY d[i].fQuery false).length ≤ d[i].fQuery.length := jC _ _ _
   have hn4 : (bY d[i].fQuery true).length ≤ d[i].fQuery.length := jC _ _ _
   have hq9 := fJ hq
   have hMB2 : ∀ j, lv (ups (iV d i) L) j ≤ 1000200 := fun j => by have := hMB j; omega
   generalize ups (iV d i) L = M at *
   have q0 := @h; refine kM (a6n d[i].fQuery hq (by omega)) ?_
   generalize putL (bY d[i].fQuery false) = P at *
   refine bE (α := Nat) (fun k => [(8, oi k)]) (fun k => [(0, .row 3 1 ((ups (dB d i 0 (P.take k)) M).map rG) true)]) (fun k => k ≤ P.length) (fun k => P.length - k) 0 (fun _ => ?_) ?_ ?_ (fun k hk => ?_)
   ·simp only [go_sem]
   ·simp only [go_sem]; simp [dB, ups]
   ·simp
   ·simp only [go_sem]
    refine aJ ?_
    refine cnd rfl (fun h1 => ?_) (fun h1 => ?_)
    ·simp only [decide_eq_true_eq, Int.ofNat_lt] at h1
     have ht := a0z d i 0 P k h1
     have hXL : (ups (dB d i 0 (P.take k)) M).length = d.length := by rw [uS]; exact hML
     have hXB := mU (dB d i 0 (P.take k)) M 1000200 (fun x hx => by rw [hML]; exact qF d i 0 h (by omega) _ x hx) hMB2
     have hel := nO d i 0 (P.take k)
     rw [List.length_take] at hel
     have hup : ups (dB d i 0 (P.take (k + 1))) M = ups (if 0 ≤ placeD d P[k] then [(i, (placeD d P[k]).toNat, 0)] else []) (ups (dB d i 0 (P.take k)) M) := by rw [ht, a1d]
     generalize ups (dB d i 0 (P.take k)) M = X at *
     have hiX : i < X.length := by omega
     have hg := a0c X i hiX
     rcases placeD_cases d P[k] with hp | ⟨p, hp, hpl⟩
     ·rw [if_neg (by omega)] at hup
      have q0 := @h1; have q1 := @hp; have q2 := @decide_true; have q3 := @decide_false; refine tT (jZ d P[k] (by omega)) ?_
      refine aH (k + 1) ?_ ?_ ?_
      ·simp only [go_sem, hup, ups]; simp
      ·omega
      ·omega
     ·have hpX : p < X.length := by omega
      have hge : (0 : Int) ≤ (p : Int) := by omega
      have hgp := a0c X p hpX
      rw [if_pos (by omega), hp, Int.toNat_natCast] at hup
      simp only [ups] at hup
      by_cases hc : lv X p > lv X i
      ·have hcI : ((lv X i : Nat) : Int) < ((lv X p : Nat) : Int) := by omega
       rw [a8W (by omega), Nat.add_zero] at hup
       have qH := aI @h1 (aI @hp (aI @hge (aI @hpX (aI @hiX (aI @hg (aI @hgp (aI @hcI (aI @decide_true (aI @decide_false @Int.toNat_natCast))))))))); repeat' (with_reducible first | refine nY ?_ | (refine mX ?_; try simp only [go_sem, qH]) | refine kD ?_ | refine rD ?_ | refine cP (jZ d P[k] (by omega)) ?_ | refine aO ?_ | fail)
       refine aH (k + 1) ?_ ?_ ?_
       ·simp only [go_sem, hup, ← b1W]; simp
       ·omega
       ·omega
      ·have hcI : ¬ ((lv X i : Nat) : Int) < ((lv X p : Nat) : Int) := by omega
       rw [b1V (by omega)] at hup
       have qH := aI @h1 (aI @hp (aI @hge (aI @hpX (aI @hiX (aI @hg (aI @hgp (aI @hcI (aI @decide_true (aI @decide_false @Int.toNat_natCast))))))))); repeat' (with_reducible first | refine nY ?_ | (refine mX ?_; try simp only [go_sem, qH]) | refine kD ?_ | refine rD ?_ | refine cP (jZ d P[k] (by omega)) ?_ | refine aO ?_ | fail)
       refine aH (k + 1) ?_ ?_ ?_
       ·simp only [go_sem, hup]; simp
       ·omega
       ·omega
    ·simp only [decide_eq_false_iff_not] at h1
     have e : k = P.length := by omega
     subst e
     rw [List.take_length]
     have hXL : (ups (dB d i 0 P) M).length = d.length := by rw [uS]; exact hML
     have hXB := mU (dB d i 0 P) M 1000200 (fun x hx => by rw [hML]; exact qF d i 0 h (by omega) _ x hx) hMB2
     have hel := nO d i 0 P
     have hXB2 : ∀ j, lv (ups (dB d i 0 P) M) j ≤ 1000400 := fun j => by have := hXB j; omega
     generalize ups (dB d i 0 P) M = Y at *
     have q0 := @h; refine kM (a6o d[i].fQuery hq (by omega)) ?_
     generalize putL (bY d[i].fQuery true) = N at *
     refine bE (α := Nat) (fun k => [(11, oi k)]) (fun k => [(0, .row 3 1 ((ups (dB d i 1 (N.take k)) Y).map rG) true)]) (fun k => k ≤ N.length) (fun k => N.length - k) 0 (fun _ => ?_) ?_ ?_ (fun k hk => ?_)
     ·simp only [go_sem]
     ·simp only [go_sem]; simp [dB, ups]
     ·simp
     ·simp only [go_sem]
      refine aJ ?_
      refine cnd rfl (fun h1 => ?_) (fun h1 => ?_)
      ·simp only [decide_eq_true_eq, Int.ofNat_lt] at h1
       have ht := a0z d i 1 N k h1
       have hZL : (ups (dB d i 1 (N.take k)) Y).length = d.length := by rw [uS]; exact hXL
       have hZB := mU (dB d i 1 (N.take k)) Y 1000400 (fun x hx => by rw [hXL]; exact qF d i 1 h (by omega) _ x hx) hXB2
       have hel := nO d i 1 (N.take k)
       rw [List.length_take] at hel
       have hup : ups (dB d i 1 (N.take (k + 1))) Y = ups (if 0 ≤ placeD d N[k] then [(i, (placeD d N[k]).toNat, 1)] else []) (ups (dB d i 1 (N.take k)) Y) := by rw [ht, a1d]
       generalize ups (dB d i 1 (N.take k)) Y = X at *
       have hiX : i < X.length := by omega
       have hg := a0c X i hiX
       rcases placeD_cases d N[k] with hp | ⟨p, hp, hpl⟩
       ·rw [if_neg (by omega)] at hup
        have q0 := @h1; have q1 := @hp; have q2 := @decide_true; have q3 := @decide_false; refine tT (jZ d N[k] (by omega)) ?_
        refine aH (k + 1) ?_ ?_ ?_
        ·simp only [go_sem, hup, ups]; simp
        ·omega
        ·omega
       ·have hpX : p < X.length := by omega
        have hge : (0 : Int) ≤ (p : Int) := by omega
        have hgp := a0c X p hpX
        have hbp := hZB p
        have hs1 : ((lv X p : Nat) : Int) + 1 = ((lv X p + 1 : Nat) : Int) := by omega
        rw [if_pos (by omega), hp, Int.toNat_natCast] at hup
        simp only [ups] at hup
        by_cases hc : lv X p + 1 > lv X i
        ·have hcI : ((lv X i : Nat) : Int) < ((lv X p + 1 : Nat) : Int) := by omega
         rw [a8W hc] at hup
         have qH := aI @h1 (aI @hp (aI @hge (aI @hpX (aI @hiX (aI @hg (aI @hgp (aI @hs1 (aI @hcI (aI @decide_true (aI @decide_false @Int.toNat_natCast)))))))))); repeat' (with_reducible first | refine nY ?_ | (refine mX ?_; try simp only [go_sem, qH]) | refine kD ?_ | refine rD ?_ | refine cP (jZ d N[k] (by omega)) ?_ | refine aO ?_ | fail)
         refine aH (k + 1) ?_ ?_ ?_
         ·simp only [go_sem, hup, ← b1W]; simp
         ·omega
         ·omega
        ·have hcI : ¬ ((lv X i : Nat) : Int) < ((lv X p + 1 : Nat) : Int) := by omega
         rw [b1V hc] at hup
         have qH := aI @h1 (aI @hp (aI @hge (aI @hpX (aI @hiX (aI @hg (aI @hgp (aI @hs1 (aI @hcI (aI @decide_true (aI @decide_false @Int.toNat_natCast)))))))))); repeat' (with_reducible first | refine nY ?_ | (refine mX ?_; try simp only [go_sem, qH]) | refine kD ?_ | refine rD ?_ | refine cP (jZ d N[k] (by omega)) ?_ | refine aO ?_ | fail)
         refine aH (k + 1) ?_ ?_ ?_
         ·simp only [go_sem, hup]; simp
         ·omega
         ·omega
      ·simp only [decide_eq_false_iff_not] at h1
       have e : k = N.length := by omega
       subst e
       rw [List.take_length]
       refine aJ ?_
       refine aH (i + 1) ?_ ?_ ?_
       ·simp only [go_sem, hfin]; simp
       ·omega
       ·omega
  ·simp only [decide_eq_false_iff_not] at h
   have e : i = d.length := by omega
   subst e
   refine aJ ?_
   exact aA ⟨⟨_, rfl, by simp only [go_sem, iV, gJ]⟩, trivial⟩
theorem a4W (A B : List Nat) (k : Nat) (hA : k < A.length) (hB : k < B.length) (h : A.take k = B.take k) (e : A[k] = B[k]) : A.take (k + 1) = B.take (k + 1) := by
 rw [List.take_succ_eq_append_getElem hA, List.take_succ_eq_append_getElem hB, h, e]
theorem a8V (A B : List Nat) (hA : A.length ≤ 4300000) (hB : B.length ≤ 4300000) : FnC Tryz.prog 155 [.o (.d (.sl (A.map rG))), .o (.d (.sl (B.map rG)))] (ob (decide (A = B))) := by
 refine ent Tryz.func155 rfl Tryz.call155 rfl (fun C => ?_); simp only [go_sem, st0, Tryz.ntmps155]
 by_cases hl : A.length = B.length
 ·have hli : ((A.length : Nat) : Int) = ((B.length : Nat) : Int) := by omega
  have q0 := @hli; have q1 := @decide_true; refine jN ?_
  refine bE (α := Nat) (fun k => [(5, oi k)]) (fun _ => []) (fun k => k ≤ A.length ∧ A.take k = B.take k) (fun k => A.length - k) 0 (fun _ => ?_) ?_ ?_ (fun k hk => ?_)
  ·simp only [go_sem]
  ·simp only [go_sem]; simp
  ·simp
  ·obtain ⟨hk, hq⟩ := hk
   simp only [go_sem]
   refine aJ ?_
   refine cnd rfl (fun h => ?_) (fun h => ?_)
   ·simp only [decide_eq_true_eq, Int.ofNat_lt] at h
    have h2 : k < B.length := by omega
    by_cases he : A[k] = B[k]
    ·have hei : ((A[k] : Nat) : Int) = ((B[k] : Nat) : Int) := by omega
     have q0 := @h; have q1 := @h2; have q2 := @hei; have q3 := @decide_true; refine jJ ?_
     refine aH (k + 1) ?_ ?_ ?_
     ·simp only [go_sem]; simp
     ·exact ⟨by omega, a4W A B k h h2 hq he⟩
     ·omega
    ·have hei : ¬ ((A[k] : Nat) : Int) = ((B[k] : Nat) : Int) := by omega
     have hne : decide (A = B) = false := decide_eq_false fun e => he (by subst e; rfl)
     have q0 := @h; have q1 := @h2; have q2 := @hei; have q3 := @decide_false; refine jJ ?_
     exact aA ⟨⟨_, rfl, by simp only [go_sem, hne]⟩, trivial⟩
   ·simp only [decide_eq_false_iff_not] at h
    have e : k = A.length := by omega
    subst e
    rw [List.take_length, hl, List.take_length] at hq
    have hy : decide (A = B) = true := decide_eq_true hq
    refine aJ ?_
    exact aA ⟨⟨_, rfl, by simp only [go_sem, hy]⟩, trivial⟩
 ·have hli : ¬ ((A.length : Nat) : Int) = ((B.length : Nat) : Int) := by omega
  have hne : decide (A = B) = false := decide_eq_false fun e => hl (by rw [e])
  have q0 := @hli; have q1 := @decide_false; refine jN ?_
  exact aA ⟨⟨_, rfl, by simp only [go_sem, hne]⟩, trivial⟩
theorem a2N (d : List TDir) (hd : iT d ≤ 4300000) : FnC Tryz.prog 99 [.o (.d (.sl (d.map dG)))] (.t [(false, [.d (.sl ((resL d).map rG))]), (false, [.d (bv (yO d))])]) := by
 have hd0 : d.length + eQ lS d ≤ 4300000 := hd
 refine ent Tryz.func99 rfl Tryz.call99 rfl (fun C => ?_); simp only [go_sem, st0, Tryz.ntmps99]
 cases hv : dH d
 ·have e1 : resL d = [] := by simp [resL, hv]
  have e2 : yO d = false := by simp [yO, hv]
  have q0 := @hv; refine kM (yS d hd) ?_
  refine uL (Sees.frz 0 rfl) ?_
  simp only [go_sem]
  exact aA ⟨⟨_, rfl, by simp only [go_sem, e1, e2, List.map_nil]⟩, by simp [aM]⟩
 have e1 : resL d = a8d d.length (EE d) := by simp [resL, hv]
 have e2 : yO d = a2p d.length (EE d) := by simp [yO, hv]
 have hl5 := wS hv
 have hsq : d.length * d.length ≤ 25 := Nat.mul_le_mul hl5 hl5
 have hmul : ((d.length : Nat) : Int) * ((d.length : Nat) : Int) = ((d.length * d.length : Nat) : Int) := by rw [Int.natCast_mul]
 have hends := b0A (a2h d) (gJ d) (fun x => Iff.rfl) (d.length * d.length + 2) (by omega)
 have hEl := a2f d hv d.length
 have hEok : ∀ x ∈ gJ d, x.1 < (List.replicate d.length 0).length ∧ x.2.2 ≤ 1 := fun x hx => by rw [List.length_replicate]; exact a3F d d.length x hx
 have hEl2 : (gJ d).length ≤ 90 := by have : gJ d = iV d d.length := rfl; rw [this]; omega
 have hbd := a2s (gJ d) (List.replicate d.length 0) hEok (fun j => a5j _ j)
 have hlen : ∀ r, (upsN (gJ d) r (List.replicate d.length 0)).length = d.length := fun r => by rw [a2r]; simp
 generalize hN2 : d.length * d.length = N2 at *
 have hB : ∀ r, r ≤ N2 + 2 → ∀ j, lv (upsN (gJ d) r (List.replicate d.length 0)) j ≤ 1000000 := fun r hr j => by
  have h1 := hbd r j
  have h2 : r * (gJ d).length ≤ 27 * 90 := Nat.mul_le_mul (by omega) hEl2
  omega
 have q0 := @hv; refine kM (yS d hd) ?_
 refine bE (α := Nat) (fun r => [(4, .o (.s 0)), (12, .o .u), (5, oi r)]) (fun r => [(0, .row 3 1 ((upsN (gJ d) r (List.replicate d.length 0)).map rG) true)]) (fun r => r ≤ N2 + 2) (fun r => N2 + 2 - r) 0 (fun _ => ?_) ?_ ?_ (fun r hr => ?_)
 ·simp only [go_sem]
 ·simp only [go_sem]; simp [upsN, rG]
 ·simp
 ·simp only [go_sem]
  have q0 := @hmul; refine oV ?_
  refine cnd rfl (fun h => ?_) (fun h => ?_)
  ·simp only [decide_eq_true_eq] at h
   refine mH (a2g d (upsN (gJ d) r (List.replicate d.length 0)) hv hd (hlen r) (hB r hr)) ?_
   refine b2O [(0, 1)] (r + 1) (by simp only [go_sem]; rfl) ?_ ?_ ?_
   ·simp only [go_sem, upsN]; simp
   ·omega
   ·omega
  ·simp only [decide_eq_false_iff_not] at h
   have e : r = N2 + 2 := by omega
   subst e
   have hLl := hlen (N2 + 2)
   have hLB := hB (N2 + 2) (by omega)
   simp only at hends
   generalize upsN (gJ d) (N2 + 2) (List.replicate d.length 0) = L at *
   have hUl : (ups (gJ d) L).length = d.length := by rw [uS]; exact hLl
   by_cases hs : ups (gJ d) L = L
   ·rw [if_pos hs] at hends
    have f1 := a9e hends
    have f2 := a3N hends.clo
    have hy : decide (ups (gJ d) L = L) = true := decide_eq_true hs
    have q0 := @hy; refine a2H (a2g d L hv hd hLl hLB) (a8V (ups (gJ d) L) L (by omega) (by omega)) ?_
    exact aA ⟨⟨_, rfl, by simp only [go_sem, e1, e2, f1, f2]⟩, by simp [aM]⟩
   ·rw [if_neg hs] at hends
    have f1 := a9f hends
    have f2 := a6F hends
    have hy : decide (ups (gJ d) L = L) = false := decide_eq_false hs
    have q0 := @hy; refine a2H (a2g d L hv hd hLl hLB) (a8V (ups (gJ d) L) L (by omega) (by omega)) ?_
    refine uL (Sees.frz 2 rfl) ?_
    simp only [go_sem]
    exact aA ⟨⟨_, rfl, by simp only [go_sem, e1, e2, f1, f2, List.map_nil]⟩, by simp [aM]⟩
theorem oI (d : List TDir) (hd : iT d ≤ 4300000) : FnC Tryz.prog 55 [.o (.d (.sl (d.map dG)))] (ob (yO d)) := by
 refine ent Tryz.func55 rfl Tryz.call55 rfl (fun C => ?_); simp only [go_sem, st0, Tryz.ntmps55]
 refine mH (a2N d hd) ?_
 exact aA ⟨⟨_, rfl, by simp only [go_sem]⟩, trivial⟩
noncomputable def eX (x : TSnapshot) : Bool := dM x.fStore && yO x.fDirs
theorem tY (x : TSnapshot) (h : aR x ≤ 1048576) : FnC Tryz.prog 47 [jX x] (ob (eX x)) := by
 unfold aR at h
 refine ent Tryz.func47 rfl Tryz.call47 rfl (fun C => ?_); simp only [go_sem, st0, Tryz.ntmps47]
 cases hs : dM x.fStore
 ·have q0 := @hs; refine a2H (yP x.fStore (by omega)) (oJ x.fDirs (by omega)) ?_
  exact aA ⟨⟨_, rfl, by simp only [go_sem, eX, hs, Bool.false_and]⟩, trivial⟩
 ·have q0 := @hs; refine a2H (yP x.fStore (by omega)) (oJ x.fDirs (by omega)) ?_
  exact aA ⟨⟨_, rfl, by simp only [go_sem, eX, hs, Bool.true_and]⟩, trivial⟩
theorem tZ (x : TSnapshot) (h : aR x ≤ 1048576) : FnC Tryz.prog 23 [jX x] (ob (eX x)) := by
 unfold aR at h
 refine ent Tryz.func23 rfl Tryz.call23 rfl (fun C => ?_); simp only [go_sem, st0, Tryz.ntmps23]
 cases hs : dM x.fStore
 ·have q0 := @hs; refine a2H (yR x.fStore (by omega)) (oI x.fDirs (by omega)) ?_
  exact aA ⟨⟨_, rfl, by simp only [go_sem, eX, hs, Bool.false_and]⟩, trivial⟩
 ·have q0 := @hs; refine a2H (yR x.fStore (by omega)) (oI x.fDirs (by omega)) ?_
  exact aA ⟨⟨_, rfl, by simp only [go_sem, eX, hs, Bool.true_and]⟩, trivial⟩
end Go.Proofs.YtgpoopjfkplilaaGreatDoor
end
