/- Joined texts. -/
import Derived.Test.YtgpoopjfkplilaaGreatDoorZ08
import Derived.Test.YtgpoopjfkplilaaGreatDoorZ13
set_option linter.all false
section
set_option maxRecDepth 100000
set_option maxHeartbeats 4000000
namespace Go.Proofs.YtgpoopjfkplilaaGreatDoor
def lv (L : List Nat) (i : Nat) : Nat := L.getD i 0
structure Clo (n : Nat) (E : Nat → Nat → Nat → Prop) (F : List Nat) : Prop where
 len : F.length = n
 le : ∀ i k w, E i k w → lv F k + w ≤ lv F i
structure Edges (n : Nat) (E : Nat → Nat → Nat → Prop) : Prop where
 ok : ∀ i k w, E i k w → i < n ∧ k < n ∧ w ≤ 1
structure Least (n : Nat) (E : Nat → Nat → Nat → Prop) (L : List Nat) : Prop where
 clo : Clo n E L
 le : ∀ F, Clo n E F → ∀ i, lv L i ≤ lv F i
theorem b6J {L M : List Nat} (h : L.length = M.length) (hi : ∀ i, lv L i = lv M i) : L = M := by
 apply List.ext_getElem h
 intro i h1 h2
 have := hi i
 simpa [lv, List.getD_eq_getElem?_getD, h1, h2] using this
theorem a6o {n : Nat} {E : Nat → Nat → Nat → Prop} {L M : List Nat} (h : Least n E L) (k : Least n E M) : L = M :=
 b6J (by rw [h.clo.len, k.clo.len]) fun i => Nat.le_antisymm (h.le M k.clo i) (k.le L h.clo i)
open Classical in
noncomputable def a9z (n : Nat) (E : Nat → Nat → Nat → Prop) : List Nat := if h : ∃ L, Least n E L then h.choose else []
theorem b0J {n : Nat} {E : Nat → Nat → Nat → Prop} {L : List Nat} (h : Least n E L) : a9z n E = L := by
 have he : ∃ L, Least n E L := ⟨L, h⟩
 unfold a9z
 rw [dif_pos he]
 exact a6o he.choose_spec h
theorem b0K {n : Nat} {E : Nat → Nat → Nat → Prop} (h : ¬ ∃ F, Clo n E F) : a9z n E = [] := by
 unfold a9z
 rw [dif_neg (fun ⟨L, hL⟩ => h ⟨L, hL.clo⟩)]
open Classical in
noncomputable def a3i (n : Nat) (E : Nat → Nat → Nat → Prop) : Bool := if ∃ F, Clo n E F then true else false
theorem a4O {n : Nat} {E : Nat → Nat → Nat → Prop} {L : List Nat} (h : Clo n E L) : a3i n E = true := by
 unfold a3i; rw [if_pos ⟨L, h⟩]
theorem a7W {n : Nat} {E : Nat → Nat → Nat → Prop} (h : ¬ ∃ F, Clo n E F) : a3i n E = false := by
 unfold a3i; rw [if_neg h]
theorem a4P {n : Nat} {E : Nat → Nat → Nat → Prop} (hE : Edges n E) {F : List Nat} (h : Clo n E F) : ∃ G, Clo n E G ∧ ∀ i, i < n → lv G i < n := by
 let r (i : Nat) : Nat := ((List.range n).filter fun j => decide (lv F j < lv F i)).length
 have hr : ∀ i, i < n → lv ((List.range n).map r) i = r i := fun i hi => by simp [lv, List.getD_eq_getElem?_getD, hi]
 have sub : ∀ (p q : Nat → Bool) (l : List Nat), (∀ j, p j = true → q j = true) → (l.filter p).length ≤ (l.filter q).length := by
  intro p q l hpq
  induction l with
  | nil => simp
  | cons x l ih =>
   simp only [List.filter_cons]
   cases hp : p x
   ·cases hq : q x <;> simp <;> omega
   ·rw [hpq x hp]; simpa using ih
 have sub1 : ∀ (p q : Nat → Bool) (l : List Nat) (x : Nat), x ∈ l → (∀ j, p j = true → q j = true) → p x = false → q x = true → (l.filter p).length < (l.filter q).length := by
  intro p q l x hx hpq hp hq
  induction l with
  | nil => simp at hx
  | cons y l ih =>
   simp only [List.filter_cons]
   rcases List.mem_cons.1 hx with rfl | hx
   ·rw [hp, hq]
    have := sub p q l hpq
    simp
    omega
   ·have := ih hx
    cases hp' : p y
    ·cases hq' : q y <;> simp <;> omega
    ·rw [hpq y hp']; simpa using this
 refine ⟨(List.range n).map r, ⟨by simp, fun i k w he => ?_⟩, fun i hi => ?_⟩
 ·obtain ⟨hi, hk, hw⟩ := hE.ok i k w he
  rw [hr i hi, hr k hk]
  have hle := h.le i k w he
  rcases Nat.lt_or_ge w 1 with hw0 | hw1
  ·have hw' : w = 0 := by omega
   subst hw'
   exact sub _ _ _ fun j hj => by simp only [decide_eq_true_eq] at hj ⊢; omega
  ·have hw' : w = 1 := by omega
   subst hw'
   exact sub1 _ _ _ k (List.mem_range.2 hk) (fun j hj => by simp only [decide_eq_true_eq] at hj ⊢; omega) (by simp) (by simp only [decide_eq_true_eq]; omega)
 ·rw [hr i hi]
  have := sub1 (fun j => decide (lv F j < lv F i)) (fun _ => true) (List.range n) i (List.mem_range.2 hi) (fun _ _ => rfl) (by simp) rfl
  rw [List.filter_eq_self.2 (fun _ _ => rfl), List.length_range] at this
  exact this
theorem a3j (L : List Nat) (i v j : Nat) (h : i < L.length) : lv (L.set i v) j = if j = i then v else lv L j := by
 unfold lv
 simp only [List.getD_eq_getElem?_getD, List.getElem?_set]
 by_cases e : i = j
 ·subst e; simp [h]
 ·rw [if_neg e, if_neg (fun e' => e e'.symm)]
def sS : List Nat → Nat
 | [] => 0
 | x :: l => x + sS l
theorem a7X (L : List Nat) (i v : Nat) (h : i < L.length) : sS (L.set i v) + lv L i = sS L + v := by
 induction L generalizing i with
 | nil => simp at h
 | cons x l ih =>
  cases i with
  | zero => simp [sS, lv]; omega
  | succ i =>
   have := ih i (by simpa using h)
   simp only [List.set_cons_succ, sS, lv, List.getD_cons_succ] at this ⊢
   omega
theorem b0L (L : List Nat) (c : Nat) (h : ∀ i, i < L.length → lv L i ≤ c) : sS L ≤ L.length * c := by
 induction L with
 | nil => simp [sS]
 | cons x l ih =>
  have h0 : x ≤ c := by simpa [lv] using h 0 (by simp)
  have h1 := ih fun i hi => by simpa [lv] using h (i + 1) (by simpa using hi)
  simp only [sS, List.length_cons, Nat.succ_mul]
  omega
theorem a6p (n i : Nat) : lv (List.replicate n 0) i = 0 := by
 simp only [lv, List.getD_eq_getElem?_getD, List.getElem?_replicate]
 split <;> rfl
def up1 (i k w : Nat) (L : List Nat) : List Nat := if lv L k + w > lv L i then L.set i (lv L k + w) else L
theorem a1O (i k w : Nat) (L : List Nat) : (up1 i k w L).length = L.length := by unfold up1; split <;> simp
theorem up1_grow (i k w : Nat) (L : List Nat) (h : i < L.length) : up1 i k w L = L ∨ sS L < sS (up1 i k w L) := by
 unfold up1
 split
 ·rename_i hc
  have := a7X L i (lv L k + w) h
  right; omega
 ·exact .inl rfl
theorem b3P {i k w : Nat} {L : List Nat} (hl : i < L.length) (h : up1 i k w L = L) : lv L k + w ≤ lv L i := by
 apply Classical.byContradiction
 intro hn
 have hc : lv L k + w > lv L i := by omega
 unfold up1 at h
 rw [if_pos hc] at h
 have := a3j L i (lv L k + w) i hl
 rw [h, if_pos rfl] at this
 omega
theorem b2d {n : Nat} {E : Nat → Nat → Nat → Prop} {F : List Nat} (hF : Clo n E F) {i k w : Nat} (he : E i k w) {L : List Nat} (hl : i < L.length) (h : ∀ j, lv L j ≤ lv F j) : ∀ j, lv (up1 i k w L) j ≤ lv F j := by
 intro j
 unfold up1
 split
 ·rw [a3j L i _ j hl]
  split
  ·rename_i e; subst e
   have := hF.le j k w he
   have := h k
   omega
  ·exact h j
 ·exact h j
theorem b2e {i k w : Nat} {L : List Nat} {B : Nat} (hl : i < L.length) (hw : w ≤ 1) (h : ∀ j, lv L j ≤ B) : ∀ j, lv (up1 i k w L) j ≤ B + 1 := by
 intro j
 unfold up1
 split
 ·rw [a3j L i _ j hl]
  split
  ·have := h k; omega
  ·have := h j; omega
 ·have := h j; omega
def ups : List (Nat × Nat × Nat) → List Nat → List Nat
 | [], L => L
 | (i, k, w) :: l, L => ups l (up1 i k w L)
theorem a1P (l m : List (Nat × Nat × Nat)) (L : List Nat) : ups (l ++ m) L = ups m (ups l L) := by
 induction l generalizing L with
 | nil => rfl
 | cons x l ih => obtain ⟨i, k, w⟩ := x; simp only [List.cons_append, ups, ih]
theorem vX (l : List (Nat × Nat × Nat)) (L : List Nat) : (ups l L).length = L.length := by
 induction l generalizing L with
 | nil => rfl
 | cons x l ih => obtain ⟨i, k, w⟩ := x; simp only [ups, ih, a1O]
theorem ups_grow : ∀ (l : List (Nat × Nat × Nat)) (L : List Nat), (∀ x ∈ l, x.1 < L.length) → (ups l L = L ∧ ∀ x ∈ l, up1 x.1 x.2.1 x.2.2 L = L) ∨ sS L < sS (ups l L)
 | [], L, _ => .inl ⟨rfl, fun x h => by simp at h⟩
 | (i, k, w) :: l, L, h => by
  have hi := h (i, k, w) (by simp)
  have hl := ups_grow l (up1 i k w L) fun x hx => by rw [a1O]; exact h x (by simp [hx])
  simp only [ups]
  rcases up1_grow i k w L hi with e | g
  ·rw [e] at hl ⊢
   rcases hl with ⟨h1, h2⟩ | h1
   ·refine .inl ⟨h1, fun x hx => ?_⟩
    rcases List.mem_cons.1 hx with rfl | hx
    ·exact e
    ·exact h2 x hx
   ·exact .inr h1
  ·rcases hl with ⟨h1, _⟩ | h1
   ·rw [h1]; exact .inr g
   ·exact .inr (by omega)
theorem a4Q {n : Nat} {E : Nat → Nat → Nat → Prop} {F : List Nat} (hE : Edges n E) (hF : Clo n E F) : ∀ (l : List (Nat × Nat × Nat)) (L : List Nat), L.length = n → (∀ x ∈ l, E x.1 x.2.1 x.2.2) → (∀ j, lv L j ≤ lv F j) → ∀ j, lv (ups l L) j ≤ lv F j
 | [], L, _, _, h => h
 | (i, k, w) :: l, L, hl, he, h => by
  have e := he (i, k, w) (by simp)
  exact a4Q hE hF l _ (by rw [a1O]; exact hl) (fun x hx => he x (by simp [hx])) (b2d hF e (by rw [hl]; exact (hE.ok _ _ _ e).1) h)
theorem nP : ∀ (l : List (Nat × Nat × Nat)) (L : List Nat) (B : Nat), (∀ x ∈ l, x.1 < L.length ∧ x.2.2 ≤ 1) → (∀ j, lv L j ≤ B) → ∀ j, lv (ups l L) j ≤ B + l.length
 | [], L, B, _, h => h
 | (i, k, w) :: l, L, B, hx, h => by
  have e := hx (i, k, w) (by simp)
  have := nP l (up1 i k w L) (B + 1) (fun x hx' => by rw [a1O]; exact hx x (by simp [hx'])) (b2e e.1 e.2 h)
  intro j
  have := this j
  simp only [ups, List.length_cons]
  omega
def upsN (l : List (Nat × Nat × Nat)) : Nat → List Nat → List Nat
 | 0, L => L
 | r + 1, L => ups l (upsN l r L)
theorem a3k (l : List (Nat × Nat × Nat)) (r : Nat) (L : List Nat) : (upsN l r L).length = L.length := by
 induction r with
 | zero => rfl
 | succ r ih => simp only [upsN, vX, ih]
theorem a3l (l : List (Nat × Nat × Nat)) (L : List Nat) (hx : ∀ x ∈ l, x.1 < L.length ∧ x.2.2 ≤ 1) (h : ∀ j, lv L j = 0) : ∀ r j, lv (upsN l r L) j ≤ r * l.length
 | 0, j => by simp [upsN, h j]
 | r + 1, j => by
  have := nP l (upsN l r L) (r * l.length) (fun x hx' => by rw [a3k]; exact hx x hx') (a3l l L hx h r) j
  simp only [upsN, Nat.succ_mul]
  omega
theorem b2f {n : Nat} {E : Nat → Nat → Nat → Prop} (hE : Edges n E) (l : List (Nat × Nat × Nat)) (hl : ∀ x, x ∈ l ↔ E x.1 x.2.1 x.2.2) (R : Nat) (hR : n * n < R) :
    let L := upsN l R (List.replicate n 0)
    if ups l L = L then Least n E L else ¬ ∃ F, Clo n E F := by
 intro L
 have hlen : ∀ r, (upsN l r (List.replicate n 0)).length = n := fun r => by rw [a3k]; simp
 have hbel : ∀ F, Clo n E F → ∀ r j, lv (upsN l r (List.replicate n 0)) j ≤ lv F j := fun F hF r => by
  induction r with
  | zero => intro j; simp only [upsN, a6p]; omega
  | succ r ih => exact a4Q hE hF l _ (hlen r) (fun x hx => (hl x).1 hx) ih
 have hix : ∀ r, ∀ x ∈ l, x.1 < (upsN l r (List.replicate n 0)).length := fun r x hx => by rw [hlen]; exact (hE.ok _ _ _ ((hl x).1 hx)).1
 have hgrow : ∀ r, ups l (upsN l r (List.replicate n 0)) = upsN l r (List.replicate n 0) ∨ r ≤ sS (upsN l r (List.replicate n 0)) := fun r => by
  induction r with
  | zero => exact .inr (by omega)
  | succ r ih =>
   rcases ih with e | h
   ·left; simp only [upsN]; rw [e, e]
   ·rcases ups_grow l _ (hix r) with ⟨e, _⟩ | g
    ·left; simp only [upsN]; rw [e, e]
    ·right; simp only [upsN]; omega
 by_cases hs : ups l L = L
 ·rw [if_pos hs]
  refine ⟨⟨hlen R, fun i k w he => ?_⟩, fun F hF => hbel F hF R⟩
  rcases ups_grow l L (hix R) with ⟨_, h⟩ | g
  ·exact b3P (by rw [hlen]; exact (hE.ok _ _ _ he).1) (h (i, k, w) ((hl (i, k, w)).2 he))
  ·rw [hs] at g; omega
 ·rw [if_neg hs]
  rintro ⟨F, hF⟩
  obtain ⟨G, hG, hsm⟩ := a4P hE hF
  rcases hgrow R with e | h
  ·exact hs e
  ·have h1 := b0L L n fun i hi => by
    have h2 := hbel G hG R i
    have h3 := hsm i (by rw [← hlen R]; exact hi)
    show lv (upsN l R (List.replicate n 0)) i ≤ n
    omega
   rw [hlen R] at h1
   show False
   have : sS L = sS (upsN l R (List.replicate n 0)) := rfl
   omega
end Go.Proofs.YtgpoopjfkplilaaGreatDoor
end
section
set_option maxRecDepth 100000
set_option maxHeartbeats 4000000
namespace Go.Proofs.YtgpoopjfkplilaaGreatDoor
def placeD (d : List TDir) (nm : ByteArray) : Int := xO (fun x => decide (x.fName = nm)) d 0
theorem placeD_cases (d : List TDir) (nm : ByteArray) : placeD d nm = -1 ∨ ∃ k : Nat, placeD d nm = (k : Int) ∧ k < d.length := by
 unfold placeD
 rcases idxP_fst (fun x => decide (x.fName = nm)) d 0 with ⟨_, h, _⟩ | ⟨h, hl⟩
 ·exact .inl h
 ·exact .inr ⟨_, by rw [h]; simp, hl⟩
def dP (d : List TDir) (i w : Nat) (names : List ByteArray) : List (Nat × Nat × Nat) := names.flatMap fun nm => if 0 ≤ placeD d nm then [(i, (placeD d nm).toNat, w)] else []
theorem xQ (d : List TDir) (i w : Nat) (names : List ByteArray) (x : Nat × Nat × Nat) : x ∈ dP d i w names ↔ ∃ nm ∈ names, ∃ k : Nat, placeD d nm = (k : Int) ∧ x = (i, k, w) := by
 unfold dP
 simp only [List.mem_flatMap]
 constructor
 ·rintro ⟨nm, h1, h2⟩
  split at h2
  ·rename_i hp
   refine ⟨nm, h1, (placeD d nm).toNat, by omega, by simpa using h2⟩
  ·simp at h2
 ·rintro ⟨nm, h1, k, h2, rfl⟩
  refine ⟨nm, h1, ?_⟩
  rw [if_pos (by omega), h2]; simp
def qF (d : List TDir) (i : Nat) : List (Nat × Nat × Nat) := match d[i]? with
 | none => []
 | some x => dP d i 0 (putL (dE x.fQuery false)) ++ dP d i 1 (putL (dE x.fQuery true))
def gT (d : List TDir) : List (Nat × Nat × Nat) := (List.range d.length).flatMap (qF d)
def EE (d : List TDir) (i k w : Nat) : Prop := (i, k, w) ∈ gT d
theorem a6d (d : List TDir) (i k w : Nat) : EE d i k w ↔ ∃ x, d[i]? = some x ∧ ((w = 0 ∧ ∃ nm ∈ dE x.fQuery false, placeD d nm = (k : Int)) ∨ (w = 1 ∧ ∃ nm ∈ dE x.fQuery true, placeD d nm = (k : Int))) := by
 unfold EE gT
 simp only [List.mem_flatMap, List.mem_range]
 constructor
 ·rintro ⟨j, hj, h⟩
  unfold qF at h
  rw [List.getElem?_eq_getElem hj] at h
  simp only [List.mem_append, xQ, a7R] at h
  rcases h with ⟨nm, h1, k', h2, h3⟩ | ⟨nm, h1, k', h2, h3⟩
  ·cases h3; exact ⟨_, List.getElem?_eq_getElem hj, .inl ⟨rfl, nm, h1, h2⟩⟩
  ·cases h3; exact ⟨_, List.getElem?_eq_getElem hj, .inr ⟨rfl, nm, h1, h2⟩⟩
 ·rintro ⟨x, hx, h⟩
  refine ⟨i, (List.getElem?_eq_some_iff.1 hx).1, ?_⟩
  unfold qF
  rw [hx]
  simp only [List.mem_append, xQ, a7R]
  rcases h with ⟨rfl, nm, h1, h2⟩ | ⟨rfl, nm, h1, h2⟩
  ·exact .inl ⟨nm, h1, k, h2, rfl⟩
  ·exact .inr ⟨nm, h1, k, h2, rfl⟩
theorem a3b (d : List TDir) : Edges d.length (EE d) := ⟨fun i k w h => by
 obtain ⟨x, hx, h⟩ := (a6d d i k w).1 h
 refine ⟨(List.getElem?_eq_some_iff.1 hx).1, ?_, by rcases h with ⟨rfl, _⟩ | ⟨rfl, _⟩ <;> omega⟩
 obtain ⟨nm, hp⟩ : ∃ nm, placeD d nm = (k : Int) := by rcases h with ⟨_, nm, _, h⟩ | ⟨_, nm, _, h⟩ <;> exact ⟨nm, h⟩
 rcases placeD_cases d nm with h | ⟨k', h, hl⟩ <;> omega⟩
def abv (d : List TDir) (L : List Nat) (w : Nat) : List ByteArray → Nat → Nat
 | [], m => m
 | nm :: r, m => abv d L w r (if 0 ≤ placeD d nm then (if lv L (placeD d nm).toNat + w > m then lv L (placeD d nm).toNat + w else m) else m)
theorem b3F (d : List TDir) (L : List Nat) (w : Nat) (l : List ByteArray) (k m : Nat) (h : k < l.length) : abv d L w (l.drop k) m = abv d L w (l.drop (k + 1)) (if 0 ≤ placeD d l[k] then (if lv L (placeD d l[k]).toNat + w > m then lv L (placeD d l[k]).toNat + w else m) else m) := by
 rw [List.drop_eq_getElem_cons h, abv]
theorem a9r (d : List TDir) (L : List Nat) (w c : Nat) : ∀ (l : List ByteArray) (m : Nat), abv d L w l m ≤ c ↔ m ≤ c ∧ ∀ nm ∈ l, ∀ k : Nat, placeD d nm = (k : Int) → lv L k + w ≤ c
 | [], m => by simp [abv]
 | nm :: r, m => by
  rw [abv, a9r d L w c r]
  constructor
  ·rintro ⟨h1, h2⟩
   refine ⟨?_, fun n hn k hk => ?_⟩
   ·split at h1
    ·split at h1 <;> omega
    ·exact h1
   ·rcases List.mem_cons.1 hn with rfl | hn
    ·have e : (placeD d n).toNat = k := by omega
     rw [if_pos (by omega), e] at h1
     split at h1 <;> omega
    ·exact h2 n hn k hk
  ·rintro ⟨h1, h2⟩
   refine ⟨?_, fun n hn k hk => h2 n (List.mem_cons_of_mem _ hn) k hk⟩
   split
   ·rename_i hp
    have := h2 nm (by simp) (placeD d nm).toNat (by omega)
    split <;> omega
   ·exact h1
def gQ (d : List TDir) (L : List Nat) (x : TDir) : Nat := if abv d L 1 (iE (dE x.fQuery true)) 0 > abv d L 0 (iE (dE x.fQuery false)) 0 then abv d L 1 (iE (dE x.fQuery true)) 0 else abv d L 0 (iE (dE x.fQuery false)) 0
theorem a3c (d : List TDir) (L : List Nat) (i c : Nat) (h : i < d.length) : gQ d L d[i] ≤ c ↔ ∀ k w, EE d i k w → lv L k + w ≤ c := by
 have h0 := a9r d L 0 c (iE (dE d[i].fQuery false)) 0
 have h1 := a9r d L 1 c (iE (dE d[i].fQuery true)) 0
 have hm : gQ d L d[i] ≤ c ↔ abv d L 0 (iE (dE d[i].fQuery false)) 0 ≤ c ∧ abv d L 1 (iE (dE d[i].fQuery true)) 0 ≤ c := by
  unfold gQ; split <;> omega
 rw [hm, h0, h1]
 constructor
 ·rintro ⟨⟨_, a⟩, ⟨_, b⟩⟩ k w he
  obtain ⟨x, hx, he⟩ := (a6d d i k w).1 he
  rw [List.getElem?_eq_getElem h] at hx
  cases hx
  rcases he with ⟨rfl, nm, q1, q2⟩ | ⟨rfl, nm, q1, q2⟩
  ·exact a nm ((vW _ _).2 q1) k q2
  ·exact b nm ((vW _ _).2 q1) k q2
 ·intro a
  exact ⟨⟨by omega, fun nm q k hk => a k 0 ((a6d d i k 0).2 ⟨d[i], List.getElem?_eq_getElem h, .inl ⟨rfl, nm, (vW _ _).1 q, hk⟩⟩)⟩,
   ⟨by omega, fun nm q k hk => a k 1 ((a6d d i k 1).2 ⟨d[i], List.getElem?_eq_getElem h, .inr ⟨rfl, nm, (vW _ _).1 q, hk⟩⟩)⟩⟩
structure Low (d : List TDir) (L : List Nat) : Prop where
 len : L.length = d.length
 clo : ∀ F, Clo d.length (EE d) F → ∀ j, lv L j ≤ lv F j
 small : ∀ j, lv L j ≤ d.length
theorem Low.start (d : List TDir) : Low d (List.replicate d.length 0) := ⟨by simp, fun F _ j => by rw [a6p]; omega, fun j => by rw [a6p]; omega⟩
theorem Low.least_le {d : List TDir} {L : List Nat} (h : Low d L) {i : Nat} (hi : i < d.length) {F : List Nat} (hF : Clo d.length (EE d) F) : gQ d L d[i] ≤ lv F i :=
 (a3c d L i _ hi).2 fun k w he => by
  have h1 := hF.le i k w he
  have h2 := h.clo F hF k
  omega
theorem Low.over {d : List TDir} {L : List Nat} (h : Low d L) {i : Nat} (hi : i < d.length) (ho : gQ d L d[i] > d.length) : ¬ ∃ F, Clo d.length (EE d) F := by
 rintro ⟨F, hF⟩
 obtain ⟨G, hG, hs⟩ := a4P (a3b d) hF
 have h1 := h.least_le hi hG
 have h2 := hs i hi
 omega
theorem Low.set {d : List TDir} {L : List Nat} (h : Low d L) {i : Nat} (hi : i < d.length) (ho : ¬ gQ d L d[i] > d.length) : Low d (L.set i (gQ d L d[i])) := by
 have hl : i < L.length := by rw [h.len]; exact hi
 refine ⟨by simp [h.len], fun F hF j => ?_, fun j => ?_⟩
 ·rw [a3j L i _ j hl]
  split
  ·rename_i e; subst e; exact h.least_le hi hF
  ·exact h.clo F hF j
 ·rw [a3j L i _ j hl]
  split
  ·omega
  ·exact h.small j
theorem Low.done {d : List TDir} {L : List Nat} (h : Low d L) (hc : ∀ i, (hi : i < d.length) → gQ d L d[i] ≤ lv L i) : Least d.length (EE d) L :=
 ⟨⟨h.len, fun i k w he => (a3c d L i _ ((a3b d).ok i k w he).1).1 (hc i _) k w he⟩, h.clo⟩
theorem Low.sum {d : List TDir} {L : List Nat} (h : Low d L) : sS L ≤ d.length * d.length := by
 have := b0L L d.length fun i _ => h.small i
 rwa [h.len] at this
end Go.Proofs.YtgpoopjfkplilaaGreatDoor
end
section
set_option maxRecDepth 100000
set_option maxHeartbeats 4000000
namespace Go.Proofs.YtgpoopjfkplilaaGreatDoor
open Go Go.Sx Go.RowKit Go.Proofs
theorem a1s (f : Nat) (c : List D) (p : TDir → Bool) (l : List TDir) (hf : ∀ s ∈ l, FnC Tryz.prog f [b1T s, .o (.q c)] (ob (p s))) (hl : l.length ≤ 8388608) : FnC Tryz.prog 246 [.o (.d (.sl (l.map bX))), .o (.f f [c])] (oi (xO p l 0)) := by
 refine ent Tryz.func246 rfl Tryz.call246 rfl (fun C => ?_); simp only [go_sem, st0, Tryz.ntmps246]
 refine aH ?_
 refine bD (α := Nat) (fun k => [(8, oi k)]) (fun _ => []) (fun k => k ≤ l.length ∧ xO p l 0 = xO p (l.drop k) k) (fun k => l.length - k) 0 (fun _ => ?_) ?_ ?_ (fun k hk => ?_)
 ·simp only [go_sem]
 ·simp only [go_sem]; simp
 ·simp
 ·obtain ⟨hk, hq⟩ := hk
  simp only [go_sem]
  refine aH ?_
  refine cnd rfl (fun h => ?_) (fun h => ?_)
  ·simp only [decide_eq_true_eq, Int.ofNat_lt] at h
   have hd := List.drop_eq_getElem_cons h
   rw [hd, xO] at hq
   have q0 := @h; refine iX (hf l[k] (List.getElem_mem h)) ?_
   refine cnd rfl (fun h2 => ?_) (fun h2 => ?_)
   ·refine aH ?_
    exact aA ⟨⟨_, rfl, by simp only [go_sem, hq, h2]⟩, trivial⟩
   ·refine aH ?_
    refine aD (k + 1) ?_ ?_ ?_
    ·simp only [go_sem]; simp
    ·rw [hq, h2]; exact ⟨h, by simp⟩
    ·omega
  ·simp only [decide_eq_false_iff_not] at h
   have e : k = l.length := by omega
   subst e
   simp only [List.drop_length, xO] at hq
   refine aH ?_
   exact aA ⟨⟨_, rfl, by simp only [go_sem, hq]⟩, trivial⟩
@[go_sem] def sM (n : Nat) : List D := [iv (n : Int)]
theorem b1Y (nm : ByteArray) (x : TDir) : FnC Tryz.prog 247 [b1T x, .o (.q [sv nm])] (ob (decide (x.fName = nm))) := by
 refine ent Tryz.func247 rfl Tryz.call247 rfl (fun C => ?_); simp only [go_sem, st0, Tryz.ntmps247]
 refine aH ?_
 exact aA ⟨⟨_, rfl, by simp only [go_sem]⟩, trivial⟩
theorem a7H (d : List TDir) (nm : ByteArray) (hl : d.length ≤ 4300000) : FnC Tryz.prog 227 [.o (.d (.sl (d.map bX))), os nm] (oi (placeD d nm)) := by
 refine ent Tryz.func227 rfl Tryz.call227 rfl (fun C => ?_); simp only [go_sem, st0, Tryz.ntmps227]
 refine lC (a1s _ _ (fun x => decide (x.fName = nm)) d (fun y _ => b1Y nm y) (by omega)) ?_
 exact aA ⟨⟨_, rfl, by simp only [go_sem, placeD]⟩, trivial⟩
theorem kQ (d : List TDir) (nm : ByteArray) (hl : d.length ≤ 4300000) : FnC Tryz.prog 203 [.o (.d (.sl (d.map bX))), os nm] (oi (placeD d nm)) := by
 refine ent Tryz.func203 rfl Tryz.call203 rfl (fun C => ?_); simp only [go_sem, st0, Tryz.ntmps203]
 refine aH ?_
 refine bD (α := Nat) (fun k => [(5, oi k)]) (fun _ => []) (fun k => k ≤ d.length ∧ placeD d nm = xO (fun x => decide (x.fName = nm)) (d.drop k) k) (fun k => d.length - k) 0 (fun _ => ?_) ?_ ?_ (fun k hk => ?_)
 ·simp only [go_sem]
 ·simp only [go_sem]; simp
 ·simp [placeD]
 ·obtain ⟨hk, hq⟩ := hk
  simp only [go_sem]
  refine aH ?_
  refine cnd rfl (fun h => ?_) (fun h => ?_)
  ·simp only [decide_eq_true_eq, Int.ofNat_lt] at h
   have hd := List.drop_eq_getElem_cons h
   rw [hd, xO] at hq
   by_cases h2 : d[k].fName = nm
   ·rw [if_pos (by simp [h2])] at hq
    have q0 := @h; have q1 := @h2; have q2 := @decide_true; refine lQ ?_
    exact aA ⟨⟨_, rfl, by simp only [go_sem, hq]⟩, trivial⟩
   ·rw [if_neg (by simp [h2])] at hq
    have q0 := @h; have q1 := @h2; have q2 := @decide_false; refine lQ ?_
    refine aD (k + 1) ?_ ?_ ?_
    ·simp only [go_sem]; simp
    ·rw [hq]; exact ⟨h, by simp⟩
    ·omega
  ·simp only [decide_eq_false_iff_not] at h
   have e : k = d.length := by omega
   subst e
   simp only [List.drop_length, xO] at hq
   refine aH ?_
   exact aA ⟨⟨_, rfl, by simp only [go_sem, hq]⟩, trivial⟩
theorem a0J (L : List Nat) (i : Nat) (h : i < L.length) : L[i] = lv L i := by simp [lv, List.getD_eq_getElem?_getD, h]
def mxN (a b : Nat) : Nat := if b > a then b else a
theorem b0C (a b : Nat) : mxI (a : Int) (b : Int) = ((mxN a b : Nat) : Int) := by
 unfold mxI mxN
 split <;> split <;> omega
theorem a7I (d : List TDir) (L : List Nat) (w : Nat) (names : List ByteArray) (hd : d.length ≤ 4300000) (hL : L.length = d.length) (hn : names.length ≤ 4300000) (hB : ∀ j, lv L j ≤ 1000000) (hw : w ≤ 1) : FnC Tryz.prog 188 [.o (.d (.sl (d.map bX))), .o (.d (.sl (L.map sM))), .o (.d (.sl (names.map bN))), oi (w : Nat)] (oi (abv d L w names 0 : Nat)) := by
 refine ent Tryz.func188 rfl Tryz.call188 rfl (fun C => ?_); simp only [go_sem, st0, Tryz.ntmps188]
 refine aH ?_
 refine bD (α := Nat × Nat) (fun x => [(9, oi (x.2 : Nat)), (15, oi x.1)]) (fun _ => []) (fun x => x.1 ≤ names.length ∧ abv d L w names 0 = abv d L w (names.drop x.1) x.2 ∧ x.2 ≤ 1000001) (fun x => names.length - x.1) (0, 0) (fun _ => ?_) ?_ ?_ (fun x hx => ?_)
 ·simp only [go_sem]
 ·simp only [go_sem]; simp
 ·simp
 ·obtain ⟨k, m⟩ := x
  obtain ⟨hk, hq, hm⟩ := hx
  simp only at hk hq hm
  simp only [go_sem]
  refine aH ?_
  refine cnd rfl (fun h => ?_) (fun h => ?_)
  ·simp only [decide_eq_true_eq, Int.ofNat_lt] at h
   rw [b3F d L w names k m h] at hq
   rcases placeD_cases d names[k] with hp | ⟨p, hp, hpl⟩
   ·rw [if_neg (by omega)] at hq
    have q0 := @h; have q1 := @hp; have q2 := @decide_true; have q3 := @decide_false; refine tQ (a7H d names[k] hd) ?_
    refine aD (k + 1, m) ?_ ?_ ?_
    ·simp only [go_sem]; simp
    ·exact ⟨by simp only; omega, hq, hm⟩
    ·simp only; omega
   ·have hpL : p < L.length := by omega
    have hb := hB p
    have hg := a0J L p hpL
    have hge : (0 : Int) ≤ (p : Int) := by omega
    have hs : ((lv L p : Nat) : Int) + (w : Int) = ((lv L p + w : Nat) : Int) := by omega
    have hmx := b0C m (lv L p + w)
    rw [if_pos (by omega), hp, Int.toNat_natCast] at hq
    have q0 := @h; have q1 := @hp; have q2 := @hge; have q3 := @hpL; have q4 := @hg; have q5 := @hs; have q6 := @hmx; have q7 := @decide_true; have q8 := @decide_false; have q9 := @Int.toNat_natCast; refine b0o (a7H d names[k] hd) ?_
    refine aD (k + 1, mxN m (lv L p + w)) ?_ ?_ ?_
    ·simp only [go_sem]; simp
    ·exact ⟨by simp only; omega, hq, by simp only [mxN]; split <;> omega⟩
    ·simp only; omega
  ·simp only [decide_eq_false_iff_not] at h
   have e : k = names.length := by omega
   subst e
   rw [List.drop_length, abv] at hq
   refine aH ?_
   exact aA ⟨⟨_, rfl, by simp only [go_sem, hq]⟩, trivial⟩
theorem a0I {d : List TDir} (h : dR d = true) (i : Nat) (hi : i < d.length) : okQ d[i].fQuery = true := by
 unfold dR at h
 simp only [Bool.and_eq_true, List.all_eq_true, List.mem_range] at h
 have := h.1 i hi
 unfold jP at this
 rw [List.getElem?_eq_getElem hi] at this
 simp only [Bool.and_eq_true] at this
 exact this.2.2
theorem xP {d : List TDir} (h : dR d = true) : d.length ≤ 5 := by
 unfold dR at h
 simp only [Bool.and_eq_true, decide_eq_true_eq] at h
 omega
theorem a7F (q : List TNode) (hq : okQ q = true) (hw : wNodeS q ≤ 4300000) : FnC Tryz.prog 189 [.o (.d (.sl (q.map bE)))] (.o (.d (.sl ((iE (dE q false)).map bN)))) := (a9s q hq hw).pu (by simp only [go_sem, and_self])
theorem a7G (q : List TNode) (hq : okQ q = true) (hw : wNodeS q ≤ 4300000) : FnC Tryz.prog 190 [.o (.d (.sl (q.map bE)))] (.o (.d (.sl ((iE (dE q true)).map bN)))) := (a7K q hq hw).pu (by simp only [go_sem, and_self])
theorem a4G (d : List TDir) (L : List Nat) (names : List ByteArray) (hd : d.length ≤ 4300000) (hL : L.length = d.length) (hn : names.length ≤ 4300000) (hB : ∀ j, lv L j ≤ 1000000) : FnC Tryz.prog 188 [.o (.d (.sl (d.map bX))), .o (.d (.sl (L.map sM))), .o (.d (.sl (names.map bN))), oi 0] (oi (abv d L 0 names 0 : Nat)) := a7I d L 0 names hd hL hn hB (by omega)
theorem a4H (d : List TDir) (L : List Nat) (names : List ByteArray) (hd : d.length ≤ 4300000) (hL : L.length = d.length) (hn : names.length ≤ 4300000) (hB : ∀ j, lv L j ≤ 1000000) : FnC Tryz.prog 188 [.o (.d (.sl (d.map bX))), .o (.d (.sl (L.map sM))), .o (.d (.sl (names.map bN))), oi 1] (oi (abv d L 1 names 0 : Nat)) := a7I d L 1 names hd hL hn hB (by omega)
noncomputable def resL (d : List TDir) : List Nat := if dR d then a9z d.length (EE d) else []
noncomputable def zT (d : List TDir) : Bool := if dR d then a3i d.length (EE d) else false
theorem b3E (L : List Nat) (i v : Nat) : (L.map sM).set i [D.v (Value.int .i64 (v : Int))] = (L.set i v).map sM := by rw [List.map_set]; rfl
structure Pass (d : List TDir) (L : List Nat) (i : Nat) (M : List Nat) (ch : Bool) : Prop where
 low : Low d M
 no : ch = false → M = L ∧ ∀ j, (hj : j < d.length) → j < i → gQ d L d[j] ≤ lv L j
 yes : ch = true → sS L < sS M
theorem Pass.start {d : List TDir} {L : List Nat} (h : Low d L) : Pass d L 0 L false := ⟨h, fun _ => ⟨rfl, fun j _ hj => by omega⟩, fun h => by cases h⟩
theorem Pass.keep {d : List TDir} {L M : List Nat} {i : Nat} {ch : Bool} (h : Pass d L i M ch) (hi : i < d.length) (hle : ¬ gQ d M d[i] > lv M i) : Pass d L (i + 1) M ch := by
 refine ⟨h.low, fun hc => ⟨(h.no hc).1, fun j hj hlt => ?_⟩, h.yes⟩
 by_cases e : j = i
 ·subst e
  have := (h.no hc).1
  subst this
  omega
 ·exact (h.no hc).2 j hj (by omega)
theorem Pass.set {d : List TDir} {L M : List Nat} {i : Nat} {ch : Bool} (h : Pass d L i M ch) (hi : i < d.length) (ho : ¬ gQ d M d[i] > d.length) (hgt : gQ d M d[i] > lv M i) : Pass d L (i + 1) (M.set i (gQ d M d[i])) true := by
 have hl : i < M.length := by rw [h.low.len]; exact hi
 have hs := a7X M i (gQ d M d[i]) hl
 refine ⟨h.low.set hi ho, fun hc => (by cases hc), fun _ => ?_⟩
 cases ch with
 | false =>
  have := (h.no rfl).1
  subst this
  omega
 | true =>
  have := h.yes rfl
  omega
theorem a3I (d : List TDir) (hd : fK d ≤ 4300000) : FnC Tryz.prog 139 [.o (.d (.sl (d.map bX)))] (.t [(false, [.w 3 1 ((resL d).map sM)]), (false, [.d (bv (zT d))])]) := by
 have hd0 : d.length + wsum wDir d ≤ 4300000 := hd
 refine ent Tryz.func139 rfl Tryz.call139 rfl (fun C => ?_); simp only [go_sem, st0, Tryz.ntmps139]
 cases hv : dR d
 ·have e1 : resL d = [] := by simp [resL, hv]
  have e2 : zT d = false := by simp [zT, hv]
  have q0 := @hv; refine iX (zV d hd) ?_
  exact aA ⟨⟨_, rfl, by simp only [go_sem, e1, e2]⟩, by simp [aL]⟩
 have e1 : resL d = a9z d.length (EE d) := by simp [resL, hv]
 have e2 : zT d = a3i d.length (EE d) := by simp [zT, hv]
 have hl5 := xP hv
 have q0 := @hv; refine iX (zV d hd) ?_
 refine bD (α := List Nat × Bool) (fun x => [(5, ob x.2)]) (fun x => [(0, .row 3 1 (x.1.map sM) true)]) (fun x => Low d x.1 ∧ (x.2 = false → ∀ i, (hi : i < d.length) → gQ d x.1 d[i] ≤ lv x.1 i)) (fun x => if x.2 then d.length * d.length - sS x.1 + 1 else 0) (List.replicate d.length 0, true) (fun _ => ?_) ?_ ?_ (fun x hx => ?_)
 ·simp only [go_sem]
 ·simp only [go_sem]; simp [sM]
 ·exact ⟨Low.start d, fun h => by cases h⟩
 ·obtain ⟨L, ch⟩ := x
  obtain ⟨hlow, hdone⟩ := hx
  simp only at hlow hdone
  simp only [go_sem]
  refine aH ?_
  refine cnd rfl (fun h => ?_) (fun h => ?_)
  ·subst h
   refine aH ?_
   refine bD (α := Nat × List Nat × Bool) (fun x => [(5, ob x.2.2), (18, oi x.1)]) (fun x => [(0, .row 3 1 (x.2.1.map sM) true)]) (fun x => x.1 ≤ d.length ∧ Pass d L x.1 x.2.1 x.2.2) (fun x => d.length - x.1) (0, L, false) (fun _ => ?_) ?_ ?_ (fun x hx => ?_)
   ·simp only [go_sem]
   ·simp only [go_sem]; simp
   ·exact ⟨by simp, Pass.start hlow⟩
   ·obtain ⟨i, M, c⟩ := x
    obtain ⟨hi, hp⟩ := hx
    simp only at hi hp
    simp only [go_sem]
    refine aH ?_
    refine cnd rfl (fun h => ?_) (fun h => ?_)
    ·simp only [decide_eq_true_eq, Int.ofNat_lt] at h
     have hq := a0I hv i h
     have hq9 := gD hq
     have hwd := dB wDir d h
     have hwq : wNodeS d[i].fQuery ≤ wDir d[i] := by unfold wDir; omega
     have hML : M.length = d.length := hp.low.len
     have hiM : i < M.length := by omega
     have hB : ∀ j, lv M j ≤ 1000000 := fun j => by have := hp.low.small j; omega
     have ho1 := a4L (dE d[i].fQuery false)
     have ho2 := a4L (dE d[i].fQuery true)
     have ho3 := jN d[i].fQuery false d[i].fQuery.length
     have ho4 := jN d[i].fQuery true d[i].fQuery.length
     have hk1 : (iE (dE d[i].fQuery false)).length ≤ 4300000 := by unfold dE at ho1 ⊢; omega
     have hk2 : (iE (dE d[i].fQuery true)).length ≤ 4300000 := by unfold dE at ho2 ⊢; omega
     have hmx : mxI (abv d M 0 (iE (dE d[i].fQuery false)) 0 : Nat) (abv d M 1 (iE (dE d[i].fQuery true)) 0 : Nat) = ((gQ d M d[i] : Nat) : Int) := by
      rw [b0C]; rfl
     have hg := a0J M i hiM
     have qH := aI @h @hmx; repeat' (with_reducible first | refine nY ?_ | (refine mX ?_; try simp only [go_sem, qH]) | refine kD ?_ | refine rD ?_ | refine cP (a7F d[i].fQuery hq (by omega)) ?_ | refine cP (a7G d[i].fQuery hq (by omega)) ?_ | refine vO (a4G d M (iE (dE d[i].fQuery false)) (by omega) hML hk1 hB) ?_ | refine vQ (a4G d M (iE (dE d[i].fQuery false)) (by omega) hML hk1 hB) ?_ | refine vO (a4H d M (iE (dE d[i].fQuery true)) (by omega) hML hk2 hB) ?_ | refine vQ (a4H d M (iE (dE d[i].fQuery true)) (by omega) hML hk2 hB) ?_ | refine aO ?_ | fail)
     refine cnd rfl (fun ho => ?_) (fun ho => ?_)
     ·simp only [decide_eq_true_eq, Int.ofNat_lt] at ho
      have hno := hp.low.over h ho
      have f1 := b0K hno
      have f2 := a7W hno
      refine aH ?_
      exact aA ⟨⟨_, rfl, by simp only [go_sem, e1, e2, f1, f2]⟩, by simp [aL]⟩
     ·simp only [decide_eq_false_iff_not, Int.ofNat_lt] at ho
      have q0 := @h; have q1 := @hiM; have q2 := @hg; refine lQ ?_
      refine cnd rfl (fun hgt => ?_) (fun hgt => ?_)
      ·simp only [decide_eq_true_eq, Int.ofNat_lt] at hgt
       have q0 := @h; have q1 := @hiM; have q2 := @hg; refine lQ ?_
       refine aD (i + 1, M.set i (gQ d M d[i]), true) ?_ ?_ ?_
       ·simp only [go_sem, ← b3E]; simp
       ·exact ⟨by simp only; omega, hp.set h ho hgt⟩
       ·simp only; omega
      ·simp only [decide_eq_false_iff_not, Int.ofNat_lt] at hgt
       have q0 := @h; have q1 := @hiM; have q2 := @hg; refine lQ ?_
       refine aD (i + 1, M, c) ?_ ?_ ?_
       ·simp only [go_sem]; simp
       ·exact ⟨by simp only; omega, hp.keep h hgt⟩
       ·simp only; omega
    ·simp only [decide_eq_false_iff_not] at h
     have e : i = d.length := by omega
     subst e
     refine aH ?_
     refine aD (M, c) ?_ ?_ ?_
     ·simp only [go_sem]; simp
     ·exact ⟨hp.low, fun hc i hi => by
       simp only at hc
       obtain ⟨h1, h2⟩ := hp.no hc
       subst h1
       exact h2 i hi hi⟩
     ·have hs := hp.low.sum
      simp only
      cases c with
      | false => simp
      | true =>
       have := hp.yes rfl
       simp only [if_true]
       omega
  ·subst h
   have hL := hlow.done (hdone rfl)
   have f1 := b0J hL
   have f2 := a4O hL.clo
   refine aH ?_
   exact aA ⟨⟨_, rfl, by simp only [go_sem, e1, e2, f1, f2]⟩, by simp [aL]⟩
theorem pO (d : List TDir) (hd : fK d ≤ 4300000) : FnC Tryz.prog 88 [.o (.d (.sl (d.map bX)))] (ob (zT d)) := by
 refine ent Tryz.func88 rfl Tryz.call88 rfl (fun C => ?_); simp only [go_sem, st0, Tryz.ntmps88]
 refine lC (a3I d hd) ?_
 exact aA ⟨⟨_, rfl, by simp only [go_sem]⟩, trivial⟩
theorem a7D (q : List TNode) (hq : okQ q = true) (hw : wNodeS q ≤ 4300000) : FnC Tryz.prog 202 [.o (.d (.sl (q.map bE)))] (.o (.d (.sl ((putL (dE q false)).map bN)))) := (a9t q hq hw).pu (by simp only [go_sem, and_self])
theorem a7E (q : List TNode) (hq : okQ q = true) (hw : wNodeS q ≤ 4300000) : FnC Tryz.prog 204 [.o (.d (.sl (q.map bE)))] (.o (.d (.sl ((putL (dE q true)).map bN)))) := (a7L q hq hw).pu (by simp only [go_sem, and_self])
theorem a1h (d : List TDir) (i w : Nat) (names : List ByteArray) (k : Nat) (h : k < names.length) : dP d i w (names.take (k + 1)) = dP d i w (names.take k) ++ (if 0 ≤ placeD d names[k] then [(i, (placeD d names[k]).toNat, w)] else []) := by
 unfold dP
 rw [List.take_succ_eq_append_getElem h, List.flatMap_append]
 simp
theorem oM (d : List TDir) (i w : Nat) (names : List ByteArray) : (dP d i w names).length ≤ names.length := by
 induction names with
 | nil => simp [dP]
 | cons x l ih =>
  have e : dP d i w (x :: l) = (if 0 ≤ placeD d x then [(i, (placeD d x).toNat, w)] else []) ++ dP d i w l := by simp [dP]
  rw [e, List.length_append, List.length_cons]
  split <;> simp <;> omega
theorem rC (d : List TDir) (i w : Nat) (hi : i < d.length) (hw : w ≤ 1) (names : List ByteArray) (x : Nat × Nat × Nat) (hx : x ∈ dP d i w names) : x.1 < d.length ∧ x.2.2 ≤ 1 := by
 obtain ⟨nm, _, k, _, rfl⟩ := (xQ d i w names x).1 hx
 exact ⟨hi, hw⟩
def jF (d : List TDir) (k : Nat) : List (Nat × Nat × Nat) := (List.range k).flatMap (qF d)
theorem a1i (d : List TDir) (k : Nat) : jF d (k + 1) = jF d k ++ qF d k := by
 simp [jF, List.range_succ, List.flatMap_append]
theorem b1X (d : List TDir) (i : Nat) (h : i < d.length) : qF d i = dP d i 0 (putL (dE d[i].fQuery false)) ++ dP d i 1 (putL (dE d[i].fQuery true)) := by
 unfold qF; rw [List.getElem?_eq_getElem h]
theorem a9q (d : List TDir) (hv : dR d = true) (i : Nat) : (qF d i).length ≤ 18 := by
 unfold qF
 cases hx : d[i]? with
 | none => simp
 | some x =>
  have hi := (List.getElem?_eq_some_iff.1 hx).1
  have hxe : d[i] = x := (List.getElem?_eq_some_iff.1 hx).2
  have hq := (gD (a0I hv i hi)).2
  rw [hxe] at hq
  have h1 := oM d i 0 (putL (dE x.fQuery false))
  have h2 := oM d i 1 (putL (dE x.fQuery true))
  have h3 := uW (dE x.fQuery false)
  have h4 := uW (dE x.fQuery true)
  have h5 : (dE x.fQuery false).length ≤ x.fQuery.length := jN _ _ _
  have h6 : (dE x.fQuery true).length ≤ x.fQuery.length := jN _ _ _
  simp only [List.length_append]
  omega
theorem a2Z (d : List TDir) (hv : dR d = true) (k : Nat) : (jF d k).length ≤ 18 * k := by
 induction k with
 | zero => simp [jF]
 | succ k ih => rw [a1i, List.length_append]; have := a9q d hv k; omega
theorem a4F (d : List TDir) (k : Nat) (x : Nat × Nat × Nat) (hx : x ∈ jF d k) : x.1 < d.length ∧ x.2.2 ≤ 1 := by
 unfold jF at hx
 obtain ⟨i, _, h⟩ := List.mem_flatMap.1 hx
 unfold qF at h
 cases hd : d[i]? with
 | none => rw [hd] at h; simp at h
 | some y =>
  rw [hd] at h
  have hi := (List.getElem?_eq_some_iff.1 hd).1
  simp only [List.mem_append] at h
  rcases h with h | h
  ·exact rC d i 0 hi (by omega) _ x h
  ·exact rC d i 1 hi (by omega) _ x h
theorem b0B {i p w : Nat} {L : List Nat} (h : lv L p + w > lv L i) : up1 i p w L = L.set i (lv L p + w) := by unfold up1; rw [if_pos h]
theorem b3D {i p w : Nat} {L : List Nat} (h : ¬ lv L p + w > lv L i) : up1 i p w L = L := by unfold up1; rw [if_neg h]
theorem a3a (d : List TDir) (L : List Nat) (hv : dR d = true) (hd : fK d ≤ 4300000) (hL : L.length = d.length) (hB : ∀ j, lv L j ≤ 1000000) : FnC Tryz.prog 154 [.o (.d (.sl (d.map bX))), .o (.d (.sl (L.map sM)))] (.o (.w 3 1 ((ups (gT d) L).map sM))) := by
 have hd0 : d.length + wsum wDir d ≤ 4300000 := hd
 have hl5 := xP hv
 refine ent Tryz.func154 rfl Tryz.call154 rfl (fun C => ?_); simp only [go_sem, st0, Tryz.ntmps154]
 refine aH ?_
 refine bD (α := Nat) (fun i => [(5, .o (.s 0)), (13, .o .u), (15, .o .u), (6, oi i)]) (fun i => [(0, .row 3 1 ((ups (jF d i) L).map sM) true)]) (fun i => i ≤ d.length) (fun i => d.length - i) 0 (fun _ => ?_) ?_ ?_ (fun i hi => ?_)
 ·simp only [go_sem]
 ·simp only [go_sem]; simp [jF, ups]
 ·simp
 ·simp only [go_sem]
  refine aH ?_
  refine cnd rfl (fun h => ?_) (fun h => ?_)
  ·simp only [decide_eq_true_eq, Int.ofNat_lt] at h
   have hq := a0I hv i h
   have hwd := dB wDir d h
   have hwq : wNodeS d[i].fQuery ≤ wDir d[i] := by unfold wDir; omega
   have hsuc := a1i d i
   rw [b1X d i h] at hsuc
   have hML : (ups (jF d i) L).length = d.length := by rw [vX]; exact hL
   have hMB := nP (jF d i) L 1000000 (fun x hx => by rw [hL]; exact a4F d i x hx) hB
   have hKl := a2Z d hv i
   have hfin : ups (jF d (i + 1)) L = ups (dP d i 1 (putL (dE d[i].fQuery true))) (ups (dP d i 0 (putL (dE d[i].fQuery false))) (ups (jF d i) L)) := by
    rw [hsuc, a1P, a1P]
   have hn1 := uW (dE d[i].fQuery false)
   have hn2 := uW (dE d[i].fQuery true)
   have hn3 : (dE d[i].fQuery false).length ≤ d[i].fQuery.length := jN _ _ _
   have hn4 : (dE d[i].fQuery true).length ≤ d[i].fQuery.length := jN _ _ _
   have hq9 := gD hq
   have hMB2 : ∀ j, lv (ups (jF d i) L) j ≤ 1000200 := fun j => by have := hMB j; omega
   generalize ups (jF d i) L = M at *
   have q0 := @h; refine iX (a7D d[i].fQuery hq (by omega)) ?_
   generalize putL (dE d[i].fQuery false) = P at *
   refine bD (α := Nat) (fun k => [(8, oi k)]) (fun k => [(0, .row 3 1 ((ups (dP d i 0 (P.take k)) M).map sM) true)]) (fun k => k ≤ P.length) (fun k => P.length - k) 0 (fun _ => ?_) ?_ ?_ (fun k hk => ?_)
   ·simp only [go_sem]
   ·simp only [go_sem]; simp [dP, ups]
   ·simp
   ·simp only [go_sem]
    refine aH ?_
    refine cnd rfl (fun h1 => ?_) (fun h1 => ?_)
    ·simp only [decide_eq_true_eq, Int.ofNat_lt] at h1
     have ht := a1h d i 0 P k h1
     have hXL : (ups (dP d i 0 (P.take k)) M).length = d.length := by rw [vX]; exact hML
     have hXB := nP (dP d i 0 (P.take k)) M 1000200 (fun x hx => by rw [hML]; exact rC d i 0 h (by omega) _ x hx) hMB2
     have hel := oM d i 0 (P.take k)
     rw [List.length_take] at hel
     have hup : ups (dP d i 0 (P.take (k + 1))) M = ups (if 0 ≤ placeD d P[k] then [(i, (placeD d P[k]).toNat, 0)] else []) (ups (dP d i 0 (P.take k)) M) := by rw [ht, a1P]
     generalize ups (dP d i 0 (P.take k)) M = X at *
     have hiX : i < X.length := by omega
     have hg := a0J X i hiX
     rcases placeD_cases d P[k] with hp | ⟨p, hp, hpl⟩
     ·rw [if_neg (by omega)] at hup
      have q0 := @h1; have q1 := @hp; have q2 := @decide_true; have q3 := @decide_false; refine tQ (kQ d P[k] (by omega)) ?_
      refine aD (k + 1) ?_ ?_ ?_
      ·simp only [go_sem, hup, ups]; simp
      ·omega
      ·omega
     ·have hpX : p < X.length := by omega
      have hge : (0 : Int) ≤ (p : Int) := by omega
      have hgp := a0J X p hpX
      rw [if_pos (by omega), hp, Int.toNat_natCast] at hup
      simp only [ups] at hup
      by_cases hc : lv X p > lv X i
      ·have hcI : ((lv X i : Nat) : Int) < ((lv X p : Nat) : Int) := by omega
       rw [b0B (by omega), Nat.add_zero] at hup
       have qH := aI @h1 (aI @hp (aI @hge (aI @hpX (aI @hiX (aI @hg (aI @hgp (aI @hcI (aI @decide_true (aI @decide_false @Int.toNat_natCast))))))))); repeat' (with_reducible first | refine nY ?_ | (refine mX ?_; try simp only [go_sem, qH]) | refine kD ?_ | refine rD ?_ | refine cP (kQ d P[k] (by omega)) ?_ | refine aO ?_ | fail)
       refine aD (k + 1) ?_ ?_ ?_
       ·simp only [go_sem, hup, ← b3E]; simp
       ·omega
       ·omega
      ·have hcI : ¬ ((lv X i : Nat) : Int) < ((lv X p : Nat) : Int) := by omega
       rw [b3D (by omega)] at hup
       have qH := aI @h1 (aI @hp (aI @hge (aI @hpX (aI @hiX (aI @hg (aI @hgp (aI @hcI (aI @decide_true (aI @decide_false @Int.toNat_natCast))))))))); repeat' (with_reducible first | refine nY ?_ | (refine mX ?_; try simp only [go_sem, qH]) | refine kD ?_ | refine rD ?_ | refine cP (kQ d P[k] (by omega)) ?_ | refine aO ?_ | fail)
       refine aD (k + 1) ?_ ?_ ?_
       ·simp only [go_sem, hup]; simp
       ·omega
       ·omega
    ·simp only [decide_eq_false_iff_not] at h1
     have e : k = P.length := by omega
     subst e
     rw [List.take_length]
     have hXL : (ups (dP d i 0 P) M).length = d.length := by rw [vX]; exact hML
     have hXB := nP (dP d i 0 P) M 1000200 (fun x hx => by rw [hML]; exact rC d i 0 h (by omega) _ x hx) hMB2
     have hel := oM d i 0 P
     have hXB2 : ∀ j, lv (ups (dP d i 0 P) M) j ≤ 1000400 := fun j => by have := hXB j; omega
     generalize ups (dP d i 0 P) M = Y at *
     have q0 := @h; refine iX (a7E d[i].fQuery hq (by omega)) ?_
     generalize putL (dE d[i].fQuery true) = N at *
     refine bD (α := Nat) (fun k => [(11, oi k)]) (fun k => [(0, .row 3 1 ((ups (dP d i 1 (N.take k)) Y).map sM) true)]) (fun k => k ≤ N.length) (fun k => N.length - k) 0 (fun _ => ?_) ?_ ?_ (fun k hk => ?_)
     ·simp only [go_sem]
     ·simp only [go_sem]; simp [dP, ups]
     ·simp
     ·simp only [go_sem]
      refine aH ?_
      refine cnd rfl (fun h1 => ?_) (fun h1 => ?_)
      ·simp only [decide_eq_true_eq, Int.ofNat_lt] at h1
       have ht := a1h d i 1 N k h1
       have hZL : (ups (dP d i 1 (N.take k)) Y).length = d.length := by rw [vX]; exact hXL
       have hZB := nP (dP d i 1 (N.take k)) Y 1000400 (fun x hx => by rw [hXL]; exact rC d i 1 h (by omega) _ x hx) hXB2
       have hel := oM d i 1 (N.take k)
       rw [List.length_take] at hel
       have hup : ups (dP d i 1 (N.take (k + 1))) Y = ups (if 0 ≤ placeD d N[k] then [(i, (placeD d N[k]).toNat, 1)] else []) (ups (dP d i 1 (N.take k)) Y) := by rw [ht, a1P]
       generalize ups (dP d i 1 (N.take k)) Y = X at *
       have hiX : i < X.length := by omega
       have hg := a0J X i hiX
       rcases placeD_cases d N[k] with hp | ⟨p, hp, hpl⟩
       ·rw [if_neg (by omega)] at hup
        have q0 := @h1; have q1 := @hp; have q2 := @decide_true; have q3 := @decide_false; refine tQ (kQ d N[k] (by omega)) ?_
        refine aD (k + 1) ?_ ?_ ?_
        ·simp only [go_sem, hup, ups]; simp
        ·omega
        ·omega
       ·have hpX : p < X.length := by omega
        have hge : (0 : Int) ≤ (p : Int) := by omega
        have hgp := a0J X p hpX
        have hbp := hZB p
        have hs1 : ((lv X p : Nat) : Int) + 1 = ((lv X p + 1 : Nat) : Int) := by omega
        rw [if_pos (by omega), hp, Int.toNat_natCast] at hup
        simp only [ups] at hup
        by_cases hc : lv X p + 1 > lv X i
        ·have hcI : ((lv X i : Nat) : Int) < ((lv X p + 1 : Nat) : Int) := by omega
         rw [b0B hc] at hup
         have qH := aI @h1 (aI @hp (aI @hge (aI @hpX (aI @hiX (aI @hg (aI @hgp (aI @hs1 (aI @hcI (aI @decide_true (aI @decide_false @Int.toNat_natCast)))))))))); repeat' (with_reducible first | refine nY ?_ | (refine mX ?_; try simp only [go_sem, qH]) | refine kD ?_ | refine rD ?_ | refine cP (kQ d N[k] (by omega)) ?_ | refine aO ?_ | fail)
         refine aD (k + 1) ?_ ?_ ?_
         ·simp only [go_sem, hup, ← b3E]; simp
         ·omega
         ·omega
        ·have hcI : ¬ ((lv X i : Nat) : Int) < ((lv X p + 1 : Nat) : Int) := by omega
         rw [b3D hc] at hup
         have qH := aI @h1 (aI @hp (aI @hge (aI @hpX (aI @hiX (aI @hg (aI @hgp (aI @hs1 (aI @hcI (aI @decide_true (aI @decide_false @Int.toNat_natCast)))))))))); repeat' (with_reducible first | refine nY ?_ | (refine mX ?_; try simp only [go_sem, qH]) | refine kD ?_ | refine rD ?_ | refine cP (kQ d N[k] (by omega)) ?_ | refine aO ?_ | fail)
         refine aD (k + 1) ?_ ?_ ?_
         ·simp only [go_sem, hup]; simp
         ·omega
         ·omega
      ·simp only [decide_eq_false_iff_not] at h1
       have e : k = N.length := by omega
       subst e
       rw [List.take_length]
       refine aH ?_
       refine aD (i + 1) ?_ ?_ ?_
       ·simp only [go_sem, hfin]; simp
       ·omega
       ·omega
  ·simp only [decide_eq_false_iff_not] at h
   have e : i = d.length := by omega
   subst e
   refine aH ?_
   exact aA ⟨⟨_, rfl, by simp only [go_sem, jF, gT]⟩, trivial⟩
theorem a6c (A B : List Nat) (k : Nat) (hA : k < A.length) (hB : k < B.length) (h : A.take k = B.take k) (e : A[k] = B[k]) : A.take (k + 1) = B.take (k + 1) := by
 rw [List.take_succ_eq_append_getElem hA, List.take_succ_eq_append_getElem hB, h, e]
theorem b0A (A B : List Nat) (hA : A.length ≤ 4300000) (hB : B.length ≤ 4300000) : FnC Tryz.prog 155 [.o (.d (.sl (A.map sM))), .o (.d (.sl (B.map sM)))] (ob (decide (A = B))) := by
 refine ent Tryz.func155 rfl Tryz.call155 rfl (fun C => ?_); simp only [go_sem, st0, Tryz.ntmps155]
 by_cases hl : A.length = B.length
 ·have hli : ((A.length : Nat) : Int) = ((B.length : Nat) : Int) := by omega
  have q0 := @hli; have q1 := @decide_true; refine kC ?_
  refine bD (α := Nat) (fun k => [(5, oi k)]) (fun _ => []) (fun k => k ≤ A.length ∧ A.take k = B.take k) (fun k => A.length - k) 0 (fun _ => ?_) ?_ ?_ (fun k hk => ?_)
  ·simp only [go_sem]
  ·simp only [go_sem]; simp
  ·simp
  ·obtain ⟨hk, hq⟩ := hk
   simp only [go_sem]
   refine aH ?_
   refine cnd rfl (fun h => ?_) (fun h => ?_)
   ·simp only [decide_eq_true_eq, Int.ofNat_lt] at h
    have h2 : k < B.length := by omega
    by_cases he : A[k] = B[k]
    ·have hei : ((A[k] : Nat) : Int) = ((B[k] : Nat) : Int) := by omega
     have q0 := @h; have q1 := @h2; have q2 := @hei; have q3 := @decide_true; refine iW ?_
     refine aD (k + 1) ?_ ?_ ?_
     ·simp only [go_sem]; simp
     ·exact ⟨by omega, a6c A B k h h2 hq he⟩
     ·omega
    ·have hei : ¬ ((A[k] : Nat) : Int) = ((B[k] : Nat) : Int) := by omega
     have hne : decide (A = B) = false := decide_eq_false fun e => he (by subst e; rfl)
     have q0 := @h; have q1 := @h2; have q2 := @hei; have q3 := @decide_false; refine iW ?_
     exact aA ⟨⟨_, rfl, by simp only [go_sem, hne]⟩, trivial⟩
   ·simp only [decide_eq_false_iff_not] at h
    have e : k = A.length := by omega
    subst e
    rw [List.take_length, hl, List.take_length] at hq
    have hy : decide (A = B) = true := decide_eq_true hq
    refine aH ?_
    exact aA ⟨⟨_, rfl, by simp only [go_sem, hy]⟩, trivial⟩
 ·have hli : ¬ ((A.length : Nat) : Int) = ((B.length : Nat) : Int) := by omega
  have hne : decide (A = B) = false := decide_eq_false fun e => hl (by rw [e])
  have q0 := @hli; have q1 := @decide_false; refine kC ?_
  exact aA ⟨⟨_, rfl, by simp only [go_sem, hne]⟩, trivial⟩
theorem a3H (d : List TDir) (hd : fK d ≤ 4300000) : FnC Tryz.prog 99 [.o (.d (.sl (d.map bX)))] (.t [(false, [.d (.sl ((resL d).map sM))]), (false, [.d (bv (zT d))])]) := by
 have hd0 : d.length + wsum wDir d ≤ 4300000 := hd
 refine ent Tryz.func99 rfl Tryz.call99 rfl (fun C => ?_); simp only [go_sem, st0, Tryz.ntmps99]
 cases hv : dR d
 ·have e1 : resL d = [] := by simp [resL, hv]
  have e2 : zT d = false := by simp [zT, hv]
  have q0 := @hv; refine iX (zX d hd) ?_
  refine vK (Sees.frz 0 rfl) ?_
  simp only [go_sem]
  exact aA ⟨⟨_, rfl, by simp only [go_sem, e1, e2, List.map_nil]⟩, by simp [aL]⟩
 have e1 : resL d = a9z d.length (EE d) := by simp [resL, hv]
 have e2 : zT d = a3i d.length (EE d) := by simp [zT, hv]
 have hl5 := xP hv
 have hsq : d.length * d.length ≤ 25 := Nat.mul_le_mul hl5 hl5
 have hmul : ((d.length : Nat) : Int) * ((d.length : Nat) : Int) = ((d.length * d.length : Nat) : Int) := by rw [Int.natCast_mul]
 have hends := b2f (a3b d) (gT d) (fun x => Iff.rfl) (d.length * d.length + 2) (by omega)
 have hEl := a2Z d hv d.length
 have hEok : ∀ x ∈ gT d, x.1 < (List.replicate d.length 0).length ∧ x.2.2 ≤ 1 := fun x hx => by rw [List.length_replicate]; exact a4F d d.length x hx
 have hEl2 : (gT d).length ≤ 90 := by have : gT d = jF d d.length := rfl; rw [this]; omega
 have hbd := a3l (gT d) (List.replicate d.length 0) hEok (fun j => a6p _ j)
 have hlen : ∀ r, (upsN (gT d) r (List.replicate d.length 0)).length = d.length := fun r => by rw [a3k]; simp
 generalize hN2 : d.length * d.length = N2 at *
 have hB : ∀ r, r ≤ N2 + 2 → ∀ j, lv (upsN (gT d) r (List.replicate d.length 0)) j ≤ 1000000 := fun r hr j => by
  have h1 := hbd r j
  have h2 : r * (gT d).length ≤ 27 * 90 := Nat.mul_le_mul (by omega) hEl2
  omega
 have q0 := @hv; refine iX (zX d hd) ?_
 refine bD (α := Nat) (fun r => [(4, .o (.s 0)), (12, .o .u), (5, oi r)]) (fun r => [(0, .row 3 1 ((upsN (gT d) r (List.replicate d.length 0)).map sM) true)]) (fun r => r ≤ N2 + 2) (fun r => N2 + 2 - r) 0 (fun _ => ?_) ?_ ?_ (fun r hr => ?_)
 ·simp only [go_sem]
 ·simp only [go_sem]; simp [upsN, sM]
 ·simp
 ·simp only [go_sem]
  have q0 := @hmul; refine iG ?_
  refine cnd rfl (fun h => ?_) (fun h => ?_)
  ·simp only [decide_eq_true_eq] at h
   refine lC (a3a d (upsN (gT d) r (List.replicate d.length 0)) hv hd (hlen r) (hB r hr)) ?_
   refine b4w [(0, 1)] (r + 1) (by simp only [go_sem]; rfl) ?_ ?_ ?_
   ·simp only [go_sem, upsN]; simp
   ·omega
   ·omega
  ·simp only [decide_eq_false_iff_not] at h
   have e : r = N2 + 2 := by omega
   subst e
   have hLl := hlen (N2 + 2)
   have hLB := hB (N2 + 2) (by omega)
   simp only at hends
   generalize upsN (gT d) (N2 + 2) (List.replicate d.length 0) = L at *
   have hUl : (ups (gT d) L).length = d.length := by rw [vX]; exact hLl
   by_cases hs : ups (gT d) L = L
   ·rw [if_pos hs] at hends
    have f1 := b0J hends
    have f2 := a4O hends.clo
    have hy : decide (ups (gT d) L = L) = true := decide_eq_true hs
    have q0 := @hy; refine a3A (a3a d L hv hd hLl hLB) (b0A (ups (gT d) L) L (by omega) (by omega)) ?_
    exact aA ⟨⟨_, rfl, by simp only [go_sem, e1, e2, f1, f2]⟩, by simp [aL]⟩
   ·rw [if_neg hs] at hends
    have f1 := b0K hends
    have f2 := a7W hends
    have hy : decide (ups (gT d) L = L) = false := decide_eq_false hs
    have q0 := @hy; refine a3A (a3a d L hv hd hLl hLB) (b0A (ups (gT d) L) L (by omega) (by omega)) ?_
    refine vK (Sees.frz 2 rfl) ?_
    simp only [go_sem]
    exact aA ⟨⟨_, rfl, by simp only [go_sem, e1, e2, f1, f2, List.map_nil]⟩, by simp [aL]⟩
theorem pM (d : List TDir) (hd : fK d ≤ 4300000) : FnC Tryz.prog 55 [.o (.d (.sl (d.map bX)))] (ob (zT d)) := by
 refine ent Tryz.func55 rfl Tryz.call55 rfl (fun C => ?_); simp only [go_sem, st0, Tryz.ntmps55]
 refine lC (a3H d hd) ?_
 exact aA ⟨⟨_, rfl, by simp only [go_sem]⟩, trivial⟩
noncomputable def eY (x : TSnapshot) : Bool := dW x.fStore && zT x.fDirs
theorem kN (x : TSnapshot) (h : aK x ≤ 1048576) : FnC Tryz.prog 47 [dZ x] (ob (eY x)) := by
 unfold aK at h
 refine ent Tryz.func47 rfl Tryz.call47 rfl (fun C => ?_); simp only [go_sem, st0, Tryz.ntmps47]
 cases hs : dW x.fStore
 ·have q0 := @hs; refine a3A (zU x.fStore (by omega)) (pO x.fDirs (by omega)) ?_
  exact aA ⟨⟨_, rfl, by simp only [go_sem, eY, hs, Bool.false_and]⟩, trivial⟩
 ·have q0 := @hs; refine a3A (zU x.fStore (by omega)) (pO x.fDirs (by omega)) ?_
  exact aA ⟨⟨_, rfl, by simp only [go_sem, eY, hs, Bool.true_and]⟩, trivial⟩
theorem kP (x : TSnapshot) (h : aK x ≤ 1048576) : FnC Tryz.prog 23 [dZ x] (ob (eY x)) := by
 unfold aK at h
 refine ent Tryz.func23 rfl Tryz.call23 rfl (fun C => ?_); simp only [go_sem, st0, Tryz.ntmps23]
 cases hs : dW x.fStore
 ·have q0 := @hs; refine a3A (zW x.fStore (by omega)) (pM x.fDirs (by omega)) ?_
  exact aA ⟨⟨_, rfl, by simp only [go_sem, eY, hs, Bool.false_and]⟩, trivial⟩
 ·have q0 := @hs; refine a3A (zW x.fStore (by omega)) (pM x.fDirs (by omega)) ?_
  exact aA ⟨⟨_, rfl, by simp only [go_sem, eY, hs, Bool.true_and]⟩, trivial⟩
end Go.Proofs.YtgpoopjfkplilaaGreatDoor
end
