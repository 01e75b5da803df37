/- Joined texts. -/
import Derived.Test.YtddimbdeggomaaaGreatZ07
import Derived.Test.YtddimbdeggomaaaGreatZ13
import Derived.Test.YtddimbdeggomaaaGreatZ11
import Derived.Test.YtddimbdeggomaaaGreatZ09
set_option linter.all false
section
set_option maxRecDepth 100000
set_option maxHeartbeats 4000000
namespace Go.Proofs.YtddimbdeggomaaaGreat
def lv (L : List Nat) (i : Nat) : Nat := L.getD i 0
structure Clo (n : Nat) (E : Nat → Nat → Nat → Prop) (F : List Nat) : Prop where
 len : F.length = n
 le : ∀ i k w, E i k w → lv F k + w ≤ lv F i
structure Edges (n : Nat) (E : Nat → Nat → Nat → Prop) : Prop where
 ok : ∀ i k w, E i k w → i < n ∧ k < n ∧ w ≤ 1
structure Least (n : Nat) (E : Nat → Nat → Nat → Prop) (L : List Nat) : Prop where
 clo : Clo n E L
 le : ∀ F, Clo n E F → ∀ i, lv L i ≤ lv F i
theorem lv_ext {L M : List Nat} (h : L.length = M.length) (hi : ∀ i, lv L i = lv M i) : L = M := by
 apply List.ext_getElem h
 intro i h1 h2
 have := hi i
 simpa [lv, List.getD_eq_getElem?_getD, h1, h2] using this
theorem least_unique {n : Nat} {E : Nat → Nat → Nat → Prop} {L M : List Nat} (h : Least n E L) (k : Least n E M) : L = M :=
 lv_ext (by rw [h.clo.len, k.clo.len]) fun i => Nat.le_antisymm (h.le M k.clo i) (k.le L h.clo i)
open Classical in
noncomputable def levs (n : Nat) (E : Nat → Nat → Nat → Prop) : List Nat := if h : ∃ L, Least n E L then h.choose else []
theorem levs_eq {n : Nat} {E : Nat → Nat → Nat → Prop} {L : List Nat} (h : Least n E L) : levs n E = L := by
 have he : ∃ L, Least n E L := ⟨L, h⟩
 unfold levs
 rw [dif_pos he]
 exact least_unique he.choose_spec h
theorem levs_no {n : Nat} {E : Nat → Nat → Nat → Prop} (h : ¬ ∃ F, Clo n E F) : levs n E = [] := by
 unfold levs
 rw [dif_neg (fun ⟨L, hL⟩ => h ⟨L, hL.clo⟩)]
open Classical in
noncomputable def strat (n : Nat) (E : Nat → Nat → Nat → Prop) : Bool := if ∃ F, Clo n E F then true else false
theorem strat_yes {n : Nat} {E : Nat → Nat → Nat → Prop} {L : List Nat} (h : Clo n E L) : strat n E = true := by
 unfold strat; rw [if_pos ⟨L, h⟩]
theorem strat_no {n : Nat} {E : Nat → Nat → Nat → Prop} (h : ¬ ∃ F, Clo n E F) : strat n E = false := by
 unfold strat; rw [if_neg h]
theorem clo_small {n : Nat} {E : Nat → Nat → Nat → Prop} (hE : Edges n E) {F : List Nat} (h : Clo n E F) : ∃ G, Clo n E G ∧ ∀ i, i < n → lv G i < n := by
 let r (i : Nat) : Nat := ((List.range n).filter fun j => decide (lv F j < lv F i)).length
 have hr : ∀ i, i < n → lv ((List.range n).map r) i = r i := fun i hi => by simp [lv, List.getD_eq_getElem?_getD, hi]
 have sub : ∀ (p q : Nat → Bool) (l : List Nat), (∀ j, p j = true → q j = true) → (l.filter p).length ≤ (l.filter q).length := by
  intro p q l hpq
  induction l with
  | nil => simp
  | cons x l ih =>
   simp only [List.filter_cons]
   cases hp : p x
   ·cases hq : q x <;> simp <;> omega
   ·rw [hpq x hp]; simpa using ih
 have sub1 : ∀ (p q : Nat → Bool) (l : List Nat) (x : Nat), x ∈ l → (∀ j, p j = true → q j = true) → p x = false → q x = true → (l.filter p).length < (l.filter q).length := by
  intro p q l x hx hpq hp hq
  induction l with
  | nil => simp at hx
  | cons y l ih =>
   simp only [List.filter_cons]
   rcases List.mem_cons.1 hx with rfl | hx
   ·rw [hp, hq]
    have := sub p q l hpq
    simp
    omega
   ·have := ih hx
    cases hp' : p y
    ·cases hq' : q y <;> simp <;> omega
    ·rw [hpq y hp']; simpa using this
 refine ⟨(List.range n).map r, ⟨by simp, fun i k w he => ?_⟩, fun i hi => ?_⟩
 ·obtain ⟨hi, hk, hw⟩ := hE.ok i k w he
  rw [hr i hi, hr k hk]
  have hle := h.le i k w he
  rcases Nat.lt_or_ge w 1 with hw0 | hw1
  ·have hw' : w = 0 := by omega
   subst hw'
   exact sub _ _ _ fun j hj => by simp only [decide_eq_true_eq] at hj ⊢; omega
  ·have hw' : w = 1 := by omega
   subst hw'
   exact sub1 _ _ _ k (List.mem_range.2 hk) (fun j hj => by simp only [decide_eq_true_eq] at hj ⊢; omega) (by simp) (by simp only [decide_eq_true_eq]; omega)
 ·rw [hr i hi]
  have := sub1 (fun j => decide (lv F j < lv F i)) (fun _ => true) (List.range n) i (List.mem_range.2 hi) (fun _ _ => rfl) (by simp) rfl
  rw [List.filter_eq_self.2 (fun _ _ => rfl), List.length_range] at this
  exact this
theorem lv_set (L : List Nat) (i v j : Nat) (h : i < L.length) : lv (L.set i v) j = if j = i then v else lv L j := by
 unfold lv
 simp only [List.getD_eq_getElem?_getD, List.getElem?_set]
 by_cases e : i = j
 ·subst e; simp [h]
 ·rw [if_neg e, if_neg (fun e' => e e'.symm)]
def sumN : List Nat → Nat
 | [] => 0
 | x :: l => x + sumN l
theorem sumN_set (L : List Nat) (i v : Nat) (h : i < L.length) : sumN (L.set i v) + lv L i = sumN L + v := by
 induction L generalizing i with
 | nil => simp at h
 | cons x l ih =>
  cases i with
  | zero => simp [sumN, lv]; omega
  | succ i =>
   have := ih i (by simpa using h)
   simp only [List.set_cons_succ, sumN, lv, List.getD_cons_succ] at this ⊢
   omega
theorem sumN_le (L : List Nat) (c : Nat) (h : ∀ i, i < L.length → lv L i ≤ c) : sumN L ≤ L.length * c := by
 induction L with
 | nil => simp [sumN]
 | cons x l ih =>
  have h0 : x ≤ c := by simpa [lv] using h 0 (by simp)
  have h1 := ih fun i hi => by simpa [lv] using h (i + 1) (by simpa using hi)
  simp only [sumN, List.length_cons, Nat.succ_mul]
  omega
theorem lv_rep (n i : Nat) : lv (List.replicate n 0) i = 0 := by
 simp only [lv, List.getD_eq_getElem?_getD, List.getElem?_replicate]
 split <;> rfl
def up1 (i k w : Nat) (L : List Nat) : List Nat := if lv L k + w > lv L i then L.set i (lv L k + w) else L
theorem up1_len (i k w : Nat) (L : List Nat) : (up1 i k w L).length = L.length := by unfold up1; split <;> simp
theorem up1_grow (i k w : Nat) (L : List Nat) (h : i < L.length) : up1 i k w L = L ∨ sumN L < sumN (up1 i k w L) := by
 unfold up1
 split
 ·rename_i hc
  have := sumN_set L i (lv L k + w) h
  right; omega
 ·exact .inl rfl
theorem up1_same {i k w : Nat} {L : List Nat} (hl : i < L.length) (h : up1 i k w L = L) : lv L k + w ≤ lv L i := by
 apply Classical.byContradiction
 intro hn
 have hc : lv L k + w > lv L i := by omega
 unfold up1 at h
 rw [if_pos hc] at h
 have := lv_set L i (lv L k + w) i hl
 rw [h, if_pos rfl] at this
 omega
theorem up1_below {n : Nat} {E : Nat → Nat → Nat → Prop} {F : List Nat} (hF : Clo n E F) {i k w : Nat} (he : E i k w) {L : List Nat} (hl : i < L.length) (h : ∀ j, lv L j ≤ lv F j) : ∀ j, lv (up1 i k w L) j ≤ lv F j := by
 intro j
 unfold up1
 split
 ·rw [lv_set L i _ j hl]
  split
  ·rename_i e; subst e
   have := hF.le j k w he
   have := h k
   omega
  ·exact h j
 ·exact h j
theorem up1_bound {i k w : Nat} {L : List Nat} {B : Nat} (hl : i < L.length) (hw : w ≤ 1) (h : ∀ j, lv L j ≤ B) : ∀ j, lv (up1 i k w L) j ≤ B + 1 := by
 intro j
 unfold up1
 split
 ·rw [lv_set L i _ j hl]
  split
  ·have := h k; omega
  ·have := h j; omega
 ·have := h j; omega
def ups : List (Nat × Nat × Nat) → List Nat → List Nat
 | [], L => L
 | (i, k, w) :: l, L => ups l (up1 i k w L)
theorem ups_app (l m : List (Nat × Nat × Nat)) (L : List Nat) : ups (l ++ m) L = ups m (ups l L) := by
 induction l generalizing L with
 | nil => rfl
 | cons x l ih => obtain ⟨i, k, w⟩ := x; simp only [List.cons_append, ups, ih]
theorem ups_len (l : List (Nat × Nat × Nat)) (L : List Nat) : (ups l L).length = L.length := by
 induction l generalizing L with
 | nil => rfl
 | cons x l ih => obtain ⟨i, k, w⟩ := x; simp only [ups, ih, up1_len]
theorem ups_grow : ∀ (l : List (Nat × Nat × Nat)) (L : List Nat), (∀ x ∈ l, x.1 < L.length) → (ups l L = L ∧ ∀ x ∈ l, up1 x.1 x.2.1 x.2.2 L = L) ∨ sumN L < sumN (ups l L)
 | [], L, _ => .inl ⟨rfl, fun x h => by simp at h⟩
 | (i, k, w) :: l, L, h => by
  have hi := h (i, k, w) (by simp)
  have hl := ups_grow l (up1 i k w L) fun x hx => by rw [up1_len]; exact h x (by simp [hx])
  simp only [ups]
  rcases up1_grow i k w L hi with e | g
  ·rw [e] at hl ⊢
   rcases hl with ⟨h1, h2⟩ | h1
   ·refine .inl ⟨h1, fun x hx => ?_⟩
    rcases List.mem_cons.1 hx with rfl | hx
    ·exact e
    ·exact h2 x hx
   ·exact .inr h1
  ·rcases hl with ⟨h1, _⟩ | h1
   ·rw [h1]; exact .inr g
   ·exact .inr (by omega)
theorem ups_below {n : Nat} {E : Nat → Nat → Nat → Prop} {F : List Nat} (hE : Edges n E) (hF : Clo n E F) : ∀ (l : List (Nat × Nat × Nat)) (L : List Nat), L.length = n → (∀ x ∈ l, E x.1 x.2.1 x.2.2) → (∀ j, lv L j ≤ lv F j) → ∀ j, lv (ups l L) j ≤ lv F j
 | [], L, _, _, h => h
 | (i, k, w) :: l, L, hl, he, h => by
  have e := he (i, k, w) (by simp)
  exact ups_below hE hF l _ (by rw [up1_len]; exact hl) (fun x hx => he x (by simp [hx])) (up1_below hF e (by rw [hl]; exact (hE.ok _ _ _ e).1) h)
theorem ups_bound : ∀ (l : List (Nat × Nat × Nat)) (L : List Nat) (B : Nat), (∀ x ∈ l, x.1 < L.length ∧ x.2.2 ≤ 1) → (∀ j, lv L j ≤ B) → ∀ j, lv (ups l L) j ≤ B + l.length
 | [], L, B, _, h => h
 | (i, k, w) :: l, L, B, hx, h => by
  have e := hx (i, k, w) (by simp)
  have := ups_bound l (up1 i k w L) (B + 1) (fun x hx' => by rw [up1_len]; exact hx x (by simp [hx'])) (up1_bound e.1 e.2 h)
  intro j
  have := this j
  simp only [ups, List.length_cons]
  omega
def upsN (l : List (Nat × Nat × Nat)) : Nat → List Nat → List Nat
 | 0, L => L
 | r + 1, L => ups l (upsN l r L)
theorem upsN_len (l : List (Nat × Nat × Nat)) (r : Nat) (L : List Nat) : (upsN l r L).length = L.length := by
 induction r with
 | zero => rfl
 | succ r ih => simp only [upsN, ups_len, ih]
theorem upsN_bound (l : List (Nat × Nat × Nat)) (L : List Nat) (hx : ∀ x ∈ l, x.1 < L.length ∧ x.2.2 ≤ 1) (h : ∀ j, lv L j = 0) : ∀ r j, lv (upsN l r L) j ≤ r * l.length
 | 0, j => by simp [upsN, h j]
 | r + 1, j => by
  have := ups_bound l (upsN l r L) (r * l.length) (fun x hx' => by rw [upsN_len]; exact hx x hx') (upsN_bound l L hx h r) j
  simp only [upsN, Nat.succ_mul]
  omega
theorem upsN_ends {n : Nat} {E : Nat → Nat → Nat → Prop} (hE : Edges n E) (l : List (Nat × Nat × Nat)) (hl : ∀ x, x ∈ l ↔ E x.1 x.2.1 x.2.2) (R : Nat) (hR : n * n < R) :
    let L := upsN l R (List.replicate n 0)
    if ups l L = L then Least n E L else ¬ ∃ F, Clo n E F := by
 intro L
 have hlen : ∀ r, (upsN l r (List.replicate n 0)).length = n := fun r => by rw [upsN_len]; simp
 have hbel : ∀ F, Clo n E F → ∀ r j, lv (upsN l r (List.replicate n 0)) j ≤ lv F j := fun F hF r => by
  induction r with
  | zero => intro j; simp only [upsN, lv_rep]; omega
  | succ r ih => exact ups_below hE hF l _ (hlen r) (fun x hx => (hl x).1 hx) ih
 have hix : ∀ r, ∀ x ∈ l, x.1 < (upsN l r (List.replicate n 0)).length := fun r x hx => by rw [hlen]; exact (hE.ok _ _ _ ((hl x).1 hx)).1
 have hgrow : ∀ r, ups l (upsN l r (List.replicate n 0)) = upsN l r (List.replicate n 0) ∨ r ≤ sumN (upsN l r (List.replicate n 0)) := fun r => by
  induction r with
  | zero => exact .inr (by omega)
  | succ r ih =>
   rcases ih with e | h
   ·left; simp only [upsN]; rw [e, e]
   ·rcases ups_grow l _ (hix r) with ⟨e, _⟩ | g
    ·left; simp only [upsN]; rw [e, e]
    ·right; simp only [upsN]; omega
 by_cases hs : ups l L = L
 ·rw [if_pos hs]
  refine ⟨⟨hlen R, fun i k w he => ?_⟩, fun F hF => hbel F hF R⟩
  rcases ups_grow l L (hix R) with ⟨_, h⟩ | g
  ·exact up1_same (by rw [hlen]; exact (hE.ok _ _ _ he).1) (h (i, k, w) ((hl (i, k, w)).2 he))
  ·rw [hs] at g; omega
 ·rw [if_neg hs]
  rintro ⟨F, hF⟩
  obtain ⟨G, hG, hsm⟩ := clo_small hE hF
  rcases hgrow R with e | h
  ·exact hs e
  ·have h1 := sumN_le L n fun i hi => by
    have h2 := hbel G hG R i
    have h3 := hsm i (by rw [← hlen R]; exact hi)
    show lv (upsN l R (List.replicate n 0)) i ≤ n
    omega
   rw [hlen R] at h1
   show False
   have : sumN L = sumN (upsN l R (List.replicate n 0)) := rfl
   omega
end Go.Proofs.YtddimbdeggomaaaGreat
end
section
set_option maxRecDepth 100000
set_option maxHeartbeats 4000000
namespace Go.Proofs.YtddimbdeggomaaaGreat
def placeD (d : List TDir) (nm : ByteArray) : Int := idxP (fun x => decide (x.fName = nm)) d 0
theorem placeD_cases (d : List TDir) (nm : ByteArray) : placeD d nm = -1 ∨ ∃ k : Nat, placeD d nm = (k : Int) ∧ k < d.length := by
 unfold placeD
 rcases idxP_fst (fun x => decide (x.fName = nm)) d 0 with ⟨_, h, _⟩ | ⟨h, hl⟩
 ·exact .inl h
 ·exact .inr ⟨_, by rw [h]; simp, hl⟩
def edgesN (d : List TDir) (i w : Nat) (names : List ByteArray) : List (Nat × Nat × Nat) := names.flatMap fun nm => if 0 ≤ placeD d nm then [(i, (placeD d nm).toNat, w)] else []
theorem mem_edgesN (d : List TDir) (i w : Nat) (names : List ByteArray) (x : Nat × Nat × Nat) : x ∈ edgesN d i w names ↔ ∃ nm ∈ names, ∃ k : Nat, placeD d nm = (k : Int) ∧ x = (i, k, w) := by
 unfold edgesN
 simp only [List.mem_flatMap]
 constructor
 ·rintro ⟨nm, h1, h2⟩
  split at h2
  ·rename_i hp
   refine ⟨nm, h1, (placeD d nm).toNat, by omega, by simpa using h2⟩
  ·simp at h2
 ·rintro ⟨nm, h1, k, h2, rfl⟩
  refine ⟨nm, h1, ?_⟩
  rw [if_pos (by omega), h2]; simp
def edgesD (d : List TDir) (i : Nat) : List (Nat × Nat × Nat) := match d[i]? with
 | none => []
 | some x => edgesN d i 0 (putL (depsL x.fQuery false)) ++ edgesN d i 1 (putL (depsL x.fQuery true))
def edgesA (d : List TDir) : List (Nat × Nat × Nat) := (List.range d.length).flatMap (edgesD d)
def EE (d : List TDir) (i k w : Nat) : Prop := (i, k, w) ∈ edgesA d
theorem EE_iff (d : List TDir) (i k w : Nat) : EE d i k w ↔ ∃ x, d[i]? = some x ∧ ((w = 0 ∧ ∃ nm ∈ depsL x.fQuery false, placeD d nm = (k : Int)) ∨ (w = 1 ∧ ∃ nm ∈ depsL x.fQuery true, placeD d nm = (k : Int))) := by
 unfold EE edgesA
 simp only [List.mem_flatMap, List.mem_range]
 constructor
 ·rintro ⟨j, hj, h⟩
  unfold edgesD at h
  rw [List.getElem?_eq_getElem hj] at h
  simp only [List.mem_append, mem_edgesN, mem_putL] at h
  rcases h with ⟨nm, h1, k', h2, h3⟩ | ⟨nm, h1, k', h2, h3⟩
  ·cases h3; exact ⟨_, List.getElem?_eq_getElem hj, .inl ⟨rfl, nm, h1, h2⟩⟩
  ·cases h3; exact ⟨_, List.getElem?_eq_getElem hj, .inr ⟨rfl, nm, h1, h2⟩⟩
 ·rintro ⟨x, hx, h⟩
  refine ⟨i, (List.getElem?_eq_some_iff.1 hx).1, ?_⟩
  unfold edgesD
  rw [hx]
  simp only [List.mem_append, mem_edgesN, mem_putL]
  rcases h with ⟨rfl, nm, h1, h2⟩ | ⟨rfl, nm, h1, h2⟩
  ·exact .inl ⟨nm, h1, k, h2, rfl⟩
  ·exact .inr ⟨nm, h1, k, h2, rfl⟩
theorem EE_edges (d : List TDir) : Edges d.length (EE d) := ⟨fun i k w h => by
 obtain ⟨x, hx, h⟩ := (EE_iff d i k w).1 h
 refine ⟨(List.getElem?_eq_some_iff.1 hx).1, ?_, by rcases h with ⟨rfl, _⟩ | ⟨rfl, _⟩ <;> omega⟩
 obtain ⟨nm, hp⟩ : ∃ nm, placeD d nm = (k : Int) := by rcases h with ⟨_, nm, _, h⟩ | ⟨_, nm, _, h⟩ <;> exact ⟨nm, h⟩
 rcases placeD_cases d nm with h | ⟨k', h, hl⟩ <;> omega⟩
def abv (d : List TDir) (L : List Nat) (w : Nat) : List ByteArray → Nat → Nat
 | [], m => m
 | nm :: r, m => abv d L w r (if 0 ≤ placeD d nm then (if lv L (placeD d nm).toNat + w > m then lv L (placeD d nm).toNat + w else m) else m)
theorem abv_drop (d : List TDir) (L : List Nat) (w : Nat) (l : List ByteArray) (k m : Nat) (h : k < l.length) : abv d L w (l.drop k) m = abv d L w (l.drop (k + 1)) (if 0 ≤ placeD d l[k] then (if lv L (placeD d l[k]).toNat + w > m then lv L (placeD d l[k]).toNat + w else m) else m) := by
 rw [List.drop_eq_getElem_cons h, abv]
theorem abv_le (d : List TDir) (L : List Nat) (w c : Nat) : ∀ (l : List ByteArray) (m : Nat), abv d L w l m ≤ c ↔ m ≤ c ∧ ∀ nm ∈ l, ∀ k : Nat, placeD d nm = (k : Int) → lv L k + w ≤ c
 | [], m => by simp [abv]
 | nm :: r, m => by
  rw [abv, abv_le d L w c r]
  constructor
  ·rintro ⟨h1, h2⟩
   refine ⟨?_, fun n hn k hk => ?_⟩
   ·split at h1
    ·split at h1 <;> omega
    ·exact h1
   ·rcases List.mem_cons.1 hn with rfl | hn
    ·have e : (placeD d n).toNat = k := by omega
     rw [if_pos (by omega), e] at h1
     split at h1 <;> omega
    ·exact h2 n hn k hk
  ·rintro ⟨h1, h2⟩
   refine ⟨?_, fun n hn k hk => h2 n (List.mem_cons_of_mem _ hn) k hk⟩
   split
   ·rename_i hp
    have := h2 nm (by simp) (placeD d nm).toNat (by omega)
    split <;> omega
   ·exact h1
def leastOf (d : List TDir) (L : List Nat) (x : TDir) : Nat := if abv d L 1 (onceS (depsL x.fQuery true)) 0 > abv d L 0 (onceS (depsL x.fQuery false)) 0 then abv d L 1 (onceS (depsL x.fQuery true)) 0 else abv d L 0 (onceS (depsL x.fQuery false)) 0
theorem leastOf_le (d : List TDir) (L : List Nat) (i c : Nat) (h : i < d.length) : leastOf d L d[i] ≤ c ↔ ∀ k w, EE d i k w → lv L k + w ≤ c := by
 have h0 := abv_le d L 0 c (onceS (depsL d[i].fQuery false)) 0
 have h1 := abv_le d L 1 c (onceS (depsL d[i].fQuery true)) 0
 have hm : leastOf d L d[i] ≤ c ↔ abv d L 0 (onceS (depsL d[i].fQuery false)) 0 ≤ c ∧ abv d L 1 (onceS (depsL d[i].fQuery true)) 0 ≤ c := by
  unfold leastOf; split <;> omega
 rw [hm, h0, h1]
 constructor
 ·rintro ⟨⟨_, a⟩, ⟨_, b⟩⟩ k w he
  obtain ⟨x, hx, he⟩ := (EE_iff d i k w).1 he
  rw [List.getElem?_eq_getElem h] at hx
  cases hx
  rcases he with ⟨rfl, nm, q1, q2⟩ | ⟨rfl, nm, q1, q2⟩
  ·exact a nm ((mem_onceS _ _).2 q1) k q2
  ·exact b nm ((mem_onceS _ _).2 q1) k q2
 ·intro a
  exact ⟨⟨by omega, fun nm q k hk => a k 0 ((EE_iff d i k 0).2 ⟨d[i], List.getElem?_eq_getElem h, .inl ⟨rfl, nm, (mem_onceS _ _).1 q, hk⟩⟩)⟩,
   ⟨by omega, fun nm q k hk => a k 1 ((EE_iff d i k 1).2 ⟨d[i], List.getElem?_eq_getElem h, .inr ⟨rfl, nm, (mem_onceS _ _).1 q, hk⟩⟩)⟩⟩
structure Low (d : List TDir) (L : List Nat) : Prop where
 len : L.length = d.length
 clo : ∀ F, Clo d.length (EE d) F → ∀ j, lv L j ≤ lv F j
 small : ∀ j, lv L j ≤ d.length
theorem Low.start (d : List TDir) : Low d (List.replicate d.length 0) := ⟨by simp, fun F _ j => by rw [lv_rep]; omega, fun j => by rw [lv_rep]; omega⟩
theorem Low.least_le {d : List TDir} {L : List Nat} (h : Low d L) {i : Nat} (hi : i < d.length) {F : List Nat} (hF : Clo d.length (EE d) F) : leastOf d L d[i] ≤ lv F i :=
 (leastOf_le d L i _ hi).2 fun k w he => by
  have h1 := hF.le i k w he
  have h2 := h.clo F hF k
  omega
theorem Low.over {d : List TDir} {L : List Nat} (h : Low d L) {i : Nat} (hi : i < d.length) (ho : leastOf d L d[i] > d.length) : ¬ ∃ F, Clo d.length (EE d) F := by
 rintro ⟨F, hF⟩
 obtain ⟨G, hG, hs⟩ := clo_small (EE_edges d) hF
 have h1 := h.least_le hi hG
 have h2 := hs i hi
 omega
theorem Low.set {d : List TDir} {L : List Nat} (h : Low d L) {i : Nat} (hi : i < d.length) (ho : ¬ leastOf d L d[i] > d.length) : Low d (L.set i (leastOf d L d[i])) := by
 have hl : i < L.length := by rw [h.len]; exact hi
 refine ⟨by simp [h.len], fun F hF j => ?_, fun j => ?_⟩
 ·rw [lv_set L i _ j hl]
  split
  ·rename_i e; subst e; exact h.least_le hi hF
  ·exact h.clo F hF j
 ·rw [lv_set L i _ j hl]
  split
  ·omega
  ·exact h.small j
theorem Low.done {d : List TDir} {L : List Nat} (h : Low d L) (hc : ∀ i, (hi : i < d.length) → leastOf d L d[i] ≤ lv L i) : Least d.length (EE d) L :=
 ⟨⟨h.len, fun i k w he => (leastOf_le d L i _ ((EE_edges d).ok i k w he).1).1 (hc i _) k w he⟩, h.clo⟩
theorem Low.sum {d : List TDir} {L : List Nat} (h : Low d L) : sumN L ≤ d.length * d.length := by
 have := sumN_le L d.length fun i _ => h.small i
 rwa [h.len] at this
end Go.Proofs.YtddimbdeggomaaaGreat
end
section
set_option maxRecDepth 100000
set_option maxHeartbeats 4000000
namespace Go.Proofs.YtddimbdeggomaaaGreat
open Go Go.Sx Go.RowKit Go.Proofs
@[go_sem] def encN (n : Nat) : List D := [iv (n : Int)]
theorem dirAtF_ok (nm : ByteArray) (x : TDir) : FnC Tryz.prog 267 [gDir x, .o (.q [sv nm])] (ob (decide (x.fName = nm))) := by
 refine ent Tryz.func267 rfl Tryz.call267 rfl (fun C => ?_); simp only [go_sem, st0, Tryz.ntmps267]
 refine w0_0 ?_
 exact retK_ret ⟨⟨_, rfl, by simp only [go_sem]⟩, trivial⟩
theorem dirAt_ok (d : List TDir) (nm : ByteArray) (hl : d.length ≤ 4300000) : FnC Tryz.prog 198 [.o (.d (.sl (d.map encDir))), os nm] (oi (placeD d nm)) := by
 refine ent Tryz.func198 rfl Tryz.call198 rfl (fun C => ?_); simp only [go_sem, st0, Tryz.ntmps198]
 refine w0_1 (indexFuncDir_ok _ _ (fun x => decide (x.fName = nm)) d (fun y _ => dirAtF_ok nm y) (by omega)) ?_
 exact retK_ret ⟨⟨_, rfl, by simp only [go_sem, placeD]⟩, trivial⟩
theorem l11Place_ok (d : List TDir) (nm : ByteArray) (hl : d.length ≤ 4300000) : FnC Tryz.prog 235 [.o (.d (.sl (d.map encDir))), os nm] (oi (placeD d nm)) := by
 refine ent Tryz.func235 rfl Tryz.call235 rfl (fun C => ?_); simp only [go_sem, st0, Tryz.ntmps235]
 refine w0_0 ?_
 refine WP_lp (α := Nat) (fun k => [(5, oi k)]) (fun _ => []) (fun k => k ≤ d.length ∧ placeD d nm = idxP (fun x => decide (x.fName = nm)) (d.drop k) k) (fun k => d.length - k) 0 (fun _ => ?_) ?_ ?_ (fun k hk => ?_)
 ·simp only [go_sem]
 ·simp only [go_sem]; simp
 ·simp [placeD]
 ·obtain ⟨hk, hq⟩ := hk
  simp only [go_sem]
  refine w0_0 ?_
  refine cnd rfl (fun h => ?_) (fun h => ?_)
  ·simp only [decide_eq_true_eq, Int.ofNat_lt] at h
   have hd := List.drop_eq_getElem_cons h
   rw [hd, idxP] at hq
   by_cases h2 : d[k].fName = nm
   ·rw [if_pos (by simp [h2])] at hq
    have q0 := @h; have q1 := @h2; have q2 := @decide_true; refine w3_0 ?_
    exact retK_ret ⟨⟨_, rfl, by simp only [go_sem, hq]⟩, trivial⟩
   ·rw [if_neg (by simp [h2])] at hq
    have q0 := @h; have q1 := @h2; have q2 := @decide_false; refine w3_0 ?_
    refine L_next (k + 1) ?_ ?_ ?_
    ·simp only [go_sem]; simp
    ·rw [hq]; exact ⟨h, by simp⟩
    ·omega
  ·simp only [decide_eq_false_iff_not] at h
   have e : k = d.length := by omega
   subst e
   simp only [List.drop_length, idxP] at hq
   refine w0_0 ?_
   exact retK_ret ⟨⟨_, rfl, by simp only [go_sem, hq]⟩, trivial⟩
theorem lv_get (L : List Nat) (i : Nat) (h : i < L.length) : L[i] = lv L i := by simp [lv, List.getD_eq_getElem?_getD, h]
def mxN (a b : Nat) : Nat := if b > a then b else a
theorem mxI_nat (a b : Nat) : mxI (a : Int) (b : Int) = ((mxN a b : Nat) : Int) := by
 unfold mxI mxN
 split <;> split <;> omega
theorem above_ok (d : List TDir) (L : List Nat) (w : Nat) (names : List ByteArray) (hd : d.length ≤ 4300000) (hL : L.length = d.length) (hn : names.length ≤ 4300000) (hB : ∀ j, lv L j ≤ 1000000) (hw : w ≤ 1) : FnC Tryz.prog 240 [.o (.d (.sl (d.map encDir))), .o (.d (.sl (L.map encN))), .o (.d (.sl (names.map encS))), oi (w : Nat)] (oi (abv d L w names 0 : Nat)) := by
 refine ent Tryz.func240 rfl Tryz.call240 rfl (fun C => ?_); simp only [go_sem, st0, Tryz.ntmps240]
 refine w0_0 ?_
 refine WP_lp (α := Nat × Nat) (fun x => [(9, oi (x.2 : Nat)), (15, oi x.1)]) (fun _ => []) (fun x => x.1 ≤ names.length ∧ abv d L w names 0 = abv d L w (names.drop x.1) x.2 ∧ x.2 ≤ 1000001) (fun x => names.length - x.1) (0, 0) (fun _ => ?_) ?_ ?_ (fun x hx => ?_)
 ·simp only [go_sem]
 ·simp only [go_sem]; simp
 ·simp
 ·obtain ⟨k, m⟩ := x
  obtain ⟨hk, hq, hm⟩ := hx
  simp only at hk hq hm
  simp only [go_sem]
  refine w0_0 ?_
  refine cnd rfl (fun h => ?_) (fun h => ?_)
  ·simp only [decide_eq_true_eq, Int.ofNat_lt] at h
   rw [abv_drop d L w names k m h] at hq
   rcases placeD_cases d names[k] with hp | ⟨p, hp, hpl⟩
   ·rw [if_neg (by omega)] at hq
    have q0 := @h; have q1 := @hp; have q2 := @decide_true; have q3 := @decide_false; refine w4_1 (dirAt_ok d names[k] hd) ?_
    refine L_next (k + 1, m) ?_ ?_ ?_
    ·simp only [go_sem]; simp
    ·exact ⟨by simp only; omega, hq, hm⟩
    ·simp only; omega
   ·have hpL : p < L.length := by omega
    have hb := hB p
    have hg := lv_get L p hpL
    have hge : (0 : Int) ≤ (p : Int) := by omega
    have hs : ((lv L p : Nat) : Int) + (w : Int) = ((lv L p + w : Nat) : Int) := by omega
    have hmx := mxI_nat m (lv L p + w)
    rw [if_pos (by omega), hp, Int.toNat_natCast] at hq
    have q0 := @h; have q1 := @hp; have q2 := @hge; have q3 := @hpL; have q4 := @hg; have q5 := @hs; have q6 := @hmx; have q7 := @decide_true; have q8 := @decide_false; have q9 := @Int.toNat_natCast; refine w10_1 (dirAt_ok d names[k] hd) ?_
    refine L_next (k + 1, mxN m (lv L p + w)) ?_ ?_ ?_
    ·simp only [go_sem]; simp
    ·exact ⟨by simp only; omega, hq, by simp only [mxN]; split <;> omega⟩
    ·simp only; omega
  ·simp only [decide_eq_false_iff_not] at h
   have e : k = names.length := by omega
   subst e
   rw [List.drop_length, abv] at hq
   refine w0_0 ?_
   exact retK_ret ⟨⟨_, rfl, by simp only [go_sem, hq]⟩, trivial⟩
end Go.Proofs.YtddimbdeggomaaaGreat
end
section
set_option maxRecDepth 100000
set_option maxHeartbeats 4000000
namespace Go.Proofs.YtddimbdeggomaaaGreat
open Go Go.Sx Go.RowKit Go.Proofs
theorem okDirs_at {d : List TDir} (h : okDirs d = true) (i : Nat) (hi : i < d.length) : okQ d[i].fQuery = true := by
 unfold okDirs at h
 simp only [Bool.and_eq_true, List.all_eq_true, List.mem_range] at h
 have := h.1 i hi
 unfold okDirAt at this
 rw [List.getElem?_eq_getElem hi] at this
 simp only [Bool.and_eq_true] at this
 exact this.2.2
theorem okDirs_len {d : List TDir} (h : okDirs d = true) : d.length ≤ 5 := by
 unfold okDirs at h
 simp only [Bool.and_eq_true, decide_eq_true_eq] at h
 omega
theorem implPosd_ok (q : List TNode) (hq : okQ q = true) (hw : wNodeS q ≤ 4300000) : FnC Tryz.prog 241 [.o (.d (.sl (q.map encNode)))] (.o (.d (.sl ((onceS (depsL q false)).map encS)))) := (implPos_ok q hq hw).pu (by simp only [go_sem, and_self])
theorem implNegd_ok (q : List TNode) (hq : okQ q = true) (hw : wNodeS q ≤ 4300000) : FnC Tryz.prog 242 [.o (.d (.sl (q.map encNode)))] (.o (.d (.sl ((onceS (depsL q true)).map encS)))) := (implNegD_ok q hq hw).pu (by simp only [go_sem, and_self])
theorem above0_ok (d : List TDir) (L : List Nat) (names : List ByteArray) (hd : d.length ≤ 4300000) (hL : L.length = d.length) (hn : names.length ≤ 4300000) (hB : ∀ j, lv L j ≤ 1000000) : FnC Tryz.prog 240 [.o (.d (.sl (d.map encDir))), .o (.d (.sl (L.map encN))), .o (.d (.sl (names.map encS))), oi 0] (oi (abv d L 0 names 0 : Nat)) := above_ok d L 0 names hd hL hn hB (by omega)
theorem above1_ok (d : List TDir) (L : List Nat) (names : List ByteArray) (hd : d.length ≤ 4300000) (hL : L.length = d.length) (hn : names.length ≤ 4300000) (hB : ∀ j, lv L j ≤ 1000000) : FnC Tryz.prog 240 [.o (.d (.sl (d.map encDir))), .o (.d (.sl (L.map encN))), .o (.d (.sl (names.map encS))), oi 1] (oi (abv d L 1 names 0 : Nat)) := above_ok d L 1 names hd hL hn hB (by omega)
noncomputable def resL (d : List TDir) : List Nat := if okDirs d then levs d.length (EE d) else []
noncomputable def resB (d : List TDir) : Bool := if okDirs d then strat d.length (EE d) else false
theorem setN1 (L : List Nat) (i v : Nat) : (L.map encN).set i [D.v (Value.int .i64 (v : Int))] = (L.set i v).map encN := by rw [List.map_set]; rfl
structure Pass (d : List TDir) (L : List Nat) (i : Nat) (M : List Nat) (ch : Bool) : Prop where
 low : Low d M
 no : ch = false → M = L ∧ ∀ j, (hj : j < d.length) → j < i → leastOf d L d[j] ≤ lv L j
 yes : ch = true → sumN L < sumN M
theorem Pass.start {d : List TDir} {L : List Nat} (h : Low d L) : Pass d L 0 L false := ⟨h, fun _ => ⟨rfl, fun j _ hj => by omega⟩, fun h => by cases h⟩
theorem Pass.keep {d : List TDir} {L M : List Nat} {i : Nat} {ch : Bool} (h : Pass d L i M ch) (hi : i < d.length) (hle : ¬ leastOf d M d[i] > lv M i) : Pass d L (i + 1) M ch := by
 refine ⟨h.low, fun hc => ⟨(h.no hc).1, fun j hj hlt => ?_⟩, h.yes⟩
 by_cases e : j = i
 ·subst e
  have := (h.no hc).1
  subst this
  omega
 ·exact (h.no hc).2 j hj (by omega)
theorem Pass.set {d : List TDir} {L M : List Nat} {i : Nat} {ch : Bool} (h : Pass d L i M ch) (hi : i < d.length) (ho : ¬ leastOf d M d[i] > d.length) (hgt : leastOf d M d[i] > lv M i) : Pass d L (i + 1) (M.set i (leastOf d M d[i])) true := by
 have hl : i < M.length := by rw [h.low.len]; exact hi
 have hs := sumN_set M i (leastOf d M d[i]) hl
 refine ⟨h.low.set hi ho, fun hc => (by cases hc), fun _ => ?_⟩
 cases ch with
 | false =>
  have := (h.no rfl).1
  subst this
  omega
 | true =>
  have := h.yes rfl
  omega
theorem implStrata_ok (d : List TDir) (hd : wDirS d ≤ 4300000) : FnC Tryz.prog 162 [.o (.d (.sl (d.map encDir)))] (.t [(false, [.w 3 1 ((resL d).map encN)]), (false, [.d (bv (resB d))])]) := by
 have hd0 : d.length + wsum wDir d ≤ 4300000 := hd
 refine ent Tryz.func162 rfl Tryz.call162 rfl (fun C => ?_); simp only [go_sem, st0, Tryz.ntmps162]
 cases hv : okDirs d
 ·have e1 : resL d = [] := by simp [resL, hv]
  have e2 : resB d = false := by simp [resB, hv]
  have q0 := @hv; refine w1_1 (implVDirs_ok d hd) ?_
  exact retK_ret ⟨⟨_, rfl, by simp only [go_sem, e1, e2]⟩, by simp [notOne]⟩
 have e1 : resL d = levs d.length (EE d) := by simp [resL, hv]
 have e2 : resB d = strat d.length (EE d) := by simp [resB, hv]
 have hl5 := okDirs_len hv
 have q0 := @hv; refine w1_1 (implVDirs_ok d hd) ?_
 refine WP_lp (α := List Nat × Bool) (fun x => [(5, ob x.2)]) (fun x => [(0, .row 3 1 (x.1.map encN) true)]) (fun x => Low d x.1 ∧ (x.2 = false → ∀ i, (hi : i < d.length) → leastOf d x.1 d[i] ≤ lv x.1 i)) (fun x => if x.2 then d.length * d.length - sumN x.1 + 1 else 0) (List.replicate d.length 0, true) (fun _ => ?_) ?_ ?_ (fun x hx => ?_)
 ·simp only [go_sem]
 ·simp only [go_sem]; simp [encN]
 ·exact ⟨Low.start d, fun h => by cases h⟩
 ·obtain ⟨L, ch⟩ := x
  obtain ⟨hlow, hdone⟩ := hx
  simp only at hlow hdone
  simp only [go_sem]
  refine w0_0 ?_
  refine cnd rfl (fun h => ?_) (fun h => ?_)
  ·subst h
   refine w0_0 ?_
   refine WP_lp (α := Nat × List Nat × Bool) (fun x => [(5, ob x.2.2), (18, oi x.1)]) (fun x => [(0, .row 3 1 (x.2.1.map encN) true)]) (fun x => x.1 ≤ d.length ∧ Pass d L x.1 x.2.1 x.2.2) (fun x => d.length - x.1) (0, L, false) (fun _ => ?_) ?_ ?_ (fun x hx => ?_)
   ·simp only [go_sem]
   ·simp only [go_sem]; simp
   ·exact ⟨by simp, Pass.start hlow⟩
   ·obtain ⟨i, M, c⟩ := x
    obtain ⟨hi, hp⟩ := hx
    simp only at hi hp
    simp only [go_sem]
    refine w0_0 ?_
    refine cnd rfl (fun h => ?_) (fun h => ?_)
    ·simp only [decide_eq_true_eq, Int.ofNat_lt] at h
     have hq := okDirs_at hv i h
     have hq9 := okQ_len hq
     have hwd := wsum_get wDir d h
     have hwq : wNodeS d[i].fQuery ≤ wDir d[i] := by unfold wDir; omega
     have hML : M.length = d.length := hp.low.len
     have hiM : i < M.length := by omega
     have hB : ∀ j, lv M j ≤ 1000000 := fun j => by have := hp.low.small j; omega
     have ho1 := onceS_len (depsL d[i].fQuery false)
     have ho2 := onceS_len (depsL d[i].fQuery true)
     have ho3 := depsK_len d[i].fQuery false d[i].fQuery.length
     have ho4 := depsK_len d[i].fQuery true d[i].fQuery.length
     have hk1 : (onceS (depsL d[i].fQuery false)).length ≤ 4300000 := by unfold depsL at ho1 ⊢; omega
     have hk2 : (onceS (depsL d[i].fQuery true)).length ≤ 4300000 := by unfold depsL at ho2 ⊢; omega
     have hmx : mxI (abv d M 0 (onceS (depsL d[i].fQuery false)) 0 : Nat) (abv d M 1 (onceS (depsL d[i].fQuery true)) 0 : Nat) = ((leastOf d M d[i] : Nat) : Int) := by
      rw [mxI_nat]; rfl
     have hg := lv_get M i hiM
     repeat' (with_reducible first | refine nY ?_ | (refine mX ?_; try simp only [go_sem, h, hmx]) | refine kO ?_ (by decide) | refine regd (by kernel_rfl) ?_ | (refine cC (implPosd_ok d[i].fQuery hq (by omega)) ?_ ?_; focus simp only [go_sem, and_self]; done) | (refine cC (implNegd_ok d[i].fQuery hq (by omega)) ?_ ?_; focus simp only [go_sem, and_self]; done) | (refine calo (above0_ok d M (onceS (depsL d[i].fQuery false)) (by omega) hML hk1 hB) ?_ ?_ ?_ (uX ?_); (focus simp only [go_sem, h, hmx]; done); (focus simp only [go_sem, h, hmx]; done); (focus simp only [go_sem, h, hmx]; done)) | (refine caldo (above0_ok d M (onceS (depsL d[i].fQuery false)) (by omega) hML hk1 hB) ?_ ?_ ?_ ?_ (uX ?_); (focus simp only [go_sem, h, hmx]; done); (focus simp only [go_sem, h, hmx]; done); (focus simp only [go_sem, h, hmx]; done); (focus simp only [go_sem, h, hmx]; done)) | (refine calo (above1_ok d M (onceS (depsL d[i].fQuery true)) (by omega) hML hk2 hB) ?_ ?_ ?_ (uX ?_); (focus simp only [go_sem, h, hmx]; done); (focus simp only [go_sem, h, hmx]; done); (focus simp only [go_sem, h, hmx]; done)) | (refine caldo (above1_ok d M (onceS (depsL d[i].fQuery true)) (by omega) hML hk2 hB) ?_ ?_ ?_ ?_ (uX ?_); (focus simp only [go_sem, h, hmx]; done); (focus simp only [go_sem, h, hmx]; done); (focus simp only [go_sem, h, hmx]; done); (focus simp only [go_sem, h, hmx]; done)) | (refine And.intro ?_ ?_; focus omega))
     refine cnd rfl (fun ho => ?_) (fun ho => ?_)
     ·simp only [decide_eq_true_eq, Int.ofNat_lt] at ho
      have hno := hp.low.over h ho
      have f1 := levs_no hno
      have f2 := strat_no hno
      refine w0_0 ?_
      exact retK_ret ⟨⟨_, rfl, by simp only [go_sem, e1, e2, f1, f2]⟩, by simp [notOne]⟩
     ·simp only [decide_eq_false_iff_not, Int.ofNat_lt] at ho
      have q0 := @h; have q1 := @hiM; have q2 := @hg; refine w3_0 ?_
      refine cnd rfl (fun hgt => ?_) (fun hgt => ?_)
      ·simp only [decide_eq_true_eq, Int.ofNat_lt] at hgt
       have q0 := @h; have q1 := @hiM; have q2 := @hg; refine w3_0 ?_
       refine L_next (i + 1, M.set i (leastOf d M d[i]), true) ?_ ?_ ?_
       ·simp only [go_sem, ← setN1]; simp
       ·exact ⟨by simp only; omega, hp.set h ho hgt⟩
       ·simp only; omega
      ·simp only [decide_eq_false_iff_not, Int.ofNat_lt] at hgt
       have q0 := @h; have q1 := @hiM; have q2 := @hg; refine w3_0 ?_
       refine L_next (i + 1, M, c) ?_ ?_ ?_
       ·simp only [go_sem]; simp
       ·exact ⟨by simp only; omega, hp.keep h hgt⟩
       ·simp only; omega
    ·simp only [decide_eq_false_iff_not] at h
     have e : i = d.length := by omega
     subst e
     refine w0_0 ?_
     refine L_next (M, c) ?_ ?_ ?_
     ·simp only [go_sem]; simp
     ·exact ⟨hp.low, fun hc i hi => by
       simp only at hc
       obtain ⟨h1, h2⟩ := hp.no hc
       subst h1
       exact h2 i hi hi⟩
     ·have hs := hp.low.sum
      simp only
      cases c with
      | false => simp
      | true =>
       have := hp.yes rfl
       simp only [if_true]
       omega
  ·subst h
   have hL := hlow.done (hdone rfl)
   have f1 := levs_eq hL
   have f2 := strat_yes hL.clo
   refine w0_0 ?_
   exact retK_ret ⟨⟨_, rfl, by simp only [go_sem, e1, e2, f1, f2]⟩, by simp [notOne]⟩
end Go.Proofs.YtddimbdeggomaaaGreat
end
section
set_option maxRecDepth 100000
set_option maxHeartbeats 4000000
namespace Go.Proofs.YtddimbdeggomaaaGreat
open Go Go.Sx Go.RowKit Go.Proofs
theorem specPosd_ok (q : List TNode) (hq : okQ q = true) (hw : wNodeS q ≤ 4300000) : FnC Tryz.prog 234 [.o (.d (.sl (q.map encNode)))] (.o (.d (.sl ((putL (depsL q false)).map encS)))) := (specPos_ok q hq hw).pu (by simp only [go_sem, and_self])
theorem specNegd_ok (q : List TNode) (hq : okQ q = true) (hw : wNodeS q ≤ 4300000) : FnC Tryz.prog 236 [.o (.d (.sl (q.map encNode)))] (.o (.d (.sl ((putL (depsL q true)).map encS)))) := (specNegD_ok q hq hw).pu (by simp only [go_sem, and_self])
theorem edgesN_take (d : List TDir) (i w : Nat) (names : List ByteArray) (k : Nat) (h : k < names.length) : edgesN d i w (names.take (k + 1)) = edgesN d i w (names.take k) ++ (if 0 ≤ placeD d names[k] then [(i, (placeD d names[k]).toNat, w)] else []) := by
 unfold edgesN
 rw [List.take_succ_eq_append_getElem h, List.flatMap_append]
 simp
theorem edgesN_len (d : List TDir) (i w : Nat) (names : List ByteArray) : (edgesN d i w names).length ≤ names.length := by
 induction names with
 | nil => simp [edgesN]
 | cons x l ih =>
  have e : edgesN d i w (x :: l) = (if 0 ≤ placeD d x then [(i, (placeD d x).toNat, w)] else []) ++ edgesN d i w l := by simp [edgesN]
  rw [e, List.length_append, List.length_cons]
  split <;> simp <;> omega
theorem edgesN_ok (d : List TDir) (i w : Nat) (hi : i < d.length) (hw : w ≤ 1) (names : List ByteArray) (x : Nat × Nat × Nat) (hx : x ∈ edgesN d i w names) : x.1 < d.length ∧ x.2.2 ≤ 1 := by
 obtain ⟨nm, _, k, _, rfl⟩ := (mem_edgesN d i w names x).1 hx
 exact ⟨hi, hw⟩
def edgesK (d : List TDir) (k : Nat) : List (Nat × Nat × Nat) := (List.range k).flatMap (edgesD d)
theorem edgesK_succ (d : List TDir) (k : Nat) : edgesK d (k + 1) = edgesK d k ++ edgesD d k := by
 simp [edgesK, List.range_succ, List.flatMap_append]
theorem edgesD_at (d : List TDir) (i : Nat) (h : i < d.length) : edgesD d i = edgesN d i 0 (putL (depsL d[i].fQuery false)) ++ edgesN d i 1 (putL (depsL d[i].fQuery true)) := by
 unfold edgesD; rw [List.getElem?_eq_getElem h]
theorem edgesD_len (d : List TDir) (hv : okDirs d = true) (i : Nat) : (edgesD d i).length ≤ 18 := by
 unfold edgesD
 cases hx : d[i]? with
 | none => simp
 | some x =>
  have hi := (List.getElem?_eq_some_iff.1 hx).1
  have hxe : d[i] = x := (List.getElem?_eq_some_iff.1 hx).2
  have hq := (okQ_len (okDirs_at hv i hi)).2
  rw [hxe] at hq
  have h1 := edgesN_len d i 0 (putL (depsL x.fQuery false))
  have h2 := edgesN_len d i 1 (putL (depsL x.fQuery true))
  have h3 := putL_len (depsL x.fQuery false)
  have h4 := putL_len (depsL x.fQuery true)
  have h5 : (depsL x.fQuery false).length ≤ x.fQuery.length := depsK_len _ _ _
  have h6 : (depsL x.fQuery true).length ≤ x.fQuery.length := depsK_len _ _ _
  simp only [List.length_append]
  omega
theorem edgesK_len (d : List TDir) (hv : okDirs d = true) (k : Nat) : (edgesK d k).length ≤ 18 * k := by
 induction k with
 | zero => simp [edgesK]
 | succ k ih => rw [edgesK_succ, List.length_append]; have := edgesD_len d hv k; omega
theorem edgesK_ok (d : List TDir) (k : Nat) (x : Nat × Nat × Nat) (hx : x ∈ edgesK d k) : x.1 < d.length ∧ x.2.2 ≤ 1 := by
 unfold edgesK at hx
 obtain ⟨i, _, h⟩ := List.mem_flatMap.1 hx
 unfold edgesD at h
 cases hd : d[i]? with
 | none => rw [hd] at h; simp at h
 | some y =>
  rw [hd] at h
  have hi := (List.getElem?_eq_some_iff.1 hd).1
  simp only [List.mem_append] at h
  rcases h with h | h
  ·exact edgesN_ok d i 0 hi (by omega) _ x h
  ·exact edgesN_ok d i 1 hi (by omega) _ x h
theorem up1_yes {i p w : Nat} {L : List Nat} (h : lv L p + w > lv L i) : up1 i p w L = L.set i (lv L p + w) := by unfold up1; rw [if_pos h]
theorem up1_no {i p w : Nat} {L : List Nat} (h : ¬ lv L p + w > lv L i) : up1 i p w L = L := by unfold up1; rw [if_neg h]
theorem raise_ok (d : List TDir) (L : List Nat) (hv : okDirs d = true) (hd : wDirS d ≤ 4300000) (hL : L.length = d.length) (hB : ∀ j, lv L j ≤ 1000000) : FnC Tryz.prog 156 [.o (.d (.sl (d.map encDir))), .o (.d (.sl (L.map encN)))] (.o (.w 3 1 ((ups (edgesA d) L).map encN))) := by
 have hd0 : d.length + wsum wDir d ≤ 4300000 := hd
 have hl5 := okDirs_len hv
 refine ent Tryz.func156 rfl Tryz.call156 rfl (fun C => ?_); simp only [go_sem, st0, Tryz.ntmps156]
 refine w0_0 ?_
 refine WP_lp (α := Nat) (fun i => [(5, .o (.s 0)), (13, .o .u), (15, .o .u), (6, oi i)]) (fun i => [(0, .row 3 1 ((ups (edgesK d i) L).map encN) true)]) (fun i => i ≤ d.length) (fun i => d.length - i) 0 (fun _ => ?_) ?_ ?_ (fun i hi => ?_)
 ·simp only [go_sem]
 ·simp only [go_sem]; simp [edgesK, ups]
 ·simp
 ·simp only [go_sem]
  refine w0_0 ?_
  refine cnd rfl (fun h => ?_) (fun h => ?_)
  ·simp only [decide_eq_true_eq, Int.ofNat_lt] at h
   have hq := okDirs_at hv i h
   have hwd := wsum_get wDir d h
   have hwq : wNodeS d[i].fQuery ≤ wDir d[i] := by unfold wDir; omega
   have hsuc := edgesK_succ d i
   rw [edgesD_at d i h] at hsuc
   have hML : (ups (edgesK d i) L).length = d.length := by rw [ups_len]; exact hL
   have hMB := ups_bound (edgesK d i) L 1000000 (fun x hx => by rw [hL]; exact edgesK_ok d i x hx) hB
   have hKl := edgesK_len d hv i
   have hfin : ups (edgesK d (i + 1)) L = ups (edgesN d i 1 (putL (depsL d[i].fQuery true))) (ups (edgesN d i 0 (putL (depsL d[i].fQuery false))) (ups (edgesK d i) L)) := by
    rw [hsuc, ups_app, ups_app]
   have hn1 := putL_len (depsL d[i].fQuery false)
   have hn2 := putL_len (depsL d[i].fQuery true)
   have hn3 : (depsL d[i].fQuery false).length ≤ d[i].fQuery.length := depsK_len _ _ _
   have hn4 : (depsL d[i].fQuery true).length ≤ d[i].fQuery.length := depsK_len _ _ _
   have hq9 := okQ_len hq
   have hMB2 : ∀ j, lv (ups (edgesK d i) L) j ≤ 1000200 := fun j => by have := hMB j; omega
   generalize ups (edgesK d i) L = M at *
   have q0 := @h; refine w1_1 (specPosd_ok d[i].fQuery hq (by omega)) ?_
   generalize putL (depsL d[i].fQuery false) = P at *
   refine WP_lp (α := Nat) (fun k => [(8, oi k)]) (fun k => [(0, .row 3 1 ((ups (edgesN d i 0 (P.take k)) M).map encN) true)]) (fun k => k ≤ P.length) (fun k => P.length - k) 0 (fun _ => ?_) ?_ ?_ (fun k hk => ?_)
   ·simp only [go_sem]
   ·simp only [go_sem]; simp [edgesN, ups]
   ·simp
   ·simp only [go_sem]
    refine w0_0 ?_
    refine cnd rfl (fun h1 => ?_) (fun h1 => ?_)
    ·simp only [decide_eq_true_eq, Int.ofNat_lt] at h1
     have ht := edgesN_take d i 0 P k h1
     have hXL : (ups (edgesN d i 0 (P.take k)) M).length = d.length := by rw [ups_len]; exact hML
     have hXB := ups_bound (edgesN d i 0 (P.take k)) M 1000200 (fun x hx => by rw [hML]; exact edgesN_ok d i 0 h (by omega) _ x hx) hMB2
     have hel := edgesN_len d i 0 (P.take k)
     rw [List.length_take] at hel
     have hup : ups (edgesN d i 0 (P.take (k + 1))) M = ups (if 0 ≤ placeD d P[k] then [(i, (placeD d P[k]).toNat, 0)] else []) (ups (edgesN d i 0 (P.take k)) M) := by rw [ht, ups_app]
     generalize ups (edgesN d i 0 (P.take k)) M = X at *
     have hiX : i < X.length := by omega
     have hg := lv_get X i hiX
     rcases placeD_cases d P[k] with hp | ⟨p, hp, hpl⟩
     ·rw [if_neg (by omega)] at hup
      have q0 := @h1; have q1 := @hp; have q2 := @decide_true; have q3 := @decide_false; refine w4_1 (l11Place_ok d P[k] (by omega)) ?_
      refine L_next (k + 1) ?_ ?_ ?_
      ·simp only [go_sem, hup, ups]; simp
      ·omega
      ·omega
     ·have hpX : p < X.length := by omega
      have hge : (0 : Int) ≤ (p : Int) := by omega
      have hgp := lv_get X p hpX
      rw [if_pos (by omega), hp, Int.toNat_natCast] at hup
      simp only [ups] at hup
      by_cases hc : lv X p > lv X i
      ·have hcI : ((lv X i : Nat) : Int) < ((lv X p : Nat) : Int) := by omega
       rw [up1_yes (by omega), Nat.add_zero] at hup
       repeat' (with_reducible first | refine nY ?_ | (refine mX ?_; try simp only [go_sem, h1, hp, hge, hpX, hiX, hg, hgp, hcI, decide_true, decide_false, Int.toNat_natCast]) | refine kO ?_ (by decide) | refine regd (by kernel_rfl) ?_ | (refine cC (l11Place_ok d P[k] (by omega)) ?_ ?_; focus simp only [go_sem, and_self]; done) | (refine And.intro ?_ ?_; focus omega))
       refine L_next (k + 1) ?_ ?_ ?_
       ·simp only [go_sem, hup, ← setN1]; simp
       ·omega
       ·omega
      ·have hcI : ¬ ((lv X i : Nat) : Int) < ((lv X p : Nat) : Int) := by omega
       rw [up1_no (by omega)] at hup
       repeat' (with_reducible first | refine nY ?_ | (refine mX ?_; try simp only [go_sem, h1, hp, hge, hpX, hiX, hg, hgp, hcI, decide_true, decide_false, Int.toNat_natCast]) | refine kO ?_ (by decide) | refine regd (by kernel_rfl) ?_ | (refine cC (l11Place_ok d P[k] (by omega)) ?_ ?_; focus simp only [go_sem, and_self]; done) | (refine And.intro ?_ ?_; focus omega))
       refine L_next (k + 1) ?_ ?_ ?_
       ·simp only [go_sem, hup]; simp
       ·omega
       ·omega
    ·simp only [decide_eq_false_iff_not] at h1
     have e : k = P.length := by omega
     subst e
     rw [List.take_length]
     have hXL : (ups (edgesN d i 0 P) M).length = d.length := by rw [ups_len]; exact hML
     have hXB := ups_bound (edgesN d i 0 P) M 1000200 (fun x hx => by rw [hML]; exact edgesN_ok d i 0 h (by omega) _ x hx) hMB2
     have hel := edgesN_len d i 0 P
     have hXB2 : ∀ j, lv (ups (edgesN d i 0 P) M) j ≤ 1000400 := fun j => by have := hXB j; omega
     generalize ups (edgesN d i 0 P) M = Y at *
     have q0 := @h; refine w1_1 (specNegd_ok d[i].fQuery hq (by omega)) ?_
     generalize putL (depsL d[i].fQuery true) = N at *
     refine WP_lp (α := Nat) (fun k => [(11, oi k)]) (fun k => [(0, .row 3 1 ((ups (edgesN d i 1 (N.take k)) Y).map encN) true)]) (fun k => k ≤ N.length) (fun k => N.length - k) 0 (fun _ => ?_) ?_ ?_ (fun k hk => ?_)
     ·simp only [go_sem]
     ·simp only [go_sem]; simp [edgesN, ups]
     ·simp
     ·simp only [go_sem]
      refine w0_0 ?_
      refine cnd rfl (fun h1 => ?_) (fun h1 => ?_)
      ·simp only [decide_eq_true_eq, Int.ofNat_lt] at h1
       have ht := edgesN_take d i 1 N k h1
       have hZL : (ups (edgesN d i 1 (N.take k)) Y).length = d.length := by rw [ups_len]; exact hXL
       have hZB := ups_bound (edgesN d i 1 (N.take k)) Y 1000400 (fun x hx => by rw [hXL]; exact edgesN_ok d i 1 h (by omega) _ x hx) hXB2
       have hel := edgesN_len d i 1 (N.take k)
       rw [List.length_take] at hel
       have hup : ups (edgesN d i 1 (N.take (k + 1))) Y = ups (if 0 ≤ placeD d N[k] then [(i, (placeD d N[k]).toNat, 1)] else []) (ups (edgesN d i 1 (N.take k)) Y) := by rw [ht, ups_app]
       generalize ups (edgesN d i 1 (N.take k)) Y = X at *
       have hiX : i < X.length := by omega
       have hg := lv_get X i hiX
       rcases placeD_cases d N[k] with hp | ⟨p, hp, hpl⟩
       ·rw [if_neg (by omega)] at hup
        have q0 := @h1; have q1 := @hp; have q2 := @decide_true; have q3 := @decide_false; refine w4_1 (l11Place_ok d N[k] (by omega)) ?_
        refine L_next (k + 1) ?_ ?_ ?_
        ·simp only [go_sem, hup, ups]; simp
        ·omega
        ·omega
       ·have hpX : p < X.length := by omega
        have hge : (0 : Int) ≤ (p : Int) := by omega
        have hgp := lv_get X p hpX
        have hbp := hZB p
        have hs1 : ((lv X p : Nat) : Int) + 1 = ((lv X p + 1 : Nat) : Int) := by omega
        rw [if_pos (by omega), hp, Int.toNat_natCast] at hup
        simp only [ups] at hup
        by_cases hc : lv X p + 1 > lv X i
        ·have hcI : ((lv X i : Nat) : Int) < ((lv X p + 1 : Nat) : Int) := by omega
         rw [up1_yes hc] at hup
         repeat' (with_reducible first | refine nY ?_ | (refine mX ?_; try simp only [go_sem, h1, hp, hge, hpX, hiX, hg, hgp, hs1, hcI, decide_true, decide_false, Int.toNat_natCast]) | refine kO ?_ (by decide) | refine regd (by kernel_rfl) ?_ | (refine cC (l11Place_ok d N[k] (by omega)) ?_ ?_; focus simp only [go_sem, and_self]; done) | (refine And.intro ?_ ?_; focus omega))
         refine L_next (k + 1) ?_ ?_ ?_
         ·simp only [go_sem, hup, ← setN1]; simp
         ·omega
         ·omega
        ·have hcI : ¬ ((lv X i : Nat) : Int) < ((lv X p + 1 : Nat) : Int) := by omega
         rw [up1_no hc] at hup
         repeat' (with_reducible first | refine nY ?_ | (refine mX ?_; try simp only [go_sem, h1, hp, hge, hpX, hiX, hg, hgp, hs1, hcI, decide_true, decide_false, Int.toNat_natCast]) | refine kO ?_ (by decide) | refine regd (by kernel_rfl) ?_ | (refine cC (l11Place_ok d N[k] (by omega)) ?_ ?_; focus simp only [go_sem, and_self]; done) | (refine And.intro ?_ ?_; focus omega))
         refine L_next (k + 1) ?_ ?_ ?_
         ·simp only [go_sem, hup]; simp
         ·omega
         ·omega
      ·simp only [decide_eq_false_iff_not] at h1
       have e : k = N.length := by omega
       subst e
       rw [List.take_length]
       refine w0_0 ?_
       refine L_next (i + 1) ?_ ?_ ?_
       ·simp only [go_sem, hfin]; simp
       ·omega
       ·omega
  ·simp only [decide_eq_false_iff_not] at h
   have e : i = d.length := by omega
   subst e
   refine w0_0 ?_
   exact retK_ret ⟨⟨_, rfl, by simp only [go_sem, edgesK, edgesA]⟩, trivial⟩
end Go.Proofs.YtddimbdeggomaaaGreat
end
section
set_option maxRecDepth 100000
set_option maxHeartbeats 4000000
namespace Go.Proofs.YtddimbdeggomaaaGreat
open Go Go.Sx Go.RowKit Go.Proofs
theorem take_eq_succ (A B : List Nat) (k : Nat) (hA : k < A.length) (hB : k < B.length) (h : A.take k = B.take k) (e : A[k] = B[k]) : A.take (k + 1) = B.take (k + 1) := by
 rw [List.take_succ_eq_append_getElem hA, List.take_succ_eq_append_getElem hB, h, e]
theorem ints_ok (A B : List Nat) (hA : A.length ≤ 4300000) (hB : B.length ≤ 4300000) : FnC Tryz.prog 85 [.o (.d (.sl (A.map encN))), .o (.d (.sl (B.map encN)))] (ob (decide (A = B))) := by
 refine ent Tryz.func85 rfl Tryz.call85 rfl (fun C => ?_); simp only [go_sem, st0, Tryz.ntmps85]
 by_cases hl : A.length = B.length
 ·have hli : ((A.length : Nat) : Int) = ((B.length : Nat) : Int) := by omega
  have q0 := @hli; have q1 := @decide_true; refine w2_0 ?_
  refine WP_lp (α := Nat) (fun k => [(5, oi k)]) (fun _ => []) (fun k => k ≤ A.length ∧ A.take k = B.take k) (fun k => A.length - k) 0 (fun _ => ?_) ?_ ?_ (fun k hk => ?_)
  ·simp only [go_sem]
  ·simp only [go_sem]; simp
  ·simp
  ·obtain ⟨hk, hq⟩ := hk
   simp only [go_sem]
   refine w0_0 ?_
   refine cnd rfl (fun h => ?_) (fun h => ?_)
   ·simp only [decide_eq_true_eq, Int.ofNat_lt] at h
    have h2 : k < B.length := by omega
    by_cases he : A[k] = B[k]
    ·have hei : ((A[k] : Nat) : Int) = ((B[k] : Nat) : Int) := by omega
     have q0 := @h; have q1 := @h2; have q2 := @hei; have q3 := @decide_true; refine w4_0 ?_
     refine L_next (k + 1) ?_ ?_ ?_
     ·simp only [go_sem]; simp
     ·exact ⟨by omega, take_eq_succ A B k h h2 hq he⟩
     ·omega
    ·have hei : ¬ ((A[k] : Nat) : Int) = ((B[k] : Nat) : Int) := by omega
     have hne : decide (A = B) = false := decide_eq_false fun e => he (by subst e; rfl)
     have q0 := @h; have q1 := @h2; have q2 := @hei; have q3 := @decide_false; refine w4_0 ?_
     exact retK_ret ⟨⟨_, rfl, by simp only [go_sem, hne]⟩, trivial⟩
   ·simp only [decide_eq_false_iff_not] at h
    have e : k = A.length := by omega
    subst e
    rw [List.take_length, hl, List.take_length] at hq
    have hy : decide (A = B) = true := decide_eq_true hq
    refine w0_0 ?_
    exact retK_ret ⟨⟨_, rfl, by simp only [go_sem, hy]⟩, trivial⟩
 ·have hli : ¬ ((A.length : Nat) : Int) = ((B.length : Nat) : Int) := by omega
  have hne : decide (A = B) = false := decide_eq_false fun e => hl (by rw [e])
  have q0 := @hli; have q1 := @decide_false; refine w2_0 ?_
  exact retK_ret ⟨⟨_, rfl, by simp only [go_sem, hne]⟩, trivial⟩
theorem specStrata_ok (d : List TDir) (hd : wDirS d ≤ 4300000) : FnC Tryz.prog 79 [.o (.d (.sl (d.map encDir)))] (.t [(false, [.d (.sl ((resL d).map encN))]), (false, [.d (bv (resB d))])]) := by
 have hd0 : d.length + wsum wDir d ≤ 4300000 := hd
 refine ent Tryz.func79 rfl Tryz.call79 rfl (fun C => ?_); simp only [go_sem, st0, Tryz.ntmps79]
 cases hv : okDirs d
 ·have e1 : resL d = [] := by simp [resL, hv]
  have e2 : resB d = false := by simp [resB, hv]
  have q0 := @hv; refine w1_1 (specVDirs_ok d hd) ?_
  refine retK_sees (Sees.frz 0 rfl) ?_
  simp only [go_sem]
  exact retK_ret ⟨⟨_, rfl, by simp only [go_sem, e1, e2, List.map_nil]⟩, by simp [notOne]⟩
 have e1 : resL d = levs d.length (EE d) := by simp [resL, hv]
 have e2 : resB d = strat d.length (EE d) := by simp [resB, hv]
 have hl5 := okDirs_len hv
 have hsq : d.length * d.length ≤ 25 := Nat.mul_le_mul hl5 hl5
 have hmul : ((d.length : Nat) : Int) * ((d.length : Nat) : Int) = ((d.length * d.length : Nat) : Int) := by rw [Int.natCast_mul]
 have hends := upsN_ends (EE_edges d) (edgesA d) (fun x => Iff.rfl) (d.length * d.length + 2) (by omega)
 have hEl := edgesK_len d hv d.length
 have hEok : ∀ x ∈ edgesA d, x.1 < (List.replicate d.length 0).length ∧ x.2.2 ≤ 1 := fun x hx => by rw [List.length_replicate]; exact edgesK_ok d d.length x hx
 have hEl2 : (edgesA d).length ≤ 90 := by have : edgesA d = edgesK d d.length := rfl; rw [this]; omega
 have hbd := upsN_bound (edgesA d) (List.replicate d.length 0) hEok (fun j => lv_rep _ j)
 have hlen : ∀ r, (upsN (edgesA d) r (List.replicate d.length 0)).length = d.length := fun r => by rw [upsN_len]; simp
 generalize hN2 : d.length * d.length = N2 at *
 have hB : ∀ r, r ≤ N2 + 2 → ∀ j, lv (upsN (edgesA d) r (List.replicate d.length 0)) j ≤ 1000000 := fun r hr j => by
  have h1 := hbd r j
  have h2 : r * (edgesA d).length ≤ 27 * 90 := Nat.mul_le_mul (by omega) hEl2
  omega
 have q0 := @hv; refine w1_1 (specVDirs_ok d hd) ?_
 refine WP_lp (α := Nat) (fun r => [(4, .o (.s 0)), (12, .o .u), (5, oi r)]) (fun r => [(0, .row 3 1 ((upsN (edgesA d) r (List.replicate d.length 0)).map encN) true)]) (fun r => r ≤ N2 + 2) (fun r => N2 + 2 - r) 0 (fun _ => ?_) ?_ ?_ (fun r hr => ?_)
 ·simp only [go_sem]
 ·simp only [go_sem]; simp [upsN, encN]
 ·simp
 ·simp only [go_sem]
  have q0 := @hmul; refine w1_0 ?_
  refine cnd rfl (fun h => ?_) (fun h => ?_)
  ·simp only [decide_eq_true_eq] at h
   refine w0_1 (raise_ok d (upsN (edgesA d) r (List.replicate d.length 0)) hv hd (hlen r) (hB r hr)) ?_
   refine L_nexts [(0, 1)] (r + 1) (by simp only [go_sem]; rfl) ?_ ?_ ?_
   ·simp only [go_sem, upsN]; simp
   ·omega
   ·omega
  ·simp only [decide_eq_false_iff_not] at h
   have e : r = N2 + 2 := by omega
   subst e
   have hLl := hlen (N2 + 2)
   have hLB := hB (N2 + 2) (by omega)
   simp only at hends
   generalize upsN (edgesA d) (N2 + 2) (List.replicate d.length 0) = L at *
   have hUl : (ups (edgesA d) L).length = d.length := by rw [ups_len]; exact hLl
   by_cases hs : ups (edgesA d) L = L
   ·rw [if_pos hs] at hends
    have f1 := levs_eq hends
    have f2 := strat_yes hends.clo
    have hy : decide (ups (edgesA d) L = L) = true := decide_eq_true hs
    have q0 := @hy; refine w1_2 (raise_ok d L hv hd hLl hLB) (ints_ok (ups (edgesA d) L) L (by omega) (by omega)) ?_
    exact retK_ret ⟨⟨_, rfl, by simp only [go_sem, e1, e2, f1, f2]⟩, by simp [notOne]⟩
   ·rw [if_neg hs] at hends
    have f1 := levs_no hends
    have f2 := strat_no hends
    have hy : decide (ups (edgesA d) L = L) = false := decide_eq_false hs
    have q0 := @hy; refine w1_2 (raise_ok d L hv hd hLl hLB) (ints_ok (ups (edgesA d) L) L (by omega) (by omega)) ?_
    refine retK_sees (Sees.frz 2 rfl) ?_
    simp only [go_sem]
    exact retK_ret ⟨⟨_, rfl, by simp only [go_sem, e1, e2, f1, f2, List.map_nil]⟩, by simp [notOne]⟩
end Go.Proofs.YtddimbdeggomaaaGreat
end
section
set_option maxRecDepth 100000
set_option maxHeartbeats 4000000
namespace Go.Proofs.YtddimbdeggomaaaGreat
theorem refs_two (q : List TNode) (x : Int) (i j : Nat) (hi : i < q.length) (hj : j < q.length) (hne : i ≠ j) : ref1 q[i] x + ref1 q[j] x ≤ refs q x := by
 induction q generalizing i j with
 | nil => simp at hi
 | cons n q ih =>
  have one : ∀ (q : List TNode) (m : Nat) (h : m < q.length), ref1 q[m] x ≤ refs q x := by
   intro q
   induction q with
   | nil => intro m h; simp at h
   | cons n q ih =>
    intro m h
    cases m with
    | zero => simp only [List.getElem_cons_zero, refs]; omega
    | succ m => have := ih m (by simpa using h); simp only [List.getElem_cons_succ, refs]; omega
  cases i with
  | zero =>
   cases j with
   | zero => exact (hne rfl).elim
   | succ j => have := one q j (by simpa using hj); simp only [List.getElem_cons_zero, List.getElem_cons_succ, refs]; omega
  | succ i =>
   cases j with
   | zero => have := one q i (by simpa using hi); simp only [List.getElem_cons_zero, List.getElem_cons_succ, refs]; omega
   | succ j =>
    have := ih i j (by simpa using hi) (by simpa using hj) (by omega)
    simp only [List.getElem_cons_succ, refs]; omega
theorem okQ_refs {q : List TNode} (h : okQ q = true) (l : Nat) (hl : l + 1 < q.length) : refs q l = 1 := by
 unfold okQ at h
 simp only [Bool.and_eq_true, List.all_eq_true, List.mem_range] at h
 have := h.1 l (by omega)
 unfold okAt at this
 rw [List.getElem?_eq_getElem (by omega)] at this
 simp only [Bool.and_eq_true, Bool.or_eq_true, decide_eq_true_eq] at this
 rcases this.2 with h | h
 ·omega
 ·exact h
def nb (L : List Bool) (i : Nat) : Bool := L.getD i false
theorem nb_set (L : List Bool) (l : Nat) (v : Bool) (x : Nat) (h : l < L.length) : nb (L.set l v) x = if x = l then v else nb L x := by
 unfold nb
 simp only [List.getD_eq_getElem?_getD, List.getElem?_set]
 by_cases e : l = x
 ·subst e; simp [h]
 ·rw [if_neg e, if_neg (fun e' => e e'.symm)]
theorem negStep_other {q : List TNode} (hq : okQ q = true) {i : Nat} (hi : i < q.length) {L : List Bool} (hL : L.length = q.length) {x : Nat} (hx : ref1 q[i] x = 0) : nb (negStep q i L) x = nb L x := by
 have hok := okQ_at hq (List.getElem?_eq_getElem hi)
 by_cases h5 : q[i].fOp = 5
 ·obtain ⟨l, hl, hli⟩ := okNode_left hok (.inl h5)
  rw [negStep5 hi L h5 hl, nb_set _ _ _ _ (by omega)]
  split
  ·rename_i e; subst e; simp [ref1, two, h5, hl] at hx
  ·rfl
 by_cases h67 : q[i].fOp = 6 ∨ q[i].fOp = 7
 ·obtain ⟨l, hl, hli⟩ := okNode_left hok (.inr h67)
  obtain ⟨m, hm, hmi⟩ := okNode_right hok h67
  have ht : two q[i] = true := by unfold two; rcases h67 with h | h <;> simp [h]
  rw [negStep67 hi L (by omega) h5 h67 hl hm, nb_set _ _ _ _ (by simp; omega), nb_set _ _ _ _ (by omega)]
  split
  ·rename_i e; subst e; simp [ref1, ht, hm] at hx
  ·split
   ·rename_i e; subst e; simp [ref1, ht, hl] at hx
   ·rfl
 ·rw [negStepNo hi L h5 h67]
def negS (q : List TNode) (m : Nat) : List Bool := negJ q (q.length - m)
theorem negS_len (q : List TNode) (m : Nat) : (negS q m).length = q.length := negJ_len q _
theorem negS_step (q : List TNode) (i : Nat) (h : i < q.length) : negS q i = negStep q i (negS q (i + 1)) := negJ_step q i h
theorem ref1_le {q : List TNode} (hq : okQ q = true) {i : Nat} (hi : i < q.length) {x : Nat} (hx : i ≤ x) : ref1 q[i] x = 0 := by
 have hok := okQ_at hq (List.getElem?_eq_getElem hi)
 unfold ref1
 have a : (if (two q[i] || decide (q[i].fOp = 5)) && decide (q[i].fLeft = (x : Int)) then 1 else 0) = 0 := by
  split
  ·rename_i h
   simp only [Bool.and_eq_true, Bool.or_eq_true, decide_eq_true_eq] at h
   obtain ⟨l, hl, hli⟩ := okNode_left hok (by unfold two at h; simp only [Bool.or_eq_true, decide_eq_true_eq] at h; omega)
   omega
  ·rfl
 have b : (if two q[i] && decide (q[i].fRight = (x : Int)) then 1 else 0) = 0 := by
  split
  ·rename_i h
   simp only [Bool.and_eq_true, decide_eq_true_eq] at h
   obtain ⟨l, hl, hli⟩ := okNode_right hok (by unfold two at h; simp only [Bool.or_eq_true, decide_eq_true_eq] at h; omega)
   omega
  ·rfl
 omega
theorem negS_keep {q : List TNode} (hq : okQ q = true) {x : Nat} : ∀ (k m : Nat), m + k ≤ q.length → (∀ j, (hj : j < q.length) → m ≤ j → j < m + k → ref1 q[j] x = 0) → nb (negS q m) x = nb (negS q (m + k)) x
 | 0, m, _, _ => rfl
 | k + 1, m, h, hr => by
  have hm : m < q.length := by omega
  rw [negS_step q m hm, negStep_other hq hm (negS_len q (m + 1)) (hr m hm (by omega) (by omega)), negS_keep hq k (m + 1) (by omega) (fun j hj h1 h2 => hr j hj (by omega) (by omega))]
  congr 2; omega
theorem negs_at {q : List TNode} (hq : okQ q = true) (x : Nat) (hx : x < q.length) : nb (negs q) x = nb (negS q (x + 1)) x := by
 have := negS_keep hq (x := x) (x + 1) 0 (by omega) (fun j hj _ h2 => ref1_le hq hj (by omega))
 simpa [negS, negs] using this
theorem negs_child {q : List TNode} (hq : okQ q = true) {i l : Nat} (hi : i < q.length) (hl : l < i) (hr : 1 ≤ ref1 q[i] l) : nb (negs q) l = nb (negStep q i (negS q (i + 1))) l := by
 rw [negs_at hq l (by omega), ← negS_step q i hi]
 have h1 := okQ_refs hq l (by omega)
 have := negS_keep hq (x := l) (i - (l + 1)) (l + 1) (by omega) (fun j hj h1' h2 => by
  have := refs_two q l i j hi hj (by omega)
  omega)
 rw [this]
 congr 2; omega
theorem negs_not {q : List TNode} (hq : okQ q = true) {i l : Nat} (hi : i < q.length) (h5 : q[i].fOp = 5) (hl : q[i].fLeft = (l : Int)) (hli : l < i) : nb (negs q) l = true := by
 rw [negs_child hq hi hli (by simp [ref1, h5, hl]), negStep5 hi _ h5 hl, nb_set _ _ _ _ (by rw [negS_len]; omega), if_pos rfl]
theorem negs_two {q : List TNode} (hq : okQ q = true) {i l m : Nat} (hi : i < q.length) (h67 : q[i].fOp = 6 ∨ q[i].fOp = 7) (hl : q[i].fLeft = (l : Int)) (hm : q[i].fRight = (m : Int)) (hli : l < i) (hmi : m < i) : nb (negs q) l = nb (negs q) i ∧ nb (negs q) m = nb (negs q) i := by
 have ht : two q[i] = true := by unfold two; rcases h67 with h | h <;> simp [h]
 have h5 : ¬ q[i].fOp = 5 := by omega
 have hL := negS_len q (i + 1)
 have e := negs_at hq i hi
 have g : (negS q (i + 1))[i]'(by omega) = nb (negs q) i := by
  rw [e]; simp [nb, List.getD_eq_getElem?_getD, hL, hi]
 rw [negs_child hq hi hli (by simp [ref1, ht, hl]), negs_child hq hi hmi (by simp [ref1, ht, hm]), negStep67 hi _ (by omega) h5 h67 hl hm]
 rw [nb_set _ m _ l (by rw [List.length_set]; omega), nb_set _ l _ l (by omega), nb_set _ m _ m (by rw [List.length_set]; omega), g]
 simp
theorem mt_mono {q : List TNode} (hq : okQ q = true) {f : TFile} {r r' : List TResult}
    (hP : ∀ i, (hi : i < q.length) → (q[i].fOp = 8 ∨ q[i].fOp = 9) → nb (negs q) i = false → ∀ x, hasI (resIDs q[i].fName r) x = true → hasI (resIDs q[i].fName r') x = true)
    (hN : ∀ i, (hi : i < q.length) → (q[i].fOp = 8 ∨ q[i].fOp = 9) → nb (negs q) i = true → ∀ x, hasI (resIDs q[i].fName r) x = hasI (resIDs q[i].fName r') x) :
    ∀ (k i : Nat), i < k → i < q.length → (nb (negs q) i = true → mt q f r k i = mt q f r' k i) ∧ (nb (negs q) i = false → mt q f r k i = true → mt q f r' k i = true)
 | 0, i, h, _ => by omega
 | k + 1, i, h, hi => by
  have hn := List.getElem?_eq_getElem hi
  have hok := okQ_at hq hn
  have ih := mt_mono hq (f := f) hP hN k
  by_cases h1 : q[i].fOp = 1
  ·simp [mt, hn, h1]
  by_cases h2 : q[i].fOp = 2
  ·simp [mt, hn, h2]
  by_cases h3 : q[i].fOp = 3
  ·simp [mt, hn, h3]
  by_cases h4 : q[i].fOp = 4
  ·simp [mt, hn, h4]
  by_cases h5 : q[i].fOp = 5
  ·obtain ⟨l, hl, hli⟩ := okNode_left hok (.inl h5)
   have := (ih l (by omega) (by omega)).1 (negs_not hq hi h5 hl hli)
   have e : mt q f r (k + 1) i = mt q f r' (k + 1) i := by simp [mt, hn, h5, hl, this]
   exact ⟨fun _ => e, fun _ h => by rw [← e]; exact h⟩
  by_cases h67 : q[i].fOp = 6 ∨ q[i].fOp = 7
  ·obtain ⟨l, hl, hli⟩ := okNode_left hok (.inr h67)
   obtain ⟨m, hm, hmi⟩ := okNode_right hok h67
   obtain ⟨n1, n2⟩ := negs_two hq hi h67 hl hm hli hmi
   have a := ih l (by omega) (by omega)
   have b := ih m (by omega) (by omega)
   rw [n1] at a
   rw [n2] at b
   refine ⟨fun hx => ?_, fun hx hm2 => ?_⟩
   ·have a1 := a.1 hx
    have b1 := b.1 hx
    rcases h67 with h6 | h7
    ·simp [mt, hn, h6, hl, hm, a1, b1]
    ·simp [mt, hn, h7, hl, hm, a1, b1]
   ·have a1 := a.2 hx
    have b1 := b.2 hx
    rcases h67 with h6 | h7
    ·simp [mt, hn, h6, hl, hm] at hm2 ⊢
     exact ⟨a1 hm2.1, b1 hm2.2⟩
    ·simp [mt, hn, h7, hl, hm] at hm2 ⊢
     exact hm2.imp a1 b1
  have h6 : ¬ q[i].fOp = 6 := fun h => h67 (.inl h)
  have h7 : ¬ q[i].fOp = 7 := fun h => h67 (.inr h)
  have hop := okNode_op hok
  have h89 : q[i].fOp = 8 ∨ q[i].fOp = 9 := by omega
  refine ⟨fun hx => ?_, fun hx hm2 => ?_⟩
  ·have e := hN i hi h89 hx
   rcases h89 with h8 | h9
   ·simp [mt, hn, h8, e]
   ·simp [mt, hn, h9, e]
  ·have e := hP i hi h89 hx
   rcases h89 with h8 | h9
   ·simp [mt, hn, h8] at hm2 ⊢
    exact e _ hm2
   ·simp [mt, hn, h9] at hm2 ⊢
    exact ⟨hm2.1, e _ hm2.2⟩
end Go.Proofs.YtddimbdeggomaaaGreat
end
