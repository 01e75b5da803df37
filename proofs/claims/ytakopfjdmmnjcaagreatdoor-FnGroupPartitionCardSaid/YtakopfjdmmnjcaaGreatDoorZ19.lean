/- Joined texts. -/
import Derived.Test.YtakopfjdmmnjcaaGreatDoorZ18
import Derived.Test.YtakopfjdmmnjcaaGreatDoorZ10
import Derived.Test.YtakopfjdmmnjcaaGreatDoorZ07
set_option linter.all false
section
set_option maxRecDepth 100000
set_option maxHeartbeats 4000000
namespace Go.Proofs.YtakopfjdmmnjcaaGreatDoor
def placeD (d : List TDir) (nm : ByteArray) : Int := idxP (fun x => decide (x.fName = nm)) d 0
theorem placeD_cases (d : List TDir) (nm : ByteArray) : placeD d nm = -1 ∨ ∃ k : Nat, placeD d nm = (k : Int) ∧ k < d.length := by
 unfold placeD
 rcases idxP_fst (fun x => decide (x.fName = nm)) d 0 with ⟨_, h, _⟩ | ⟨h, hl⟩
 ·exact .inl h
 ·exact .inr ⟨_, by rw [h]; simp, hl⟩
def dX (d : List TDir) (i w : Nat) (names : List ByteArray) : List (Nat × Nat × Nat) := names.flatMap fun nm => if 0 ≤ placeD d nm then [(i, (placeD d nm).toNat, w)] else []
theorem yU (d : List TDir) (i w : Nat) (names : List ByteArray) (x : Nat × Nat × Nat) : x ∈ dX d i w names ↔ ∃ nm ∈ names, ∃ k : Nat, placeD d nm = (k : Int) ∧ x = (i, k, w) := by
 unfold dX
 simp only [List.mem_flatMap]
 constructor
 ·rintro ⟨nm, h1, h2⟩
  split at h2
  ·rename_i hp
   refine ⟨nm, h1, (placeD d nm).toNat, by omega, by simpa using h2⟩
  ·simp at h2
 ·rintro ⟨nm, h1, k, h2, rfl⟩
  refine ⟨nm, h1, ?_⟩
  rw [if_pos (by omega), h2]; simp
def qY (d : List TDir) (i : Nat) : List (Nat × Nat × Nat) := match d[i]? with
 | none => []
 | some x => dX d i 0 (putL (dH x.fQuery false)) ++ dX d i 1 (putL (dH x.fQuery true))
def gH (d : List TDir) : List (Nat × Nat × Nat) := (List.range d.length).flatMap (qY d)
def EE (d : List TDir) (i k w : Nat) : Prop := (i, k, w) ∈ gH d
theorem a1h (d : List TDir) (i k w : Nat) : EE d i k w ↔ ∃ x, d[i]? = some x ∧ ((w = 0 ∧ ∃ nm ∈ dH x.fQuery false, placeD d nm = (k : Int)) ∨ (w = 1 ∧ ∃ nm ∈ dH x.fQuery true, placeD d nm = (k : Int))) := by
 unfold EE gH
 simp only [List.mem_flatMap, List.mem_range]
 constructor
 ·rintro ⟨j, hj, h⟩
  unfold qY at h
  rw [List.getElem?_eq_getElem hj] at h
  simp only [List.mem_append, yU, pU] at h
  rcases h with ⟨nm, h1, k', h2, h3⟩ | ⟨nm, h1, k', h2, h3⟩
  ·cases h3; exact ⟨_, List.getElem?_eq_getElem hj, .inl ⟨rfl, nm, h1, h2⟩⟩
  ·cases h3; exact ⟨_, List.getElem?_eq_getElem hj, .inr ⟨rfl, nm, h1, h2⟩⟩
 ·rintro ⟨x, hx, h⟩
  refine ⟨i, (List.getElem?_eq_some_iff.1 hx).1, ?_⟩
  unfold qY
  rw [hx]
  simp only [List.mem_append, yU, pU]
  rcases h with ⟨rfl, nm, h1, h2⟩ | ⟨rfl, nm, h1, h2⟩
  ·exact .inl ⟨nm, h1, k, h2, rfl⟩
  ·exact .inr ⟨nm, h1, k, h2, rfl⟩
theorem wL (d : List TDir) : Edges d.length (EE d) := ⟨fun i k w h => by
 obtain ⟨x, hx, h⟩ := (a1h d i k w).1 h
 refine ⟨(List.getElem?_eq_some_iff.1 hx).1, ?_, by rcases h with ⟨rfl, _⟩ | ⟨rfl, _⟩ <;> omega⟩
 obtain ⟨nm, hp⟩ : ∃ nm, placeD d nm = (k : Int) := by rcases h with ⟨_, nm, _, h⟩ | ⟨_, nm, _, h⟩ <;> exact ⟨nm, h⟩
 rcases placeD_cases d nm with h | ⟨k', h, hl⟩ <;> omega⟩
def abv (d : List TDir) (L : List Nat) (w : Nat) : List ByteArray → Nat → Nat
 | [], m => m
 | nm :: r, m => abv d L w r (if 0 ≤ placeD d nm then (if lv L (placeD d nm).toNat + w > m then lv L (placeD d nm).toNat + w else m) else m)
theorem b3O (d : List TDir) (L : List Nat) (w : Nat) (l : List ByteArray) (k m : Nat) (h : k < l.length) : abv d L w (l.drop k) m = abv d L w (l.drop (k + 1)) (if 0 ≤ placeD d l[k] then (if lv L (placeD d l[k]).toNat + w > m then lv L (placeD d l[k]).toNat + w else m) else m) := by
 rw [List.drop_eq_getElem_cons h, abv]
theorem a9A (d : List TDir) (L : List Nat) (w c : Nat) : ∀ (l : List ByteArray) (m : Nat), abv d L w l m ≤ c ↔ m ≤ c ∧ ∀ nm ∈ l, ∀ k : Nat, placeD d nm = (k : Int) → lv L k + w ≤ c
 | [], m => by simp [abv]
 | nm :: r, m => by
  rw [abv, a9A d L w c r]
  constructor
  ·rintro ⟨h1, h2⟩
   refine ⟨?_, fun n hn k hk => ?_⟩
   ·split at h1
    ·split at h1 <;> omega
    ·exact h1
   ·rcases List.mem_cons.1 hn with rfl | hn
    ·have e : (placeD d n).toNat = k := by omega
     rw [if_pos (by omega), e] at h1
     split at h1 <;> omega
    ·exact h2 n hn k hk
  ·rintro ⟨h1, h2⟩
   refine ⟨?_, fun n hn k hk => h2 n (List.mem_cons_of_mem _ hn) k hk⟩
   split
   ·rename_i hp
    have := h2 nm (by simp) (placeD d nm).toNat (by omega)
    split <;> omega
   ·exact h1
def gW (d : List TDir) (L : List Nat) (x : TDir) : Nat := if abv d L 1 (gD (dH x.fQuery true)) 0 > abv d L 0 (gD (dH x.fQuery false)) 0 then abv d L 1 (gD (dH x.fQuery true)) 0 else abv d L 0 (gD (dH x.fQuery false)) 0
theorem a3F (d : List TDir) (L : List Nat) (i c : Nat) (h : i < d.length) : gW d L d[i] ≤ c ↔ ∀ k w, EE d i k w → lv L k + w ≤ c := by
 have h0 := a9A d L 0 c (gD (dH d[i].fQuery false)) 0
 have h1 := a9A d L 1 c (gD (dH d[i].fQuery true)) 0
 have hm : gW d L d[i] ≤ c ↔ abv d L 0 (gD (dH d[i].fQuery false)) 0 ≤ c ∧ abv d L 1 (gD (dH d[i].fQuery true)) 0 ≤ c := by
  unfold gW; split <;> omega
 rw [hm, h0, h1]
 constructor
 ·rintro ⟨⟨_, a⟩, ⟨_, b⟩⟩ k w he
  obtain ⟨x, hx, he⟩ := (a1h d i k w).1 he
  rw [List.getElem?_eq_getElem h] at hx
  cases hx
  rcases he with ⟨rfl, nm, q1, q2⟩ | ⟨rfl, nm, q1, q2⟩
  ·exact a nm ((sG _ _).2 q1) k q2
  ·exact b nm ((sG _ _).2 q1) k q2
 ·intro a
  exact ⟨⟨by omega, fun nm q k hk => a k 0 ((a1h d i k 0).2 ⟨d[i], List.getElem?_eq_getElem h, .inl ⟨rfl, nm, (sG _ _).1 q, hk⟩⟩)⟩,
   ⟨by omega, fun nm q k hk => a k 1 ((a1h d i k 1).2 ⟨d[i], List.getElem?_eq_getElem h, .inr ⟨rfl, nm, (sG _ _).1 q, hk⟩⟩)⟩⟩
structure Low (d : List TDir) (L : List Nat) : Prop where
 len : L.length = d.length
 clo : ∀ F, Clo d.length (EE d) F → ∀ j, lv L j ≤ lv F j
 small : ∀ j, lv L j ≤ d.length
theorem Low.start (d : List TDir) : Low d (List.replicate d.length 0) := ⟨by simp, fun F _ j => by rw [a6u]; omega, fun j => by rw [a6u]; omega⟩
theorem Low.least_le {d : List TDir} {L : List Nat} (h : Low d L) {i : Nat} (hi : i < d.length) {F : List Nat} (hF : Clo d.length (EE d) F) : gW d L d[i] ≤ lv F i :=
 (a3F d L i _ hi).2 fun k w he => by
  have h1 := hF.le i k w he
  have h2 := h.clo F hF k
  omega
theorem Low.over {d : List TDir} {L : List Nat} (h : Low d L) {i : Nat} (hi : i < d.length) (ho : gW d L d[i] > d.length) : ¬ ∃ F, Clo d.length (EE d) F := by
 rintro ⟨F, hF⟩
 obtain ⟨G, hG, hs⟩ := a1k (wL d) hF
 have h1 := h.least_le hi hG
 have h2 := hs i hi
 omega
theorem Low.set {d : List TDir} {L : List Nat} (h : Low d L) {i : Nat} (hi : i < d.length) (ho : ¬ gW d L d[i] > d.length) : Low d (L.set i (gW d L d[i])) := by
 have hl : i < L.length := by rw [h.len]; exact hi
 refine ⟨by simp [h.len], fun F hF j => ?_, fun j => ?_⟩
 ·rw [a3H L i _ j hl]
  split
  ·rename_i e; subst e; exact h.least_le hi hF
  ·exact h.clo F hF j
 ·rw [a3H L i _ j hl]
  split
  ·omega
  ·exact h.small j
theorem Low.done {d : List TDir} {L : List Nat} (h : Low d L) (hc : ∀ i, (hi : i < d.length) → gW d L d[i] ≤ lv L i) : Least d.length (EE d) L :=
 ⟨⟨h.len, fun i k w he => (a3F d L i _ ((wL d).ok i k w he).1).1 (hc i _) k w he⟩, h.clo⟩
theorem Low.sum {d : List TDir} {L : List Nat} (h : Low d L) : uK L ≤ d.length * d.length := by
 have := b0R L d.length fun i _ => h.small i
 rwa [h.len] at this
end Go.Proofs.YtakopfjdmmnjcaaGreatDoor
end
section
set_option maxRecDepth 100000
set_option maxHeartbeats 4000000
namespace Go.Proofs.YtakopfjdmmnjcaaGreatDoor
open Go Go.Sx Go.RowKit Go.Proofs
@[go_sem] def sM (n : Nat) : List D := [iv (n : Int)]
theorem b2b (nm : ByteArray) (x : TDir) : FnC Tryz.prog 173 [b7T x, .o (.q [sv nm])] (ob (decide (x.fName = nm))) := by
 refine ent Tryz.func173 rfl Tryz.call173 rfl (fun C => ?_); simp only [go_sem, st0, Tryz.ntmps173]
 refine aD ?_
 exact aA ⟨⟨_, rfl, by simp only [go_sem]⟩, trivial⟩
theorem a8f (d : List TDir) (nm : ByteArray) (hl : d.length ≤ 4300000) : FnC Tryz.prog 157 [.o (.d (.sl (d.map bY))), os nm] (oi (placeD d nm)) := by
 refine ent Tryz.func157 rfl Tryz.call157 rfl (fun C => ?_); simp only [go_sem, st0, Tryz.ntmps157]
 refine iE (a2e _ _ (fun x => decide (x.fName = nm)) d (fun y _ => b2b nm y) (by omega)) ?_
 exact aA ⟨⟨_, rfl, by simp only [go_sem, placeD]⟩, trivial⟩
theorem kN (d : List TDir) (nm : ByteArray) (hl : d.length ≤ 4300000) : FnC Tryz.prog 162 [.o (.d (.sl (d.map bY))), os nm] (oi (placeD d nm)) := by
 refine ent Tryz.func162 rfl Tryz.call162 rfl (fun C => ?_); simp only [go_sem, st0, Tryz.ntmps162]
 refine aD ?_
 refine aY (α := Nat) (fun k => [(5, oi k)]) (fun _ => []) (fun k => k ≤ d.length ∧ placeD d nm = idxP (fun x => decide (x.fName = nm)) (d.drop k) k) (fun k => d.length - k) 0 (fun _ => ?_) ?_ ?_ (fun k hk => ?_)
 ·simp only [go_sem]
 ·simp only [go_sem]; simp
 ·simp [placeD]
 ·obtain ⟨hk, hq⟩ := hk
  simp only [go_sem]
  refine aD ?_
  refine cnd rfl (fun h => ?_) (fun h => ?_)
  ·simp only [decide_eq_true_eq, Int.ofNat_lt] at h
   have hd := List.drop_eq_getElem_cons h
   rw [hd, idxP] at hq
   by_cases h2 : d[k].fName = nm
   ·rw [if_pos (by simp [h2])] at hq
    have q0 := @h; have q1 := @h2; have q2 := @decide_true; refine jJ ?_
    exact aA ⟨⟨_, rfl, by simp only [go_sem, hq]⟩, trivial⟩
   ·rw [if_neg (by simp [h2])] at hq
    have q0 := @h; have q1 := @h2; have q2 := @decide_false; refine jJ ?_
    refine aF (k + 1) ?_ ?_ ?_
    ·simp only [go_sem]; simp
    ·rw [hq]; exact ⟨h, by simp⟩
    ·omega
  ·simp only [decide_eq_false_iff_not] at h
   have e : k = d.length := by omega
   subst e
   simp only [List.drop_length, idxP] at hq
   refine aD ?_
   exact aA ⟨⟨_, rfl, by simp only [go_sem, hq]⟩, trivial⟩
theorem uJ (L : List Nat) (i : Nat) (h : i < L.length) : L[i] = lv L i := by simp [lv, List.getD_eq_getElem?_getD, h]
def mxN (a b : Nat) : Nat := if b > a then b else a
theorem b0M (a b : Nat) : mxI (a : Int) (b : Int) = ((mxN a b : Nat) : Int) := by
 unfold mxI mxN
 split <;> split <;> omega
theorem a8g (d : List TDir) (L : List Nat) (w : Nat) (names : List ByteArray) (hd : d.length ≤ 4300000) (hL : L.length = d.length) (hn : names.length ≤ 4300000) (hB : ∀ j, lv L j ≤ 1000000) (hw : w ≤ 1) : FnC Tryz.prog 142 [.o (.d (.sl (d.map bY))), .o (.d (.sl (L.map sM))), .o (.d (.sl (names.map iV))), oi (w : Nat)] (oi (abv d L w names 0 : Nat)) := by
 refine ent Tryz.func142 rfl Tryz.call142 rfl (fun C => ?_); simp only [go_sem, st0, Tryz.ntmps142]
 refine aD ?_
 refine aY (α := Nat × Nat) (fun x => [(9, oi (x.2 : Nat)), (15, oi x.1)]) (fun _ => []) (fun x => x.1 ≤ names.length ∧ abv d L w names 0 = abv d L w (names.drop x.1) x.2 ∧ x.2 ≤ 1000001) (fun x => names.length - x.1) (0, 0) (fun _ => ?_) ?_ ?_ (fun x hx => ?_)
 ·simp only [go_sem]
 ·simp only [go_sem]; simp
 ·simp
 ·obtain ⟨k, m⟩ := x
  obtain ⟨hk, hq, hm⟩ := hx
  simp only at hk hq hm
  simp only [go_sem]
  refine aD ?_
  refine cnd rfl (fun h => ?_) (fun h => ?_)
  ·simp only [decide_eq_true_eq, Int.ofNat_lt] at h
   rw [b3O d L w names k m h] at hq
   rcases placeD_cases d names[k] with hp | ⟨p, hp, hpl⟩
   ·rw [if_neg (by omega)] at hq
    have q0 := @h; have q1 := @hp; have q2 := @decide_true; have q3 := @decide_false; refine a2X (a8f d names[k] hd) ?_
    refine aF (k + 1, m) ?_ ?_ ?_
    ·simp only [go_sem]; simp
    ·exact ⟨by simp only; omega, hq, hm⟩
    ·simp only; omega
   ·have hpL : p < L.length := by omega
    have hb := hB p
    have hg := uJ L p hpL
    have hge : (0 : Int) ≤ (p : Int) := by omega
    have hs : ((lv L p : Nat) : Int) + (w : Int) = ((lv L p + w : Nat) : Int) := by omega
    have hmx := b0M m (lv L p + w)
    rw [if_pos (by omega), hp, Int.toNat_natCast] at hq
    have q0 := @h; have q1 := @hp; have q2 := @hge; have q3 := @hpL; have q4 := @hg; have q5 := @hs; have q6 := @hmx; have q7 := @decide_true; have q8 := @decide_false; have q9 := @Int.toNat_natCast; refine b0j (a8f d names[k] hd) ?_
    refine aF (k + 1, mxN m (lv L p + w)) ?_ ?_ ?_
    ·simp only [go_sem]; simp
    ·exact ⟨by simp only; omega, hq, by simp only [mxN]; split <;> omega⟩
    ·simp only; omega
  ·simp only [decide_eq_false_iff_not] at h
   have e : k = names.length := by omega
   subst e
   rw [List.drop_length, abv] at hq
   refine aD ?_
   exact aA ⟨⟨_, rfl, by simp only [go_sem, hq]⟩, trivial⟩
theorem lY {d : List TDir} (h : dV d = true) (i : Nat) (hi : i < d.length) : okQ d[i].fQuery = true := by
 unfold dV at h
 simp only [Bool.and_eq_true, List.all_eq_true, List.mem_range] at h
 have := h.1 i hi
 unfold jL at this
 rw [List.getElem?_eq_getElem hi] at this
 simp only [Bool.and_eq_true] at this
 exact this.2.2
theorem kE {d : List TDir} (h : dV d = true) : d.length ≤ 5 := by
 unfold dV at h
 simp only [Bool.and_eq_true, decide_eq_true_eq] at h
 omega
theorem a8d (q : List TNode) (hq : okQ q = true) (hw : eU q ≤ 4300000) : FnC Tryz.prog 143 [.o (.d (.sl (q.map bN)))] (.o (.d (.sl ((gD (dH q false)).map iV)))) := (a9B q hq hw).pu (by simp only [go_sem, and_self])
theorem a8e (q : List TNode) (hq : okQ q = true) (hw : eU q ≤ 4300000) : FnC Tryz.prog 144 [.o (.d (.sl (q.map bN)))] (.o (.d (.sl ((gD (dH q true)).map iV)))) := (a8i q hq hw).pu (by simp only [go_sem, and_self])
theorem a5i (d : List TDir) (L : List Nat) (names : List ByteArray) (hd : d.length ≤ 4300000) (hL : L.length = d.length) (hn : names.length ≤ 4300000) (hB : ∀ j, lv L j ≤ 1000000) : FnC Tryz.prog 142 [.o (.d (.sl (d.map bY))), .o (.d (.sl (L.map sM))), .o (.d (.sl (names.map iV))), oi 0] (oi (abv d L 0 names 0 : Nat)) := a8g d L 0 names hd hL hn hB (by omega)
theorem a5j (d : List TDir) (L : List Nat) (names : List ByteArray) (hd : d.length ≤ 4300000) (hL : L.length = d.length) (hn : names.length ≤ 4300000) (hB : ∀ j, lv L j ≤ 1000000) : FnC Tryz.prog 142 [.o (.d (.sl (d.map bY))), .o (.d (.sl (L.map sM))), .o (.d (.sl (names.map iV))), oi 1] (oi (abv d L 1 names 0 : Nat)) := a8g d L 1 names hd hL hn hB (by omega)
noncomputable def resL (d : List TDir) : List Nat := if dV d then a9G d.length (EE d) else []
noncomputable def mP (d : List TDir) : Bool := if dV d then a1M d.length (EE d) else false
theorem b3N (L : List Nat) (i v : Nat) : (L.map sM).set i [D.v (Value.int .i64 (v : Int))] = (L.set i v).map sM := by rw [List.map_set]; rfl
structure Pass (d : List TDir) (L : List Nat) (i : Nat) (M : List Nat) (ch : Bool) : Prop where
 low : Low d M
 no : ch = false → M = L ∧ ∀ j, (hj : j < d.length) → j < i → gW d L d[j] ≤ lv L j
 yes : ch = true → uK L < uK M
theorem Pass.start {d : List TDir} {L : List Nat} (h : Low d L) : Pass d L 0 L false := ⟨h, fun _ => ⟨rfl, fun j _ hj => by omega⟩, fun h => by cases h⟩
theorem Pass.keep {d : List TDir} {L M : List Nat} {i : Nat} {ch : Bool} (h : Pass d L i M ch) (hi : i < d.length) (hle : ¬ gW d M d[i] > lv M i) : Pass d L (i + 1) M ch := by
 refine ⟨h.low, fun hc => ⟨(h.no hc).1, fun j hj hlt => ?_⟩, h.yes⟩
 by_cases e : j = i
 ·subst e
  have := (h.no hc).1
  subst this
  omega
 ·exact (h.no hc).2 j hj (by omega)
theorem Pass.set {d : List TDir} {L M : List Nat} {i : Nat} {ch : Bool} (h : Pass d L i M ch) (hi : i < d.length) (ho : ¬ gW d M d[i] > d.length) (hgt : gW d M d[i] > lv M i) : Pass d L (i + 1) (M.set i (gW d M d[i])) true := by
 have hl : i < M.length := by rw [h.low.len]; exact hi
 have hs := a8m M i (gW d M d[i]) hl
 refine ⟨h.low.set hi ho, fun hc => (by cases hc), fun _ => ?_⟩
 cases ch with
 | false =>
  have := (h.no rfl).1
  subst this
  omega
 | true =>
  have := h.yes rfl
  omega
theorem iT (d : List TDir) (hd : gN d ≤ 4300000) : FnC Tryz.prog 128 [.o (.d (.sl (d.map bY)))] (.t [(false, [.w 3 1 ((resL d).map sM)]), (false, [.d (bv (mP d))])]) := by
 have hd0 : d.length + bG lN d ≤ 4300000 := hd
 refine ent Tryz.func128 rfl Tryz.call128 rfl (fun C => ?_); simp only [go_sem, st0, Tryz.ntmps128]
 cases hv : dV d
 ·have e1 : resL d = [] := by simp [resL, hv]
  have e2 : mP d = false := by simp [mP, hv]
  have q0 := @hv; refine lF (a0n d hd) ?_
  exact aA ⟨⟨_, rfl, by simp only [go_sem, e1, e2]⟩, by simp [cO]⟩
 have e1 : resL d = a9G d.length (EE d) := by simp [resL, hv]
 have e2 : mP d = a1M d.length (EE d) := by simp [mP, hv]
 have hl5 := kE hv
 have q0 := @hv; refine lF (a0n d hd) ?_
 refine aY (α := List Nat × Bool) (fun x => [(5, ob x.2)]) (fun x => [(0, .row 3 1 (x.1.map sM) true)]) (fun x => Low d x.1 ∧ (x.2 = false → ∀ i, (hi : i < d.length) → gW d x.1 d[i] ≤ lv x.1 i)) (fun x => if x.2 then d.length * d.length - uK x.1 + 1 else 0) (List.replicate d.length 0, true) (fun _ => ?_) ?_ ?_ (fun x hx => ?_)
 ·simp only [go_sem]
 ·simp only [go_sem]; simp [sM]
 ·exact ⟨Low.start d, fun h => by cases h⟩
 ·obtain ⟨L, ch⟩ := x
  obtain ⟨hlow, hdone⟩ := hx
  simp only at hlow hdone
  simp only [go_sem]
  refine aD ?_
  refine cnd rfl (fun h => ?_) (fun h => ?_)
  ·subst h
   refine aD ?_
   refine aY (α := Nat × List Nat × Bool) (fun x => [(5, ob x.2.2), (18, oi x.1)]) (fun x => [(0, .row 3 1 (x.2.1.map sM) true)]) (fun x => x.1 ≤ d.length ∧ Pass d L x.1 x.2.1 x.2.2) (fun x => d.length - x.1) (0, L, false) (fun _ => ?_) ?_ ?_ (fun x hx => ?_)
   ·simp only [go_sem]
   ·simp only [go_sem]; simp
   ·exact ⟨by simp, Pass.start hlow⟩
   ·obtain ⟨i, M, c⟩ := x
    obtain ⟨hi, hp⟩ := hx
    simp only at hi hp
    simp only [go_sem]
    refine aD ?_
    refine cnd rfl (fun h => ?_) (fun h => ?_)
    ·simp only [decide_eq_true_eq, Int.ofNat_lt] at h
     have hq := lY hv i h
     have hq9 := mH hq
     have hwd := dF lN d h
     have hwq : eU d[i].fQuery ≤ lN d[i] := by unfold lN; omega
     have hML : M.length = d.length := hp.low.len
     have hiM : i < M.length := by omega
     have hB : ∀ j, lv M j ≤ 1000000 := fun j => by have := hp.low.small j; omega
     have ho1 := a4Z (dH d[i].fQuery false)
     have ho2 := a4Z (dH d[i].fQuery true)
     have ho3 := jO d[i].fQuery false d[i].fQuery.length
     have ho4 := jO d[i].fQuery true d[i].fQuery.length
     have hk1 : (gD (dH d[i].fQuery false)).length ≤ 4300000 := by unfold dH at ho1 ⊢; omega
     have hk2 : (gD (dH d[i].fQuery true)).length ≤ 4300000 := by unfold dH at ho2 ⊢; omega
     have hmx : mxI (abv d M 0 (gD (dH d[i].fQuery false)) 0 : Nat) (abv d M 1 (gD (dH d[i].fQuery true)) 0 : Nat) = ((gW d M d[i] : Nat) : Int) := by
      rw [b0M]; rfl
     have hg := uJ M i hiM
     have qH := aI @h @hmx; repeat' (with_reducible first | refine nY ?_ | (refine mX ?_; try simp only [go_sem, qH]) | refine kD ?_ | refine rD ?_ | refine cP (a8d d[i].fQuery hq (by omega)) ?_ | refine cP (a8e d[i].fQuery hq (by omega)) ?_ | refine vO (a5i d M (gD (dH d[i].fQuery false)) (by omega) hML hk1 hB) ?_ | refine vQ (a5i d M (gD (dH d[i].fQuery false)) (by omega) hML hk1 hB) ?_ | refine vO (a5j d M (gD (dH d[i].fQuery true)) (by omega) hML hk2 hB) ?_ | refine vQ (a5j d M (gD (dH d[i].fQuery true)) (by omega) hML hk2 hB) ?_ | refine aO ?_ | fail)
     refine cnd rfl (fun ho => ?_) (fun ho => ?_)
     ·simp only [decide_eq_true_eq, Int.ofNat_lt] at ho
      have hno := hp.low.over h ho
      have f1 := a6t hno
      have f2 := a8l hno
      refine aD ?_
      exact aA ⟨⟨_, rfl, by simp only [go_sem, e1, e2, f1, f2]⟩, by simp [cO]⟩
     ·simp only [decide_eq_false_iff_not, Int.ofNat_lt] at ho
      have q0 := @h; have q1 := @hiM; have q2 := @hg; refine jJ ?_
      refine cnd rfl (fun hgt => ?_) (fun hgt => ?_)
      ·simp only [decide_eq_true_eq, Int.ofNat_lt] at hgt
       have q0 := @h; have q1 := @hiM; have q2 := @hg; refine jJ ?_
       refine aF (i + 1, M.set i (gW d M d[i]), true) ?_ ?_ ?_
       ·simp only [go_sem, ← b3N]; simp
       ·exact ⟨by simp only; omega, hp.set h ho hgt⟩
       ·simp only; omega
      ·simp only [decide_eq_false_iff_not, Int.ofNat_lt] at hgt
       have q0 := @h; have q1 := @hiM; have q2 := @hg; refine jJ ?_
       refine aF (i + 1, M, c) ?_ ?_ ?_
       ·simp only [go_sem]; simp
       ·exact ⟨by simp only; omega, hp.keep h hgt⟩
       ·simp only; omega
    ·simp only [decide_eq_false_iff_not] at h
     have e : i = d.length := by omega
     subst e
     refine aD ?_
     refine aF (M, c) ?_ ?_ ?_
     ·simp only [go_sem]; simp
     ·exact ⟨hp.low, fun hc i hi => by
       simp only at hc
       obtain ⟨h1, h2⟩ := hp.no hc
       subst h1
       exact h2 i hi hi⟩
     ·have hs := hp.low.sum
      simp only
      cases c with
      | false => simp
      | true =>
       have := hp.yes rfl
       simp only [if_true]
       omega
  ·subst h
   have hL := hlow.done (hdone rfl)
   have f1 := a6s hL
   have f2 := xE hL.clo
   refine aD ?_
   exact aA ⟨⟨_, rfl, by simp only [go_sem, e1, e2, f1, f2]⟩, by simp [cO]⟩
theorem a8b (q : List TNode) (hq : okQ q = true) (hw : eU q ≤ 4300000) : FnC Tryz.prog 161 [.o (.d (.sl (q.map bN)))] (.o (.d (.sl ((putL (dH q false)).map iV)))) := (a9C q hq hw).pu (by simp only [go_sem, and_self])
theorem a8c (q : List TNode) (hq : okQ q = true) (hw : eU q ≤ 4300000) : FnC Tryz.prog 163 [.o (.d (.sl (q.map bN)))] (.o (.d (.sl ((putL (dH q true)).map iV)))) := (a8j q hq hw).pu (by simp only [go_sem, and_self])
theorem a1I (d : List TDir) (i w : Nat) (names : List ByteArray) (k : Nat) (h : k < names.length) : dX d i w (names.take (k + 1)) = dX d i w (names.take k) ++ (if 0 ≤ placeD d names[k] then [(i, (placeD d names[k]).toNat, w)] else []) := by
 unfold dX
 rw [List.take_succ_eq_append_getElem h, List.flatMap_append]
 simp
theorem pX (d : List TDir) (i w : Nat) (names : List ByteArray) : (dX d i w names).length ≤ names.length := by
 induction names with
 | nil => simp [dX]
 | cons x l ih =>
  have e : dX d i w (x :: l) = (if 0 ≤ placeD d x then [(i, (placeD d x).toNat, w)] else []) ++ dX d i w l := by simp [dX]
  rw [e, List.length_append, List.length_cons]
  split <;> simp <;> omega
theorem sK (d : List TDir) (i w : Nat) (hi : i < d.length) (hw : w ≤ 1) (names : List ByteArray) (x : Nat × Nat × Nat) (hx : x ∈ dX d i w names) : x.1 < d.length ∧ x.2.2 ≤ 1 := by
 obtain ⟨nm, _, k, _, rfl⟩ := (yU d i w names x).1 hx
 exact ⟨hi, hw⟩
def jG (d : List TDir) (k : Nat) : List (Nat × Nat × Nat) := (List.range k).flatMap (qY d)
theorem a1J (d : List TDir) (k : Nat) : jG d (k + 1) = jG d k ++ qY d k := by
 simp [jG, List.range_succ, List.flatMap_append]
theorem b2a (d : List TDir) (i : Nat) (h : i < d.length) : qY d i = dX d i 0 (putL (dH d[i].fQuery false)) ++ dX d i 1 (putL (dH d[i].fQuery true)) := by
 unfold qY; rw [List.getElem?_eq_getElem h]
theorem a9z (d : List TDir) (hv : dV d = true) (i : Nat) : (qY d i).length ≤ 18 := by
 unfold qY
 cases hx : d[i]? with
 | none => simp
 | some x =>
  have hi := (List.getElem?_eq_some_iff.1 hx).1
  have hxe : d[i] = x := (List.getElem?_eq_some_iff.1 hx).2
  have hq := (mH (lY hv i hi)).2
  rw [hxe] at hq
  have h1 := pX d i 0 (putL (dH x.fQuery false))
  have h2 := pX d i 1 (putL (dH x.fQuery true))
  have h3 := wI (dH x.fQuery false)
  have h4 := wI (dH x.fQuery true)
  have h5 : (dH x.fQuery false).length ≤ x.fQuery.length := jO _ _ _
  have h6 : (dH x.fQuery true).length ≤ x.fQuery.length := jO _ _ _
  simp only [List.length_append]
  omega
theorem a3D (d : List TDir) (hv : dV d = true) (k : Nat) : (jG d k).length ≤ 18 * k := by
 induction k with
 | zero => simp [jG]
 | succ k ih => rw [a1J, List.length_append]; have := a9z d hv k; omega
theorem a5h (d : List TDir) (k : Nat) (x : Nat × Nat × Nat) (hx : x ∈ jG d k) : x.1 < d.length ∧ x.2.2 ≤ 1 := by
 unfold jG at hx
 obtain ⟨i, _, h⟩ := List.mem_flatMap.1 hx
 unfold qY at h
 cases hd : d[i]? with
 | none => rw [hd] at h; simp at h
 | some y =>
  rw [hd] at h
  have hi := (List.getElem?_eq_some_iff.1 hd).1
  simp only [List.mem_append] at h
  rcases h with h | h
  ·exact sK d i 0 hi (by omega) _ x h
  ·exact sK d i 1 hi (by omega) _ x h
theorem b0L {i p w : Nat} {L : List Nat} (h : lv L p + w > lv L i) : up1 i p w L = L.set i (lv L p + w) := by unfold up1; rw [if_pos h]
theorem b3M {i p w : Nat} {L : List Nat} (h : ¬ lv L p + w > lv L i) : up1 i p w L = L := by unfold up1; rw [if_neg h]
theorem a3E (d : List TDir) (L : List Nat) (hv : dV d = true) (hd : gN d ≤ 4300000) (hL : L.length = d.length) (hB : ∀ j, lv L j ≤ 1000000) : FnC Tryz.prog 149 [.o (.d (.sl (d.map bY))), .o (.d (.sl (L.map sM)))] (.o (.w 3 1 ((ups (gH d) L).map sM))) := by
 have hd0 : d.length + bG lN d ≤ 4300000 := hd
 have hl5 := kE hv
 refine ent Tryz.func149 rfl Tryz.call149 rfl (fun C => ?_); simp only [go_sem, st0, Tryz.ntmps149]
 refine aD ?_
 refine aY (α := Nat) (fun i => [(5, .o (.s 0)), (13, .o .u), (15, .o .u), (6, oi i)]) (fun i => [(0, .row 3 1 ((ups (jG d i) L).map sM) true)]) (fun i => i ≤ d.length) (fun i => d.length - i) 0 (fun _ => ?_) ?_ ?_ (fun i hi => ?_)
 ·simp only [go_sem]
 ·simp only [go_sem]; simp [jG, ups]
 ·simp
 ·simp only [go_sem]
  refine aD ?_
  refine cnd rfl (fun h => ?_) (fun h => ?_)
  ·simp only [decide_eq_true_eq, Int.ofNat_lt] at h
   have hq := lY hv i h
   have hwd := dF lN d h
   have hwq : eU d[i].fQuery ≤ lN d[i] := by unfold lN; omega
   have hsuc := a1J d i
   rw [b2a d i h] at hsuc
   have hML : (ups (jG d i) L).length = d.length := by rw [xF]; exact hL
   have hMB := oI (jG d i) L 1000000 (fun x hx => by rw [hL]; exact a5h d i x hx) hB
   have hKl := a3D d hv i
   have hfin : ups (jG d (i + 1)) L = ups (dX d i 1 (putL (dH d[i].fQuery true))) (ups (dX d i 0 (putL (dH d[i].fQuery false))) (ups (jG d i) L)) := by
    rw [hsuc, a2z, a2z]
   have hn1 := wI (dH d[i].fQuery false)
   have hn2 := wI (dH d[i].fQuery true)
   have hn3 : (dH d[i].fQuery false).length ≤ d[i].fQuery.length := jO _ _ _
   have hn4 : (dH d[i].fQuery true).length ≤ d[i].fQuery.length := jO _ _ _
   have hq9 := mH hq
   have hMB2 : ∀ j, lv (ups (jG d i) L) j ≤ 1000200 := fun j => by have := hMB j; omega
   generalize ups (jG d i) L = M at *
   have q0 := @h; refine lF (a8b d[i].fQuery hq (by omega)) ?_
   generalize putL (dH d[i].fQuery false) = P at *
   refine aY (α := Nat) (fun k => [(8, oi k)]) (fun k => [(0, .row 3 1 ((ups (dX d i 0 (P.take k)) M).map sM) true)]) (fun k => k ≤ P.length) (fun k => P.length - k) 0 (fun _ => ?_) ?_ ?_ (fun k hk => ?_)
   ·simp only [go_sem]
   ·simp only [go_sem]; simp [dX, ups]
   ·simp
   ·simp only [go_sem]
    refine aD ?_
    refine cnd rfl (fun h1 => ?_) (fun h1 => ?_)
    ·simp only [decide_eq_true_eq, Int.ofNat_lt] at h1
     have ht := a1I d i 0 P k h1
     have hXL : (ups (dX d i 0 (P.take k)) M).length = d.length := by rw [xF]; exact hML
     have hXB := oI (dX d i 0 (P.take k)) M 1000200 (fun x hx => by rw [hML]; exact sK d i 0 h (by omega) _ x hx) hMB2
     have hel := pX d i 0 (P.take k)
     rw [List.length_take] at hel
     have hup : ups (dX d i 0 (P.take (k + 1))) M = ups (if 0 ≤ placeD d P[k] then [(i, (placeD d P[k]).toNat, 0)] else []) (ups (dX d i 0 (P.take k)) M) := by rw [ht, a2z]
     generalize ups (dX d i 0 (P.take k)) M = X at *
     have hiX : i < X.length := by omega
     have hg := uJ X i hiX
     rcases placeD_cases d P[k] with hp | ⟨p, hp, hpl⟩
     ·rw [if_neg (by omega)] at hup
      have q0 := @h1; have q1 := @hp; have q2 := @decide_true; have q3 := @decide_false; refine a2X (kN d P[k] (by omega)) ?_
      refine aF (k + 1) ?_ ?_ ?_
      ·simp only [go_sem, hup, ups]; simp
      ·omega
      ·omega
     ·have hpX : p < X.length := by omega
      have hge : (0 : Int) ≤ (p : Int) := by omega
      have hgp := uJ X p hpX
      rw [if_pos (by omega), hp, Int.toNat_natCast] at hup
      simp only [ups] at hup
      by_cases hc : lv X p > lv X i
      ·have hcI : ((lv X i : Nat) : Int) < ((lv X p : Nat) : Int) := by omega
       rw [b0L (by omega), Nat.add_zero] at hup
       have qH := aI @h1 (aI @hp (aI @hge (aI @hpX (aI @hiX (aI @hg (aI @hgp (aI @hcI (aI @decide_true (aI @decide_false @Int.toNat_natCast))))))))); repeat' (with_reducible first | refine nY ?_ | (refine mX ?_; try simp only [go_sem, qH]) | refine kD ?_ | refine rD ?_ | refine cP (kN d P[k] (by omega)) ?_ | refine aO ?_ | fail)
       refine aF (k + 1) ?_ ?_ ?_
       ·simp only [go_sem, hup, ← b3N]; simp
       ·omega
       ·omega
      ·have hcI : ¬ ((lv X i : Nat) : Int) < ((lv X p : Nat) : Int) := by omega
       rw [b3M (by omega)] at hup
       have qH := aI @h1 (aI @hp (aI @hge (aI @hpX (aI @hiX (aI @hg (aI @hgp (aI @hcI (aI @decide_true (aI @decide_false @Int.toNat_natCast))))))))); repeat' (with_reducible first | refine nY ?_ | (refine mX ?_; try simp only [go_sem, qH]) | refine kD ?_ | refine rD ?_ | refine cP (kN d P[k] (by omega)) ?_ | refine aO ?_ | fail)
       refine aF (k + 1) ?_ ?_ ?_
       ·simp only [go_sem, hup]; simp
       ·omega
       ·omega
    ·simp only [decide_eq_false_iff_not] at h1
     have e : k = P.length := by omega
     subst e
     rw [List.take_length]
     have hXL : (ups (dX d i 0 P) M).length = d.length := by rw [xF]; exact hML
     have hXB := oI (dX d i 0 P) M 1000200 (fun x hx => by rw [hML]; exact sK d i 0 h (by omega) _ x hx) hMB2
     have hel := pX d i 0 P
     have hXB2 : ∀ j, lv (ups (dX d i 0 P) M) j ≤ 1000400 := fun j => by have := hXB j; omega
     generalize ups (dX d i 0 P) M = Y at *
     have q0 := @h; refine lF (a8c d[i].fQuery hq (by omega)) ?_
     generalize putL (dH d[i].fQuery true) = N at *
     refine aY (α := Nat) (fun k => [(11, oi k)]) (fun k => [(0, .row 3 1 ((ups (dX d i 1 (N.take k)) Y).map sM) true)]) (fun k => k ≤ N.length) (fun k => N.length - k) 0 (fun _ => ?_) ?_ ?_ (fun k hk => ?_)
     ·simp only [go_sem]
     ·simp only [go_sem]; simp [dX, ups]
     ·simp
     ·simp only [go_sem]
      refine aD ?_
      refine cnd rfl (fun h1 => ?_) (fun h1 => ?_)
      ·simp only [decide_eq_true_eq, Int.ofNat_lt] at h1
       have ht := a1I d i 1 N k h1
       have hZL : (ups (dX d i 1 (N.take k)) Y).length = d.length := by rw [xF]; exact hXL
       have hZB := oI (dX d i 1 (N.take k)) Y 1000400 (fun x hx => by rw [hXL]; exact sK d i 1 h (by omega) _ x hx) hXB2
       have hel := pX d i 1 (N.take k)
       rw [List.length_take] at hel
       have hup : ups (dX d i 1 (N.take (k + 1))) Y = ups (if 0 ≤ placeD d N[k] then [(i, (placeD d N[k]).toNat, 1)] else []) (ups (dX d i 1 (N.take k)) Y) := by rw [ht, a2z]
       generalize ups (dX d i 1 (N.take k)) Y = X at *
       have hiX : i < X.length := by omega
       have hg := uJ X i hiX
       rcases placeD_cases d N[k] with hp | ⟨p, hp, hpl⟩
       ·rw [if_neg (by omega)] at hup
        have q0 := @h1; have q1 := @hp; have q2 := @decide_true; have q3 := @decide_false; refine a2X (kN d N[k] (by omega)) ?_
        refine aF (k + 1) ?_ ?_ ?_
        ·simp only [go_sem, hup, ups]; simp
        ·omega
        ·omega
       ·have hpX : p < X.length := by omega
        have hge : (0 : Int) ≤ (p : Int) := by omega
        have hgp := uJ X p hpX
        have hbp := hZB p
        have hs1 : ((lv X p : Nat) : Int) + 1 = ((lv X p + 1 : Nat) : Int) := by omega
        rw [if_pos (by omega), hp, Int.toNat_natCast] at hup
        simp only [ups] at hup
        by_cases hc : lv X p + 1 > lv X i
        ·have hcI : ((lv X i : Nat) : Int) < ((lv X p + 1 : Nat) : Int) := by omega
         rw [b0L hc] at hup
         have qH := aI @h1 (aI @hp (aI @hge (aI @hpX (aI @hiX (aI @hg (aI @hgp (aI @hs1 (aI @hcI (aI @decide_true (aI @decide_false @Int.toNat_natCast)))))))))); repeat' (with_reducible first | refine nY ?_ | (refine mX ?_; try simp only [go_sem, qH]) | refine kD ?_ | refine rD ?_ | refine cP (kN d N[k] (by omega)) ?_ | refine aO ?_ | fail)
         refine aF (k + 1) ?_ ?_ ?_
         ·simp only [go_sem, hup, ← b3N]; simp
         ·omega
         ·omega
        ·have hcI : ¬ ((lv X i : Nat) : Int) < ((lv X p + 1 : Nat) : Int) := by omega
         rw [b3M hc] at hup
         have qH := aI @h1 (aI @hp (aI @hge (aI @hpX (aI @hiX (aI @hg (aI @hgp (aI @hs1 (aI @hcI (aI @decide_true (aI @decide_false @Int.toNat_natCast)))))))))); repeat' (with_reducible first | refine nY ?_ | (refine mX ?_; try simp only [go_sem, qH]) | refine kD ?_ | refine rD ?_ | refine cP (kN d N[k] (by omega)) ?_ | refine aO ?_ | fail)
         refine aF (k + 1) ?_ ?_ ?_
         ·simp only [go_sem, hup]; simp
         ·omega
         ·omega
      ·simp only [decide_eq_false_iff_not] at h1
       have e : k = N.length := by omega
       subst e
       rw [List.take_length]
       refine aD ?_
       refine aF (i + 1) ?_ ?_ ?_
       ·simp only [go_sem, hfin]; simp
       ·omega
       ·omega
  ·simp only [decide_eq_false_iff_not] at h
   have e : i = d.length := by omega
   subst e
   refine aD ?_
   exact aA ⟨⟨_, rfl, by simp only [go_sem, jG, gH]⟩, trivial⟩
theorem a6q (A B : List Nat) (k : Nat) (hA : k < A.length) (hB : k < B.length) (h : A.take k = B.take k) (e : A[k] = B[k]) : A.take (k + 1) = B.take (k + 1) := by
 rw [List.take_succ_eq_append_getElem hA, List.take_succ_eq_append_getElem hB, h, e]
theorem b0K (A B : List Nat) (hA : A.length ≤ 4300000) (hB : B.length ≤ 4300000) : FnC Tryz.prog 136 [.o (.d (.sl (A.map sM))), .o (.d (.sl (B.map sM)))] (ob (decide (A = B))) := by
 refine ent Tryz.func136 rfl Tryz.call136 rfl (fun C => ?_); simp only [go_sem, st0, Tryz.ntmps136]
 by_cases hl : A.length = B.length
 ·have hli : ((A.length : Nat) : Int) = ((B.length : Nat) : Int) := by omega
  have q0 := @hli; have q1 := @decide_true; refine gG ?_
  refine aY (α := Nat) (fun k => [(5, oi k)]) (fun _ => []) (fun k => k ≤ A.length ∧ A.take k = B.take k) (fun k => A.length - k) 0 (fun _ => ?_) ?_ ?_ (fun k hk => ?_)
  ·simp only [go_sem]
  ·simp only [go_sem]; simp
  ·simp
  ·obtain ⟨hk, hq⟩ := hk
   simp only [go_sem]
   refine aD ?_
   refine cnd rfl (fun h => ?_) (fun h => ?_)
   ·simp only [decide_eq_true_eq, Int.ofNat_lt] at h
    have h2 : k < B.length := by omega
    by_cases he : A[k] = B[k]
    ·have hei : ((A[k] : Nat) : Int) = ((B[k] : Nat) : Int) := by omega
     have q0 := @h; have q1 := @h2; have q2 := @hei; have q3 := @decide_true; refine jW ?_
     refine aF (k + 1) ?_ ?_ ?_
     ·simp only [go_sem]; simp
     ·exact ⟨by omega, a6q A B k h h2 hq he⟩
     ·omega
    ·have hei : ¬ ((A[k] : Nat) : Int) = ((B[k] : Nat) : Int) := by omega
     have hne : decide (A = B) = false := decide_eq_false fun e => he (by subst e; rfl)
     have q0 := @h; have q1 := @h2; have q2 := @hei; have q3 := @decide_false; refine jW ?_
     exact aA ⟨⟨_, rfl, by simp only [go_sem, hne]⟩, trivial⟩
   ·simp only [decide_eq_false_iff_not] at h
    have e : k = A.length := by omega
    subst e
    rw [List.take_length, hl, List.take_length] at hq
    have hy : decide (A = B) = true := decide_eq_true hq
    refine aD ?_
    exact aA ⟨⟨_, rfl, by simp only [go_sem, hy]⟩, trivial⟩
 ·have hli : ¬ ((A.length : Nat) : Int) = ((B.length : Nat) : Int) := by omega
  have hne : decide (A = B) = false := decide_eq_false fun e => hl (by rw [e])
  have q0 := @hli; have q1 := @decide_false; refine gG ?_
  exact aA ⟨⟨_, rfl, by simp only [go_sem, hne]⟩, trivial⟩
theorem jX (d : List TDir) (hd : gN d ≤ 4300000) : FnC Tryz.prog 133 [.o (.d (.sl (d.map bY)))] (.t [(false, [.d (.sl ((resL d).map sM))]), (false, [.d (bv (mP d))])]) := by
 have hd0 : d.length + bG lN d ≤ 4300000 := hd
 refine ent Tryz.func133 rfl Tryz.call133 rfl (fun C => ?_); simp only [go_sem, st0, Tryz.ntmps133]
 cases hv : dV d
 ·have e1 : resL d = [] := by simp [resL, hv]
  have e2 : mP d = false := by simp [mP, hv]
  have q0 := @hv; refine lF (a0o d hd) ?_
  refine nP (Sees.frz 0 rfl) ?_
  simp only [go_sem]
  exact aA ⟨⟨_, rfl, by simp only [go_sem, e1, e2, List.map_nil]⟩, by simp [cO]⟩
 have e1 : resL d = a9G d.length (EE d) := by simp [resL, hv]
 have e2 : mP d = a1M d.length (EE d) := by simp [mP, hv]
 have hl5 := kE hv
 have hsq : d.length * d.length ≤ 25 := Nat.mul_le_mul hl5 hl5
 have hmul : ((d.length : Nat) : Int) * ((d.length : Nat) : Int) = ((d.length * d.length : Nat) : Int) := by rw [Int.natCast_mul]
 have hends := a5l (wL d) (gH d) (fun x => Iff.rfl) (d.length * d.length + 2) (by omega)
 have hEl := a3D d hv d.length
 have hEok : ∀ x ∈ gH d, x.1 < (List.replicate d.length 0).length ∧ x.2.2 ≤ 1 := fun x hx => by rw [List.length_replicate]; exact a5h d d.length x hx
 have hEl2 : (gH d).length ≤ 90 := by have : gH d = jG d d.length := rfl; rw [this]; omega
 have hbd := a3J (gH d) (List.replicate d.length 0) hEok (fun j => a6u _ j)
 have hlen : ∀ r, (upsN (gH d) r (List.replicate d.length 0)).length = d.length := fun r => by rw [a3I]; simp
 generalize hN2 : d.length * d.length = N2 at *
 have hB : ∀ r, r ≤ N2 + 2 → ∀ j, lv (upsN (gH d) r (List.replicate d.length 0)) j ≤ 1000000 := fun r hr j => by
  have h1 := hbd r j
  have h2 : r * (gH d).length ≤ 27 * 90 := Nat.mul_le_mul (by omega) hEl2
  omega
 have q0 := @hv; refine lF (a0o d hd) ?_
 refine aY (α := Nat) (fun r => [(4, .o (.s 0)), (12, .o .u), (5, oi r)]) (fun r => [(0, .row 3 1 ((upsN (gH d) r (List.replicate d.length 0)).map sM) true)]) (fun r => r ≤ N2 + 2) (fun r => N2 + 2 - r) 0 (fun _ => ?_) ?_ ?_ (fun r hr => ?_)
 ·simp only [go_sem]
 ·simp only [go_sem]; simp [upsN, sM]
 ·simp
 ·simp only [go_sem]
  have q0 := @hmul; refine fF ?_
  refine cnd rfl (fun h => ?_) (fun h => ?_)
  ·simp only [decide_eq_true_eq] at h
   refine iE (a3E d (upsN (gH d) r (List.replicate d.length 0)) hv hd (hlen r) (hB r hr)) ?_
   refine nE [(0, 1)] (r + 1) (by simp only [go_sem]; rfl) ?_ ?_ ?_
   ·simp only [go_sem, upsN]; simp
   ·omega
   ·omega
  ·simp only [decide_eq_false_iff_not] at h
   have e : r = N2 + 2 := by omega
   subst e
   have hLl := hlen (N2 + 2)
   have hLB := hB (N2 + 2) (by omega)
   simp only at hends
   generalize upsN (gH d) (N2 + 2) (List.replicate d.length 0) = L at *
   have hUl : (ups (gH d) L).length = d.length := by rw [xF]; exact hLl
   by_cases hs : ups (gH d) L = L
   ·rw [if_pos hs] at hends
    have f1 := a6s hends
    have f2 := xE hends.clo
    have hy : decide (ups (gH d) L = L) = true := decide_eq_true hs
    have q0 := @hy; refine b2U (a3E d L hv hd hLl hLB) (b0K (ups (gH d) L) L (by omega) (by omega)) ?_
    exact aA ⟨⟨_, rfl, by simp only [go_sem, e1, e2, f1, f2]⟩, by simp [cO]⟩
   ·rw [if_neg hs] at hends
    have f1 := a6t hends
    have f2 := a8l hends
    have hy : decide (ups (gH d) L = L) = false := decide_eq_false hs
    have q0 := @hy; refine b2U (a3E d L hv hd hLl hLB) (b0K (ups (gH d) L) L (by omega) (by omega)) ?_
    refine nP (Sees.frz 2 rfl) ?_
    simp only [go_sem]
    exact aA ⟨⟨_, rfl, by simp only [go_sem, e1, e2, f1, f2, List.map_nil]⟩, by simp [cO]⟩
theorem a0t (d : List TDir) (hd : gN d ≤ 4300000) : FnC Tryz.prog 125 [.o (.d (.sl (d.map bY)))] (ob (mP d)) := by
 refine ent Tryz.func125 rfl Tryz.call125 rfl (fun C => ?_); simp only [go_sem, st0, Tryz.ntmps125]
 refine iE (jX d hd) ?_
 exact aA ⟨⟨_, rfl, by simp only [go_sem]⟩, trivial⟩
end Go.Proofs.YtakopfjdmmnjcaaGreatDoor
end
