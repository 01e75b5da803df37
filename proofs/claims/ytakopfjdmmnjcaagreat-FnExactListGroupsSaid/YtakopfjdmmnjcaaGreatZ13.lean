/- Joined texts. -/
import Derived.Test.YtakopfjdmmnjcaaGreatZ12
import Derived.Test.YtakopfjdmmnjcaaGreatZ10
import Derived.Test.YtakopfjdmmnjcaaGreatZ11
import Derived.Test.YtakopfjdmmnjcaaGreatZ07
set_option linter.all false
section
set_option maxRecDepth 100000
set_option maxHeartbeats 4000000
namespace Go.Proofs.YtakopfjdmmnjcaaGreat
def placeD (d : List TDir) (nm : ByteArray) : Int := idxP (fun x => decide (x.fName = nm)) d 0
theorem placeD_cases (d : List TDir) (nm : ByteArray) : placeD d nm = -1 ∨ ∃ k : Nat, placeD d nm = (k : Int) ∧ k < d.length := by
 unfold placeD
 rcases idxP_fst (fun x => decide (x.fName = nm)) d 0 with ⟨_, h, _⟩ | ⟨h, hl⟩
 ·exact .inl h
 ·exact .inr ⟨_, by rw [h]; simp, hl⟩
def dH (d : List TDir) (i w : Nat) (names : List ByteArray) : List (Nat × Nat × Nat) := names.flatMap fun nm => if 0 ≤ placeD d nm then [(i, (placeD d nm).toNat, w)] else []
theorem wO (d : List TDir) (i w : Nat) (names : List ByteArray) (x : Nat × Nat × Nat) : x ∈ dH d i w names ↔ ∃ nm ∈ names, ∃ k : Nat, placeD d nm = (k : Int) ∧ x = (i, k, w) := by
 unfold dH
 simp only [List.mem_flatMap]
 constructor
 ·rintro ⟨nm, h1, h2⟩
  split at h2
  ·rename_i hp
   refine ⟨nm, h1, (placeD d nm).toNat, by omega, by simpa using h2⟩
  ·simp at h2
 ·rintro ⟨nm, h1, k, h2, rfl⟩
  refine ⟨nm, h1, ?_⟩
  rw [if_pos (by omega), h2]; simp
def oP (d : List TDir) (i : Nat) : List (Nat × Nat × Nat) := match d[i]? with
 | none => []
 | some x => dH d i 0 (putL (bY x.fQuery false)) ++ dH d i 1 (putL (bY x.fQuery true))
def fB (d : List TDir) : List (Nat × Nat × Nat) := (List.range d.length).flatMap (oP d)
def EE (d : List TDir) (i k w : Nat) : Prop := (i, k, w) ∈ fB d
theorem a2e (d : List TDir) (i k w : Nat) : EE d i k w ↔ ∃ x, d[i]? = some x ∧ ((w = 0 ∧ ∃ nm ∈ bY x.fQuery false, placeD d nm = (k : Int)) ∨ (w = 1 ∧ ∃ nm ∈ bY x.fQuery true, placeD d nm = (k : Int))) := by
 unfold EE fB
 simp only [List.mem_flatMap, List.mem_range]
 constructor
 ·rintro ⟨j, hj, h⟩
  unfold oP at h
  rw [List.getElem?_eq_getElem hj] at h
  simp only [List.mem_append, wO, nH] at h
  rcases h with ⟨nm, h1, k', h2, h3⟩ | ⟨nm, h1, k', h2, h3⟩
  ·cases h3; exact ⟨_, List.getElem?_eq_getElem hj, .inl ⟨rfl, nm, h1, h2⟩⟩
  ·cases h3; exact ⟨_, List.getElem?_eq_getElem hj, .inr ⟨rfl, nm, h1, h2⟩⟩
 ·rintro ⟨x, hx, h⟩
  refine ⟨i, (List.getElem?_eq_some_iff.1 hx).1, ?_⟩
  unfold oP
  rw [hx]
  simp only [List.mem_append, wO, nH]
  rcases h with ⟨rfl, nm, h1, h2⟩ | ⟨rfl, nm, h1, h2⟩
  ·exact .inl ⟨nm, h1, k, h2, rfl⟩
  ·exact .inr ⟨nm, h1, k, h2, rfl⟩
theorem tV (d : List TDir) : Edges d.length (EE d) := ⟨fun i k w h => by
 obtain ⟨x, hx, h⟩ := (a2e d i k w).1 h
 refine ⟨(List.getElem?_eq_some_iff.1 hx).1, ?_, by rcases h with ⟨rfl, _⟩ | ⟨rfl, _⟩ <;> omega⟩
 obtain ⟨nm, hp⟩ : ∃ nm, placeD d nm = (k : Int) := by rcases h with ⟨_, nm, _, h⟩ | ⟨_, nm, _, h⟩ <;> exact ⟨nm, h⟩
 rcases placeD_cases d nm with h | ⟨k', h, hl⟩ <;> omega⟩
def abv (d : List TDir) (L : List Nat) (w : Nat) : List ByteArray → Nat → Nat
 | [], m => m
 | nm :: r, m => abv d L w r (if 0 ≤ placeD d nm then (if lv L (placeD d nm).toNat + w > m then lv L (placeD d nm).toNat + w else m) else m)
theorem b1R (d : List TDir) (L : List Nat) (w : Nat) (l : List ByteArray) (k m : Nat) (h : k < l.length) : abv d L w (l.drop k) m = abv d L w (l.drop (k + 1)) (if 0 ≤ placeD d l[k] then (if lv L (placeD d l[k]).toNat + w > m then lv L (placeD d l[k]).toNat + w else m) else m) := by
 rw [List.drop_eq_getElem_cons h, abv]
theorem a7W (d : List TDir) (L : List Nat) (w c : Nat) : ∀ (l : List ByteArray) (m : Nat), abv d L w l m ≤ c ↔ m ≤ c ∧ ∀ nm ∈ l, ∀ k : Nat, placeD d nm = (k : Int) → lv L k + w ≤ c
 | [], m => by simp [abv]
 | nm :: r, m => by
  rw [abv, a7W d L w c r]
  constructor
  ·rintro ⟨h1, h2⟩
   refine ⟨?_, fun n hn k hk => ?_⟩
   ·split at h1
    ·split at h1 <;> omega
    ·exact h1
   ·rcases List.mem_cons.1 hn with rfl | hn
    ·have e : (placeD d n).toNat = k := by omega
     rw [if_pos (by omega), e] at h1
     split at h1 <;> omega
    ·exact h2 n hn k hk
  ·rintro ⟨h1, h2⟩
   refine ⟨?_, fun n hn k hk => h2 n (List.mem_cons_of_mem _ hn) k hk⟩
   split
   ·rename_i hp
    have := h2 nm (by simp) (placeD d nm).toNat (by omega)
    split <;> omega
   ·exact h1
def fK (d : List TDir) (L : List Nat) (x : TDir) : Nat := if abv d L 1 (eY (bY x.fQuery true)) 0 > abv d L 0 (eY (bY x.fQuery false)) 0 then abv d L 1 (eY (bY x.fQuery true)) 0 else abv d L 0 (eY (bY x.fQuery false)) 0
theorem a2f (d : List TDir) (L : List Nat) (i c : Nat) (h : i < d.length) : fK d L d[i] ≤ c ↔ ∀ k w, EE d i k w → lv L k + w ≤ c := by
 have h0 := a7W d L 0 c (eY (bY d[i].fQuery false)) 0
 have h1 := a7W d L 1 c (eY (bY d[i].fQuery true)) 0
 have hm : fK d L d[i] ≤ c ↔ abv d L 0 (eY (bY d[i].fQuery false)) 0 ≤ c ∧ abv d L 1 (eY (bY d[i].fQuery true)) 0 ≤ c := by
  unfold fK; split <;> omega
 rw [hm, h0, h1]
 constructor
 ·rintro ⟨⟨_, a⟩, ⟨_, b⟩⟩ k w he
  obtain ⟨x, hx, he⟩ := (a2e d i k w).1 he
  rw [List.getElem?_eq_getElem h] at hx
  cases hx
  rcases he with ⟨rfl, nm, q1, q2⟩ | ⟨rfl, nm, q1, q2⟩
  ·exact a nm ((pV _ _).2 q1) k q2
  ·exact b nm ((pV _ _).2 q1) k q2
 ·intro a
  exact ⟨⟨by omega, fun nm q k hk => a k 0 ((a2e d i k 0).2 ⟨d[i], List.getElem?_eq_getElem h, .inl ⟨rfl, nm, (pV _ _).1 q, hk⟩⟩)⟩,
   ⟨by omega, fun nm q k hk => a k 1 ((a2e d i k 1).2 ⟨d[i], List.getElem?_eq_getElem h, .inr ⟨rfl, nm, (pV _ _).1 q, hk⟩⟩)⟩⟩
structure Low (d : List TDir) (L : List Nat) : Prop where
 len : L.length = d.length
 clo : ∀ F, Clo d.length (EE d) F → ∀ j, lv L j ≤ lv F j
 small : ∀ j, lv L j ≤ d.length
theorem Low.start (d : List TDir) : Low d (List.replicate d.length 0) := ⟨by simp, fun F _ j => by rw [a4J]; omega, fun j => by rw [a4J]; omega⟩
theorem Low.least_le {d : List TDir} {L : List Nat} (h : Low d L) {i : Nat} (hi : i < d.length) {F : List Nat} (hF : Clo d.length (EE d) F) : fK d L d[i] ≤ lv F i :=
 (a2f d L i _ hi).2 fun k w he => by
  have h1 := hF.le i k w he
  have h2 := h.clo F hF k
  omega
theorem Low.over {d : List TDir} {L : List Nat} (h : Low d L) {i : Nat} (hi : i < d.length) (ho : fK d L d[i] > d.length) : ¬ ∃ F, Clo d.length (EE d) F := by
 rintro ⟨F, hF⟩
 obtain ⟨G, hG, hs⟩ := zS (tV d) hF
 have h1 := h.least_le hi hG
 have h2 := hs i hi
 omega
theorem Low.set {d : List TDir} {L : List Nat} (h : Low d L) {i : Nat} (hi : i < d.length) (ho : ¬ fK d L d[i] > d.length) : Low d (L.set i (fK d L d[i])) := by
 have hl : i < L.length := by rw [h.len]; exact hi
 refine ⟨by simp [h.len], fun F hF j => ?_, fun j => ?_⟩
 ·rw [a2j L i _ j hl]
  split
  ·rename_i e; subst e; exact h.least_le hi hF
  ·exact h.clo F hF j
 ·rw [a2j L i _ j hl]
  split
  ·omega
  ·exact h.small j
theorem Low.done {d : List TDir} {L : List Nat} (h : Low d L) (hc : ∀ i, (hi : i < d.length) → fK d L d[i] ≤ lv L i) : Least d.length (EE d) L :=
 ⟨⟨h.len, fun i k w he => (a2f d L i _ ((tV d).ok i k w he).1).1 (hc i _) k w he⟩, h.clo⟩
theorem Low.sum {d : List TDir} {L : List Nat} (h : Low d L) : rW L ≤ d.length * d.length := by
 have := a9a L d.length fun i _ => h.small i
 rwa [h.len] at this
end Go.Proofs.YtakopfjdmmnjcaaGreat
end
section
set_option maxRecDepth 100000
set_option maxHeartbeats 4000000
namespace Go.Proofs.YtakopfjdmmnjcaaGreat
open Go Go.Sx Go.RowKit Go.Proofs
@[go_sem] def pU (n : Nat) : List D := [iv (n : Int)]
theorem b0e (nm : ByteArray) (x : TDir) : FnC Tryz.prog 203 [a9T x, .o (.q [sv nm])] (ob (decide (x.fName = nm))) := by
 refine ent Tryz.func203 rfl Tryz.call203 rfl (fun C => ?_); simp only [go_sem, st0, Tryz.ntmps203]
 refine aD ?_
 exact aA ⟨⟨_, rfl, by simp only [go_sem]⟩, trivial⟩
theorem a6j (d : List TDir) (nm : ByteArray) (hl : d.length ≤ 4300000) : FnC Tryz.prog 196 [.o (.d (.sl (d.map bH))), os nm] (oi (placeD d nm)) := by
 refine ent Tryz.func196 rfl Tryz.call196 rfl (fun C => ?_); simp only [go_sem, st0, Tryz.ntmps196]
 refine iL (a0M _ _ (fun x => decide (x.fName = nm)) d (fun y _ => b0e nm y) (by omega)) ?_
 exact aA ⟨⟨_, rfl, by simp only [go_sem, placeD]⟩, trivial⟩
theorem jN (d : List TDir) (nm : ByteArray) (hl : d.length ≤ 4300000) : FnC Tryz.prog 165 [.o (.d (.sl (d.map bH))), os nm] (oi (placeD d nm)) := by
 refine ent Tryz.func165 rfl Tryz.call165 rfl (fun C => ?_); simp only [go_sem, st0, Tryz.ntmps165]
 refine aD ?_
 refine aM (α := Nat) (fun k => [(5, oi k)]) (fun _ => []) (fun k => k ≤ d.length ∧ placeD d nm = idxP (fun x => decide (x.fName = nm)) (d.drop k) k) (fun k => d.length - k) 0 (fun _ => ?_) ?_ ?_ (fun k hk => ?_)
 ·simp only [go_sem]
 ·simp only [go_sem]; simp
 ·simp [placeD]
 ·obtain ⟨hk, hq⟩ := hk
  simp only [go_sem]
  refine aD ?_
  refine cnd rfl (fun h => ?_) (fun h => ?_)
  ·simp only [decide_eq_true_eq, Int.ofNat_lt] at h
   have hd := List.drop_eq_getElem_cons h
   rw [hd, idxP] at hq
   by_cases h2 : d[k].fName = nm
   ·rw [if_pos (by simp [h2])] at hq
    have q0 := @h; have q1 := @h2; have q2 := @decide_true; refine lI ?_
    exact aA ⟨⟨_, rfl, by simp only [go_sem, hq]⟩, trivial⟩
   ·rw [if_neg (by simp [h2])] at hq
    have q0 := @h; have q1 := @h2; have q2 := @decide_false; refine lI ?_
    refine aF (k + 1) ?_ ?_ ?_
    ·simp only [go_sem]; simp
    ·rw [hq]; exact ⟨h, by simp⟩
    ·omega
  ·simp only [decide_eq_false_iff_not] at h
   have e : k = d.length := by omega
   subst e
   simp only [List.drop_length, idxP] at hq
   refine aD ?_
   exact aA ⟨⟨_, rfl, by simp only [go_sem, hq]⟩, trivial⟩
theorem rV (L : List Nat) (i : Nat) (h : i < L.length) : L[i] = lv L i := by simp [lv, List.getD_eq_getElem?_getD, h]
def mxN (a b : Nat) : Nat := if b > a then b else a
theorem a8U (a b : Nat) : mxI (a : Int) (b : Int) = ((mxN a b : Nat) : Int) := by
 unfold mxI mxN
 split <;> split <;> omega
theorem a6k (d : List TDir) (L : List Nat) (w : Nat) (names : List ByteArray) (hd : d.length ≤ 4300000) (hL : L.length = d.length) (hn : names.length ≤ 4300000) (hB : ∀ j, lv L j ≤ 1000000) (hw : w ≤ 1) : FnC Tryz.prog 185 [.o (.d (.sl (d.map bH))), .o (.d (.sl (L.map pU))), .o (.d (.sl (names.map gW))), oi (w : Nat)] (oi (abv d L w names 0 : Nat)) := by
 refine ent Tryz.func185 rfl Tryz.call185 rfl (fun C => ?_); simp only [go_sem, st0, Tryz.ntmps185]
 refine aD ?_
 refine aM (α := Nat × Nat) (fun x => [(9, oi (x.2 : Nat)), (15, oi x.1)]) (fun _ => []) (fun x => x.1 ≤ names.length ∧ abv d L w names 0 = abv d L w (names.drop x.1) x.2 ∧ x.2 ≤ 1000001) (fun x => names.length - x.1) (0, 0) (fun _ => ?_) ?_ ?_ (fun x hx => ?_)
 ·simp only [go_sem]
 ·simp only [go_sem]; simp
 ·simp
 ·obtain ⟨k, m⟩ := x
  obtain ⟨hk, hq, hm⟩ := hx
  simp only at hk hq hm
  simp only [go_sem]
  refine aD ?_
  refine cnd rfl (fun h => ?_) (fun h => ?_)
  ·simp only [decide_eq_true_eq, Int.ofNat_lt] at h
   rw [b1R d L w names k m h] at hq
   rcases placeD_cases d names[k] with hp | ⟨p, hp, hpl⟩
   ·rw [if_neg (by omega)] at hq
    have q0 := @h; have q1 := @hp; have q2 := @decide_true; have q3 := @decide_false; refine a2y (a6j d names[k] hd) ?_
    refine aF (k + 1, m) ?_ ?_ ?_
    ·simp only [go_sem]; simp
    ·exact ⟨by simp only; omega, hq, hm⟩
    ·simp only; omega
   ·have hpL : p < L.length := by omega
    have hb := hB p
    have hg := rV L p hpL
    have hge : (0 : Int) ≤ (p : Int) := by omega
    have hs : ((lv L p : Nat) : Int) + (w : Int) = ((lv L p + w : Nat) : Int) := by omega
    have hmx := a8U m (lv L p + w)
    rw [if_pos (by omega), hp, Int.toNat_natCast] at hq
    have q0 := @h; have q1 := @hp; have q2 := @hge; have q3 := @hpL; have q4 := @hg; have q5 := @hs; have q6 := @hmx; have q7 := @decide_true; have q8 := @decide_false; have q9 := @Int.toNat_natCast; refine a8B (a6j d names[k] hd) ?_
    refine aF (k + 1, mxN m (lv L p + w)) ?_ ?_ ?_
    ·simp only [go_sem]; simp
    ·exact ⟨by simp only; omega, hq, by simp only [mxN]; split <;> omega⟩
    ·simp only; omega
  ·simp only [decide_eq_false_iff_not] at h
   have e : k = names.length := by omega
   subst e
   rw [List.drop_length, abv] at hq
   refine aD ?_
   exact aA ⟨⟨_, rfl, by simp only [go_sem, hq]⟩, trivial⟩
theorem kR {d : List TDir} (h : dF d = true) (i : Nat) (hi : i < d.length) : okQ d[i].fQuery = true := by
 unfold dF at h
 simp only [Bool.and_eq_true, List.all_eq_true, List.mem_range] at h
 have := h.1 i hi
 unfold iM at this
 rw [List.getElem?_eq_getElem hi] at this
 simp only [Bool.and_eq_true] at this
 exact this.2.2
theorem jH {d : List TDir} (h : dF d = true) : d.length ≤ 5 := by
 unfold dF at h
 simp only [Bool.and_eq_true, decide_eq_true_eq] at h
 omega
theorem a6h (q : List TNode) (hq : okQ q = true) (hw : bW q ≤ 4300000) : FnC Tryz.prog 186 [.o (.d (.sl (q.map bD)))] (.o (.d (.sl ((eY (bY q false)).map gW)))) := (a7X q hq hw).pu (by simp only [go_sem, and_self])
theorem a6i (q : List TNode) (hq : okQ q = true) (hw : bW q ≤ 4300000) : FnC Tryz.prog 187 [.o (.d (.sl (q.map bD)))] (.o (.d (.sl ((eY (bY q true)).map gW)))) := (a6m q hq hw).pu (by simp only [go_sem, and_self])
theorem a3B (d : List TDir) (L : List Nat) (names : List ByteArray) (hd : d.length ≤ 4300000) (hL : L.length = d.length) (hn : names.length ≤ 4300000) (hB : ∀ j, lv L j ≤ 1000000) : FnC Tryz.prog 185 [.o (.d (.sl (d.map bH))), .o (.d (.sl (L.map pU))), .o (.d (.sl (names.map gW))), oi 0] (oi (abv d L 0 names 0 : Nat)) := a6k d L 0 names hd hL hn hB (by omega)
theorem a3C (d : List TDir) (L : List Nat) (names : List ByteArray) (hd : d.length ≤ 4300000) (hL : L.length = d.length) (hn : names.length ≤ 4300000) (hB : ∀ j, lv L j ≤ 1000000) : FnC Tryz.prog 185 [.o (.d (.sl (d.map bH))), .o (.d (.sl (L.map pU))), .o (.d (.sl (names.map gW))), oi 1] (oi (abv d L 1 names 0 : Nat)) := a6k d L 1 names hd hL hn hB (by omega)
noncomputable def resL (d : List TDir) : List Nat := if dF d then a8c d.length (EE d) else []
noncomputable def rU (d : List TDir) : Bool := if dF d then a0z d.length (EE d) else false
theorem b1Q (L : List Nat) (i v : Nat) : (L.map pU).set i [D.v (Value.int .i64 (v : Int))] = (L.set i v).map pU := by rw [List.map_set]; rfl
structure Pass (d : List TDir) (L : List Nat) (i : Nat) (M : List Nat) (ch : Bool) : Prop where
 low : Low d M
 no : ch = false → M = L ∧ ∀ j, (hj : j < d.length) → j < i → fK d L d[j] ≤ lv L j
 yes : ch = true → rW L < rW M
theorem Pass.start {d : List TDir} {L : List Nat} (h : Low d L) : Pass d L 0 L false := ⟨h, fun _ => ⟨rfl, fun j _ hj => by omega⟩, fun h => by cases h⟩
theorem Pass.keep {d : List TDir} {L M : List Nat} {i : Nat} {ch : Bool} (h : Pass d L i M ch) (hi : i < d.length) (hle : ¬ fK d M d[i] > lv M i) : Pass d L (i + 1) M ch := by
 refine ⟨h.low, fun hc => ⟨(h.no hc).1, fun j hj hlt => ?_⟩, h.yes⟩
 by_cases e : j = i
 ·subst e
  have := (h.no hc).1
  subst this
  omega
 ·exact (h.no hc).2 j hj (by omega)
theorem Pass.set {d : List TDir} {L M : List Nat} {i : Nat} {ch : Bool} (h : Pass d L i M ch) (hi : i < d.length) (ho : ¬ fK d M d[i] > d.length) (hgt : fK d M d[i] > lv M i) : Pass d L (i + 1) (M.set i (fK d M d[i])) true := by
 have hl : i < M.length := by rw [h.low.len]; exact hi
 have hs := a6s M i (fK d M d[i]) hl
 refine ⟨h.low.set hi ho, fun hc => (by cases hc), fun _ => ?_⟩
 cases ch with
 | false =>
  have := (h.no rfl).1
  subst this
  omega
 | true =>
  have := h.yes rfl
  omega
theorem gU (d : List TDir) (hd : dM d ≤ 4300000) : FnC Tryz.prog 170 [.o (.d (.sl (d.map bH)))] (.t [(false, [.w 3 1 ((resL d).map pU)]), (false, [.d (bv (rU d))])]) := by
 have hd0 : d.length + wsum wDir d ≤ 4300000 := hd
 refine ent Tryz.func170 rfl Tryz.call170 rfl (fun C => ?_); simp only [go_sem, st0, Tryz.ntmps170]
 cases hv : dF d
 ·have e1 : resL d = [] := by simp [resL, hv]
  have e2 : rU d = false := by simp [rU, hv]
  have q0 := @hv; refine iU (xU d hd) ?_
  exact aA ⟨⟨_, rfl, by simp only [go_sem, e1, e2]⟩, by simp [dN]⟩
 have e1 : resL d = a8c d.length (EE d) := by simp [resL, hv]
 have e2 : rU d = a0z d.length (EE d) := by simp [rU, hv]
 have hl5 := jH hv
 have q0 := @hv; refine iU (xU d hd) ?_
 refine aM (α := List Nat × Bool) (fun x => [(5, ob x.2)]) (fun x => [(0, .row 3 1 (x.1.map pU) true)]) (fun x => Low d x.1 ∧ (x.2 = false → ∀ i, (hi : i < d.length) → fK d x.1 d[i] ≤ lv x.1 i)) (fun x => if x.2 then d.length * d.length - rW x.1 + 1 else 0) (List.replicate d.length 0, true) (fun _ => ?_) ?_ ?_ (fun x hx => ?_)
 ·simp only [go_sem]
 ·simp only [go_sem]; simp [pU]
 ·exact ⟨Low.start d, fun h => by cases h⟩
 ·obtain ⟨L, ch⟩ := x
  obtain ⟨hlow, hdone⟩ := hx
  simp only at hlow hdone
  simp only [go_sem]
  refine aD ?_
  refine cnd rfl (fun h => ?_) (fun h => ?_)
  ·subst h
   refine aD ?_
   refine aM (α := Nat × List Nat × Bool) (fun x => [(5, ob x.2.2), (18, oi x.1)]) (fun x => [(0, .row 3 1 (x.2.1.map pU) true)]) (fun x => x.1 ≤ d.length ∧ Pass d L x.1 x.2.1 x.2.2) (fun x => d.length - x.1) (0, L, false) (fun _ => ?_) ?_ ?_ (fun x hx => ?_)
   ·simp only [go_sem]
   ·simp only [go_sem]; simp
   ·exact ⟨by simp, Pass.start hlow⟩
   ·obtain ⟨i, M, c⟩ := x
    obtain ⟨hi, hp⟩ := hx
    simp only at hi hp
    simp only [go_sem]
    refine aD ?_
    refine cnd rfl (fun h => ?_) (fun h => ?_)
    ·simp only [decide_eq_true_eq, Int.ofNat_lt] at h
     have hq := kR hv i h
     have hq9 := kY hq
     have hwd := bB wDir d h
     have hwq : bW d[i].fQuery ≤ wDir d[i] := by unfold wDir; omega
     have hML : M.length = d.length := hp.low.len
     have hiM : i < M.length := by omega
     have hB : ∀ j, lv M j ≤ 1000000 := fun j => by have := hp.low.small j; omega
     have ho1 := a3D (bY d[i].fQuery false)
     have ho2 := a3D (bY d[i].fQuery true)
     have ho3 := iQ d[i].fQuery false d[i].fQuery.length
     have ho4 := iQ d[i].fQuery true d[i].fQuery.length
     have hk1 : (eY (bY d[i].fQuery false)).length ≤ 4300000 := by unfold bY at ho1 ⊢; omega
     have hk2 : (eY (bY d[i].fQuery true)).length ≤ 4300000 := by unfold bY at ho2 ⊢; omega
     have hmx : mxI (abv d M 0 (eY (bY d[i].fQuery false)) 0 : Nat) (abv d M 1 (eY (bY d[i].fQuery true)) 0 : Nat) = ((fK d M d[i] : Nat) : Int) := by
      rw [a8U]; rfl
     have hg := rV M i hiM
     have qH := aI @h @hmx; repeat' (with_reducible first | refine nY ?_ | (refine mX ?_; try simp only [go_sem, qH]) | refine kD ?_ | refine rD ?_ | refine cP (a6h d[i].fQuery hq (by omega)) ?_ | refine cP (a6i d[i].fQuery hq (by omega)) ?_ | refine vO (a3B d M (eY (bY d[i].fQuery false)) (by omega) hML hk1 hB) ?_ | refine vQ (a3B d M (eY (bY d[i].fQuery false)) (by omega) hML hk1 hB) ?_ | refine vO (a3C d M (eY (bY d[i].fQuery true)) (by omega) hML hk2 hB) ?_ | refine vQ (a3C d M (eY (bY d[i].fQuery true)) (by omega) hML hk2 hB) ?_ | refine aO ?_ | fail)
     refine cnd rfl (fun ho => ?_) (fun ho => ?_)
     ·simp only [decide_eq_true_eq, Int.ofNat_lt] at ho
      have hno := hp.low.over h ho
      have f1 := a4I hno
      have f2 := a6r hno
      refine aD ?_
      exact aA ⟨⟨_, rfl, by simp only [go_sem, e1, e2, f1, f2]⟩, by simp [dN]⟩
     ·simp only [decide_eq_false_iff_not, Int.ofNat_lt] at ho
      have q0 := @h; have q1 := @hiM; have q2 := @hg; refine lI ?_
      refine cnd rfl (fun hgt => ?_) (fun hgt => ?_)
      ·simp only [decide_eq_true_eq, Int.ofNat_lt] at hgt
       have q0 := @h; have q1 := @hiM; have q2 := @hg; refine lI ?_
       refine aF (i + 1, M.set i (fK d M d[i]), true) ?_ ?_ ?_
       ·simp only [go_sem, ← b1Q]; simp
       ·exact ⟨by simp only; omega, hp.set h ho hgt⟩
       ·simp only; omega
      ·simp only [decide_eq_false_iff_not, Int.ofNat_lt] at hgt
       have q0 := @h; have q1 := @hiM; have q2 := @hg; refine lI ?_
       refine aF (i + 1, M, c) ?_ ?_ ?_
       ·simp only [go_sem]; simp
       ·exact ⟨by simp only; omega, hp.keep h hgt⟩
       ·simp only; omega
    ·simp only [decide_eq_false_iff_not] at h
     have e : i = d.length := by omega
     subst e
     refine aD ?_
     refine aF (M, c) ?_ ?_ ?_
     ·simp only [go_sem]; simp
     ·exact ⟨hp.low, fun hc i hi => by
       simp only at hc
       obtain ⟨h1, h2⟩ := hp.no hc
       subst h1
       exact h2 i hi hi⟩
     ·have hs := hp.low.sum
      simp only
      cases c with
      | false => simp
      | true =>
       have := hp.yes rfl
       simp only [if_true]
       omega
  ·subst h
   have hL := hlow.done (hdone rfl)
   have f1 := a4H hL
   have f2 := zR hL.clo
   refine aD ?_
   exact aA ⟨⟨_, rfl, by simp only [go_sem, e1, e2, f1, f2]⟩, by simp [dN]⟩
theorem a6f (q : List TNode) (hq : okQ q = true) (hw : bW q ≤ 4300000) : FnC Tryz.prog 164 [.o (.d (.sl (q.map bD)))] (.o (.d (.sl ((putL (bY q false)).map gW)))) := (a7Y q hq hw).pu (by simp only [go_sem, and_self])
theorem a6g (q : List TNode) (hq : okQ q = true) (hw : bW q ≤ 4300000) : FnC Tryz.prog 166 [.o (.d (.sl (q.map bD)))] (.o (.d (.sl ((putL (bY q true)).map gW)))) := (a6n q hq hw).pu (by simp only [go_sem, and_self])
theorem a0v (d : List TDir) (i w : Nat) (names : List ByteArray) (k : Nat) (h : k < names.length) : dH d i w (names.take (k + 1)) = dH d i w (names.take k) ++ (if 0 ≤ placeD d names[k] then [(i, (placeD d names[k]).toNat, w)] else []) := by
 unfold dH
 rw [List.take_succ_eq_append_getElem h, List.flatMap_append]
 simp
theorem nG (d : List TDir) (i w : Nat) (names : List ByteArray) : (dH d i w names).length ≤ names.length := by
 induction names with
 | nil => simp [dH]
 | cons x l ih =>
  have e : dH d i w (x :: l) = (if 0 ≤ placeD d x then [(i, (placeD d x).toNat, w)] else []) ++ dH d i w l := by simp [dH]
  rw [e, List.length_append, List.length_cons]
  split <;> simp <;> omega
theorem pR (d : List TDir) (i w : Nat) (hi : i < d.length) (hw : w ≤ 1) (names : List ByteArray) (x : Nat × Nat × Nat) (hx : x ∈ dH d i w names) : x.1 < d.length ∧ x.2.2 ≤ 1 := by
 obtain ⟨nm, _, k, _, rfl⟩ := (wO d i w names x).1 hx
 exact ⟨hi, hw⟩
def iH (d : List TDir) (k : Nat) : List (Nat × Nat × Nat) := (List.range k).flatMap (oP d)
theorem a0w (d : List TDir) (k : Nat) : iH d (k + 1) = iH d k ++ oP d k := by
 simp [iH, List.range_succ, List.flatMap_append]
theorem b0d (d : List TDir) (i : Nat) (h : i < d.length) : oP d i = dH d i 0 (putL (bY d[i].fQuery false)) ++ dH d i 1 (putL (bY d[i].fQuery true)) := by
 unfold oP; rw [List.getElem?_eq_getElem h]
theorem a7V (d : List TDir) (hv : dF d = true) (i : Nat) : (oP d i).length ≤ 18 := by
 unfold oP
 cases hx : d[i]? with
 | none => simp
 | some x =>
  have hi := (List.getElem?_eq_some_iff.1 hx).1
  have hxe : d[i] = x := (List.getElem?_eq_some_iff.1 hx).2
  have hq := (kY (kR hv i hi)).2
  rw [hxe] at hq
  have h1 := nG d i 0 (putL (bY x.fQuery false))
  have h2 := nG d i 1 (putL (bY x.fQuery true))
  have h3 := tX (bY x.fQuery false)
  have h4 := tX (bY x.fQuery true)
  have h5 : (bY x.fQuery false).length ≤ x.fQuery.length := iQ _ _ _
  have h6 : (bY x.fQuery true).length ≤ x.fQuery.length := iQ _ _ _
  simp only [List.length_append]
  omega
theorem a2c (d : List TDir) (hv : dF d = true) (k : Nat) : (iH d k).length ≤ 18 * k := by
 induction k with
 | zero => simp [iH]
 | succ k ih => rw [a0w, List.length_append]; have := a7V d hv k; omega
theorem a3A (d : List TDir) (k : Nat) (x : Nat × Nat × Nat) (hx : x ∈ iH d k) : x.1 < d.length ∧ x.2.2 ≤ 1 := by
 unfold iH at hx
 obtain ⟨i, _, h⟩ := List.mem_flatMap.1 hx
 unfold oP at h
 cases hd : d[i]? with
 | none => rw [hd] at h; simp at h
 | some y =>
  rw [hd] at h
  have hi := (List.getElem?_eq_some_iff.1 hd).1
  simp only [List.mem_append] at h
  rcases h with h | h
  ·exact pR d i 0 hi (by omega) _ x h
  ·exact pR d i 1 hi (by omega) _ x h
theorem a8T {i p w : Nat} {L : List Nat} (h : lv L p + w > lv L i) : up1 i p w L = L.set i (lv L p + w) := by unfold up1; rw [if_pos h]
theorem b1P {i p w : Nat} {L : List Nat} (h : ¬ lv L p + w > lv L i) : up1 i p w L = L := by unfold up1; rw [if_neg h]
theorem a2d (d : List TDir) (L : List Nat) (hv : dF d = true) (hd : dM d ≤ 4300000) (hL : L.length = d.length) (hB : ∀ j, lv L j ≤ 1000000) : FnC Tryz.prog 143 [.o (.d (.sl (d.map bH))), .o (.d (.sl (L.map pU)))] (.o (.w 3 1 ((ups (fB d) L).map pU))) := by
 have hd0 : d.length + wsum wDir d ≤ 4300000 := hd
 have hl5 := jH hv
 refine ent Tryz.func143 rfl Tryz.call143 rfl (fun C => ?_); simp only [go_sem, st0, Tryz.ntmps143]
 refine aD ?_
 refine aM (α := Nat) (fun i => [(5, .o (.s 0)), (13, .o .u), (15, .o .u), (6, oi i)]) (fun i => [(0, .row 3 1 ((ups (iH d i) L).map pU) true)]) (fun i => i ≤ d.length) (fun i => d.length - i) 0 (fun _ => ?_) ?_ ?_ (fun i hi => ?_)
 ·simp only [go_sem]
 ·simp only [go_sem]; simp [iH, ups]
 ·simp
 ·simp only [go_sem]
  refine aD ?_
  refine cnd rfl (fun h => ?_) (fun h => ?_)
  ·simp only [decide_eq_true_eq, Int.ofNat_lt] at h
   have hq := kR hv i h
   have hwd := bB wDir d h
   have hwq : bW d[i].fQuery ≤ wDir d[i] := by unfold wDir; omega
   have hsuc := a0w d i
   rw [b0d d i h] at hsuc
   have hML : (ups (iH d i) L).length = d.length := by rw [uN]; exact hL
   have hMB := mF (iH d i) L 1000000 (fun x hx => by rw [hL]; exact a3A d i x hx) hB
   have hKl := a2c d hv i
   have hfin : ups (iH d (i + 1)) L = ups (dH d i 1 (putL (bY d[i].fQuery true))) (ups (dH d i 0 (putL (bY d[i].fQuery false))) (ups (iH d i) L)) := by
    rw [hsuc, a1e, a1e]
   have hn1 := tX (bY d[i].fQuery false)
   have hn2 := tX (bY d[i].fQuery true)
   have hn3 : (bY d[i].fQuery false).length ≤ d[i].fQuery.length := iQ _ _ _
   have hn4 : (bY d[i].fQuery true).length ≤ d[i].fQuery.length := iQ _ _ _
   have hq9 := kY hq
   have hMB2 : ∀ j, lv (ups (iH d i) L) j ≤ 1000200 := fun j => by have := hMB j; omega
   generalize ups (iH d i) L = M at *
   have q0 := @h; refine iU (a6f d[i].fQuery hq (by omega)) ?_
   generalize putL (bY d[i].fQuery false) = P at *
   refine aM (α := Nat) (fun k => [(8, oi k)]) (fun k => [(0, .row 3 1 ((ups (dH d i 0 (P.take k)) M).map pU) true)]) (fun k => k ≤ P.length) (fun k => P.length - k) 0 (fun _ => ?_) ?_ ?_ (fun k hk => ?_)
   ·simp only [go_sem]
   ·simp only [go_sem]; simp [dH, ups]
   ·simp
   ·simp only [go_sem]
    refine aD ?_
    refine cnd rfl (fun h1 => ?_) (fun h1 => ?_)
    ·simp only [decide_eq_true_eq, Int.ofNat_lt] at h1
     have ht := a0v d i 0 P k h1
     have hXL : (ups (dH d i 0 (P.take k)) M).length = d.length := by rw [uN]; exact hML
     have hXB := mF (dH d i 0 (P.take k)) M 1000200 (fun x hx => by rw [hML]; exact pR d i 0 h (by omega) _ x hx) hMB2
     have hel := nG d i 0 (P.take k)
     rw [List.length_take] at hel
     have hup : ups (dH d i 0 (P.take (k + 1))) M = ups (if 0 ≤ placeD d P[k] then [(i, (placeD d P[k]).toNat, 0)] else []) (ups (dH d i 0 (P.take k)) M) := by rw [ht, a1e]
     generalize ups (dH d i 0 (P.take k)) M = X at *
     have hiX : i < X.length := by omega
     have hg := rV X i hiX
     rcases placeD_cases d P[k] with hp | ⟨p, hp, hpl⟩
     ·rw [if_neg (by omega)] at hup
      have q0 := @h1; have q1 := @hp; have q2 := @decide_true; have q3 := @decide_false; refine a2y (jN d P[k] (by omega)) ?_
      refine aF (k + 1) ?_ ?_ ?_
      ·simp only [go_sem, hup, ups]; simp
      ·omega
      ·omega
     ·have hpX : p < X.length := by omega
      have hge : (0 : Int) ≤ (p : Int) := by omega
      have hgp := rV X p hpX
      rw [if_pos (by omega), hp, Int.toNat_natCast] at hup
      simp only [ups] at hup
      by_cases hc : lv X p > lv X i
      ·have hcI : ((lv X i : Nat) : Int) < ((lv X p : Nat) : Int) := by omega
       rw [a8T (by omega), Nat.add_zero] at hup
       have qH := aI @h1 (aI @hp (aI @hge (aI @hpX (aI @hiX (aI @hg (aI @hgp (aI @hcI (aI @decide_true (aI @decide_false @Int.toNat_natCast))))))))); repeat' (with_reducible first | refine nY ?_ | (refine mX ?_; try simp only [go_sem, qH]) | refine kD ?_ | refine rD ?_ | refine cP (jN d P[k] (by omega)) ?_ | refine aO ?_ | fail)
       refine aF (k + 1) ?_ ?_ ?_
       ·simp only [go_sem, hup, ← b1Q]; simp
       ·omega
       ·omega
      ·have hcI : ¬ ((lv X i : Nat) : Int) < ((lv X p : Nat) : Int) := by omega
       rw [b1P (by omega)] at hup
       have qH := aI @h1 (aI @hp (aI @hge (aI @hpX (aI @hiX (aI @hg (aI @hgp (aI @hcI (aI @decide_true (aI @decide_false @Int.toNat_natCast))))))))); repeat' (with_reducible first | refine nY ?_ | (refine mX ?_; try simp only [go_sem, qH]) | refine kD ?_ | refine rD ?_ | refine cP (jN d P[k] (by omega)) ?_ | refine aO ?_ | fail)
       refine aF (k + 1) ?_ ?_ ?_
       ·simp only [go_sem, hup]; simp
       ·omega
       ·omega
    ·simp only [decide_eq_false_iff_not] at h1
     have e : k = P.length := by omega
     subst e
     rw [List.take_length]
     have hXL : (ups (dH d i 0 P) M).length = d.length := by rw [uN]; exact hML
     have hXB := mF (dH d i 0 P) M 1000200 (fun x hx => by rw [hML]; exact pR d i 0 h (by omega) _ x hx) hMB2
     have hel := nG d i 0 P
     have hXB2 : ∀ j, lv (ups (dH d i 0 P) M) j ≤ 1000400 := fun j => by have := hXB j; omega
     generalize ups (dH d i 0 P) M = Y at *
     have q0 := @h; refine iU (a6g d[i].fQuery hq (by omega)) ?_
     generalize putL (bY d[i].fQuery true) = N at *
     refine aM (α := Nat) (fun k => [(11, oi k)]) (fun k => [(0, .row 3 1 ((ups (dH d i 1 (N.take k)) Y).map pU) true)]) (fun k => k ≤ N.length) (fun k => N.length - k) 0 (fun _ => ?_) ?_ ?_ (fun k hk => ?_)
     ·simp only [go_sem]
     ·simp only [go_sem]; simp [dH, ups]
     ·simp
     ·simp only [go_sem]
      refine aD ?_
      refine cnd rfl (fun h1 => ?_) (fun h1 => ?_)
      ·simp only [decide_eq_true_eq, Int.ofNat_lt] at h1
       have ht := a0v d i 1 N k h1
       have hZL : (ups (dH d i 1 (N.take k)) Y).length = d.length := by rw [uN]; exact hXL
       have hZB := mF (dH d i 1 (N.take k)) Y 1000400 (fun x hx => by rw [hXL]; exact pR d i 1 h (by omega) _ x hx) hXB2
       have hel := nG d i 1 (N.take k)
       rw [List.length_take] at hel
       have hup : ups (dH d i 1 (N.take (k + 1))) Y = ups (if 0 ≤ placeD d N[k] then [(i, (placeD d N[k]).toNat, 1)] else []) (ups (dH d i 1 (N.take k)) Y) := by rw [ht, a1e]
       generalize ups (dH d i 1 (N.take k)) Y = X at *
       have hiX : i < X.length := by omega
       have hg := rV X i hiX
       rcases placeD_cases d N[k] with hp | ⟨p, hp, hpl⟩
       ·rw [if_neg (by omega)] at hup
        have q0 := @h1; have q1 := @hp; have q2 := @decide_true; have q3 := @decide_false; refine a2y (jN d N[k] (by omega)) ?_
        refine aF (k + 1) ?_ ?_ ?_
        ·simp only [go_sem, hup, ups]; simp
        ·omega
        ·omega
       ·have hpX : p < X.length := by omega
        have hge : (0 : Int) ≤ (p : Int) := by omega
        have hgp := rV X p hpX
        have hbp := hZB p
        have hs1 : ((lv X p : Nat) : Int) + 1 = ((lv X p + 1 : Nat) : Int) := by omega
        rw [if_pos (by omega), hp, Int.toNat_natCast] at hup
        simp only [ups] at hup
        by_cases hc : lv X p + 1 > lv X i
        ·have hcI : ((lv X i : Nat) : Int) < ((lv X p + 1 : Nat) : Int) := by omega
         rw [a8T hc] at hup
         have qH := aI @h1 (aI @hp (aI @hge (aI @hpX (aI @hiX (aI @hg (aI @hgp (aI @hs1 (aI @hcI (aI @decide_true (aI @decide_false @Int.toNat_natCast)))))))))); repeat' (with_reducible first | refine nY ?_ | (refine mX ?_; try simp only [go_sem, qH]) | refine kD ?_ | refine rD ?_ | refine cP (jN d N[k] (by omega)) ?_ | refine aO ?_ | fail)
         refine aF (k + 1) ?_ ?_ ?_
         ·simp only [go_sem, hup, ← b1Q]; simp
         ·omega
         ·omega
        ·have hcI : ¬ ((lv X i : Nat) : Int) < ((lv X p + 1 : Nat) : Int) := by omega
         rw [b1P hc] at hup
         have qH := aI @h1 (aI @hp (aI @hge (aI @hpX (aI @hiX (aI @hg (aI @hgp (aI @hs1 (aI @hcI (aI @decide_true (aI @decide_false @Int.toNat_natCast)))))))))); repeat' (with_reducible first | refine nY ?_ | (refine mX ?_; try simp only [go_sem, qH]) | refine kD ?_ | refine rD ?_ | refine cP (jN d N[k] (by omega)) ?_ | refine aO ?_ | fail)
         refine aF (k + 1) ?_ ?_ ?_
         ·simp only [go_sem, hup]; simp
         ·omega
         ·omega
      ·simp only [decide_eq_false_iff_not] at h1
       have e : k = N.length := by omega
       subst e
       rw [List.take_length]
       refine aD ?_
       refine aF (i + 1) ?_ ?_ ?_
       ·simp only [go_sem, hfin]; simp
       ·omega
       ·omega
  ·simp only [decide_eq_false_iff_not] at h
   have e : i = d.length := by omega
   subst e
   refine aD ?_
   exact aA ⟨⟨_, rfl, by simp only [go_sem, iH, fB]⟩, trivial⟩
theorem a4E (A B : List Nat) (k : Nat) (hA : k < A.length) (hB : k < B.length) (h : A.take k = B.take k) (e : A[k] = B[k]) : A.take (k + 1) = B.take (k + 1) := by
 rw [List.take_succ_eq_append_getElem hA, List.take_succ_eq_append_getElem hB, h, e]
theorem a8S (A B : List Nat) (hA : A.length ≤ 4300000) (hB : B.length ≤ 4300000) : FnC Tryz.prog 144 [.o (.d (.sl (A.map pU))), .o (.d (.sl (B.map pU)))] (ob (decide (A = B))) := by
 refine ent Tryz.func144 rfl Tryz.call144 rfl (fun C => ?_); simp only [go_sem, st0, Tryz.ntmps144]
 by_cases hl : A.length = B.length
 ·have hli : ((A.length : Nat) : Int) = ((B.length : Nat) : Int) := by omega
  have q0 := @hli; have q1 := @decide_true; refine jB ?_
  refine aM (α := Nat) (fun k => [(5, oi k)]) (fun _ => []) (fun k => k ≤ A.length ∧ A.take k = B.take k) (fun k => A.length - k) 0 (fun _ => ?_) ?_ ?_ (fun k hk => ?_)
  ·simp only [go_sem]
  ·simp only [go_sem]; simp
  ·simp
  ·obtain ⟨hk, hq⟩ := hk
   simp only [go_sem]
   refine aD ?_
   refine cnd rfl (fun h => ?_) (fun h => ?_)
   ·simp only [decide_eq_true_eq, Int.ofNat_lt] at h
    have h2 : k < B.length := by omega
    by_cases he : A[k] = B[k]
    ·have hei : ((A[k] : Nat) : Int) = ((B[k] : Nat) : Int) := by omega
     have q0 := @h; have q1 := @h2; have q2 := @hei; have q3 := @decide_true; refine lJ ?_
     refine aF (k + 1) ?_ ?_ ?_
     ·simp only [go_sem]; simp
     ·exact ⟨by omega, a4E A B k h h2 hq he⟩
     ·omega
    ·have hei : ¬ ((A[k] : Nat) : Int) = ((B[k] : Nat) : Int) := by omega
     have hne : decide (A = B) = false := decide_eq_false fun e => he (by subst e; rfl)
     have q0 := @h; have q1 := @h2; have q2 := @hei; have q3 := @decide_false; refine lJ ?_
     exact aA ⟨⟨_, rfl, by simp only [go_sem, hne]⟩, trivial⟩
   ·simp only [decide_eq_false_iff_not] at h
    have e : k = A.length := by omega
    subst e
    rw [List.take_length, hl, List.take_length] at hq
    have hy : decide (A = B) = true := decide_eq_true hq
    refine aD ?_
    exact aA ⟨⟨_, rfl, by simp only [go_sem, hy]⟩, trivial⟩
 ·have hli : ¬ ((A.length : Nat) : Int) = ((B.length : Nat) : Int) := by omega
  have hne : decide (A = B) = false := decide_eq_false fun e => hl (by rw [e])
  have q0 := @hli; have q1 := @decide_false; refine jB ?_
  exact aA ⟨⟨_, rfl, by simp only [go_sem, hne]⟩, trivial⟩
theorem kZ (d : List TDir) (hd : dM d ≤ 4300000) : FnC Tryz.prog 112 [.o (.d (.sl (d.map bH)))] (.t [(false, [.d (.sl ((resL d).map pU))]), (false, [.d (bv (rU d))])]) := by
 have hd0 : d.length + wsum wDir d ≤ 4300000 := hd
 refine ent Tryz.func112 rfl Tryz.call112 rfl (fun C => ?_); simp only [go_sem, st0, Tryz.ntmps112]
 cases hv : dF d
 ·have e1 : resL d = [] := by simp [resL, hv]
  have e2 : rU d = false := by simp [rU, hv]
  have q0 := @hv; refine iU (xV d hd) ?_
  refine lV (Sees.frz 0 rfl) ?_
  simp only [go_sem]
  exact aA ⟨⟨_, rfl, by simp only [go_sem, e1, e2, List.map_nil]⟩, by simp [dN]⟩
 have e1 : resL d = a8c d.length (EE d) := by simp [resL, hv]
 have e2 : rU d = a0z d.length (EE d) := by simp [rU, hv]
 have hl5 := jH hv
 have hsq : d.length * d.length ≤ 25 := Nat.mul_le_mul hl5 hl5
 have hmul : ((d.length : Nat) : Int) * ((d.length : Nat) : Int) = ((d.length * d.length : Nat) : Int) := by rw [Int.natCast_mul]
 have hends := a3G (tV d) (fB d) (fun x => Iff.rfl) (d.length * d.length + 2) (by omega)
 have hEl := a2c d hv d.length
 have hEok : ∀ x ∈ fB d, x.1 < (List.replicate d.length 0).length ∧ x.2.2 ≤ 1 := fun x hx => by rw [List.length_replicate]; exact a3A d d.length x hx
 have hEl2 : (fB d).length ≤ 90 := by have : fB d = iH d d.length := rfl; rw [this]; omega
 have hbd := a2l (fB d) (List.replicate d.length 0) hEok (fun j => a4J _ j)
 have hlen : ∀ r, (upsN (fB d) r (List.replicate d.length 0)).length = d.length := fun r => by rw [a2k]; simp
 generalize hN2 : d.length * d.length = N2 at *
 have hB : ∀ r, r ≤ N2 + 2 → ∀ j, lv (upsN (fB d) r (List.replicate d.length 0)) j ≤ 1000000 := fun r hr j => by
  have h1 := hbd r j
  have h2 : r * (fB d).length ≤ 27 * 90 := Nat.mul_le_mul (by omega) hEl2
  omega
 have q0 := @hv; refine iU (xV d hd) ?_
 refine aM (α := Nat) (fun r => [(4, .o (.s 0)), (12, .o .u), (5, oi r)]) (fun r => [(0, .row 3 1 ((upsN (fB d) r (List.replicate d.length 0)).map pU) true)]) (fun r => r ≤ N2 + 2) (fun r => N2 + 2 - r) 0 (fun _ => ?_) ?_ ?_ (fun r hr => ?_)
 ·simp only [go_sem]
 ·simp only [go_sem]; simp [upsN, pU]
 ·simp
 ·simp only [go_sem]
  have q0 := @hmul; refine iB ?_
  refine cnd rfl (fun h => ?_) (fun h => ?_)
  ·simp only [decide_eq_true_eq] at h
   refine iL (a2d d (upsN (fB d) r (List.replicate d.length 0)) hv hd (hlen r) (hB r hr)) ?_
   refine qG [(0, 1)] (r + 1) (by simp only [go_sem]; rfl) ?_ ?_ ?_
   ·simp only [go_sem, upsN]; simp
   ·omega
   ·omega
  ·simp only [decide_eq_false_iff_not] at h
   have e : r = N2 + 2 := by omega
   subst e
   have hLl := hlen (N2 + 2)
   have hLB := hB (N2 + 2) (by omega)
   simp only at hends
   generalize upsN (fB d) (N2 + 2) (List.replicate d.length 0) = L at *
   have hUl : (ups (fB d) L).length = d.length := by rw [uN]; exact hLl
   by_cases hs : ups (fB d) L = L
   ·rw [if_pos hs] at hends
    have f1 := a4H hends
    have f2 := zR hends.clo
    have hy : decide (ups (fB d) L = L) = true := decide_eq_true hs
    have q0 := @hy; refine a7r (a2d d L hv hd hLl hLB) (a8S (ups (fB d) L) L (by omega) (by omega)) ?_
    exact aA ⟨⟨_, rfl, by simp only [go_sem, e1, e2, f1, f2]⟩, by simp [dN]⟩
   ·rw [if_neg hs] at hends
    have f1 := a4I hends
    have f2 := a6r hends
    have hy : decide (ups (fB d) L = L) = false := decide_eq_false hs
    have q0 := @hy; refine a7r (a2d d L hv hd hLl hLB) (a8S (ups (fB d) L) L (by omega) (by omega)) ?_
    refine lV (Sees.frz 2 rfl) ?_
    simp only [go_sem]
    exact aA ⟨⟨_, rfl, by simp only [go_sem, e1, e2, f1, f2, List.map_nil]⟩, by simp [dN]⟩
end Go.Proofs.YtakopfjdmmnjcaaGreat
end
section
set_option maxRecDepth 100000
set_option maxHeartbeats 4000000
namespace Go.Proofs.YtakopfjdmmnjcaaGreat
theorem b1Z (q : List TNode) (x : Int) (i j : Nat) (hi : i < q.length) (hj : j < q.length) (hne : i ≠ j) : rA q[i] x + rA q[j] x ≤ refs q x := by
 induction q generalizing i j with
 | nil => simp at hi
 | cons n q ih =>
  have one : ∀ (q : List TNode) (m : Nat) (h : m < q.length), rA q[m] x ≤ refs q x := by
   intro q
   induction q with
   | nil => intro m h; simp at h
   | cons n q ih =>
    intro m h
    cases m with
    | zero => simp only [List.getElem_cons_zero, refs]; omega
    | succ m => have := ih m (by simpa using h); simp only [List.getElem_cons_succ, refs]; omega
  cases i with
  | zero =>
   cases j with
   | zero => exact (hne rfl).elim
   | succ j => have := one q j (by simpa using hj); simp only [List.getElem_cons_zero, List.getElem_cons_succ, refs]; omega
  | succ i =>
   cases j with
   | zero => have := one q i (by simpa using hi); simp only [List.getElem_cons_zero, List.getElem_cons_succ, refs]; omega
   | succ j =>
    have := ih i j (by simpa using hi) (by simpa using hj) (by omega)
    simp only [List.getElem_cons_succ, refs]; omega
theorem b2a {q : List TNode} (h : okQ q = true) (l : Nat) (hl : l + 1 < q.length) : refs q l = 1 := by
 unfold okQ at h
 simp only [Bool.and_eq_true, List.all_eq_true, List.mem_range] at h
 have := h.1 l (by omega)
 unfold a1H at this
 rw [List.getElem?_eq_getElem (by omega)] at this
 simp only [Bool.and_eq_true, Bool.or_eq_true, decide_eq_true_eq] at this
 rcases this.2 with h | h
 ·omega
 ·exact h
def nb (L : List Bool) (i : Nat) : Bool := L.getD i false
theorem wR (L : List Bool) (l : Nat) (v : Bool) (x : Nat) (h : l < L.length) : nb (L.set l v) x = if x = l then v else nb L x := by
 unfold nb
 simp only [List.getD_eq_getElem?_getD, List.getElem?_set]
 by_cases e : l = x
 ·subst e; simp [h]
 ·rw [if_neg e, if_neg (fun e' => e e'.symm)]
theorem a2H {q : List TNode} (hq : okQ q = true) {i : Nat} (hi : i < q.length) {L : List Bool} (hL : L.length = q.length) {x : Nat} (hx : rA q[i] x = 0) : nb (iP q i L) x = nb L x := by
 have hok := wK hq (List.getElem?_eq_getElem hi)
 by_cases h5 : q[i].fOp = 5
 ·obtain ⟨l, hl, hli⟩ := dG hok (.inl h5)
  rw [yK hi L h5 hl, wR _ _ _ _ (by omega)]
  split
  ·rename_i e; subst e; simp [rA, two, h5, hl] at hx
  ·rfl
 by_cases h67 : q[i].fOp = 6 ∨ q[i].fOp = 7
 ·obtain ⟨l, hl, hli⟩ := dG hok (.inr h67)
  obtain ⟨m, hm, hmi⟩ := eO hok h67
  have ht : two q[i] = true := by unfold two; rcases h67 with h | h <;> simp [h]
  rw [uM hi L (by omega) h5 h67 hl hm, wR _ _ _ _ (by simp; omega), wR _ _ _ _ (by omega)]
  split
  ·rename_i e; subst e; simp [rA, ht, hm] at hx
  ·split
   ·rename_i e; subst e; simp [rA, ht, hl] at hx
   ·rfl
 ·rw [zP hi L h5 h67]
def a4K (q : List TNode) (m : Nat) : List Bool := negJ q (q.length - m)
theorem a2n (q : List TNode) (m : Nat) : (a4K q m).length = q.length := yJ q _
theorem a3I (q : List TNode) (i : Nat) (h : i < q.length) : a4K q i = iP q i (a4K q (i + 1)) := zO q i h
theorem b3n {q : List TNode} (hq : okQ q = true) {i : Nat} (hi : i < q.length) {x : Nat} (hx : i ≤ x) : rA q[i] x = 0 := by
 have hok := wK hq (List.getElem?_eq_getElem hi)
 unfold rA
 have a : (if (two q[i] || decide (q[i].fOp = 5)) && decide (q[i].fLeft = (x : Int)) then 1 else 0) = 0 := by
  split
  ·rename_i h
   simp only [Bool.and_eq_true, Bool.or_eq_true, decide_eq_true_eq] at h
   obtain ⟨l, hl, hli⟩ := dG hok (by unfold two at h; simp only [Bool.or_eq_true, decide_eq_true_eq] at h; omega)
   omega
  ·rfl
 have b : (if two q[i] && decide (q[i].fRight = (x : Int)) then 1 else 0) = 0 := by
  split
  ·rename_i h
   simp only [Bool.and_eq_true, decide_eq_true_eq] at h
   obtain ⟨l, hl, hli⟩ := eO hok (by unfold two at h; simp only [Bool.or_eq_true, decide_eq_true_eq] at h; omega)
   omega
  ·rfl
 omega
theorem zV {q : List TNode} (hq : okQ q = true) {x : Nat} : ∀ (k m : Nat), m + k ≤ q.length → (∀ j, (hj : j < q.length) → m ≤ j → j < m + k → rA q[j] x = 0) → nb (a4K q m) x = nb (a4K q (m + k)) x
 | 0, m, _, _ => rfl
 | k + 1, m, h, hr => by
  have hm : m < q.length := by omega
  rw [a3I q m hm, a2H hq hm (a2n q (m + 1)) (hr m hm (by omega) (by omega)), zV hq k (m + 1) (by omega) (fun j hj h1 h2 => hr j hj (by omega) (by omega))]
  congr 2; omega
theorem a9d {q : List TNode} (hq : okQ q = true) (x : Nat) (hx : x < q.length) : nb (kE q) x = nb (a4K q (x + 1)) x := by
 have := zV hq (x := x) (x + 1) 0 (by omega) (fun j hj _ h2 => b3n hq hj (by omega))
 simpa [a4K, kE] using this
theorem wT {q : List TNode} (hq : okQ q = true) {i l : Nat} (hi : i < q.length) (hl : l < i) (hr : 1 ≤ rA q[i] l) : nb (kE q) l = nb (iP q i (a4K q (i + 1))) l := by
 rw [a9d hq l (by omega), ← a3I q i hi]
 have h1 := b2a hq l (by omega)
 have := zV hq (x := l) (i - (l + 1)) (l + 1) (by omega) (fun j hj h1' h2 => by
  have := b1Z q l i j hi hj (by omega)
  omega)
 rw [this]
 congr 2; omega
theorem b2b {q : List TNode} (hq : okQ q = true) {i l : Nat} (hi : i < q.length) (h5 : q[i].fOp = 5) (hl : q[i].fLeft = (l : Int)) (hli : l < i) : nb (kE q) l = true := by
 rw [wT hq hi hli (by simp [rA, h5, hl]), yK hi _ h5 hl, wR _ _ _ _ (by rw [a2n]; omega), if_pos rfl]
theorem b2c {q : List TNode} (hq : okQ q = true) {i l m : Nat} (hi : i < q.length) (h67 : q[i].fOp = 6 ∨ q[i].fOp = 7) (hl : q[i].fLeft = (l : Int)) (hm : q[i].fRight = (m : Int)) (hli : l < i) (hmi : m < i) : nb (kE q) l = nb (kE q) i ∧ nb (kE q) m = nb (kE q) i := by
 have ht : two q[i] = true := by unfold two; rcases h67 with h | h <;> simp [h]
 have h5 : ¬ q[i].fOp = 5 := by omega
 have hL := a2n q (i + 1)
 have e := a9d hq i hi
 have g : (a4K q (i + 1))[i]'(by omega) = nb (kE q) i := by
  rw [e]; simp [nb, List.getD_eq_getElem?_getD, hL, hi]
 rw [wT hq hi hli (by simp [rA, ht, hl]), wT hq hi hmi (by simp [rA, ht, hm]), uM hi _ (by omega) h5 h67 hl hm]
 rw [wR _ m _ l (by rw [List.length_set]; omega), wR _ l _ l (by omega), wR _ m _ m (by rw [List.length_set]; omega), g]
 simp
theorem a9e {q : List TNode} (hq : okQ q = true) {f : TFile} {r r' : List TResult}
    (hP : ∀ i, (hi : i < q.length) → (q[i].fOp = 8 ∨ q[i].fOp = 9) → nb (kE q) i = false → ∀ x, hasI (bF q[i].fName r) x = true → hasI (bF q[i].fName r') x = true)
    (hN : ∀ i, (hi : i < q.length) → (q[i].fOp = 8 ∨ q[i].fOp = 9) → nb (kE q) i = true → ∀ x, hasI (bF q[i].fName r) x = hasI (bF q[i].fName r') x) :
    ∀ (k i : Nat), i < k → i < q.length → (nb (kE q) i = true → mt q f r k i = mt q f r' k i) ∧ (nb (kE q) i = false → mt q f r k i = true → mt q f r' k i = true)
 | 0, i, h, _ => by omega
 | k + 1, i, h, hi => by
  have hn := List.getElem?_eq_getElem hi
  have hok := wK hq hn
  have ih := a9e hq (f := f) hP hN k
  by_cases h1 : q[i].fOp = 1
  ·simp [mt, hn, h1]
  by_cases h2 : q[i].fOp = 2
  ·simp [mt, hn, h2]
  by_cases h3 : q[i].fOp = 3
  ·simp [mt, hn, h3]
  by_cases h4 : q[i].fOp = 4
  ·simp [mt, hn, h4]
  by_cases h5 : q[i].fOp = 5
  ·obtain ⟨l, hl, hli⟩ := dG hok (.inl h5)
   have := (ih l (by omega) (by omega)).1 (b2b hq hi h5 hl hli)
   have e : mt q f r (k + 1) i = mt q f r' (k + 1) i := by simp [mt, hn, h5, hl, this]
   exact ⟨fun _ => e, fun _ h => by rw [← e]; exact h⟩
  by_cases h67 : q[i].fOp = 6 ∨ q[i].fOp = 7
  ·obtain ⟨l, hl, hli⟩ := dG hok (.inr h67)
   obtain ⟨m, hm, hmi⟩ := eO hok h67
   obtain ⟨n1, n2⟩ := b2c hq hi h67 hl hm hli hmi
   have a := ih l (by omega) (by omega)
   have b := ih m (by omega) (by omega)
   rw [n1] at a
   rw [n2] at b
   refine ⟨fun hx => ?_, fun hx hm2 => ?_⟩
   ·have a1 := a.1 hx
    have b1 := b.1 hx
    rcases h67 with h6 | h7
    ·simp [mt, hn, h6, hl, hm, a1, b1]
    ·simp [mt, hn, h7, hl, hm, a1, b1]
   ·have a1 := a.2 hx
    have b1 := b.2 hx
    rcases h67 with h6 | h7
    ·simp [mt, hn, h6, hl, hm] at hm2 ⊢
     exact ⟨a1 hm2.1, b1 hm2.2⟩
    ·simp [mt, hn, h7, hl, hm] at hm2 ⊢
     exact hm2.imp a1 b1
  have h6 : ¬ q[i].fOp = 6 := fun h => h67 (.inl h)
  have h7 : ¬ q[i].fOp = 7 := fun h => h67 (.inr h)
  have hop := pQ hok
  have h89 : q[i].fOp = 8 ∨ q[i].fOp = 9 := by omega
  refine ⟨fun hx => ?_, fun hx hm2 => ?_⟩
  ·have e := hN i hi h89 hx
   rcases h89 with h8 | h9
   ·simp [mt, hn, h8, e]
   ·simp [mt, hn, h9, e]
  ·have e := hP i hi h89 hx
   rcases h89 with h8 | h9
   ·simp [mt, hn, h8] at hm2 ⊢
    exact e _ hm2
   ·simp [mt, hn, h9] at hm2 ⊢
    exact ⟨hm2.1, e _ hm2.2⟩
def pr (q : List TNode) (R : List TResult) (f : TFile) : Bool := okQ q && mt q f R q.length (q.length - 1)
def eZ (l : List TFile) : List Int := l.map TFile.fID
def kS (fs : List TFile) (q : List TNode) (R : List TResult) : List Int := eZ (fs.filter (pr q R))
theorem a2m (fs : List TFile) (q : List TNode) (R : List TResult) : (kS fs q R).length ≤ fs.length := by
 unfold kS eZ; rw [List.length_map]; exact List.length_filter_le _ _
theorem yM (nm : ByteArray) : ∀ (d : List TDir) (R : List TResult) (k : Nat), R.map TResult.fName = d.map TDir.fName → bF nm R = (if 0 ≤ idxP (fun x : TDir => decide (x.fName = nm)) d k then (R.getD (idxP (fun x : TDir => decide (x.fName = nm)) d k - k).toNat ⟨⟨#[]⟩, []⟩).fIDs else [])
 | [], [], k, _ => by simp [bF, idxP]
 | [], _ :: _, _, h => by simp at h
 | _ :: _, [], _, h => by simp at h
 | x :: d, y :: R, k, h => by
  simp only [List.map_cons, List.cons.injEq] at h
  have ih := yM nm d R (k + 1) h.2
  by_cases hx : x.fName = nm
  ·simp [bF, idxP, h.1, hx]
  ·have e0 : idxP (fun x : TDir => decide (x.fName = nm)) (x :: d) k = idxP (fun x : TDir => decide (x.fName = nm)) d (k + 1) := by simp [idxP, hx]
   have e1 : bF nm (y :: R) = bF nm R := by simp [bF, h.1, hx]
   rw [e0, e1, ih]
   have hge : idxP (fun x : TDir => decide (x.fName = nm)) d (k + 1) < 0 ∨ ((k + 1 : Nat) : Int) ≤ idxP (fun x : TDir => decide (x.fName = nm)) d (k + 1) := by
    rcases idxP_fst (fun x : TDir => decide (x.fName = nm)) d (k + 1) with ⟨h, _, _⟩ | ⟨h, _⟩ <;> omega
   by_cases h0 : 0 ≤ idxP (fun x : TDir => decide (x.fName = nm)) d (k + 1)
   ·rw [if_pos h0, if_pos h0]
    have e : (idxP (fun x : TDir => decide (x.fName = nm)) d (k + 1) - (k : Int)).toNat = (idxP (fun x : TDir => decide (x.fName = nm)) d (k + 1) - ((k + 1 : Nat) : Int)).toNat + 1 := by omega
    rw [e, List.getD_cons_succ]
   ·rw [if_neg h0, if_neg h0]
def dU (R : List TResult) (p : Nat) : List Int := (R.getD p ⟨⟨#[]⟩, []⟩).fIDs
theorem resIDs_at {d : List TDir} {R : List TResult} (h : R.map TResult.fName = d.map TDir.fName) (nm : ByteArray) : (placeD d nm = -1 ∧ bF nm R = []) ∨ ∃ p : Nat, placeD d nm = (p : Int) ∧ p < d.length ∧ bF nm R = dU R p := by
 have := yM nm d R 0 h
 rcases placeD_cases d nm with hp | ⟨p, hp, hl⟩
 ·left
  refine ⟨hp, ?_⟩
  unfold placeD at hp
  rw [this, hp]; simp
 ·right
  refine ⟨p, hp, hl, ?_⟩
  unfold placeD at hp
  rw [this, hp]
  rw [if_pos (by omega)]
  simp [dU]
theorem pY (R : List TResult) (i j : Nat) (x : TResult) (h : i < R.length) : dU (R.set i x) j = if j = i then x.fIDs else dU R j := by
 unfold dU
 simp only [List.getD_eq_getElem?_getD, List.getElem?_set]
 by_cases e : i = j
 ·subst e; simp [h]
 ·rw [if_neg e, if_neg (fun e' => e e'.symm)]
theorem a3H (R : List TResult) (i : Nat) (x : TResult) (d : List TDir) (h : R.map TResult.fName = d.map TDir.fName) (hi : i < d.length) (hx : x.fName = d[i].fName) : (R.set i x).map TResult.fName = d.map TDir.fName := by
 rw [List.map_set, h, hx]
 apply List.ext_getElem?
 intro j
 rw [List.getElem?_set]
 split
 ·rename_i e; subst e; simp [hi]
 ·rfl
theorem a6u {q : List TNode} {i : Nat} (hi : i < q.length) (h89 : q[i].fOp = 8 ∨ q[i].fOp = 9) (b : Bool) (hb : nb (kE q) i = b) : q[i].fName ∈ bY q b := by
 have hn : i < (kE q).length := by rw [a2g]; exact hi
 have hg : (kE q)[i] = b := by rw [← hb]; simp [nb, List.getD_eq_getElem?_getD, hn]
 have hd : gN q[i] = true := by unfold gN inB; rcases h89 with h | h <;> simp [h]
 unfold bY lD
 refine List.mem_flatMap.2 ⟨i, List.mem_range.2 hi, ?_⟩
 unfold sel
 rw [List.getElem?_eq_getElem hi, List.getElem?_eq_getElem hn]
 simp [hd, hg]
theorem a9b (x : Int) (l : List TFile) : hasI (eZ l) x = true ↔ ∃ f ∈ l, f.fID = x := by
 unfold hasI eZ
 rw [List.any_eq_true]
 constructor
 ·rintro ⟨y, hy, h⟩
  obtain ⟨f, hf, rfl⟩ := List.mem_map.1 hy
  exact ⟨f, hf, of_decide_eq_true h⟩
 ·rintro ⟨f, hf, rfl⟩
  exact ⟨_, List.mem_map.2 ⟨f, hf, rfl⟩, by simp⟩
structure Ev (fs : List TFile) (d : List TDir) (L : List Nat) (ns : List ByteArray) (c : Nat) (k : Nat) (R : List TResult) : Prop where
 nm : R.map TResult.fName = d.map TDir.fName
 cur : ∀ i, (hi : i < d.length) → nD ns d[i].fName = true → lv L i = k → ∃ p : TFile → Bool, dU R i = eZ (fs.filter p) ∧ ∀ f, p f = true → pr d[i].fQuery R f = true
 top : ∀ i, (hi : i < d.length) → nD ns d[i].fName = true → k < lv L i → dU R i = []
 bd : ∀ i, (dU R i).length ≤ c
 cap : fs.length ≤ c
theorem Ev.len {fs : List TFile} {d : List TDir} {L : List Nat} {ns : List ByteArray} {c k : Nat} {R : List TResult} (h : Ev fs d L ns c k R) : R.length = d.length := by
 have := congrArg List.length h.nm
 simpa using this
def uV (fs : List TFile) (d : List TDir) (i : Nat) (R : List TResult) (x : TDir) : List TResult := R.set i ⟨x.fName, kS fs x.fQuery R⟩
theorem a9c {fs : List TFile} {d : List TDir} {L : List Nat} {ns : List ByteArray} {c k : Nat} {R : List TResult} (h : Ev fs d L ns c k R) (hv : ∀ i, (hi : i < d.length) → okQ d[i].fQuery = true) (hc : Clo d.length (EE d) L) {i j : Nat} (hi : i < d.length) (hin : nD ns d[i].fName = true) (hik : lv L i = k) (hj : j < d.length) (hjk : lv L j = k) (f : TFile) (hp : pr d[j].fQuery R f = true) : pr d[j].fQuery (uV fs d i R d[i]) f = true := by
 have hq := hv j hj
 have hlen := h.len
 have hl9 := kY hq
 have hnm2 := a3H R i ⟨d[i].fName, kS fs d[i].fQuery R⟩ d h.nm hi rfl
 have grow : ∀ x, hasI (dU R i) x = true → hasI (kS fs d[i].fQuery R) x = true := fun x hx => by
  obtain ⟨p, e, hpp⟩ := h.cur i hi hin hik
  rw [e, a9b] at hx
  obtain ⟨g, hg, rfl⟩ := hx
  rw [List.mem_filter] at hg
  unfold kS
  rw [a9b]
  exact ⟨g, List.mem_filter.2 ⟨hg.1, hpp g hg.2⟩, rfl⟩
 unfold pr at hp ⊢
 rw [hq, Bool.true_and] at hp ⊢
 have key := a9e hq (f := f) (r := R) (r' := uV fs d i R d[i]) (fun m hm h89 hb x hx => by
  have hmem := a6u hm h89 false hb
  rcases resIDs_at h.nm d[j].fQuery[m].fName with ⟨_, e⟩ | ⟨p, hp1, hp2, e⟩
  ·rw [e] at hx; simp [hasI] at hx
  ·rcases resIDs_at hnm2 d[j].fQuery[m].fName with ⟨e3, _⟩ | ⟨p', hp1', _, e'⟩
   ·omega
   ·have : p' = p := by omega
    subst this
    show hasI (bF _ (R.set i _)) x = true
    rw [e', pY R i p' _ (by omega)]
    rw [e] at hx
    split
    ·rename_i e4; subst e4; exact grow x hx
    ·exact hx) (fun m hm h89 hb x => by
  have hmem := a6u hm h89 true hb
  rcases resIDs_at h.nm d[j].fQuery[m].fName with ⟨e1, e⟩ | ⟨p, hp1, hp2, e⟩
  ·rcases resIDs_at hnm2 d[j].fQuery[m].fName with ⟨_, e'⟩ | ⟨p', hp1', _, _⟩
   ·show _ = hasI (bF _ (R.set i _)) x
    rw [e, e']
   ·omega
  ·rcases resIDs_at hnm2 d[j].fQuery[m].fName with ⟨e3, _⟩ | ⟨p', hp1', _, e'⟩
   ·omega
   ·have : p' = p := by omega
    subst this
    have hee := hc.le j p' 1 ((a2e d j p' 1).2 ⟨d[j], List.getElem?_eq_getElem hj, .inr ⟨rfl, _, hmem, hp1⟩⟩)
    have hne : p' ≠ i := fun e => by subst e; omega
    show _ = hasI (bF _ (R.set i _)) x
    rw [e, e', pY R i p' _ (by omega), if_neg hne]) d[j].fQuery.length (d[j].fQuery.length - 1) (by omega) (by omega)
 cases hb : nb (kE d[j].fQuery) (d[j].fQuery.length - 1) with
 | true => rw [← key.1 hb]; exact hp
 | false => exact key.2 hb hp
theorem Ev.step {fs : List TFile} {d : List TDir} {L : List Nat} {ns : List ByteArray} {c k : Nat} {R : List TResult} (h : Ev fs d L ns c k R) (hv : ∀ i, (hi : i < d.length) → okQ d[i].fQuery = true) (hc : Clo d.length (EE d) L) {i : Nat} (hi : i < d.length) (hin : nD ns d[i].fName = true) (hik : lv L i = k) : Ev fs d L ns c k (uV fs d i R d[i]) := by
 have hlen := h.len
 refine ⟨a3H R i _ d h.nm hi rfl, fun j hj hjn hjk => ?_, fun j hj hjn hjk => ?_, fun j => ?_, h.cap⟩
 ·unfold uV
  rw [pY R i j _ (by omega)]
  split
  ·rename_i e; subst e
   exact ⟨pr d[j].fQuery R, rfl, fun f hf => a9c h hv hc hi hin hik hj hjk f hf⟩
  ·obtain ⟨p, e, hp⟩ := h.cur j hj hjn hjk
   exact ⟨p, e, fun f hf => a9c h hv hc hi hin hik hj hjk f (hp f hf)⟩
 ·unfold uV
  rw [pY R i j _ (by omega), if_neg (fun e => by subst e; omega)]
  exact h.top j hj hjn hjk
 ·unfold uV
  rw [pY R i j _ (by omega)]
  split
  ·exact Nat.le_trans (a2m fs _ _) h.cap
  ·exact h.bd j
theorem filter_same {α : Type} (p q : α → Bool) (l : List α) (h : ∀ x ∈ l, p x = true → q x = true) : l.filter p = l.filter q ∨ (l.filter p).length < (l.filter q).length := by
 have le : ∀ l : List α, (∀ x ∈ l, p x = true → q x = true) → (l.filter p).length ≤ (l.filter q).length := by
  intro l
  induction l with
  | nil => intro _; simp
  | cons x l ih =>
   intro h
   have := ih fun y hy => h y (List.mem_cons_of_mem _ hy)
   simp only [List.filter_cons]
   cases hp : p x
   ·cases hq : q x <;> simp <;> omega
   ·rw [h x (by simp) hp]; simpa using this
 induction l with
 | nil => exact .inl rfl
 | cons x l ih =>
  have hl := fun y hy => h y (List.mem_cons_of_mem x hy)
  simp only [List.filter_cons]
  cases hp : p x
  ·cases hq : q x
   ·simpa using ih hl
   ·have := le l hl
    right; simp; omega
  ·rw [h x (by simp) hp]
   rcases ih hl with e | e
   ·left; simp [e]
   ·right; simpa using e
def iR : List TResult → Nat
 | [] => 0
 | x :: l => x.fIDs.length + iR l
theorem b1Y (R : List TResult) (i : Nat) (x : TResult) (h : i < R.length) : iR (R.set i x) + (dU R i).length = iR R + x.fIDs.length := by
 induction R generalizing i with
 | nil => simp at h
 | cons y l ih =>
  cases i with
  | zero => simp [iR, dU]; omega
  | succ i =>
   have := ih i (by simpa using h)
   simp only [List.set_cons_succ, iR, dU, List.getD_cons_succ] at this ⊢
   omega
theorem b3m (R : List TResult) (c : Nat) (h : ∀ i, (dU R i).length ≤ c) : iR R ≤ R.length * c := by
 induction R with
 | nil => simp [iR]
 | cons x l ih =>
  have h0 := h 0
  have h1 := ih fun i => by simpa [dU] using h (i + 1)
  simp only [dU, List.getD_cons_zero] at h0
  simp only [iR, List.length_cons, Nat.succ_mul]
  omega
theorem Ev.grow {fs : List TFile} {d : List TDir} {L : List Nat} {ns : List ByteArray} {c k : Nat} {R : List TResult} (h : Ev fs d L ns c k R) {i : Nat} (hi : i < d.length) (hin : nD ns d[i].fName = true) (hik : lv L i = k) (hne : kS fs d[i].fQuery R ≠ dU R i) : iR R < iR (uV fs d i R d[i]) := by
 obtain ⟨p, e, hp⟩ := h.cur i hi hin hik
 have hlen := h.len
 have hs := b1Y R i ⟨d[i].fName, kS fs d[i].fQuery R⟩ (by omega)
 rcases filter_same p (pr d[i].fQuery R) fs (fun f _ hf => hp f hf) with e2 | e2
 ·exact (hne (by rw [e]; unfold kS; rw [e2])).elim
 ·have h1 : (dU R i).length < (kS fs d[i].fQuery R).length := by
   rw [e]; unfold kS eZ; simpa using e2
  unfold uV
  simp only at hs
  omega
theorem Ev.tot {fs : List TFile} {d : List TDir} {L : List Nat} {ns : List ByteArray} {c k : Nat} {R : List TResult} (h : Ev fs d L ns c k R) : iR R ≤ d.length * c := by
 have := b3m R c h.bd
 rwa [h.len] at this
theorem Ev.next {fs : List TFile} {d : List TDir} {L : List Nat} {ns : List ByteArray} {c k : Nat} {R : List TResult} (h : Ev fs d L ns c k R) : Ev fs d L ns c (k + 1) R :=
 ⟨h.nm, fun i hi hn hk => ⟨fun _ => false, by rw [h.top i hi hn (by omega)]; simp [eZ], fun f hf => by cases hf⟩, fun i hi hn hk => h.top i hi hn (by omega), h.bd, h.cap⟩
def passT (fs : List TFile) (d : List TDir) (L : List Nat) (ns : List ByteArray) (k : Nat) : Nat → List TResult → List TResult
 | 0, R => R
 | m + 1, R => match d[m]? with
  | none => passT fs d L ns k m R
  | some x => if lv L m = k ∧ nD ns x.fName = true then uV fs d m (passT fs d L ns k m R) x else passT fs d L ns k m R
def vS (fs : List TFile) (d : List TDir) (L : List Nat) (ns : List ByteArray) (k : Nat) : Nat → List TResult × Nat → List TResult × Nat
 | 0, x => x
 | F + 1, x => if iR x.1 < iR (passT fs d L ns k d.length x.1) then vS fs d L ns k F (passT fs d L ns k d.length x.1, x.2 + 1) else (passT fs d L ns k d.length x.1, x.2 + 1)
def gH (ns : List ByteArray) (r : List TResult) (d : List TDir) : List TResult := d.map fun x => ⟨x.fName, if nD ns x.fName then [] else bF x.fName r⟩
def allE (fs : List TFile) (d : List TDir) (L : List Nat) (ns : List ByteArray) (c : Nat) (r : List TResult) : Nat → List TResult × Nat
 | 0 => (gH ns r d, 0)
 | k + 1 => vS fs d L ns k (d.length * c + 1) (allE fs d L ns c r k)
theorem zT {fs : List TFile} {d : List TDir} {L : List Nat} {ns : List ByteArray} {c k : Nat} {R : List TResult} (h : Ev fs d L ns c k R) {i : Nat} (hi : i < d.length) (he : kS fs d[i].fQuery R = dU R i) : uV fs d i R d[i] = R := by
 have hlen := h.len
 have hnm : (R[i]'(by omega)).fName = d[i].fName := by
  have := congrArg (fun l : List ByteArray => l[i]?) h.nm
  simp only [List.getElem?_map] at this
  rw [List.getElem?_eq_getElem (by omega), List.getElem?_eq_getElem hi] at this
  simpa using this
 have hids : dU R i = (R[i]'(by omega)).fIDs := by
  have : i < R.length := by omega
  simp [dU, List.getD_eq_getElem?_getD, this]
 unfold uV
 rw [he, hids, ← hnm]
 exact List.set_getElem_self _
theorem rX (fs : List TFile) (d : List TDir) (L : List Nat) (ns : List ByteArray) (k m : Nat) (R : List TResult) (h : m < d.length) : passT fs d L ns k (m + 1) R = if lv L m = k ∧ nD ns d[m].fName = true then uV fs d m (passT fs d L ns k m R) d[m] else passT fs d L ns k m R := by
 rw [passT, List.getElem?_eq_getElem h]
theorem lF {fs : List TFile} {d : List TDir} {L : List Nat} {ns : List ByteArray} {c k : Nat} (hv : ∀ i, (hi : i < d.length) → okQ d[i].fQuery = true) (hc : Clo d.length (EE d) L) : ∀ (m : Nat) (R : List TResult), m ≤ d.length → Ev fs d L ns c k R → Ev fs d L ns c k (passT fs d L ns k m R)
 | 0, R, _, h => h
 | m + 1, R, hm, h => by
  have ih := lF hv hc m R (by omega) h
  rw [rX fs d L ns k m R (by omega)]
  split
  ·rename_i e; exact ih.step hv hc (by omega) e.2 e.1
  ·exact ih
theorem newR_cases {fs : List TFile} {d : List TDir} {L : List Nat} {ns : List ByteArray} {c k : Nat} {R : List TResult} (h : Ev fs d L ns c k R) {i : Nat} (hi : i < d.length) (hin : nD ns d[i].fName = true) (hik : lv L i = k) : uV fs d i R d[i] = R ∨ iR R < iR (uV fs d i R d[i]) := by
 by_cases he : kS fs d[i].fQuery R = dU R i
 ·exact .inl (zT h hi he)
 ·exact .inr (h.grow hi hin hik he)
theorem lG {fs : List TFile} {d : List TDir} {L : List Nat} {ns : List ByteArray} {c k : Nat} (hv : ∀ i, (hi : i < d.length) → okQ d[i].fQuery = true) (hc : Clo d.length (EE d) L) : ∀ (m : Nat) (R : List TResult), m ≤ d.length → Ev fs d L ns c k R → passT fs d L ns k m R = R ∨ iR R < iR (passT fs d L ns k m R)
 | 0, R, _, _ => .inl rfl
 | m + 1, R, hm, h => by
  have ih := lG hv hc m R (by omega) h
  have he := lF hv hc m R (by omega) h
  rw [rX fs d L ns k m R (by omega)]
  split
  ·rename_i e
   rcases newR_cases he (by omega) e.2 e.1 with e2 | g
   ·rw [e2]; exact ih
   ·rcases ih with e3 | g3
    ·rw [e3] at g ⊢; exact .inr g
    ·exact .inr (by omega)
  ·exact ih
theorem zU (ns : List ByteArray) (r : List TResult) (d : List TDir) (i : Nat) (hi : i < d.length) : dU (gH ns r d) i = if nD ns d[i].fName then [] else bF d[i].fName r := by
 unfold dU gH
 simp only [List.getD_eq_getElem?_getD, List.getElem?_map, List.getElem?_eq_getElem hi]
 rfl
theorem b0l {fs : List TFile} (d : List TDir) (L : List Nat) (ns : List ByteArray) (r : List TResult) : Ev fs d L ns (fs.length + aW r) 0 (gH ns r d) := by
 refine ⟨by simp [gH], fun i hi hn _ => ⟨fun _ => false, by rw [zU ns r d i hi, if_pos hn]; simp [eZ], fun f hf => by cases hf⟩, fun i hi hn _ => by rw [zU ns r d i hi, if_pos hn], fun i => ?_, by omega⟩
 by_cases hi : i < d.length
 ·rw [zU ns r d i hi]
  split
  ·simp
  ·have := rR d[i].fName r; omega
 ·have e : dU (gH ns r d) i = [] := by
   unfold dU gH
   simp only [List.getD_eq_getElem?_getD, List.getElem?_map]
   rw [List.getElem?_eq_none (by omega)]; rfl
  rw [e]; simp
theorem a6t {fs : List TFile} {d : List TDir} {L : List Nat} {ns : List ByteArray} {c k : Nat} (hv : ∀ i, (hi : i < d.length) → okQ d[i].fQuery = true) (hc : Clo d.length (EE d) L) : ∀ (F : Nat) (x : List TResult × Nat), Ev fs d L ns c k x.1 → Ev fs d L ns c k (vS fs d L ns k F x).1
 | 0, x, h => h
 | F + 1, x, h => by
  have hp := lF hv hc d.length x.1 (Nat.le_refl _) h
  unfold vS
  split
  ·exact a6t hv hc F _ hp
  ·exact hp
theorem yL {fs : List TFile} {d : List TDir} {L : List Nat} {ns : List ByteArray} {r : List TResult} (hv : ∀ i, (hi : i < d.length) → okQ d[i].fQuery = true) (hc : Clo d.length (EE d) L) : ∀ k, Ev fs d L ns (fs.length + aW r) k (allE fs d L ns (fs.length + aW r) r k).1
 | 0 => b0l d L ns r
 | k + 1 => (a6t hv hc _ _ (yL hv hc k)).next
structure Round (fs : List TFile) (d : List TDir) (L : List Nat) (ns : List ByteArray) (c : Nat) (k : Nat) (T : List TResult × Nat) (x : List TResult × Nat × Bool) : Prop where
 ev : Ev fs d L ns c k x.1
 run : x.2.2 = true → ∃ F, d.length * c + 1 ≤ F + iR x.1 ∧ T = vS fs d L ns k F (x.1, x.2.1)
 fin : x.2.2 = false → T = (x.1, x.2.1)
theorem Round.start {fs : List TFile} {d : List TDir} {L : List Nat} {ns : List ByteArray} {c k : Nat} {R : List TResult} {n : Nat} (h : Ev fs d L ns c k R) : Round fs d L ns c k (vS fs d L ns k (d.length * c + 1) (R, n)) (R, n, true) :=
 ⟨h, fun _ => ⟨_, by omega, rfl⟩, fun h => by cases h⟩
theorem Round.pass {fs : List TFile} {d : List TDir} {L : List Nat} {ns : List ByteArray} {c k : Nat} (hv : ∀ i, (hi : i < d.length) → okQ d[i].fQuery = true) (hc : Clo d.length (EE d) L) {T : List TResult × Nat} {R : List TResult} {n : Nat} (h : Round fs d L ns c k T (R, n, true)) : Round fs d L ns c k T (passT fs d L ns k d.length R, n + 1, decide (iR R < iR (passT fs d L ns k d.length R))) := by
 have hp := lF hv hc d.length R (Nat.le_refl _) h.ev
 obtain ⟨F, hF, hT⟩ := h.run rfl
 have ht := h.ev.tot
 simp only at ht
 cases F with
 | zero => simp only at hF; omega
 | succ F =>
  unfold vS at hT
  simp only at hT hF
  refine ⟨hp, fun hx => ?_, fun hx => ?_⟩
  ·simp only [decide_eq_true_eq] at hx
   rw [if_pos hx] at hT
   exact ⟨F, by simp only; omega, hT⟩
  ·simp only [decide_eq_false_iff_not] at hx
   rw [if_neg hx] at hT
   exact hT
end Go.Proofs.YtakopfjdmmnjcaaGreat
end
