/-
  The levels of directories: edges, one step of the program's way.
-/
import Derived.Test.YtgglopecipbbfaaGreatQ4Deps
import Derived.Test.YtgglopecipbbfaaGreatQ1Plain
import Derived.Test.YtgglopecipbbfaaGreatK0Base
set_option linter.all false
set_option maxRecDepth 100000
set_option maxHeartbeats 4000000
namespace Go.Proofs.YtgglopecipbbfaaGreat

def placeD (d : List TDir) (nm : ByteArray) : Int := idxP (fun x => decide (x.fName = nm)) d 0
theorem placeD_cases (d : List TDir) (nm : ByteArray) : placeD d nm = -1 ∨ ∃ k : Nat, placeD d nm = (k : Int) ∧ k < d.length := by
  unfold placeD
  rcases idxP_fst (fun x => decide (x.fName = nm)) d 0 with ⟨_, h, _⟩ | ⟨h, hl⟩
  · exact .inl h
  · exact .inr ⟨_, by rw [h]; simp, hl⟩
def edgesN (d : List TDir) (i w : Nat) (names : List ByteArray) : List (Nat × Nat × Nat) := names.flatMap fun nm => if 0 ≤ placeD d nm then [(i, (placeD d nm).toNat, w)] else []
theorem mem_edgesN (d : List TDir) (i w : Nat) (names : List ByteArray) (x : Nat × Nat × Nat) : x ∈ edgesN d i w names ↔ ∃ nm ∈ names, ∃ k : Nat, placeD d nm = (k : Int) ∧ x = (i, k, w) := by
  unfold edgesN
  simp only [List.mem_flatMap]
  constructor
  · rintro ⟨nm, h1, h2⟩
    split at h2
    · rename_i hp
      refine ⟨nm, h1, (placeD d nm).toNat, by omega, by simpa using h2⟩
    · simp at h2
  · rintro ⟨nm, h1, k, h2, rfl⟩
    refine ⟨nm, h1, ?_⟩
    rw [if_pos (by omega), h2]; simp
def edgesD (d : List TDir) (i : Nat) : List (Nat × Nat × Nat) := match d[i]? with
  | none => []
  | some x => edgesN d i 0 (putL (depsL x.fQuery false)) ++ edgesN d i 1 (putL (depsL x.fQuery true))
def edgesA (d : List TDir) : List (Nat × Nat × Nat) := (List.range d.length).flatMap (edgesD d)
def EE (d : List TDir) (i k w : Nat) : Prop := (i, k, w) ∈ edgesA d
theorem EE_iff (d : List TDir) (i k w : Nat) : EE d i k w ↔ ∃ x, d[i]? = some x ∧ ((w = 0 ∧ ∃ nm ∈ depsL x.fQuery false, placeD d nm = (k : Int)) ∨ (w = 1 ∧ ∃ nm ∈ depsL x.fQuery true, placeD d nm = (k : Int))) := by
  unfold EE edgesA
  simp only [List.mem_flatMap, List.mem_range]
  constructor
  · rintro ⟨j, hj, h⟩
    unfold edgesD at h
    rw [List.getElem?_eq_getElem hj] at h
    simp only [List.mem_append, mem_edgesN, mem_putL] at h
    rcases h with ⟨nm, h1, k', h2, h3⟩ | ⟨nm, h1, k', h2, h3⟩
    · cases h3; exact ⟨_, List.getElem?_eq_getElem hj, .inl ⟨rfl, nm, h1, h2⟩⟩
    · cases h3; exact ⟨_, List.getElem?_eq_getElem hj, .inr ⟨rfl, nm, h1, h2⟩⟩
  · rintro ⟨x, hx, h⟩
    refine ⟨i, (List.getElem?_eq_some_iff.1 hx).1, ?_⟩
    unfold edgesD
    rw [hx]
    simp only [List.mem_append, mem_edgesN, mem_putL]
    rcases h with ⟨rfl, nm, h1, h2⟩ | ⟨rfl, nm, h1, h2⟩
    · exact .inl ⟨nm, h1, k, h2, rfl⟩
    · exact .inr ⟨nm, h1, k, h2, rfl⟩
theorem EE_edges (d : List TDir) : Edges d.length (EE d) := ⟨fun i k w h => by
  obtain ⟨x, hx, h⟩ := (EE_iff d i k w).1 h
  refine ⟨(List.getElem?_eq_some_iff.1 hx).1, ?_, by rcases h with ⟨rfl, _⟩ | ⟨rfl, _⟩ <;> omega⟩
  obtain ⟨nm, hp⟩ : ∃ nm, placeD d nm = (k : Int) := by rcases h with ⟨_, nm, _, h⟩ | ⟨_, nm, _, h⟩ <;> exact ⟨nm, h⟩
  rcases placeD_cases d nm with h | ⟨k', h, hl⟩ <;> omega⟩
/-! the program's step -/
def abv (d : List TDir) (L : List Nat) (w : Nat) : List ByteArray → Nat → Nat
  | [], m => m
  | nm :: r, m => abv d L w r (if 0 ≤ placeD d nm then (if lv L (placeD d nm).toNat + w > m then lv L (placeD d nm).toNat + w else m) else m)
theorem abv_drop (d : List TDir) (L : List Nat) (w : Nat) (l : List ByteArray) (k m : Nat) (h : k < l.length) : abv d L w (l.drop k) m = abv d L w (l.drop (k + 1)) (if 0 ≤ placeD d l[k] then (if lv L (placeD d l[k]).toNat + w > m then lv L (placeD d l[k]).toNat + w else m) else m) := by
  rw [List.drop_eq_getElem_cons h, abv]
theorem abv_le (d : List TDir) (L : List Nat) (w c : Nat) : ∀ (l : List ByteArray) (m : Nat), abv d L w l m ≤ c ↔ m ≤ c ∧ ∀ nm ∈ l, ∀ k : Nat, placeD d nm = (k : Int) → lv L k + w ≤ c
  | [], m => by simp [abv]
  | nm :: r, m => by
    rw [abv, abv_le d L w c r]
    constructor
    · rintro ⟨h1, h2⟩
      refine ⟨?_, fun n hn k hk => ?_⟩
      · split at h1
        · split at h1 <;> omega
        · exact h1
      · rcases List.mem_cons.1 hn with rfl | hn
        · have e : (placeD d n).toNat = k := by omega
          rw [if_pos (by omega), e] at h1
          split at h1 <;> omega
        · exact h2 n hn k hk
    · rintro ⟨h1, h2⟩
      refine ⟨?_, fun n hn k hk => h2 n (List.mem_cons_of_mem _ hn) k hk⟩
      split
      · rename_i hp
        have := h2 nm (by simp) (placeD d nm).toNat (by omega)
        split <;> omega
      · exact h1
def leastOf (d : List TDir) (L : List Nat) (x : TDir) : Nat := if abv d L 1 (onceS (depsL x.fQuery true)) 0 > abv d L 0 (onceS (depsL x.fQuery false)) 0 then abv d L 1 (onceS (depsL x.fQuery true)) 0 else abv d L 0 (onceS (depsL x.fQuery false)) 0
theorem leastOf_le (d : List TDir) (L : List Nat) (i c : Nat) (h : i < d.length) : leastOf d L d[i] ≤ c ↔ ∀ k w, EE d i k w → lv L k + w ≤ c := by
  have h0 := abv_le d L 0 c (onceS (depsL d[i].fQuery false)) 0
  have h1 := abv_le d L 1 c (onceS (depsL d[i].fQuery true)) 0
  have hm : leastOf d L d[i] ≤ c ↔ abv d L 0 (onceS (depsL d[i].fQuery false)) 0 ≤ c ∧ abv d L 1 (onceS (depsL d[i].fQuery true)) 0 ≤ c := by
    unfold leastOf; split <;> omega
  rw [hm, h0, h1]
  constructor
  · rintro ⟨⟨_, a⟩, ⟨_, b⟩⟩ k w he
    obtain ⟨x, hx, he⟩ := (EE_iff d i k w).1 he
    rw [List.getElem?_eq_getElem h] at hx
    cases hx
    rcases he with ⟨rfl, nm, q1, q2⟩ | ⟨rfl, nm, q1, q2⟩
    · exact a nm ((mem_onceS _ _).2 q1) k q2
    · exact b nm ((mem_onceS _ _).2 q1) k q2
  · intro a
    exact ⟨⟨by omega, fun nm q k hk => a k 0 ((EE_iff d i k 0).2 ⟨d[i], List.getElem?_eq_getElem h, .inl ⟨rfl, nm, (mem_onceS _ _).1 q, hk⟩⟩)⟩,
      ⟨by omega, fun nm q k hk => a k 1 ((EE_iff d i k 1).2 ⟨d[i], List.getElem?_eq_getElem h, .inr ⟨rfl, nm, (mem_onceS _ _).1 q, hk⟩⟩)⟩⟩
/-- What holds of the levels all along. -/
structure Low (d : List TDir) (L : List Nat) : Prop where
  len : L.length = d.length
  clo : ∀ F, Clo d.length (EE d) F → ∀ j, lv L j ≤ lv F j
  small : ∀ j, lv L j ≤ d.length
theorem Low.start (d : List TDir) : Low d (List.replicate d.length 0) := ⟨by simp, fun F _ j => by rw [lv_rep]; omega, fun j => by rw [lv_rep]; omega⟩
theorem Low.least_le {d : List TDir} {L : List Nat} (h : Low d L) {i : Nat} (hi : i < d.length) {F : List Nat} (hF : Clo d.length (EE d) F) : leastOf d L d[i] ≤ lv F i :=
  (leastOf_le d L i _ hi).2 fun k w he => by
    have h1 := hF.le i k w he
    have h2 := h.clo F hF k
    omega
theorem Low.over {d : List TDir} {L : List Nat} (h : Low d L) {i : Nat} (hi : i < d.length) (ho : leastOf d L d[i] > d.length) : ¬ ∃ F, Clo d.length (EE d) F := by
  rintro ⟨F, hF⟩
  obtain ⟨G, hG, hs⟩ := clo_small (EE_edges d) hF
  have h1 := h.least_le hi hG
  have h2 := hs i hi
  omega
theorem Low.set {d : List TDir} {L : List Nat} (h : Low d L) {i : Nat} (hi : i < d.length) (ho : ¬ leastOf d L d[i] > d.length) : Low d (L.set i (leastOf d L d[i])) := by
  have hl : i < L.length := by rw [h.len]; exact hi
  refine ⟨by simp [h.len], fun F hF j => ?_, fun j => ?_⟩
  · rw [lv_set L i _ j hl]
    split
    · rename_i e; subst e; exact h.least_le hi hF
    · exact h.clo F hF j
  · rw [lv_set L i _ j hl]
    split
    · omega
    · exact h.small j
theorem Low.done {d : List TDir} {L : List Nat} (h : Low d L) (hc : ∀ i, (hi : i < d.length) → leastOf d L d[i] ≤ lv L i) : Least d.length (EE d) L :=
  ⟨⟨h.len, fun i k w he => (leastOf_le d L i _ ((EE_edges d).ok i k w he).1).1 (hc i _) k w he⟩, h.clo⟩
theorem Low.sum {d : List TDir} {L : List Nat} (h : Low d L) : sumN L ≤ d.length * d.length := by
  have := sumN_le L d.length fun i _ => h.small i
  rwa [h.len] at this
end Go.Proofs.YtgglopecipbbfaaGreat
