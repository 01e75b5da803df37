/-
  Dependents, TransitiveDependents: plain part.
-/
import Derived.Test.YteganoldfldlhaaK5Clos
import Derived.Test.YteganoldfldlhaaC15Aff
set_option linter.all false
set_option maxRecDepth 100000
set_option maxHeartbeats 4000000
namespace Go.Proofs.Yteganoldfldlhaa
open Go Go.Sx Go.RowKit Go.Proofs Go.Sx.Clos

def isD (n : TNode) : Bool := decide (8 ≤ n.fOp) && decide (n.fOp ≤ 9)
def qD (q : List TNode) : List ByteArray := (q.filter isD).map TNode.fName
theorem qD_len (q : List TNode) : (qD q).length ≤ q.length := by simp only [qD, List.length_map]; exact List.length_filter_le _ _
theorem qD_take (q : List TNode) (k : Nat) (h : k < q.length) : qD (q.take (k + 1)) = qD (q.take k) ++ (if isD q[k] then [q[k].fName] else []) := by
  simp only [qD, List.take_succ_eq_append_getElem h, List.filter_append, List.map_append, List.filter_cons, List.filter_nil]
  cases isD q[k] <;> rfl
def eD (l : List TDir) : List (ByteArray × List ByteArray) := l.map fun d => (d.fName, putL (qD d.fQuery))
theorem eD_len (l : List TDir) : (eD l).length = l.length := by simp [eD]
def wS (s : ByteArray) : Nat := 1 + s.size
def pot (l : List TDir) (o : List ByteArray) : Nat := wsm wS o + unseen wS (eD l) o
def nmD (l : List TDir) (y : ByteArray) : Prop := ∃ e ∈ eD l, e.1 = y
theorem nmD_of (l : List TDir) (d : TDir) (h : d ∈ l) : nmD l d.fName := ⟨_, List.mem_map.2 ⟨d, h, rfl⟩, rfl⟩
theorem wsm_app (a b : List ByteArray) : wsm wS (a ++ b) = wsm wS a + wsm wS b := by
  induction a with
  | nil => simp [wsm]
  | cons x a ih => simp only [List.cons_append, wsm, ih]; omega
theorem wsm_eq (l : List ByteArray) : wsm wS l = wStringS l := by
  unfold wStringS
  induction l with
  | nil => simp [wsm, wsum]
  | cons x l ih => simp only [wsm, wsum, wS, List.length_cons, ih]; omega
theorem wsm_len (l : List ByteArray) : l.length ≤ wsm wS l := by rw [wsm_eq]; unfold wStringS; omega
theorem pot_len (l : List TDir) (o : List ByteArray) : o.length ≤ pot l o := by have := wsm_len o; unfold pot; omega
theorem wsm_putS (o : List ByteArray) (s : ByteArray) : wsm wS (putS o s) ≤ wsm wS o + wS s := by
  unfold putS
  split
  · omega
  · unfold insAt
    have h := congrArg (wsm wS) (List.take_append_drop (fstIx (geS s) o) o)
    rw [wsm_app] at h
    rw [wsm_app]
    simp only [wsm]
    omega
theorem putS_old (o : List ByteArray) (s : ByteArray) (h : o.Pairwise ltS) (hs : s ∈ o) : putS o s = o :=
  sorted_same ltS_irrefl ltS_trans (putS_sorted s h) h fun x => by
    rw [mem_putS]
    constructor
    · rintro (rfl | h)
      · exact hs
      · exact h
    · exact .inr
def okS (l : List TDir) (B : Nat) (o : List ByteArray) : Prop := o.Pairwise ltS ∧ pot l o ≤ B
theorem okS_put {l : List TDir} {B : Nat} (o : List ByteArray) (s : ByteArray) (h : okS l B o) (hs : nmD l s) : okS l B (putS o s) := by
  refine ⟨putS_sorted s h.1, Nat.le_trans ?_ h.2⟩
  by_cases hm : s ∈ o
  · rw [putS_old o s h.1 hm]; exact Nat.le_refl _
  · have h1 := wsm_putS o s
    have h2 := unseen_lt wS (eD l) (S := o) (T := putS o s) (fun x hx => (mem_putS o s x).2 (.inr hx)) hs ((mem_putS o s s).2 (.inl rfl)) hm
    unfold pot; omega
theorem wsm_foldl (l : List ByteArray) : ∀ a : List ByteArray, wsm wS (l.foldl putS a) ≤ wsm wS a + wsm wS l := by
  induction l with
  | nil => intro a; simp [wsm]
  | cons y l ih =>
    intro a
    have h1 := ih (putS a y)
    have h2 := wsm_putS a y
    simp only [List.foldl_cons, wsm]; omega
theorem okS_putL (l : List TDir) (names : List ByteArray) : okS l (pot l names) (putL names) := by
  refine ⟨putL_sorted names, ?_⟩
  have h1 := wsm_foldl names []
  have h2 := unseen_mono wS (eD l) (S := names) (T := putL names) (fun x hx => (mem_putL names x).2 hx)
  simp only [wsm] at h1
  unfold pot putL at *
  omega
def roundsD (l : List TDir) (names : List ByteArray) (n : Nat) : List ByteArray := rounds putS (eD l) n (putL names)
def tdS (l : List TDir) (names : List ByteArray) : List ByteArray := roundsD l names (l.length + 1)
theorem okS_rounds (l : List TDir) (names : List ByteArray) (n : Nat) : okS l (pot l names) (roundsD l names n) :=
  rounds_ind (Nm := nmD l) (fun o s h hs => okS_put o s h hs) (eD l) (fun e he => ⟨e, he, rfl⟩) (okS_putL l names) n
theorem okS_round (l : List TDir) (B i : Nat) (S : List ByteArray) (h : okS l B S) : okS l B (round putS (eD (l.take i)) S) :=
  round_ind (Nm := nmD l) (fun o s h hs => okS_put o s h hs) (eD (l.take i)) (fun e he => by
    obtain ⟨d, hd, rfl⟩ := List.mem_map.1 he
    exact nmD_of l d (List.mem_of_mem_take hd)) S h
theorem okS_ask (l : List TDir) (B : Nat) (d : TDir) (hd : d ∈ l) (az S : List ByteArray) (h : okS l B S) : okS l B (askC putS d.fName S az) :=
  ask_ind (Nm := nmD l) (fun o s h hs => okS_put o s h hs) d.fName (nmD_of l d hd) az S h
theorem okS_len {l : List TDir} {B : Nat} {o : List ByteArray} (h : okS l B o) : o.length ≤ B := Nat.le_trans (pot_len l o) h.2
theorem round_take (l : List TDir) (S : List ByteArray) (i : Nat) (h : i < l.length) : round putS (eD (l.take (i + 1))) S = askC putS l[i].fName (round putS (eD (l.take i)) S) (putL (qD l[i].fQuery)) := by
  simp only [round, eD, List.take_succ_eq_append_getElem h, List.map_append, List.map_cons, List.map_nil, List.foldl_append, List.foldl_cons, List.foldl_nil]
theorem ask_in (n : ByteArray) (S Q : List ByteArray) (k : Nat) (h : k < Q.length) (hm : Q[k] ∈ askC putS n S (Q.take k)) : askC putS n S (Q.take (k + 1)) = putS (askC putS n S (Q.take k)) n := by
  unfold askC at *
  rw [List.take_succ_eq_append_getElem h, List.foldl_append, List.foldl_cons, List.foldl_nil, if_pos hm]
theorem ask_out (n : ByteArray) (S Q : List ByteArray) (k : Nat) (h : k < Q.length) (hm : ¬ Q[k] ∈ askC putS n S (Q.take k)) : askC putS n S (Q.take (k + 1)) = askC putS n S (Q.take k) := by
  unfold askC at *
  rw [List.take_succ_eq_append_getElem h, List.foldl_append, List.foldl_cons, List.foldl_nil, if_neg hm]
/-! The other way: a row that grows -/
def depL (l : List TDir) (s : ByteArray) : List ByteArray := (l.filter fun d => hasS (qD d.fQuery) s).map TDir.fName
theorem mem_depL (l : List TDir) (s y : ByteArray) : y ∈ depL l s ↔ ∃ d ∈ l, s ∈ qD d.fQuery ∧ d.fName = y := by
  unfold depL
  rw [List.mem_map]
  constructor
  · rintro ⟨d, hd, rfl⟩
    rw [List.mem_filter] at hd
    exact ⟨d, hd.1, (hasS_mem _ _).1 hd.2, rfl⟩
  · rintro ⟨d, hd, hs, rfl⟩
    exact ⟨d, List.mem_filter.2 ⟨hd, (hasS_mem _ _).2 hs⟩, rfl⟩
theorem depL_len (l : List TDir) (s : ByteArray) : (depL l s).length ≤ l.length := by simp only [depL, List.length_map]; exact List.length_filter_le _ _
theorem depL_take (l : List TDir) (s : ByteArray) (k : Nat) (h : k < l.length) : depL (l.take (k + 1)) s = depL (l.take k) s ++ (if hasS (qD l[k].fQuery) s then [l[k].fName] else []) := by
  simp only [depL, List.take_succ_eq_append_getElem h, List.filter_append, List.map_append, List.filter_cons, List.filter_nil]
  cases hasS (qD l[k].fQuery) s <;> rfl
structure Good (l : List TDir) (names o : List ByteArray) : Prop where
  ext : ∀ x ∈ names, x ∈ o
  least : ∀ T, Closed (eD l) T → (∀ x ∈ names, x ∈ T) → ∀ x ∈ o, x ∈ T
  le : pot l o ≤ pot l names
theorem Good.start (l : List TDir) (names : List ByteArray) : Good l names names := ⟨fun _ h => h, fun _ _ h => h, Nat.le_refl _⟩
theorem Good.add {l : List TDir} {names o : List ByteArray} (g : Good l names o) {x y : ByteArray} (hx : x ∈ o) (hy : y ∈ depL l x) (hn : ¬ y ∈ o) : Good l names (o ++ [y]) := by
  obtain ⟨d, hd, hq, rfl⟩ := (mem_depL l x y).1 hy
  refine ⟨fun z hz => List.mem_append_left _ (g.ext z hz), fun T hT h z hz => ?_, ?_⟩
  · rcases List.mem_append.1 hz with h1 | h1
    · exact g.least T hT h z h1
    · simp only [List.mem_singleton] at h1
      subst h1
      exact hT _ (List.mem_map.2 ⟨d, hd, rfl⟩) ⟨x, (mem_putL _ _).2 hq, g.least T hT h x hx⟩
  · have h1 := unseen_lt wS (eD l) (S := o) (T := o ++ [d.fName]) (fun z hz => List.mem_append_left _ hz) (nmD_of l d hd) (by simp) hn
    have h2 := g.le
    have h3 := wsm_app o [d.fName]
    simp only [wsm] at h3
    unfold pot at *
    omega
theorem Good.done {l : List TDir} {names o : List ByteArray} (g : Good l names o) (hc : ∀ x ∈ o, ∀ y ∈ depL l x, y ∈ o) : onceS o = tdS l names := by
  refine sorted_same ltS_irrefl ltS_trans (onceS_sorted o) (okS_rounds l names (l.length + 1)).1 fun x => ?_
  rw [mem_onceS]
  have h := rounds_same (put := putS) mem_putS (eD l) (S := putL names) (O := o) (fun x hx => g.ext x ((mem_putL _ _).1 hx)) (fun e he hx => by
    obtain ⟨d, hd, rfl⟩ := List.mem_map.1 he
    obtain ⟨x, hx, ho⟩ := hx
    exact hc x ho _ ((mem_depL l x _).2 ⟨d, hd, (mem_putL _ _).1 hx, rfl⟩)) (fun T hT hs => g.least T hT fun x hx => hs x ((mem_putL _ _).2 hx)) x
  rw [eD_len] at h
  exact h
end Go.Proofs.Yteganoldfldlhaa
