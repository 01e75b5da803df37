/-
  Evaluation by levels, in plain words: one pass over the directories of a level, passes till nothing changes.
-/
import Derived.Test.YtgglopecipbbfaaGreatE1Mono
import Derived.Test.YtgglopecipbbfaaGreatQ5Plain
import Derived.Test.YtgglopecipbbfaaGreatC10Unaff
set_option linter.all false
set_option maxRecDepth 100000
set_option maxHeartbeats 4000000
namespace Go.Proofs.YtgglopecipbbfaaGreat

def pr (q : List TNode) (R : List TResult) (f : TFile) : Bool := okQ q && mt q f R q.length (q.length - 1)
def idsOf (l : List TFile) : List Int := l.map TFile.fID
/-- SelectFiles. -/
def selF (fs : List TFile) (q : List TNode) (R : List TResult) : List Int := idsOf (fs.filter (pr q R))
theorem selF_len (fs : List TFile) (q : List TNode) (R : List TResult) : (selF fs q R).length ≤ fs.length := by
  unfold selF idsOf; rw [List.length_map]; exact List.length_filter_le _ _
theorem resIDs_place (nm : ByteArray) : ∀ (d : List TDir) (R : List TResult) (k : Nat), R.map TResult.fName = d.map TDir.fName → resIDs nm R = (if 0 ≤ idxP (fun x : TDir => decide (x.fName = nm)) d k then (R.getD (idxP (fun x : TDir => decide (x.fName = nm)) d k - k).toNat ⟨⟨#[]⟩, []⟩).fIDs else [])
  | [], [], k, _ => by simp [resIDs, idxP]
  | [], _ :: _, _, h => by simp at h
  | _ :: _, [], _, h => by simp at h
  | x :: d, y :: R, k, h => by
    simp only [List.map_cons, List.cons.injEq] at h
    have ih := resIDs_place nm d R (k + 1) h.2
    by_cases hx : x.fName = nm
    · simp [resIDs, idxP, h.1, hx]
    · have e0 : idxP (fun x : TDir => decide (x.fName = nm)) (x :: d) k = idxP (fun x : TDir => decide (x.fName = nm)) d (k + 1) := by simp [idxP, hx]
      have e1 : resIDs nm (y :: R) = resIDs nm R := by simp [resIDs, h.1, hx]
      rw [e0, e1, ih]
      have hge : idxP (fun x : TDir => decide (x.fName = nm)) d (k + 1) < 0 ∨ ((k + 1 : Nat) : Int) ≤ idxP (fun x : TDir => decide (x.fName = nm)) d (k + 1) := by
        rcases idxP_fst (fun x : TDir => decide (x.fName = nm)) d (k + 1) with ⟨h, _, _⟩ | ⟨h, _⟩ <;> omega
      by_cases h0 : 0 ≤ idxP (fun x : TDir => decide (x.fName = nm)) d (k + 1)
      · rw [if_pos h0, if_pos h0]
        have e : (idxP (fun x : TDir => decide (x.fName = nm)) d (k + 1) - (k : Int)).toNat = (idxP (fun x : TDir => decide (x.fName = nm)) d (k + 1) - ((k + 1 : Nat) : Int)).toNat + 1 := by omega
        rw [e, List.getD_cons_succ]
      · rw [if_neg h0, if_neg h0]
def idsAt (R : List TResult) (p : Nat) : List Int := (R.getD p ⟨⟨#[]⟩, []⟩).fIDs
theorem resIDs_at {d : List TDir} {R : List TResult} (h : R.map TResult.fName = d.map TDir.fName) (nm : ByteArray) : (placeD d nm = -1 ∧ resIDs nm R = []) ∨ ∃ p : Nat, placeD d nm = (p : Int) ∧ p < d.length ∧ resIDs nm R = idsAt R p := by
  have := resIDs_place nm d R 0 h
  rcases placeD_cases d nm with hp | ⟨p, hp, hl⟩
  · left
    refine ⟨hp, ?_⟩
    unfold placeD at hp
    rw [this, hp]; simp
  · right
    refine ⟨p, hp, hl, ?_⟩
    unfold placeD at hp
    rw [this, hp]
    rw [if_pos (by omega)]
    simp [idsAt]
theorem idsAt_set (R : List TResult) (i j : Nat) (x : TResult) (h : i < R.length) : idsAt (R.set i x) j = if j = i then x.fIDs else idsAt R j := by
  unfold idsAt
  simp only [List.getD_eq_getElem?_getD, List.getElem?_set]
  by_cases e : i = j
  · subst e; simp [h]
  · rw [if_neg e, if_neg (fun e' => e e'.symm)]
theorem set_names (R : List TResult) (i : Nat) (x : TResult) (d : List TDir) (h : R.map TResult.fName = d.map TDir.fName) (hi : i < d.length) (hx : x.fName = d[i].fName) : (R.set i x).map TResult.fName = d.map TDir.fName := by
  rw [List.map_set, h, hx]
  apply List.ext_getElem?
  intro j
  rw [List.getElem?_set]
  split
  · rename_i e; subst e; simp [hi]
  · rfl
theorem deps_mem {q : List TNode} {i : Nat} (hi : i < q.length) (h89 : q[i].fOp = 8 ∨ q[i].fOp = 9) (b : Bool) (hb : nb (negs q) i = b) : q[i].fName ∈ depsL q b := by
  have hn : i < (negs q).length := by rw [negs_len]; exact hi
  have hg : (negs q)[i] = b := by rw [← hb]; simp [nb, List.getD_eq_getElem?_getD, hn]
  have hd : isDirOp q[i] = true := by unfold isDirOp inB; rcases h89 with h | h <;> simp [h]
  unfold depsL depsK
  refine List.mem_flatMap.2 ⟨i, List.mem_range.2 hi, ?_⟩
  unfold sel
  rw [List.getElem?_eq_getElem hi, List.getElem?_eq_getElem hn]
  simp [hd, hg]
theorem mem_ids (x : Int) (l : List TFile) : hasI (idsOf l) x = true ↔ ∃ f ∈ l, f.fID = x := by
  unfold hasI idsOf
  rw [List.any_eq_true]
  constructor
  · rintro ⟨y, hy, h⟩
    obtain ⟨f, hf, rfl⟩ := List.mem_map.1 hy
    exact ⟨f, hf, of_decide_eq_true h⟩
  · rintro ⟨f, hf, rfl⟩
    exact ⟨_, List.mem_map.2 ⟨f, hf, rfl⟩, by simp⟩
/-- The state of an evaluation that works at level k. -/
structure Ev (fs : List TFile) (d : List TDir) (L : List Nat) (ns : List ByteArray) (c : Nat) (k : Nat) (R : List TResult) : Prop where
  nm : R.map TResult.fName = d.map TDir.fName
  cur : ∀ i, (hi : i < d.length) → hasS ns d[i].fName = true → lv L i = k → ∃ p : TFile → Bool, idsAt R i = idsOf (fs.filter p) ∧ ∀ f, p f = true → pr d[i].fQuery R f = true
  top : ∀ i, (hi : i < d.length) → hasS ns d[i].fName = true → k < lv L i → idsAt R i = []
  bd : ∀ i, (idsAt R i).length ≤ c
  cap : fs.length ≤ c
theorem Ev.len {fs : List TFile} {d : List TDir} {L : List Nat} {ns : List ByteArray} {c k : Nat} {R : List TResult} (h : Ev fs d L ns c k R) : R.length = d.length := by
  have := congrArg List.length h.nm
  simpa using this
def newR (fs : List TFile) (d : List TDir) (i : Nat) (R : List TResult) (x : TDir) : List TResult := R.set i ⟨x.fName, selF fs x.fQuery R⟩
theorem pr_mono {fs : List TFile} {d : List TDir} {L : List Nat} {ns : List ByteArray} {c k : Nat} {R : List TResult} (h : Ev fs d L ns c k R) (hv : ∀ i, (hi : i < d.length) → okQ d[i].fQuery = true) (hc : Clo d.length (EE d) L) {i j : Nat} (hi : i < d.length) (hin : hasS ns d[i].fName = true) (hik : lv L i = k) (hj : j < d.length) (hjk : lv L j = k) (f : TFile) (hp : pr d[j].fQuery R f = true) : pr d[j].fQuery (newR fs d i R d[i]) f = true := by
  have hq := hv j hj
  have hlen := h.len
  have hl9 := okQ_len hq
  have hnm2 := set_names R i ⟨d[i].fName, selF fs d[i].fQuery R⟩ d h.nm hi rfl
  have grow : ∀ x, hasI (idsAt R i) x = true → hasI (selF fs d[i].fQuery R) x = true := fun x hx => by
    obtain ⟨p, e, hpp⟩ := h.cur i hi hin hik
    rw [e, mem_ids] at hx
    obtain ⟨g, hg, rfl⟩ := hx
    rw [List.mem_filter] at hg
    unfold selF
    rw [mem_ids]
    exact ⟨g, List.mem_filter.2 ⟨hg.1, hpp g hg.2⟩, rfl⟩
  unfold pr at hp ⊢
  rw [hq, Bool.true_and] at hp ⊢
  have key := mt_mono hq (f := f) (r := R) (r' := newR fs d i R d[i]) (fun m hm h89 hb x hx => by
    have hmem := deps_mem hm h89 false hb
    rcases resIDs_at h.nm d[j].fQuery[m].fName with ⟨_, e⟩ | ⟨p, hp1, hp2, e⟩
    · rw [e] at hx; simp [hasI] at hx
    · rcases resIDs_at hnm2 d[j].fQuery[m].fName with ⟨e3, _⟩ | ⟨p', hp1', _, e'⟩
      · omega
      · have : p' = p := by omega
        subst this
        show hasI (resIDs _ (R.set i _)) x = true
        rw [e', idsAt_set R i p' _ (by omega)]
        rw [e] at hx
        split
        · rename_i e4; subst e4; exact grow x hx
        · exact hx) (fun m hm h89 hb x => by
    have hmem := deps_mem hm h89 true hb
    rcases resIDs_at h.nm d[j].fQuery[m].fName with ⟨e1, e⟩ | ⟨p, hp1, hp2, e⟩
    · rcases resIDs_at hnm2 d[j].fQuery[m].fName with ⟨_, e'⟩ | ⟨p', hp1', _, _⟩
      · show _ = hasI (resIDs _ (R.set i _)) x
        rw [e, e']
      · omega
    · rcases resIDs_at hnm2 d[j].fQuery[m].fName with ⟨e3, _⟩ | ⟨p', hp1', _, e'⟩
      · omega
      · have : p' = p := by omega
        subst this
        have hee := hc.le j p' 1 ((EE_iff d j p' 1).2 ⟨d[j], List.getElem?_eq_getElem hj, .inr ⟨rfl, _, hmem, hp1⟩⟩)
        have hne : p' ≠ i := fun e => by subst e; omega
        show _ = hasI (resIDs _ (R.set i _)) x
        rw [e, e', idsAt_set R i p' _ (by omega), if_neg hne]) d[j].fQuery.length (d[j].fQuery.length - 1) (by omega) (by omega)
  cases hb : nb (negs d[j].fQuery) (d[j].fQuery.length - 1) with
  | true => rw [← key.1 hb]; exact hp
  | false => exact key.2 hb hp
theorem Ev.step {fs : List TFile} {d : List TDir} {L : List Nat} {ns : List ByteArray} {c k : Nat} {R : List TResult} (h : Ev fs d L ns c k R) (hv : ∀ i, (hi : i < d.length) → okQ d[i].fQuery = true) (hc : Clo d.length (EE d) L) {i : Nat} (hi : i < d.length) (hin : hasS ns d[i].fName = true) (hik : lv L i = k) : Ev fs d L ns c k (newR fs d i R d[i]) := by
  have hlen := h.len
  refine ⟨set_names R i _ d h.nm hi rfl, fun j hj hjn hjk => ?_, fun j hj hjn hjk => ?_, fun j => ?_, h.cap⟩
  · unfold newR
    rw [idsAt_set R i j _ (by omega)]
    split
    · rename_i e; subst e
      exact ⟨pr d[j].fQuery R, rfl, fun f hf => pr_mono h hv hc hi hin hik hj hjk f hf⟩
    · obtain ⟨p, e, hp⟩ := h.cur j hj hjn hjk
      exact ⟨p, e, fun f hf => pr_mono h hv hc hi hin hik hj hjk f (hp f hf)⟩
  · unfold newR
    rw [idsAt_set R i j _ (by omega), if_neg (fun e => by subst e; omega)]
    exact h.top j hj hjn hjk
  · unfold newR
    rw [idsAt_set R i j _ (by omega)]
    split
    · exact Nat.le_trans (selF_len fs _ _) h.cap
    · exact h.bd j
theorem filter_same {α : Type} (p q : α → Bool) (l : List α) (h : ∀ x ∈ l, p x = true → q x = true) : l.filter p = l.filter q ∨ (l.filter p).length < (l.filter q).length := by
  have le : ∀ l : List α, (∀ x ∈ l, p x = true → q x = true) → (l.filter p).length ≤ (l.filter q).length := by
    intro l
    induction l with
    | nil => intro _; simp
    | cons x l ih =>
      intro h
      have := ih fun y hy => h y (List.mem_cons_of_mem _ hy)
      simp only [List.filter_cons]
      cases hp : p x
      · cases hq : q x <;> simp <;> omega
      · rw [h x (by simp) hp]; simpa using this
  induction l with
  | nil => exact .inl rfl
  | cons x l ih =>
    have hl := fun y hy => h y (List.mem_cons_of_mem x hy)
    simp only [List.filter_cons]
    cases hp : p x
    · cases hq : q x
      · simpa using ih hl
      · have := le l hl
        right; simp; omega
    · rw [h x (by simp) hp]
      rcases ih hl with e | e
      · left; simp [e]
      · right; simpa using e
/-- What a level's work adds up to. -/
def totR : List TResult → Nat
  | [] => 0
  | x :: l => x.fIDs.length + totR l
theorem totR_set (R : List TResult) (i : Nat) (x : TResult) (h : i < R.length) : totR (R.set i x) + (idsAt R i).length = totR R + x.fIDs.length := by
  induction R generalizing i with
  | nil => simp at h
  | cons y l ih =>
    cases i with
    | zero => simp [totR, idsAt]; omega
    | succ i =>
      have := ih i (by simpa using h)
      simp only [List.set_cons_succ, totR, idsAt, List.getD_cons_succ] at this ⊢
      omega
theorem totR_le (R : List TResult) (c : Nat) (h : ∀ i, (idsAt R i).length ≤ c) : totR R ≤ R.length * c := by
  induction R with
  | nil => simp [totR]
  | cons x l ih =>
    have h0 := h 0
    have h1 := ih fun i => by simpa [idsAt] using h (i + 1)
    simp only [idsAt, List.getD_cons_zero] at h0
    simp only [totR, List.length_cons, Nat.succ_mul]
    omega
theorem Ev.grow {fs : List TFile} {d : List TDir} {L : List Nat} {ns : List ByteArray} {c k : Nat} {R : List TResult} (h : Ev fs d L ns c k R) {i : Nat} (hi : i < d.length) (hin : hasS ns d[i].fName = true) (hik : lv L i = k) (hne : selF fs d[i].fQuery R ≠ idsAt R i) : totR R < totR (newR fs d i R d[i]) := by
  obtain ⟨p, e, hp⟩ := h.cur i hi hin hik
  have hlen := h.len
  have hs := totR_set R i ⟨d[i].fName, selF fs d[i].fQuery R⟩ (by omega)
  rcases filter_same p (pr d[i].fQuery R) fs (fun f _ hf => hp f hf) with e2 | e2
  · exact (hne (by rw [e]; unfold selF; rw [e2])).elim
  · have h1 : (idsAt R i).length < (selF fs d[i].fQuery R).length := by
      rw [e]; unfold selF idsOf; simpa using e2
    unfold newR
    simp only at hs
    omega
theorem Ev.tot {fs : List TFile} {d : List TDir} {L : List Nat} {ns : List ByteArray} {c k : Nat} {R : List TResult} (h : Ev fs d L ns c k R) : totR R ≤ d.length * c := by
  have := totR_le R c h.bd
  rwa [h.len] at this
/-- The next level. -/
theorem Ev.next {fs : List TFile} {d : List TDir} {L : List Nat} {ns : List ByteArray} {c k : Nat} {R : List TResult} (h : Ev fs d L ns c k R) : Ev fs d L ns c (k + 1) R :=
  ⟨h.nm, fun i hi hn hk => ⟨fun _ => false, by rw [h.top i hi hn (by omega)]; simp [idsOf], fun f hf => by cases hf⟩, fun i hi hn hk => h.top i hi hn (by omega), h.bd, h.cap⟩
end Go.Proofs.YtgglopecipbbfaaGreat
