/- Joined texts. -/
import Derived.Test.YtddimbdeggomaaaGreatZ14
import Derived.Test.YtddimbdeggomaaaGreatZ08
import Derived.Test.YtddimbdeggomaaaGreatZ10
import Derived.Test.YtddimbdeggomaaaGreatZ07
set_option linter.all false
section
set_option maxRecDepth 100000
set_option maxHeartbeats 4000000
namespace Go.Proofs.YtddimbdeggomaaaGreat
def pr (q : List TNode) (R : List TResult) (f : TFile) : Bool := okQ q && mt q f R q.length (q.length - 1)
def idsOf (l : List TFile) : List Int := l.map TFile.fID
def selF (fs : List TFile) (q : List TNode) (R : List TResult) : List Int := idsOf (fs.filter (pr q R))
theorem selF_len (fs : List TFile) (q : List TNode) (R : List TResult) : (selF fs q R).length ≤ fs.length := by
 unfold selF idsOf; rw [List.length_map]; exact List.length_filter_le _ _
theorem resIDs_place (nm : ByteArray) : ∀ (d : List TDir) (R : List TResult) (k : Nat), R.map TResult.fName = d.map TDir.fName → resIDs nm R = (if 0 ≤ idxP (fun x : TDir => decide (x.fName = nm)) d k then (R.getD (idxP (fun x : TDir => decide (x.fName = nm)) d k - k).toNat ⟨⟨#[]⟩, []⟩).fIDs else [])
 | [], [], k, _ => by simp [resIDs, idxP]
 | [], _ :: _, _, h => by simp at h
 | _ :: _, [], _, h => by simp at h
 | x :: d, y :: R, k, h => by
  simp only [List.map_cons, List.cons.injEq] at h
  have ih := resIDs_place nm d R (k + 1) h.2
  by_cases hx : x.fName = nm
  ·simp [resIDs, idxP, h.1, hx]
  ·have e0 : idxP (fun x : TDir => decide (x.fName = nm)) (x :: d) k = idxP (fun x : TDir => decide (x.fName = nm)) d (k + 1) := by simp [idxP, hx]
   have e1 : resIDs nm (y :: R) = resIDs nm R := by simp [resIDs, h.1, hx]
   rw [e0, e1, ih]
   have hge : idxP (fun x : TDir => decide (x.fName = nm)) d (k + 1) < 0 ∨ ((k + 1 : Nat) : Int) ≤ idxP (fun x : TDir => decide (x.fName = nm)) d (k + 1) := by
    rcases idxP_fst (fun x : TDir => decide (x.fName = nm)) d (k + 1) with ⟨h, _, _⟩ | ⟨h, _⟩ <;> omega
   by_cases h0 : 0 ≤ idxP (fun x : TDir => decide (x.fName = nm)) d (k + 1)
   ·rw [if_pos h0, if_pos h0]
    have e : (idxP (fun x : TDir => decide (x.fName = nm)) d (k + 1) - (k : Int)).toNat = (idxP (fun x : TDir => decide (x.fName = nm)) d (k + 1) - ((k + 1 : Nat) : Int)).toNat + 1 := by omega
    rw [e, List.getD_cons_succ]
   ·rw [if_neg h0, if_neg h0]
def idsAt (R : List TResult) (p : Nat) : List Int := (R.getD p ⟨⟨#[]⟩, []⟩).fIDs
theorem resIDs_at {d : List TDir} {R : List TResult} (h : R.map TResult.fName = d.map TDir.fName) (nm : ByteArray) : (placeD d nm = -1 ∧ resIDs nm R = []) ∨ ∃ p : Nat, placeD d nm = (p : Int) ∧ p < d.length ∧ resIDs nm R = idsAt R p := by
 have := resIDs_place nm d R 0 h
 rcases placeD_cases d nm with hp | ⟨p, hp, hl⟩
 ·left
  refine ⟨hp, ?_⟩
  unfold placeD at hp
  rw [this, hp]; simp
 ·right
  refine ⟨p, hp, hl, ?_⟩
  unfold placeD at hp
  rw [this, hp]
  rw [if_pos (by omega)]
  simp [idsAt]
theorem idsAt_set (R : List TResult) (i j : Nat) (x : TResult) (h : i < R.length) : idsAt (R.set i x) j = if j = i then x.fIDs else idsAt R j := by
 unfold idsAt
 simp only [List.getD_eq_getElem?_getD, List.getElem?_set]
 by_cases e : i = j
 ·subst e; simp [h]
 ·rw [if_neg e, if_neg (fun e' => e e'.symm)]
theorem set_names (R : List TResult) (i : Nat) (x : TResult) (d : List TDir) (h : R.map TResult.fName = d.map TDir.fName) (hi : i < d.length) (hx : x.fName = d[i].fName) : (R.set i x).map TResult.fName = d.map TDir.fName := by
 rw [List.map_set, h, hx]
 apply List.ext_getElem?
 intro j
 rw [List.getElem?_set]
 split
 ·rename_i e; subst e; simp [hi]
 ·rfl
theorem deps_mem {q : List TNode} {i : Nat} (hi : i < q.length) (h89 : q[i].fOp = 8 ∨ q[i].fOp = 9) (b : Bool) (hb : nb (negs q) i = b) : q[i].fName ∈ depsL q b := by
 have hn : i < (negs q).length := by rw [negs_len]; exact hi
 have hg : (negs q)[i] = b := by rw [← hb]; simp [nb, List.getD_eq_getElem?_getD, hn]
 have hd : isDirOp q[i] = true := by unfold isDirOp inB; rcases h89 with h | h <;> simp [h]
 unfold depsL depsK
 refine List.mem_flatMap.2 ⟨i, List.mem_range.2 hi, ?_⟩
 unfold sel
 rw [List.getElem?_eq_getElem hi, List.getElem?_eq_getElem hn]
 simp [hd, hg]
theorem mem_ids (x : Int) (l : List TFile) : hasI (idsOf l) x = true ↔ ∃ f ∈ l, f.fID = x := by
 unfold hasI idsOf
 rw [List.any_eq_true]
 constructor
 ·rintro ⟨y, hy, h⟩
  obtain ⟨f, hf, rfl⟩ := List.mem_map.1 hy
  exact ⟨f, hf, of_decide_eq_true h⟩
 ·rintro ⟨f, hf, rfl⟩
  exact ⟨_, List.mem_map.2 ⟨f, hf, rfl⟩, by simp⟩
structure Ev (fs : List TFile) (d : List TDir) (L : List Nat) (ns : List ByteArray) (c : Nat) (k : Nat) (R : List TResult) : Prop where
 nm : R.map TResult.fName = d.map TDir.fName
 cur : ∀ i, (hi : i < d.length) → hasS ns d[i].fName = true → lv L i = k → ∃ p : TFile → Bool, idsAt R i = idsOf (fs.filter p) ∧ ∀ f, p f = true → pr d[i].fQuery R f = true
 top : ∀ i, (hi : i < d.length) → hasS ns d[i].fName = true → k < lv L i → idsAt R i = []
 bd : ∀ i, (idsAt R i).length ≤ c
 cap : fs.length ≤ c
theorem Ev.len {fs : List TFile} {d : List TDir} {L : List Nat} {ns : List ByteArray} {c k : Nat} {R : List TResult} (h : Ev fs d L ns c k R) : R.length = d.length := by
 have := congrArg List.length h.nm
 simpa using this
def newR (fs : List TFile) (d : List TDir) (i : Nat) (R : List TResult) (x : TDir) : List TResult := R.set i ⟨x.fName, selF fs x.fQuery R⟩
theorem pr_mono {fs : List TFile} {d : List TDir} {L : List Nat} {ns : List ByteArray} {c k : Nat} {R : List TResult} (h : Ev fs d L ns c k R) (hv : ∀ i, (hi : i < d.length) → okQ d[i].fQuery = true) (hc : Clo d.length (EE d) L) {i j : Nat} (hi : i < d.length) (hin : hasS ns d[i].fName = true) (hik : lv L i = k) (hj : j < d.length) (hjk : lv L j = k) (f : TFile) (hp : pr d[j].fQuery R f = true) : pr d[j].fQuery (newR fs d i R d[i]) f = true := by
 have hq := hv j hj
 have hlen := h.len
 have hl9 := okQ_len hq
 have hnm2 := set_names R i ⟨d[i].fName, selF fs d[i].fQuery R⟩ d h.nm hi rfl
 have grow : ∀ x, hasI (idsAt R i) x = true → hasI (selF fs d[i].fQuery R) x = true := fun x hx => by
  obtain ⟨p, e, hpp⟩ := h.cur i hi hin hik
  rw [e, mem_ids] at hx
  obtain ⟨g, hg, rfl⟩ := hx
  rw [List.mem_filter] at hg
  unfold selF
  rw [mem_ids]
  exact ⟨g, List.mem_filter.2 ⟨hg.1, hpp g hg.2⟩, rfl⟩
 unfold pr at hp ⊢
 rw [hq, Bool.true_and] at hp ⊢
 have key := mt_mono hq (f := f) (r := R) (r' := newR fs d i R d[i]) (fun m hm h89 hb x hx => by
  have hmem := deps_mem hm h89 false hb
  rcases resIDs_at h.nm d[j].fQuery[m].fName with ⟨_, e⟩ | ⟨p, hp1, hp2, e⟩
  ·rw [e] at hx; simp [hasI] at hx
  ·rcases resIDs_at hnm2 d[j].fQuery[m].fName with ⟨e3, _⟩ | ⟨p', hp1', _, e'⟩
   ·omega
   ·have : p' = p := by omega
    subst this
    show hasI (resIDs _ (R.set i _)) x = true
    rw [e', idsAt_set R i p' _ (by omega)]
    rw [e] at hx
    split
    ·rename_i e4; subst e4; exact grow x hx
    ·exact hx) (fun m hm h89 hb x => by
  have hmem := deps_mem hm h89 true hb
  rcases resIDs_at h.nm d[j].fQuery[m].fName with ⟨e1, e⟩ | ⟨p, hp1, hp2, e⟩
  ·rcases resIDs_at hnm2 d[j].fQuery[m].fName with ⟨_, e'⟩ | ⟨p', hp1', _, _⟩
   ·show _ = hasI (resIDs _ (R.set i _)) x
    rw [e, e']
   ·omega
  ·rcases resIDs_at hnm2 d[j].fQuery[m].fName with ⟨e3, _⟩ | ⟨p', hp1', _, e'⟩
   ·omega
   ·have : p' = p := by omega
    subst this
    have hee := hc.le j p' 1 ((EE_iff d j p' 1).2 ⟨d[j], List.getElem?_eq_getElem hj, .inr ⟨rfl, _, hmem, hp1⟩⟩)
    have hne : p' ≠ i := fun e => by subst e; omega
    show _ = hasI (resIDs _ (R.set i _)) x
    rw [e, e', idsAt_set R i p' _ (by omega), if_neg hne]) d[j].fQuery.length (d[j].fQuery.length - 1) (by omega) (by omega)
 cases hb : nb (negs d[j].fQuery) (d[j].fQuery.length - 1) with
 | true => rw [← key.1 hb]; exact hp
 | false => exact key.2 hb hp
theorem Ev.step {fs : List TFile} {d : List TDir} {L : List Nat} {ns : List ByteArray} {c k : Nat} {R : List TResult} (h : Ev fs d L ns c k R) (hv : ∀ i, (hi : i < d.length) → okQ d[i].fQuery = true) (hc : Clo d.length (EE d) L) {i : Nat} (hi : i < d.length) (hin : hasS ns d[i].fName = true) (hik : lv L i = k) : Ev fs d L ns c k (newR fs d i R d[i]) := by
 have hlen := h.len
 refine ⟨set_names R i _ d h.nm hi rfl, fun j hj hjn hjk => ?_, fun j hj hjn hjk => ?_, fun j => ?_, h.cap⟩
 ·unfold newR
  rw [idsAt_set R i j _ (by omega)]
  split
  ·rename_i e; subst e
   exact ⟨pr d[j].fQuery R, rfl, fun f hf => pr_mono h hv hc hi hin hik hj hjk f hf⟩
  ·obtain ⟨p, e, hp⟩ := h.cur j hj hjn hjk
   exact ⟨p, e, fun f hf => pr_mono h hv hc hi hin hik hj hjk f (hp f hf)⟩
 ·unfold newR
  rw [idsAt_set R i j _ (by omega), if_neg (fun e => by subst e; omega)]
  exact h.top j hj hjn hjk
 ·unfold newR
  rw [idsAt_set R i j _ (by omega)]
  split
  ·exact Nat.le_trans (selF_len fs _ _) h.cap
  ·exact h.bd j
theorem filter_same {α : Type} (p q : α → Bool) (l : List α) (h : ∀ x ∈ l, p x = true → q x = true) : l.filter p = l.filter q ∨ (l.filter p).length < (l.filter q).length := by
 have le : ∀ l : List α, (∀ x ∈ l, p x = true → q x = true) → (l.filter p).length ≤ (l.filter q).length := by
  intro l
  induction l with
  | nil => intro _; simp
  | cons x l ih =>
   intro h
   have := ih fun y hy => h y (List.mem_cons_of_mem _ hy)
   simp only [List.filter_cons]
   cases hp : p x
   ·cases hq : q x <;> simp <;> omega
   ·rw [h x (by simp) hp]; simpa using this
 induction l with
 | nil => exact .inl rfl
 | cons x l ih =>
  have hl := fun y hy => h y (List.mem_cons_of_mem x hy)
  simp only [List.filter_cons]
  cases hp : p x
  ·cases hq : q x
   ·simpa using ih hl
   ·have := le l hl
    right; simp; omega
  ·rw [h x (by simp) hp]
   rcases ih hl with e | e
   ·left; simp [e]
   ·right; simpa using e
def totR : List TResult → Nat
 | [] => 0
 | x :: l => x.fIDs.length + totR l
theorem totR_set (R : List TResult) (i : Nat) (x : TResult) (h : i < R.length) : totR (R.set i x) + (idsAt R i).length = totR R + x.fIDs.length := by
 induction R generalizing i with
 | nil => simp at h
 | cons y l ih =>
  cases i with
  | zero => simp [totR, idsAt]; omega
  | succ i =>
   have := ih i (by simpa using h)
   simp only [List.set_cons_succ, totR, idsAt, List.getD_cons_succ] at this ⊢
   omega
theorem totR_le (R : List TResult) (c : Nat) (h : ∀ i, (idsAt R i).length ≤ c) : totR R ≤ R.length * c := by
 induction R with
 | nil => simp [totR]
 | cons x l ih =>
  have h0 := h 0
  have h1 := ih fun i => by simpa [idsAt] using h (i + 1)
  simp only [idsAt, List.getD_cons_zero] at h0
  simp only [totR, List.length_cons, Nat.succ_mul]
  omega
theorem Ev.grow {fs : List TFile} {d : List TDir} {L : List Nat} {ns : List ByteArray} {c k : Nat} {R : List TResult} (h : Ev fs d L ns c k R) {i : Nat} (hi : i < d.length) (hin : hasS ns d[i].fName = true) (hik : lv L i = k) (hne : selF fs d[i].fQuery R ≠ idsAt R i) : totR R < totR (newR fs d i R d[i]) := by
 obtain ⟨p, e, hp⟩ := h.cur i hi hin hik
 have hlen := h.len
 have hs := totR_set R i ⟨d[i].fName, selF fs d[i].fQuery R⟩ (by omega)
 rcases filter_same p (pr d[i].fQuery R) fs (fun f _ hf => hp f hf) with e2 | e2
 ·exact (hne (by rw [e]; unfold selF; rw [e2])).elim
 ·have h1 : (idsAt R i).length < (selF fs d[i].fQuery R).length := by
   rw [e]; unfold selF idsOf; simpa using e2
  unfold newR
  simp only at hs
  omega
theorem Ev.tot {fs : List TFile} {d : List TDir} {L : List Nat} {ns : List ByteArray} {c k : Nat} {R : List TResult} (h : Ev fs d L ns c k R) : totR R ≤ d.length * c := by
 have := totR_le R c h.bd
 rwa [h.len] at this
theorem Ev.next {fs : List TFile} {d : List TDir} {L : List Nat} {ns : List ByteArray} {c k : Nat} {R : List TResult} (h : Ev fs d L ns c k R) : Ev fs d L ns c (k + 1) R :=
 ⟨h.nm, fun i hi hn hk => ⟨fun _ => false, by rw [h.top i hi hn (by omega)]; simp [idsOf], fun f hf => by cases hf⟩, fun i hi hn hk => h.top i hi hn (by omega), h.bd, h.cap⟩
end Go.Proofs.YtddimbdeggomaaaGreat
end
section
set_option maxRecDepth 100000
set_option maxHeartbeats 4000000
namespace Go.Proofs.YtddimbdeggomaaaGreat
def passT (fs : List TFile) (d : List TDir) (L : List Nat) (ns : List ByteArray) (k : Nat) : Nat → List TResult → List TResult
 | 0, R => R
 | m + 1, R => match d[m]? with
  | none => passT fs d L ns k m R
  | some x => if lv L m = k ∧ hasS ns x.fName = true then newR fs d m (passT fs d L ns k m R) x else passT fs d L ns k m R
def loopE (fs : List TFile) (d : List TDir) (L : List Nat) (ns : List ByteArray) (k : Nat) : Nat → List TResult × Nat → List TResult × Nat
 | 0, x => x
 | F + 1, x => if totR x.1 < totR (passT fs d L ns k d.length x.1) then loopE fs d L ns k F (passT fs d L ns k d.length x.1, x.2 + 1) else (passT fs d L ns k d.length x.1, x.2 + 1)
def startR (ns : List ByteArray) (r : List TResult) (d : List TDir) : List TResult := d.map fun x => ⟨x.fName, if hasS ns x.fName then [] else resIDs x.fName r⟩
def allE (fs : List TFile) (d : List TDir) (L : List Nat) (ns : List ByteArray) (c : Nat) (r : List TResult) : Nat → List TResult × Nat
 | 0 => (startR ns r d, 0)
 | k + 1 => loopE fs d L ns k (d.length * c + 1) (allE fs d L ns c r k)
theorem newR_same {fs : List TFile} {d : List TDir} {L : List Nat} {ns : List ByteArray} {c k : Nat} {R : List TResult} (h : Ev fs d L ns c k R) {i : Nat} (hi : i < d.length) (he : selF fs d[i].fQuery R = idsAt R i) : newR fs d i R d[i] = R := by
 have hlen := h.len
 have hnm : (R[i]'(by omega)).fName = d[i].fName := by
  have := congrArg (fun l : List ByteArray => l[i]?) h.nm
  simp only [List.getElem?_map] at this
  rw [List.getElem?_eq_getElem (by omega), List.getElem?_eq_getElem hi] at this
  simpa using this
 have hids : idsAt R i = (R[i]'(by omega)).fIDs := by
  have : i < R.length := by omega
  simp [idsAt, List.getD_eq_getElem?_getD, this]
 unfold newR
 rw [he, hids, ← hnm]
 exact List.set_getElem_self _
theorem passT_succ (fs : List TFile) (d : List TDir) (L : List Nat) (ns : List ByteArray) (k m : Nat) (R : List TResult) (h : m < d.length) : passT fs d L ns k (m + 1) R = if lv L m = k ∧ hasS ns d[m].fName = true then newR fs d m (passT fs d L ns k m R) d[m] else passT fs d L ns k m R := by
 rw [passT, List.getElem?_eq_getElem h]
theorem passT_ev {fs : List TFile} {d : List TDir} {L : List Nat} {ns : List ByteArray} {c k : Nat} (hv : ∀ i, (hi : i < d.length) → okQ d[i].fQuery = true) (hc : Clo d.length (EE d) L) : ∀ (m : Nat) (R : List TResult), m ≤ d.length → Ev fs d L ns c k R → Ev fs d L ns c k (passT fs d L ns k m R)
 | 0, R, _, h => h
 | m + 1, R, hm, h => by
  have ih := passT_ev hv hc m R (by omega) h
  rw [passT_succ fs d L ns k m R (by omega)]
  split
  ·rename_i e; exact ih.step hv hc (by omega) e.2 e.1
  ·exact ih
theorem newR_cases {fs : List TFile} {d : List TDir} {L : List Nat} {ns : List ByteArray} {c k : Nat} {R : List TResult} (h : Ev fs d L ns c k R) {i : Nat} (hi : i < d.length) (hin : hasS ns d[i].fName = true) (hik : lv L i = k) : newR fs d i R d[i] = R ∨ totR R < totR (newR fs d i R d[i]) := by
 by_cases he : selF fs d[i].fQuery R = idsAt R i
 ·exact .inl (newR_same h hi he)
 ·exact .inr (h.grow hi hin hik he)
theorem passT_cases {fs : List TFile} {d : List TDir} {L : List Nat} {ns : List ByteArray} {c k : Nat} (hv : ∀ i, (hi : i < d.length) → okQ d[i].fQuery = true) (hc : Clo d.length (EE d) L) : ∀ (m : Nat) (R : List TResult), m ≤ d.length → Ev fs d L ns c k R → passT fs d L ns k m R = R ∨ totR R < totR (passT fs d L ns k m R)
 | 0, R, _, _ => .inl rfl
 | m + 1, R, hm, h => by
  have ih := passT_cases hv hc m R (by omega) h
  have he := passT_ev hv hc m R (by omega) h
  rw [passT_succ fs d L ns k m R (by omega)]
  split
  ·rename_i e
   rcases newR_cases he (by omega) e.2 e.1 with e2 | g
   ·rw [e2]; exact ih
   ·rcases ih with e3 | g3
    ·rw [e3] at g ⊢; exact .inr g
    ·exact .inr (by omega)
  ·exact ih
theorem startR_at (ns : List ByteArray) (r : List TResult) (d : List TDir) (i : Nat) (hi : i < d.length) : idsAt (startR ns r d) i = if hasS ns d[i].fName then [] else resIDs d[i].fName r := by
 unfold idsAt startR
 simp only [List.getD_eq_getElem?_getD, List.getElem?_map, List.getElem?_eq_getElem hi]
 rfl
theorem startR_ev {fs : List TFile} (d : List TDir) (L : List Nat) (ns : List ByteArray) (r : List TResult) : Ev fs d L ns (fs.length + wResultS r) 0 (startR ns r d) := by
 refine ⟨by simp [startR], fun i hi hn _ => ⟨fun _ => false, by rw [startR_at ns r d i hi, if_pos hn]; simp [idsOf], fun f hf => by cases hf⟩, fun i hi hn _ => by rw [startR_at ns r d i hi, if_pos hn], fun i => ?_, by omega⟩
 by_cases hi : i < d.length
 ·rw [startR_at ns r d i hi]
  split
  ·simp
  ·have := resIDs_len d[i].fName r; omega
 ·have e : idsAt (startR ns r d) i = [] := by
   unfold idsAt startR
   simp only [List.getD_eq_getElem?_getD, List.getElem?_map]
   rw [List.getElem?_eq_none (by omega)]; rfl
  rw [e]; simp
theorem loopE_ev {fs : List TFile} {d : List TDir} {L : List Nat} {ns : List ByteArray} {c k : Nat} (hv : ∀ i, (hi : i < d.length) → okQ d[i].fQuery = true) (hc : Clo d.length (EE d) L) : ∀ (F : Nat) (x : List TResult × Nat), Ev fs d L ns c k x.1 → Ev fs d L ns c k (loopE fs d L ns k F x).1
 | 0, x, h => h
 | F + 1, x, h => by
  have hp := passT_ev hv hc d.length x.1 (Nat.le_refl _) h
  unfold loopE
  split
  ·exact loopE_ev hv hc F _ hp
  ·exact hp
theorem allE_ev {fs : List TFile} {d : List TDir} {L : List Nat} {ns : List ByteArray} {r : List TResult} (hv : ∀ i, (hi : i < d.length) → okQ d[i].fQuery = true) (hc : Clo d.length (EE d) L) : ∀ k, Ev fs d L ns (fs.length + wResultS r) k (allE fs d L ns (fs.length + wResultS r) r k).1
 | 0 => startR_ev d L ns r
 | k + 1 => (loopE_ev hv hc _ _ (allE_ev hv hc k)).next
structure Round (fs : List TFile) (d : List TDir) (L : List Nat) (ns : List ByteArray) (c : Nat) (k : Nat) (T : List TResult × Nat) (x : List TResult × Nat × Bool) : Prop where
 ev : Ev fs d L ns c k x.1
 run : x.2.2 = true → ∃ F, d.length * c + 1 ≤ F + totR x.1 ∧ T = loopE fs d L ns k F (x.1, x.2.1)
 fin : x.2.2 = false → T = (x.1, x.2.1)
theorem Round.start {fs : List TFile} {d : List TDir} {L : List Nat} {ns : List ByteArray} {c k : Nat} {R : List TResult} {n : Nat} (h : Ev fs d L ns c k R) : Round fs d L ns c k (loopE fs d L ns k (d.length * c + 1) (R, n)) (R, n, true) :=
 ⟨h, fun _ => ⟨_, by omega, rfl⟩, fun h => by cases h⟩
theorem Round.pass {fs : List TFile} {d : List TDir} {L : List Nat} {ns : List ByteArray} {c k : Nat} (hv : ∀ i, (hi : i < d.length) → okQ d[i].fQuery = true) (hc : Clo d.length (EE d) L) {T : List TResult × Nat} {R : List TResult} {n : Nat} (h : Round fs d L ns c k T (R, n, true)) : Round fs d L ns c k T (passT fs d L ns k d.length R, n + 1, decide (totR R < totR (passT fs d L ns k d.length R))) := by
 have hp := passT_ev hv hc d.length R (Nat.le_refl _) h.ev
 obtain ⟨F, hF, hT⟩ := h.run rfl
 have ht := h.ev.tot
 simp only at ht
 cases F with
 | zero => simp only at hF; omega
 | succ F =>
  unfold loopE at hT
  simp only at hT hF
  refine ⟨hp, fun hx => ?_, fun hx => ?_⟩
  ·simp only [decide_eq_true_eq] at hx
   rw [if_pos hx] at hT
   exact ⟨F, by simp only; omega, hT⟩
  ·simp only [decide_eq_false_iff_not] at hx
   rw [if_neg hx] at hT
   exact hT
end Go.Proofs.YtddimbdeggomaaaGreat
end
section
set_option maxRecDepth 100000
set_option maxHeartbeats 4000000
namespace Go.Proofs.YtddimbdeggomaaaGreat
open Go Go.Sx Go.RowKit Go.Proofs
def topF : List Nat → Int → Int
 | [], m => m
 | x :: l, m => topF l (if (x : Int) > m then (x : Int) else m)
def topL (L : List Nat) : Int := topF L (-1)
theorem topF_drop (L : List Nat) (k : Nat) (m : Int) (h : k < L.length) : topF (L.drop k) m = topF (L.drop (k + 1)) (if (L[k] : Int) > m then (L[k] : Int) else m) := by
 rw [List.drop_eq_getElem_cons h, topF]
theorem matchQ_impl (q : List TNode) (f : TFile) (R : List TResult) (hq : wNodeS q ≤ 4300000) (hf : wFile f ≤ 4300000) (hR : wResultS R ≤ 67108864) : FnC Tryz.prog 247 [.o (.d (.sl (q.map encNode))), gFile f, .o (.d (.sl (R.map encResult)))] (ob (pr q R f)) := by
 refine ent Tryz.func247 rfl Tryz.call247 rfl (fun C => ?_); simp only [go_sem, st0, Tryz.ntmps247]
 cases hv : okQ q
 ·have q0 := @hv; refine w1_1 (implIsValidQuery_ok q hq) ?_
  exact retK_ret ⟨⟨_, rfl, by simp only [go_sem, pr, hv, Bool.false_and]⟩, trivial⟩
 ·have hl := okQ_len hv
  have hx : (q.length : Int) - 1 = ((q.length - 1 : Nat) : Int) := by omega
  have q0 := @hv; have q1 := @hx; refine w2_2 (implIsValidQuery_ok q hq) (implMatch_ok q f R hv hf hR q.length (q.length - 1) (by omega) (by omega)) ?_
  exact retK_ret ⟨⟨_, rfl, by simp only [go_sem, pr, hv, Bool.true_and]⟩, trivial⟩
theorem matchQ_spec (q : List TNode) (f : TFile) (R : List TResult) (hq : wNodeS q ≤ 4300000) (hf : wFile f ≤ 4300000) (hR : wResultS R ≤ 67108864) : FnC Tryz.prog 159 [.o (.d (.sl (q.map encNode))), gFile f, .o (.d (.sl (R.map encResult)))] (ob (pr q R f)) := by
 refine ent Tryz.func159 rfl Tryz.call159 rfl (fun C => ?_); simp only [go_sem, st0, Tryz.ntmps159]
 cases hv : okQ q
 ·have q0 := @hv; refine w1_1 (specIsValidQuery_ok q hq) ?_
  exact retK_ret ⟨⟨_, rfl, by simp only [go_sem, pr, hv, Bool.false_and]⟩, trivial⟩
 ·have hl := okQ_len hv
  have hx : (q.length : Int) - 1 = ((q.length - 1 : Nat) : Int) := by omega
  have q0 := @hv; have q1 := @hx; refine w2_2 (specIsValidQuery_ok q hq) (specMatch_ok q f R hv hf hR q.length (q.length - 1) (by omega) (by omega)) ?_
  exact retK_ret ⟨⟨_, rfl, by simp only [go_sem, pr, hv, Bool.true_and]⟩, trivial⟩
theorem sel_impl (s : TStore) (q : List TNode) (R : List TResult) (hs : wStore s ≤ 4300000) (hq : wNodeS q ≤ 4300000) (hR : wResultS R ≤ 67108864) : FnC Tryz.prog 167 [gStore s, .o (.d (.sl (q.map encNode))), .o (.d (.sl (R.map encResult)))] (.o (.w 3 1 ((selF s.fFiles q R).map encI))) := by
 unfold wStore wFileS at hs
 refine ent Tryz.func167 rfl Tryz.call167 rfl (fun C => ?_); simp only [go_sem, st0, Tryz.ntmps167]
 refine w0_0 ?_
 refine WP_lp (α := Nat) (fun k => [(7, .o (.s 1)), (10, .o .u), (14, oi k)]) (fun k => [(1, .row 3 1 ((idsOf ((s.fFiles.take k).filter (pr q R))).map encI) true)]) (fun k => k ≤ s.fFiles.length) (fun k => s.fFiles.length - k) 0 (fun _ => ?_) ?_ ?_ (fun k hk => ?_)
 ·simp only [go_sem]
 ·simp only [go_sem]; simp [idsOf]
 ·simp
 ·simp only [go_sem]
  refine w0_0 ?_
  refine cnd rfl (fun h => ?_) (fun h => ?_)
  ·simp only [decide_eq_true_eq, Int.ofNat_lt] at h
   have hw := wsum_get wFile s.fFiles h
   have ht : s.fFiles.take (k + 1) = s.fFiles.take k ++ [s.fFiles[k]] := List.take_succ_eq_append_getElem h
   have hl : (idsOf ((s.fFiles.take k).filter (pr q R))).length ≤ k := by
    unfold idsOf; rw [List.length_map]
    exact Nat.le_trans (List.length_filter_le _ _) (by rw [List.length_take]; omega)
   have hl1 : (idsOf ((s.fFiles.take k).filter (pr q R))).length + 1 ≤ 140737488355328 := by omega
   have hl2 : ((idsOf ((s.fFiles.take k).filter (pr q R))).length + 1) * 8 ≤ 140737488355328 := by omega
   cases hm : pr q R s.fFiles[k]
   ·have hf : idsOf ((s.fFiles.take (k + 1)).filter (pr q R)) = idsOf ((s.fFiles.take k).filter (pr q R)) := by rw [ht, List.filter_append]; simp [hm]
    have q0 := @h; have q1 := @hm; refine w2_1 (matchQ_impl q s.fFiles[k] R hq (by omega) hR) ?_
    refine L_next (k + 1) ?_ ?_ ?_
    ·simp only [go_sem, hf]; simp
    ·omega
    ·omega
   ·have hf : idsOf ((s.fFiles.take (k + 1)).filter (pr q R)) = idsOf ((s.fFiles.take k).filter (pr q R)) ++ [s.fFiles[k].fID] := by rw [ht, List.filter_append]; simp [hm, idsOf]
    have q0 := @h; have q1 := @hm; refine w2_1 (matchQ_impl q s.fFiles[k] R hq (by omega) hR) ?_
    refine L_next (k + 1) ?_ ?_ ?_
    ·simp only [go_sem, hf, List.map_append]; simp
    ·omega
    ·omega
  ·simp only [decide_eq_false_iff_not] at h
   have e : k = s.fFiles.length := by omega
   subst e
   refine w0_0 ?_
   exact retK_ret ⟨⟨_, rfl, by simp only [go_sem, selF, List.take_length]⟩, trivial⟩
theorem sel_spec (s : TStore) (q : List TNode) (R : List TResult) (hs : wStore s ≤ 4300000) (hq : wNodeS q ≤ 4300000) (hR : wResultS R ≤ 67108864) : FnC Tryz.prog 84 [gStore s, .o (.d (.sl (q.map encNode))), .o (.d (.sl (R.map encResult)))] (.o (.w 3 1 ((selF s.fFiles q R).map encI))) := by
 unfold wStore wFileS at hs
 refine ent Tryz.func84 rfl Tryz.call84 rfl (fun C => ?_); simp only [go_sem, st0, Tryz.ntmps84]
 refine w0_0 ?_
 refine WP_lp (α := Nat) (fun k => [(7, .o (.s 1)), (9, .o .u), (8, oi k)]) (fun k => [(1, .row 3 1 ((idsOf ((s.fFiles.take k).filter (pr q R))).map encI) true)]) (fun k => k ≤ s.fFiles.length) (fun k => s.fFiles.length - k) 0 (fun _ => ?_) ?_ ?_ (fun k hk => ?_)
 ·simp only [go_sem]
 ·simp only [go_sem]; simp [idsOf]
 ·simp
 ·simp only [go_sem]
  refine w0_0 ?_
  refine cnd rfl (fun h => ?_) (fun h => ?_)
  ·simp only [decide_eq_true_eq, Int.ofNat_lt] at h
   have hw := wsum_get wFile s.fFiles h
   have ht : s.fFiles.take (k + 1) = s.fFiles.take k ++ [s.fFiles[k]] := List.take_succ_eq_append_getElem h
   have hl : (idsOf ((s.fFiles.take k).filter (pr q R))).length ≤ k := by
    unfold idsOf; rw [List.length_map]
    exact Nat.le_trans (List.length_filter_le _ _) (by rw [List.length_take]; omega)
   have hl1 : (idsOf ((s.fFiles.take k).filter (pr q R))).length + 1 ≤ 140737488355328 := by omega
   have hl2 : ((idsOf ((s.fFiles.take k).filter (pr q R))).length + 1) * 8 ≤ 140737488355328 := by omega
   cases hm : pr q R s.fFiles[k]
   ·have hf : idsOf ((s.fFiles.take (k + 1)).filter (pr q R)) = idsOf ((s.fFiles.take k).filter (pr q R)) := by rw [ht, List.filter_append]; simp [hm]
    have q0 := @h; have q1 := @hm; refine w2_1 (matchQ_spec q s.fFiles[k] R hq (by omega) hR) ?_
    refine L_next (k + 1) ?_ ?_ ?_
    ·simp only [go_sem, hf]; simp
    ·omega
    ·omega
   ·have hf : idsOf ((s.fFiles.take (k + 1)).filter (pr q R)) = idsOf ((s.fFiles.take k).filter (pr q R)) ++ [s.fFiles[k].fID] := by rw [ht, List.filter_append]; simp [hm, idsOf]
    have q0 := @h; have q1 := @hm; refine w2_1 (matchQ_spec q s.fFiles[k] R hq (by omega) hR) ?_
    refine L_next (k + 1) ?_ ?_ ?_
    ·simp only [go_sem, hf, List.map_append]; simp
    ·omega
    ·omega
  ·simp only [decide_eq_false_iff_not] at h
   have e : k = s.fFiles.length := by omega
   subst e
   refine w0_0 ?_
   exact retK_ret ⟨⟨_, rfl, by simp only [go_sem, selF, List.take_length]⟩, trivial⟩
theorem resL_nil (d : List TDir) (h : resB d = false) : resL d = [] := by
 unfold resB at h
 unfold resL
 split
 ·rename_i hv
  rw [if_pos hv] at h
  apply levs_no
  intro hx
  obtain ⟨F, hF⟩ := hx
  rw [strat_yes hF] at h; cases h
 ·rfl
theorem maxI_ok (A : List Nat) (h : 0 < A.length) (hl : A.length ≤ 4300000) : FnC Tryz.prog 246 [.o (.d (.sl (A.map encN)))] (oi (topL A)) := by
 have h1 : ¬ (A.length : Int) < 1 := by omega
 have hst : topL A = topF (A.drop 1) (A[0] : Int) := by
  have := topF_drop A 0 (-1) h
  rw [List.drop_zero] at this
  unfold topL
  rw [this, if_pos (by omega)]
 refine ent Tryz.func246 rfl Tryz.call246 rfl (fun C => ?_); simp only [go_sem, st0, Tryz.ntmps246]
 have q0 := @h; have q1 := @h1; have q2 := @decide_false; have q3 := @Int.toNat_zero; have q4 := @Int.le_refl; refine w5_0 ?_
 refine WP_lp (α := Nat × Int) (fun x => [(3, oi x.2), (4, oi x.1)]) (fun _ => []) (fun x => 1 ≤ x.1 ∧ x.1 ≤ A.length ∧ topL A = topF (A.drop x.1) x.2) (fun x => A.length - x.1) (1, (A[0] : Int)) (fun _ => ?_) ?_ ?_ (fun x hx => ?_)
 ·simp only [go_sem]
 ·simp only [go_sem]; simp
 ·exact ⟨by simp, by simp only; omega, hst⟩
 ·obtain ⟨k, m⟩ := x
  obtain ⟨hk1, hk, hq⟩ := hx
  simp only at hk1 hk hq
  simp only [go_sem]
  refine w0_0 ?_
  refine cnd rfl (fun h2 => ?_) (fun h2 => ?_)
  ·simp only [decide_eq_true_eq, Int.ofNat_lt] at h2
   rw [topF_drop A k m h2] at hq
   have q0 := @h2; refine w1_0 ?_
   refine L_next (k + 1, mxI m (A[k] : Int)) ?_ ?_ ?_
   ·simp only [go_sem]; simp
   ·exact ⟨by simp, by simp only; omega, hq⟩
   ·simp only; omega
  ·simp only [decide_eq_false_iff_not] at h2
   have e : k = A.length := by omega
   subst e
   rw [List.drop_length, topF] at hq
   refine w0_0 ?_
   exact retK_ret ⟨⟨_, rfl, by simp only [go_sem, hq]⟩, trivial⟩
theorem implTop_ok (d : List TDir) (hd : wDirS d ≤ 4300000) (hl : (resL d).length ≤ 4300000) : FnC Tryz.prog 166 [.o (.d (.sl (d.map encDir)))] (oi (topL (resL d))) := by
 refine ent Tryz.func166 rfl Tryz.call166 rfl (fun C => ?_); simp only [go_sem, st0, Tryz.ntmps166]
 cases hb : resB d
 ·have e := resL_nil d hb
  have q0 := @hb; refine w1_1 (implStrata_ok d hd) ?_
  exact retK_ret ⟨⟨_, rfl, by simp only [go_sem, e, topL, topF]⟩, trivial⟩
 ·by_cases h0 : 0 < (resL d).length
  ·have hn : ¬ ((resL d).length : Int) = 0 := by omega
   have q0 := @hb; have q1 := @hn; have q2 := @decide_false; refine w3_2 (implStrata_ok d hd) (maxI_ok (resL d) h0 hl) ?_
   exact retK_ret ⟨⟨_, rfl, by simp only [go_sem]⟩, trivial⟩
  ·have hn : ((resL d).length : Int) = 0 := by omega
   have e : resL d = [] := List.eq_nil_of_length_eq_zero (by omega)
   have q0 := @hb; have q1 := @hn; have q2 := @decide_true; refine w3_1 (implStrata_ok d hd) ?_
   exact retK_ret ⟨⟨_, rfl, by simp only [go_sem, e, topL, topF]⟩, trivial⟩
theorem specTop_ok (d : List TDir) (hd : wDirS d ≤ 4300000) (hl : (resL d).length ≤ 4300000) : FnC Tryz.prog 83 [.o (.d (.sl (d.map encDir)))] (oi (topL (resL d))) := by
 refine ent Tryz.func83 rfl Tryz.call83 rfl (fun C => ?_); simp only [go_sem, st0, Tryz.ntmps83]
 refine w0_1 (specStrata_ok d hd) ?_
 generalize resL d = A at *
 refine WP_lp (α := Nat × Int) (fun x => [(5, oi x.2), (6, oi x.1)]) (fun _ => []) (fun x => x.1 ≤ A.length ∧ topL A = topF (A.drop x.1) x.2) (fun x => A.length - x.1) (0, -1) (fun _ => ?_) ?_ ?_ (fun x hx => ?_)
 ·simp only [go_sem]
 ·simp only [go_sem]; simp
 ·simp [topL]
 ·obtain ⟨k, m⟩ := x
  obtain ⟨hk, hq⟩ := hx
  simp only at hk hq
  simp only [go_sem]
  refine w0_0 ?_
  refine cnd rfl (fun h2 => ?_) (fun h2 => ?_)
  ·simp only [decide_eq_true_eq, Int.ofNat_lt] at h2
   rw [topF_drop A k m h2] at hq
   have q0 := @h2; refine w1_0 ?_
   by_cases hc : m < (A[k] : Int)
   ·rw [if_pos hc] at hq
    refine cnd (b := decide (m < (A[k] : Int))) rfl (fun _ => ?_) (fun hx => ?_)
    ·have q0 := @h2; refine w1_0 ?_
     refine L_next (k + 1, (A[k] : Int)) ?_ ?_ ?_
     ·simp only [go_sem]; simp
     ·exact ⟨by simp only; omega, hq⟩
     ·simp only; omega
    ·simp [hc] at hx
   ·rw [if_neg hc] at hq
    refine cnd (b := decide (m < (A[k] : Int))) rfl (fun hx => ?_) (fun _ => ?_)
    ·simp [hc] at hx
    ·have q0 := @h2; refine w1_0 ?_
     refine L_next (k + 1, m) ?_ ?_ ?_
     ·simp only [go_sem]; simp
     ·exact ⟨by simp only; omega, hq⟩
     ·simp only; omega
  ·simp only [decide_eq_false_iff_not] at h2
   have e : k = A.length := by omega
   subst e
   rw [List.drop_length, topF] at hq
   refine w0_0 ?_
   exact retK_ret ⟨⟨_, rfl, by simp only [go_sem, hq]⟩, trivial⟩
end Go.Proofs.YtddimbdeggomaaaGreat
end
section
set_option maxRecDepth 100000
namespace Go.Proofs.YtddimbdeggomaaaGreat
open Go Go.Sx Go.RowKit Go.Proofs
def eqL {α : Type} (p : α → α → Bool) : List α → List α → Bool
 | [], [] => true
 | x :: xs, y :: ys => p x y && eqL p xs ys
 | _, _ => false
theorem eqL_len {α : Type} (p : α → α → Bool) : ∀ {a b : List α}, a.length ≠ b.length → eqL p a b = false
 | [], [], h => by simp at h
 | x :: xs, y :: ys, h => by
  have := eqL_len p (a := xs) (b := ys) (by simpa using h)
  simp [eqL, this]
 | [], _ :: _, _ => rfl
 | _ :: _, [], _ => rfl
@[go_sem] def beqInt (a b : Int) : Bool := decide (a = b)
@[go_sem] def beqField (a b : TField) : Bool := decide (a.fName = b.fName) && decide (a.fKind = b.fKind)
@[go_sem] def beqAttr (a b : TAttr) : Bool := decide (a.fName = b.fName) && (decide (a.fValue.fKind = b.fValue.fKind) && (decide (a.fValue.fInt = b.fValue.fInt) && decide (a.fValue.fStr = b.fValue.fStr)))
@[go_sem] def beqNode (a b : TNode) : Bool := decide (a.fOp = b.fOp) && (decide (a.fLeft = b.fLeft) && (decide (a.fRight = b.fRight) && (decide (a.fName = b.fName) && (decide (a.fValue.fKind = b.fValue.fKind) && (decide (a.fValue.fInt = b.fValue.fInt) && decide (a.fValue.fStr = b.fValue.fStr))))))
def beqFile (a b : TFile) : Bool := decide (a.fID = b.fID) && (decide (a.fOwner = b.fOwner) && ((a.fShared == b.fShared) && (decide (a.fLink = b.fLink) && eqL beqAttr a.fAttrs b.fAttrs)))
def beqDir (a b : TDir) : Bool := decide (a.fName = b.fName) && eqL beqNode a.fQuery b.fQuery
def beqResult (a b : TResult) : Bool := decide (a.fName = b.fName) && eqL beqInt a.fIDs b.fIDs
def beqStore (a b : TStore) : Bool := eqL beqField a.fSchema b.fSchema && (eqL beqFile a.fFiles b.fFiles && decide (a.fNextID = b.fNextID))
def beqSnapshot (a b : TSnapshot) : Bool := beqStore a.fStore b.fStore && eqL beqDir a.fDirs b.fDirs
def beqCatalog (a b : TCatalog) : Bool := beqStore a.fStore b.fStore && (eqL beqDir a.fDirs b.fDirs && eqL beqResult a.fResults b.fResults)
theorem specInts_ok (a b : List Int) (ha : a.length ≤ 4300000) : FnC Tryz.prog 85 [.o (.d (.sl (a.map encI))), .o (.d (.sl (b.map encI)))] (ob (eqL beqInt a b)) := by
 have hal : a.length ≤ 4300000 := by omega
 refine ent Tryz.func85 rfl Tryz.call85 rfl (fun C => ?_); simp only [go_sem, st0, Tryz.ntmps85]
 refine w0_0 ?_
 refine cnd rfl (fun h0 => ?_) (fun h0 => ?_)
 ·have e : eqL beqInt a b = false := eqL_len _ (by simp only [Bool.not_eq_true', decide_eq_false_iff_not] at h0; omega)
  refine w0_0 ?_
  exact retK_ret ⟨⟨_, rfl, by simp only [go_sem, e]⟩, trivial⟩
 have h0 : a.length = b.length := by simpa [Int.ofNat_inj] using h0
 refine w0_0 ?_
 refine WP_lp (α := Nat) (fun k => [(5, oi k)]) (fun _ => []) (fun k => k ≤ a.length ∧ eqL beqInt a b = eqL beqInt (a.drop k) (b.drop k)) (fun k => a.length - k) 0 (fun _ => ?_) ?_ ?_ (fun k hk => ?_)
 ·simp only [go_sem]
 ·simp only [go_sem]; simp
 ·simp
 ·obtain ⟨hk, hq⟩ := hk
  simp only [go_sem]
  refine w0_0 ?_
  refine cnd rfl (fun h => ?_) (fun h => ?_)
  ·simp only [decide_eq_true_eq, Int.ofNat_lt] at h
   have hb : k < b.length := by omega
   rw [List.drop_eq_getElem_cons h, List.drop_eq_getElem_cons hb, eqL] at hq
   have q0 := @h; have q1 := @hb; refine w2_0 ?_
   refine cnd (b := !(beqInt a[k] b[k])) (by rfl) (fun h2 => ?_) (fun h2 => ?_)
   ·simp only [Bool.not_eq_true'] at h2
    rw [h2, Bool.false_and] at hq
    refine w0_0 ?_
    exact retK_ret ⟨⟨_, rfl, by simp only [go_sem, hq]⟩, trivial⟩
   ·simp only [Bool.not_eq_false'] at h2
    rw [h2, Bool.true_and] at hq
    refine w0_0 ?_
    refine L_next (k + 1) ?_ ?_ ?_
    ·simp only [go_sem]; simp
    ·exact ⟨h, hq⟩
    ·omega
  ·simp only [decide_eq_false_iff_not] at h
   have e : k = a.length := by omega
   subst e
   rw [List.drop_length, List.drop_of_length_le (by omega), eqL] at hq
   refine w0_0 ?_
   exact retK_ret ⟨⟨_, rfl, by simp only [go_sem, hq]⟩, trivial⟩
theorem implIntsEq_ok (a b : List Int) (ha : a.length ≤ 4300000) : FnC Tryz.prog 168 [.o (.d (.sl (a.map encI))), .o (.d (.sl (b.map encI)))] (ob (eqL beqInt a b)) := by
 have hal : a.length ≤ 4300000 := by omega
 refine ent Tryz.func168 rfl Tryz.call168 rfl (fun C => ?_); simp only [go_sem, st0, Tryz.ntmps168]
 refine w0_0 ?_
 refine cnd rfl (fun h0 => ?_) (fun h0 => ?_)
 ·have e : eqL beqInt a b = false := eqL_len _ (by simp only [Bool.not_eq_true', decide_eq_false_iff_not] at h0; omega)
  refine w0_0 ?_
  exact retK_ret ⟨⟨_, rfl, by simp only [go_sem, e]⟩, trivial⟩
 have h0 : a.length = b.length := by simpa [Int.ofNat_inj] using h0
 refine w0_0 ?_
 refine WP_lp (α := Nat) (fun k => [(13, oi k)]) (fun _ => []) (fun k => k ≤ a.length ∧ eqL beqInt a b = eqL beqInt (a.drop k) (b.drop k)) (fun k => a.length - k) 0 (fun _ => ?_) ?_ ?_ (fun k hk => ?_)
 ·simp only [go_sem]
 ·simp only [go_sem]; simp
 ·simp
 ·obtain ⟨hk, hq⟩ := hk
  simp only [go_sem]
  refine w0_0 ?_
  refine cnd rfl (fun h => ?_) (fun h => ?_)
  ·simp only [decide_eq_true_eq, Int.ofNat_lt] at h
   have hb : k < b.length := by omega
   rw [List.drop_eq_getElem_cons h, List.drop_eq_getElem_cons hb, eqL] at hq
   have q0 := @h; have q1 := @hb; refine w2_0 ?_
   refine cnd (b := !(beqInt a[k] b[k])) (by rfl) (fun h2 => ?_) (fun h2 => ?_)
   ·simp only [Bool.not_eq_true'] at h2
    rw [h2, Bool.false_and] at hq
    refine w0_0 ?_
    exact retK_ret ⟨⟨_, rfl, by simp only [go_sem, hq]⟩, trivial⟩
   ·simp only [Bool.not_eq_false'] at h2
    rw [h2, Bool.true_and] at hq
    refine w0_0 ?_
    refine L_next (k + 1) ?_ ?_ ?_
    ·simp only [go_sem]; simp
    ·exact ⟨h, hq⟩
    ·omega
  ·simp only [decide_eq_false_iff_not] at h
   have e : k = a.length := by omega
   subst e
   rw [List.drop_length, List.drop_of_length_le (by omega), eqL] at hq
   refine w0_0 ?_
   exact retK_ret ⟨⟨_, rfl, by simp only [go_sem, hq]⟩, trivial⟩
theorem specEqualResults_ok (a b : List TResult) (ha : wResultS a ≤ 4300000) : FnC Tryz.prog 181 [.o (.d (.sl (a.map encResult))), .o (.d (.sl (b.map encResult)))] (ob (eqL beqResult a b)) := by
 have hal : a.length ≤ 4300000 := by unfold wResultS at ha; omega
 refine ent Tryz.func181 rfl Tryz.call181 rfl (fun C => ?_); simp only [go_sem, st0, Tryz.ntmps181]
 refine w0_0 ?_
 refine cnd rfl (fun h0 => ?_) (fun h0 => ?_)
 ·have e : eqL beqResult a b = false := eqL_len _ (by simp only [Bool.not_eq_true', decide_eq_false_iff_not] at h0; omega)
  refine w0_0 ?_
  exact retK_ret ⟨⟨_, rfl, by simp only [go_sem, e]⟩, trivial⟩
 have h0 : a.length = b.length := by simpa [Int.ofNat_inj] using h0
 refine w0_0 ?_
 refine WP_lp (α := Nat) (fun k => [(5, oi k)]) (fun _ => []) (fun k => k ≤ a.length ∧ eqL beqResult a b = eqL beqResult (a.drop k) (b.drop k)) (fun k => a.length - k) 0 (fun _ => ?_) ?_ ?_ (fun k hk => ?_)
 ·simp only [go_sem]
 ·simp only [go_sem]; simp
 ·simp
 ·obtain ⟨hk, hq⟩ := hk
  simp only [go_sem]
  refine w0_0 ?_
  refine cnd rfl (fun h => ?_) (fun h => ?_)
  ·simp only [decide_eq_true_eq, Int.ofNat_lt] at h
   have hb : k < b.length := by omega
   rw [List.drop_eq_getElem_cons h, List.drop_eq_getElem_cons hb, eqL] at hq
   have hw := wsum_get wResult a h
   have hv : a[k].fIDs.length ≤ wResult a[k] := by unfold wResult; omega
   have hx : a[k].fIDs.length ≤ 4300000 := by unfold wResultS at ha; omega
   by_cases h1 : a[k].fName = b[k].fName
   case neg =>
    have h2 : beqResult a[k] b[k] = false := by simp [beqResult, h1]
    rw [h2, Bool.false_and] at hq
    have q0 := @h; have q1 := @hb; have q2 := @h1; have q3 := @decide_false; refine w4_0 ?_
    exact retK_ret ⟨⟨_, rfl, by simp only [go_sem, hq]⟩, trivial⟩
   have h3 : beqResult a[k] b[k] = eqL beqInt a[k].fIDs b[k].fIDs := by simp [beqResult, h1]
   have q0 := @h; have q1 := @hb; have q2 := @h1; have q3 := @decide_false; refine w4_1 (specInts_ok a[k].fIDs b[k].fIDs hx) ?_
   refine cnd (b := !(beqResult a[k] b[k])) (by rw [h3]; try rfl) (fun h2 => ?_) (fun h2 => ?_)
   ·simp only [Bool.not_eq_true'] at h2
    rw [h2, Bool.false_and] at hq
    refine w0_0 ?_
    exact retK_ret ⟨⟨_, rfl, by simp only [go_sem, hq]⟩, trivial⟩
   ·simp only [Bool.not_eq_false'] at h2
    rw [h2, Bool.true_and] at hq
    refine w0_0 ?_
    refine L_next (k + 1) ?_ ?_ ?_
    ·simp only [go_sem]; simp
    ·exact ⟨h, hq⟩
    ·omega
  ·simp only [decide_eq_false_iff_not] at h
   have e : k = a.length := by omega
   subst e
   rw [List.drop_length, List.drop_of_length_le (by omega), eqL] at hq
   refine w0_0 ?_
   exact retK_ret ⟨⟨_, rfl, by simp only [go_sem, hq]⟩, trivial⟩
theorem implEqualResults1_ok (x y : TResult) (h : wResult x ≤ 4300000) : FnC Tryz.prog 254 [gResult x, gResult y] (ob (beqResult x y)) := by
 have hx : x.fIDs.length ≤ 4300000 := by unfold wResult at h; omega
 refine ent Tryz.func254 rfl Tryz.call254 rfl (fun C => ?_); simp only [go_sem, st0, Tryz.ntmps254]
 by_cases h1 : x.fName = y.fName
 case neg =>
  have q0 := @h1; have q1 := @decide_false; refine w2_0 ?_
  exact retK_ret ⟨⟨_, rfl, by simp only [go_sem, beqResult, h1, decide_false, Bool.false_and]⟩, trivial⟩
 have q0 := @h1; have q1 := @decide_false; refine w2_1 (implIntsEq_ok x.fIDs y.fIDs hx) ?_
 exact retK_ret ⟨⟨_, rfl, by simp only [go_sem, beqResult, h1, Bool.true_and]⟩, trivial⟩
theorem implResultsEq_ok (a b : List TResult) (ha : wResultS a ≤ 4300000) : FnC Tryz.prog 253 [.o (.d (.sl (a.map encResult))), .o (.d (.sl (b.map encResult))), .o (.f 254 [])] (ob (eqL beqResult a b)) := by
 have hal : a.length ≤ 4300000 := by unfold wResultS at ha; omega
 refine ent Tryz.func253 rfl Tryz.call253 rfl (fun C => ?_); simp only [go_sem, st0, Tryz.ntmps253]
 refine w0_0 ?_
 refine cnd rfl (fun h0 => ?_) (fun h0 => ?_)
 ·have e : eqL beqResult a b = false := eqL_len _ (by simp only [Bool.not_eq_true', decide_eq_false_iff_not] at h0; omega)
  refine w0_0 ?_
  exact retK_ret ⟨⟨_, rfl, by simp only [go_sem, e]⟩, trivial⟩
 have h0 : a.length = b.length := by simpa [Int.ofNat_inj] using h0
 refine w0_0 ?_
 refine WP_lp (α := Nat) (fun k => [(17, oi k)]) (fun _ => []) (fun k => k ≤ a.length ∧ eqL beqResult a b = eqL beqResult (a.drop k) (b.drop k)) (fun k => a.length - k) 0 (fun _ => ?_) ?_ ?_ (fun k hk => ?_)
 ·simp only [go_sem]
 ·simp only [go_sem]; simp
 ·simp
 ·obtain ⟨hk, hq⟩ := hk
  simp only [go_sem]
  refine w0_0 ?_
  refine cnd rfl (fun h => ?_) (fun h => ?_)
  ·simp only [decide_eq_true_eq, Int.ofNat_lt] at h
   have hb : k < b.length := by omega
   rw [List.drop_eq_getElem_cons h, List.drop_eq_getElem_cons hb, eqL] at hq
   have q0 := @h; have q1 := @hb; refine w2_1 (implEqualResults1_ok a[k] b[k] (by have := wsum_get wResult a h; unfold wResultS at ha; omega)) ?_
   refine cnd (b := !(beqResult a[k] b[k])) (by rfl) (fun h2 => ?_) (fun h2 => ?_)
   ·simp only [Bool.not_eq_true'] at h2
    rw [h2, Bool.false_and] at hq
    refine w0_0 ?_
    exact retK_ret ⟨⟨_, rfl, by simp only [go_sem, hq]⟩, trivial⟩
   ·simp only [Bool.not_eq_false'] at h2
    rw [h2, Bool.true_and] at hq
    refine w0_0 ?_
    refine L_next (k + 1) ?_ ?_ ?_
    ·simp only [go_sem]; simp
    ·exact ⟨h, hq⟩
    ·omega
  ·simp only [decide_eq_false_iff_not] at h
   have e : k = a.length := by omega
   subst e
   rw [List.drop_length, List.drop_of_length_le (by omega), eqL] at hq
   refine w0_0 ?_
   exact retK_ret ⟨⟨_, rfl, by simp only [go_sem, hq]⟩, trivial⟩
theorem implEqualResults_ok (a b : List TResult) (ha : wResultS a ≤ 4300000) : FnC Tryz.prog 186 [.o (.d (.sl (a.map encResult))), .o (.d (.sl (b.map encResult)))] (ob (eqL beqResult a b)) := by
 refine ent Tryz.func186 rfl Tryz.call186 rfl (fun C => ?_); simp only [go_sem, st0, Tryz.ntmps186]
 refine w0_1 (implResultsEq_ok a b ha) ?_
 exact retK_ret ⟨⟨_, rfl, by simp only [go_sem]⟩, trivial⟩
end Go.Proofs.YtddimbdeggomaaaGreat
end
section
set_option maxRecDepth 100000
set_option maxHeartbeats 4000000
namespace Go.Proofs.YtddimbdeggomaaaGreat
open Go Go.Sx Go.RowKit Go.Proofs
def levK (d : List TDir) (L : List Nat) : Nat := (topL L + 1).toNat
noncomputable def evX (s : TStore) (d : List TDir) (r : List TResult) (ns : List ByteArray) : List TResult × Nat := if resB d && okStore s then allE s.fFiles d (resL d) ns (s.fFiles.length + wResultS r) r (levK d (resL d)) else ([], 0)
noncomputable def evB (s : TStore) (d : List TDir) : Bool := resB d && okStore s
theorem resB_yes {d : List TDir} (h : resB d = true) : okDirs d = true ∧ Least d.length (EE d) (resL d) := by
 unfold resB at h
 split at h
 ·rename_i hv
  refine ⟨hv, ?_⟩
  unfold strat at h
  split at h
  ·rename_i hx
   have hex : ∃ L, Least d.length (EE d) L := by
    have hends := upsN_ends (EE_edges d) (edgesA d) (fun x => Iff.rfl) (d.length * d.length + 2) (by omega)
    simp only at hends
    split at hends
    ·exact ⟨_, hends⟩
    ·exact (hends hx).elim
   obtain ⟨L, hL⟩ := hex
   have e : resL d = L := by unfold resL; rw [if_pos hv]; exact levs_eq hL
   rw [e]; exact hL
  ·cases h
 ·cases h
theorem okDirs_name {d : List TDir} (h : okDirs d = true) (i : Nat) (hi : i < d.length) : d[i].fName.size ≤ 6 := by
 unfold okDirs at h
 simp only [Bool.and_eq_true, List.all_eq_true, List.mem_range] at h
 have := h.1 i hi
 unfold okDirAt at this
 rw [List.getElem?_eq_getElem hi] at this
 simp only [Bool.and_eq_true] at this
 have := isText_le this.1
 omega
theorem okStore_len {s : TStore} (h : okStore s = true) : s.fFiles.length ≤ 12 := by
 unfold okStore at h
 simp only [Bool.and_eq_true, decide_eq_true_eq] at h
 omega
theorem wsum_bound {α : Type} (w : α → Nat) (c : Nat) : ∀ l : List α, (∀ i, (h : i < l.length) → w l[i] ≤ c) → wsum w l ≤ l.length * c
 | [], _ => by simp [wsum]
 | x :: l, h => by
  have h0 := h 0 (by simp)
  have h1 := wsum_bound w c l fun i hi => h (i + 1) (by simpa using hi)
  simp only [List.getElem_cons_zero] at h0
  simp only [wsum, List.length_cons, Nat.succ_mul]
  omega
theorem Ev.get {fs : List TFile} {d : List TDir} {L : List Nat} {ns : List ByteArray} {c k : Nat} {R : List TResult} (h : Ev fs d L ns c k R) (i : Nat) (hi : i < d.length) : (R[i]'(by rw [h.len]; exact hi)).fName = d[i].fName ∧ (R[i]'(by rw [h.len]; exact hi)).fIDs = idsAt R i := by
 have hlen := h.len
 have hR : i < R.length := by omega
 refine ⟨?_, ?_⟩
 ·have := congrArg (fun l : List ByteArray => l[i]?) h.nm
  simp only [List.getElem?_map] at this
  rw [List.getElem?_eq_getElem hR, List.getElem?_eq_getElem hi] at this
  simpa using this
 ·simp [idsAt, List.getD_eq_getElem?_getD, hR]
theorem Ev.w {fs : List TFile} {d : List TDir} {L : List Nat} {ns : List ByteArray} {c k : Nat} {R : List TResult} (h : Ev fs d L ns c k R) (hv : okDirs d = true) (hc : c ≤ 4300012) : wResultS R ≤ 67108864 := by
 have hlen := h.len
 have h5 := okDirs_len hv
 have hb := wsum_bound wResult 4300018 R fun i hi => by
  obtain ⟨e1, e2⟩ := h.get i (by omega)
  have h1 := okDirs_name hv i (by omega)
  have h2 := h.bd i
  unfold wResult
  rw [e1, e2]
  omega
 unfold wResultS
 have : R.length * 4300018 ≤ 5 * 4300018 := Nat.mul_le_mul_right _ (by omega)
 omega
theorem setR1 (R : List TResult) (i : Nat) (nm : ByteArray) (l : List Int) : (R.map encResult).set i [sv nm, .sl (l.map encI)] = (R.set i ⟨nm, l⟩).map encResult := by rw [List.map_set]; rfl
theorem eqL_int (a b : List Int) : eqL beqInt a b = decide (a = b) := by
 induction a generalizing b with
 | nil => cases b <;> simp [eqL]
 | cons x a ih =>
  cases b with
  | nil => simp [eqL]
  | cons y b =>
   simp only [eqL, ih, beqInt]
   by_cases h1 : x = y <;> by_cases h2 : a = b <;> simp [h1, h2]
theorem startR_take (ns : List ByteArray) (r : List TResult) (d : List TDir) (k : Nat) (h : k < d.length) : startR ns r (d.take (k + 1)) = startR ns r (d.take k) ++ [⟨d[k].fName, if hasS ns d[k].fName then [] else resIDs d[k].fName r⟩] := by
 unfold startR; rw [List.take_succ_eq_append_getElem h, List.map_append]; rfl
theorem startR_len (ns : List ByteArray) (r : List TResult) (d : List TDir) (k : Nat) : (startR ns r (d.take k)).length ≤ k := by unfold startR; simp; omega
theorem has_dir (d : List TDir) (k : Nat) (h : k < d.length) : hasS (dirNs d) d[k].fName = true := by
 rw [hasS_mem]
 exact List.mem_map.2 ⟨d[k], List.getElem_mem h, rfl⟩
def chB (fs : List TFile) (d : List TDir) (L : List Nat) (ns : List ByteArray) (k i : Nat) (R : List TResult) : Bool := decide (totR R < totR (passT fs d L ns k i R))
theorem topF_ge (l : List Nat) (m : Int) : m ≤ topF l m := by
 induction l generalizing m with
 | nil => simp [topF]
 | cons x l ih =>
  simp only [topF]
  split
  ·have := ih (x : Int); omega
  ·exact ih m
theorem topF_le (l : List Nat) (m c : Int) (hm : m ≤ c) (h : ∀ x ∈ l, (x : Int) ≤ c) : topF l m ≤ c := by
 induction l generalizing m with
 | nil => exact hm
 | cons x l ih =>
  simp only [topF]
  refine ih _ ?_ fun y hy => h y (List.mem_cons_of_mem _ hy)
  split
  ·exact h x (by simp)
  ·exact hm
theorem top_le {d : List TDir} {L : List Nat} (h : Least d.length (EE d) L) : topL L ≤ (d.length : Int) := by
 obtain ⟨G, hG, hs⟩ := clo_small (EE_edges d) h.clo
 refine topF_le L (-1) _ (by omega) fun x hx => ?_
 obtain ⟨i, hi, rfl⟩ := List.mem_iff_getElem.1 hx
 have h1 := h.le G hG i
 have h2 := hs i (by rw [← h.clo.len]; exact hi)
 rw [lv_get L i hi]
 omega
theorem loopE_cnt (fs : List TFile) (d : List TDir) (L : List Nat) (ns : List ByteArray) (k : Nat) : ∀ (F : Nat) (x : List TResult × Nat), (loopE fs d L ns k F x).2 ≤ x.2 + F
 | 0, x => by simp [loopE]
 | F + 1, x => by
  unfold loopE
  split
  ·have := loopE_cnt fs d L ns k F (passT fs d L ns k d.length x.1, x.2 + 1)
   simp only at this
   omega
  ·simp only; omega
theorem allE_cnt (fs : List TFile) (d : List TDir) (L : List Nat) (ns : List ByteArray) (c : Nat) (r : List TResult) : ∀ k, (allE fs d L ns c r k).2 ≤ k * (d.length * c + 1)
 | 0 => by simp [allE]
 | k + 1 => by
  have h1 := allE_cnt fs d L ns c r k
  have h2 := loopE_cnt fs d L ns k (d.length * c + 1) (allE fs d L ns c r k)
  simp only [allE, Nat.succ_mul]
  omega
theorem levK_iff (d : List TDir) (L : List Nat) (k : Nat) : (k : Int) ≤ topL L ↔ k < levK d L := by
 have : -1 ≤ topL L := topF_ge L (-1)
 unfold levK
 omega
theorem chB_keep {fs : List TFile} {d : List TDir} {L : List Nat} {ns : List ByteArray} {k i : Nat} {R : List TResult} (h : passT fs d L ns k (i + 1) R = passT fs d L ns k i R) : chB fs d L ns k (i + 1) R = chB fs d L ns k i R := by unfold chB; rw [h]
theorem implEv_ok (s : TStore) (d : List TDir) (r : List TResult) (ns : List ByteArray) (hs : wStore s ≤ 4300000) (hd : wDirS d ≤ 4300000) (hr : wResultS r ≤ 4300000) (hns : ns.length ≤ 4300000) : FnC Tryz.prog 89 [gStore s, .o (.d (.sl (d.map encDir))), .o (.d (.sl (r.map encResult))), .o (.d (.sl (ns.map encS)))] (.t [(false, [.w 125 2 ((evX s d r ns).1.map encResult)]), (false, [.d (iv ((evX s d r ns).2 : Nat))]), (false, [.d (bv (evB s d))])]) := by
 have hd0 : d.length + wsum wDir d ≤ 4300000 := hd
 have hs0 : wFieldS s.fSchema + (s.fFiles.length + wsum wFile s.fFiles) ≤ 4300000 := hs
 refine ent Tryz.func89 rfl Tryz.call89 rfl (fun C => ?_); simp only [go_sem, st0, Tryz.ntmps89]
 cases hb : resB d
 ·have e1 : evX s d r ns = ([], 0) := by simp [evX, hb]
  have e2 : evB s d = false := by simp [evB, hb]
  have q0 := @hb; refine w1_1 (implStrata_ok d hd) ?_
  exact retK_ret ⟨⟨_, rfl, by simp only [go_sem, e1, e2, List.map_nil]; simp⟩, by simp [notOne]⟩
 cases hst : okStore s
 ·have e1 : evX s d r ns = ([], 0) := by simp [evX, hst]
  have e2 : evB s d = false := by simp [evB, hst]
  have q0 := @hb; have q1 := @hst; refine w2_2 (implStrata_ok d hd) (implStore_ok s hs) ?_
  exact retK_ret ⟨⟨_, rfl, by simp only [go_sem, e1, e2, List.map_nil]; simp⟩, by simp [notOne]⟩
 obtain ⟨hv, hleast⟩ := resB_yes hb
 have hclo := hleast.clo
 have hvq := fun i (hi : i < d.length) => okDirs_at hv i hi
 have h5 := okDirs_len hv
 have h12 := okStore_len hst
 have hLl := hclo.len
 obtain ⟨CC, hCC⟩ : ∃ c, s.fFiles.length + wResultS r = c := ⟨_, rfl⟩
 have hC2 : CC ≤ 4300012 := by omega
 have e1 : evX s d r ns = allE s.fFiles d (resL d) ns CC r (levK d (resL d)) := by simp [evX, hb, hst, hCC]
 have e2 : evB s d = true := by simp [evB, hb, hst]
 have q0 := @hb; have q1 := @hst; refine w2_2 (implStrata_ok d hd) (implStore_ok s hs) ?_
 refine WP_lp (α := Nat) (fun k => [(13, .o (.s 2)), (35, .o .u), (38, oi k)]) (fun k => [(2, .row 125 2 ((startR ns r (d.take k)).map encResult) true)]) (fun k => k ≤ d.length) (fun k => d.length - k) 0 (fun _ => ?_) ?_ ?_ (fun k hk => ?_)
 ·simp only [go_sem]
 ·simp only [go_sem]; simp [startR]
 ·simp
 ·simp only [go_sem]
  refine w0_0 ?_
  refine cnd rfl (fun h => ?_) (fun h => ?_)
  ·simp only [decide_eq_true_eq, Int.ofNat_lt] at h
   have hsl := startR_len ns r d k
   have hl1 : (startR ns r (d.take k)).length + 1 ≤ 140737488355328 := by omega
   have hl2 : ((startR ns r (d.take k)).length + 1) * 40 ≤ 140737488355328 := by omega
   have hsu := startR_take ns r d k h
   cases hn : hasS ns d[k].fName
   ·rw [hn] at hsu
    have q0 := @h; have q1 := @hn; have q2 := @hl1; have q3 := @hl2; refine w4_2 (containsS_ok ns d[k].fName hns) (implResIDs_ok r d[k].fName (by omega)) ?_
    refine L_next (k + 1) ?_ ?_ ?_
    ·simp only [go_sem, hsu, List.map_append]; simp [encResult]
    ·omega
    ·omega
   ·rw [hn] at hsu
    have q0 := @h; have q1 := @hn; have q2 := @hl1; have q3 := @hl2; refine w4_1 (containsS_ok ns d[k].fName hns) ?_
    refine L_next (k + 1) ?_ ?_ ?_
    ·simp only [go_sem, hsu, List.map_append]; simp [encResult]
    ·omega
    ·omega
  ·simp only [decide_eq_false_iff_not] at h
   have e : k = d.length := by omega
   subst e
   rw [List.take_length]
   generalize hL : resL d = L at *
   refine w0_0 ?_
   refine WP_lp (α := Nat) (fun k => [(17, oi ((allE s.fFiles d L ns CC r k).2 : Nat)), (18, oi k)]) (fun k => [(2, .row 125 2 ((allE s.fFiles d L ns CC r k).1.map encResult) true)]) (fun k => k ≤ levK d L) (fun k => levK d L - k) 0 (fun _ => ?_) ?_ ?_ (fun k hk => ?_)
   ·simp only [go_sem]
   ·simp only [go_sem]; simp [allE]
   ·simp
   ·simp only [go_sem]
    have q0 := @hL; refine w1_1 (implTop_ok d hd (by rw [hL]; omega)) ?_
    refine cnd rfl (fun hlev => ?_) (fun hlev => ?_)
    ·simp only [decide_eq_true_eq] at hlev
     have hkK := (levK_iff d L k).1 hlev
     have hev := allE_ev (fs := s.fFiles) (ns := ns) (r := r) hvq hclo k
     rw [hCC] at hev
     have htop := top_le hleast
     have hcnt := allE_cnt s.fFiles d L ns CC r k
     have hnm : d.length * CC ≤ 5 * 4300012 := Nat.mul_le_mul h5 hC2
     have hcnt2 : k * (d.length * CC + 1) ≤ 5 * 21500061 := Nat.mul_le_mul (by omega) (by omega)
     have hround : Round s.fFiles d L ns CC k (allE s.fFiles d L ns CC r (k + 1)) ((allE s.fFiles d L ns CC r k).1, (allE s.fFiles d L ns CC r k).2, true) := Round.start hev
     generalize hT : allE s.fFiles d L ns CC r (k + 1) = T at *
     generalize allE s.fFiles d L ns CC r k = X at *
     refine w0_0 ?_
     refine WP_lp (α := List TResult × Nat × Bool) (fun x => [(17, oi (x.2.1 : Nat)), (19, ob x.2.2)]) (fun x => [(2, .row 125 2 (x.1.map encResult) true)]) (fun x => Round s.fFiles d L ns CC k T (x.1, x.2.1, x.2.2) ∧ x.2.1 ≤ X.2 + totR x.1 + (if x.2.2 then 0 else 1)) (fun x => if x.2.2 then d.length * CC + 1 - totR x.1 else 0) (X.1, X.2, true) (fun _ => ?_) ?_ ?_ (fun x hx => ?_)
     ·simp only [go_sem]
     ·simp only [go_sem]; simp
     ·exact ⟨hround, by simp⟩
     ·obtain ⟨R, c, b⟩ := x
      obtain ⟨hx, hcb⟩ := hx
      simp only at hcb
      simp only [go_sem]
      refine w0_0 ?_
      refine cnd rfl (fun hbt => ?_) (fun hbt => ?_)
      ·subst hbt
       have hRe : Ev s.fFiles d L ns CC k R := hx.ev
       have hRt := hRe.tot
       simp only [if_true, Nat.add_zero] at hcb
       have hcI : c ≤ 1000000000 := by omega
       have hpass := hx.pass hvq hclo
       refine w0_0 ?_
       refine WP_lp (α := Nat) (fun i => [(19, ob (chB s.fFiles d L ns k i R)), (71, oi i)]) (fun i => [(2, .row 125 2 ((passT s.fFiles d L ns k i R).map encResult) true)]) (fun i => i ≤ d.length) (fun i => d.length - i) 0 (fun _ => ?_) ?_ ?_ (fun i hi => ?_)
       ·simp only [go_sem]
       ·simp only [go_sem]; simp [chB, passT]
       ·simp
       ·simp only [go_sem]
        refine w0_0 ?_
        refine cnd rfl (fun h => ?_) (fun h => ?_)
        ·simp only [decide_eq_true_eq, Int.ofNat_lt] at h
         have hEv := passT_ev hvq hclo i R (by omega) hRe
         have hcs := passT_cases hvq hclo i R (by omega) hRe
         have hsu := passT_succ s.fFiles d L ns k i R h
         have hchk : passT s.fFiles d L ns k (i + 1) R = passT s.fFiles d L ns k i R → chB s.fFiles d L ns k (i + 1) R = chB s.fFiles d L ns k i R := chB_keep
         have hchn : totR R < totR (passT s.fFiles d L ns k (i + 1) R) → chB s.fFiles d L ns k (i + 1) R = true := fun hx => by unfold chB; exact decide_eq_true hx
         have hw := hEv.w hv hC2
         obtain ⟨g1, g2⟩ := hEv.get i h
         have hPl := hEv.len
         have hbd := hEv.bd i
         have hwd := wsum_get wDir d h
         have hwq : wNodeS d[i].fQuery ≤ wDir d[i] := by unfold wDir; omega
         have hgrow := fun hin hik hne => hEv.grow h hin hik hne
         have hsame := fun he => newR_same hEv h he
         generalize passT s.fFiles d L ns k i R = P at *
         generalize hP2 : passT s.fFiles d L ns k (i + 1) R = P2 at *
         have hiP : i < P.length := by omega
         have hiL : i < L.length := by omega
         have hg := lv_get L i hiL
         have hsl := selF_len s.fFiles d[i].fQuery P
         by_cases hik : lv L i = k
         ·have hkI : ((lv L i : Nat) : Int) = ((k : Nat) : Int) := by omega
          cases hn : hasS ns d[i].fName
          ·rw [if_neg (fun h => by rw [hn] at h; cases h.2)] at hsu
           have q0 := @h; have q1 := @hiP; have q2 := @hiL; have q3 := @hg; have q4 := @hkI; have q5 := @hn; have q6 := @decide_true; have q7 := @decide_false; refine w8_1 (containsS_ok ns d[i].fName hns) ?_
           refine L_next (i + 1) ?_ ?_ ?_
           ·simp only [go_sem, hP2, hchk hsu, hsu]; simp
           ·omega
           ·omega
          ·rw [if_pos ⟨hik, hn⟩] at hsu
           by_cases he : selF s.fFiles d[i].fQuery P = idsAt P i
           ·have hE : eqL beqInt (selF s.fFiles d[i].fQuery P) (idsAt P i) = true := by rw [eqL_int]; exact decide_eq_true he
            have hPP : P2 = P := by rw [hsu, hsame he]
            repeat' (with_reducible first | refine nY ?_ | (refine mX ?_; try simp only [go_sem, h, hiP, hiL, hg, hkI, g1, g2, hE, hn, decide_true, decide_false]) | refine kO ?_ (by decide) | refine regd (by kernel_rfl) ?_ | (refine cC (containsS_ok ns d[i].fName hns) ?_ ?_; focus simp only [go_sem, and_self]; done) | (refine calr (sel_impl s d[i].fQuery P hs (by omega) hw) ?_ ?_ ?_ (uX ?_); (focus simp only [go_sem, h, hiP, hiL, hg, hkI, g1, g2, hE, hn, decide_true, decide_false]; done); (focus simp only [go_sem, h, hiP, hiL, hg, hkI, g1, g2, hE, hn, decide_true, decide_false]; done); (focus simp only [go_sem, h, hiP, hiL, hg, hkI, g1, g2, hE, hn, decide_true, decide_false]; done)) | (refine cDr (sel_impl s d[i].fQuery P hs (by omega) hw) ?_ ?_ ?_ (uX ?_); (focus simp only [go_sem, h, hiP, hiL, hg, hkI, g1, g2, hE, hn, decide_true, decide_false]; done); (focus simp only [go_sem, h, hiP, hiL, hg, hkI, g1, g2, hE, hn, decide_true, decide_false]; done); (focus simp only [go_sem, h, hiP, hiL, hg, hkI, g1, g2, hE, hn, decide_true, decide_false]; done)) | (refine cale (implIntsEq_ok (selF s.fFiles d[i].fQuery P) (idsAt P i) (by omega)) ?_ ?_ ?_ (uX ?_); (focus simp only [go_sem, h, hiP, hiL, hg, hkI, g1, g2, hE, hn, decide_true, decide_false]; done); (focus simp only [go_sem, h, hiP, hiL, hg, hkI, g1, g2, hE, hn, decide_true, decide_false]; done); (focus simp only [go_sem, h, hiP, hiL, hg, hkI, g1, g2, hE, hn, decide_true, decide_false]; done)) | (refine And.intro ?_ ?_; focus omega))
            refine L_next (i + 1) ?_ ?_ ?_
            ·simp only [go_sem, hP2, hchk hPP, hPP]; simp
            ·omega
            ·omega
           ·have hE : eqL beqInt (selF s.fFiles d[i].fQuery P) (idsAt P i) = false := by rw [eqL_int]; exact decide_eq_false he
            have hlt := hgrow hn hik he
            have hch2 : chB s.fFiles d L ns k (i + 1) R = true := hchn (by
             rw [hsu]
             rcases hcs with e | e
             ·rw [← e]; exact hlt
             ·omega)
            repeat' (with_reducible first | refine nY ?_ | (refine mX ?_; try simp only [go_sem, h, hiP, hiL, hg, hkI, g1, g2, hE, hn, decide_true, decide_false]) | refine kO ?_ (by decide) | refine regd (by kernel_rfl) ?_ | (refine cC (containsS_ok ns d[i].fName hns) ?_ ?_; focus simp only [go_sem, and_self]; done) | (refine calr (sel_impl s d[i].fQuery P hs (by omega) hw) ?_ ?_ ?_ (uX ?_); (focus simp only [go_sem, h, hiP, hiL, hg, hkI, g1, g2, hE, hn, decide_true, decide_false]; done); (focus simp only [go_sem, h, hiP, hiL, hg, hkI, g1, g2, hE, hn, decide_true, decide_false]; done); (focus simp only [go_sem, h, hiP, hiL, hg, hkI, g1, g2, hE, hn, decide_true, decide_false]; done)) | (refine cDr (sel_impl s d[i].fQuery P hs (by omega) hw) ?_ ?_ ?_ (uX ?_); (focus simp only [go_sem, h, hiP, hiL, hg, hkI, g1, g2, hE, hn, decide_true, decide_false]; done); (focus simp only [go_sem, h, hiP, hiL, hg, hkI, g1, g2, hE, hn, decide_true, decide_false]; done); (focus simp only [go_sem, h, hiP, hiL, hg, hkI, g1, g2, hE, hn, decide_true, decide_false]; done)) | (refine cale (implIntsEq_ok (selF s.fFiles d[i].fQuery P) (idsAt P i) (by omega)) ?_ ?_ ?_ (uX ?_); (focus simp only [go_sem, h, hiP, hiL, hg, hkI, g1, g2, hE, hn, decide_true, decide_false]; done); (focus simp only [go_sem, h, hiP, hiL, hg, hkI, g1, g2, hE, hn, decide_true, decide_false]; done); (focus simp only [go_sem, h, hiP, hiL, hg, hkI, g1, g2, hE, hn, decide_true, decide_false]; done)) | (refine And.intro ?_ ?_; focus omega))
            refine L_next (i + 1) ?_ ?_ ?_
            ·simp only [go_sem, hP2, hch2, hsu, newR, ← setR1]; simp
            ·omega
            ·omega
         ·rw [if_neg (fun h => hik h.1)] at hsu
          have hkI : ¬ ((lv L i : Nat) : Int) = ((k : Nat) : Int) := by omega
          have q0 := @h; have q1 := @hiP; have q2 := @hiL; have q3 := @hg; have q4 := @hkI; have q5 := @decide_true; have q6 := @decide_false; refine w7_0 ?_
          refine L_next (i + 1) ?_ ?_ ?_
          ·simp only [go_sem, hP2, hchk hsu, hsu]; simp
          ·omega
          ·omega
        ·simp only [decide_eq_false_iff_not] at h
         have e : i = d.length := by omega
         subst e
         have hPe := passT_ev hvq hclo d.length R (Nat.le_refl _) hRe
         have hPt := hPe.tot
         refine w0_0 ?_
         refine L_next (passT s.fFiles d L ns k d.length R, c + 1, chB s.fFiles d L ns k d.length R) ?_ ?_ ?_
         ·simp only [go_sem]; simp
         ·refine ⟨hpass, ?_⟩
          simp only
          have hpc := passT_cases hvq hclo d.length R (Nat.le_refl _) hRe
          cases hcb2 : chB s.fFiles d L ns k d.length R with
          | false =>
           have h9 : totR R ≤ totR (passT s.fFiles d L ns k d.length R) := by
            rcases hpc with e | e
            ·rw [e]; exact Nat.le_refl _
            ·omega
           simp only [Bool.false_eq_true, if_false]; omega
          | true =>
           have := of_decide_eq_true hcb2
           simp only [if_true]; omega
         ·simp only [if_true]
          cases hcb3 : chB s.fFiles d L ns k d.length R with
          | false => simp only [Bool.false_eq_true, if_false]; omega
          | true =>
           have := of_decide_eq_true hcb3
           simp only [if_true]; omega
      ·subst hbt
       have hTe := hx.fin rfl
       simp only at hTe
       refine w0_0 ?_
       refine L_next (k + 1) ?_ ?_ ?_
       ·simp only [go_sem, hT, hTe]; simp
       ·omega
       ·omega
    ·simp only [decide_eq_false_iff_not] at hlev
     have hkK : ¬ k < levK d L := fun h => hlev ((levK_iff d L k).2 h)
     have e : k = levK d L := by omega
     subst e
     refine w0_0 ?_
     exact retK_ret ⟨⟨_, rfl, by simp only [go_sem, e1, e2]; try simp⟩, by simp [notOne]⟩
end Go.Proofs.YtddimbdeggomaaaGreat
end
