/-
  Evaluation by levels: passes, rounds of passes, levels, as functions.
-/
import Derived.Test.YtgglopecipbbfaaGreatE2Run
import Derived.Test.YtgglopecipbbfaaGreatH22Match
set_option linter.all false
set_option maxRecDepth 100000
set_option maxHeartbeats 4000000
namespace Go.Proofs.YtgglopecipbbfaaGreat

/-- One pass over the first m directories. -/
def passT (fs : List TFile) (d : List TDir) (L : List Nat) (ns : List ByteArray) (k : Nat) : Nat → List TResult → List TResult
  | 0, R => R
  | m + 1, R => match d[m]? with
    | none => passT fs d L ns k m R
    | some x => if lv L m = k ∧ hasS ns x.fName = true then newR fs d m (passT fs d L ns k m R) x else passT fs d L ns k m R
def loopE (fs : List TFile) (d : List TDir) (L : List Nat) (ns : List ByteArray) (k : Nat) : Nat → List TResult × Nat → List TResult × Nat
  | 0, x => x
  | F + 1, x => if totR x.1 < totR (passT fs d L ns k d.length x.1) then loopE fs d L ns k F (passT fs d L ns k d.length x.1, x.2 + 1) else (passT fs d L ns k d.length x.1, x.2 + 1)
def startR (ns : List ByteArray) (r : List TResult) (d : List TDir) : List TResult := d.map fun x => ⟨x.fName, if hasS ns x.fName then [] else resIDs x.fName r⟩
def allE (fs : List TFile) (d : List TDir) (L : List Nat) (ns : List ByteArray) (c : Nat) (r : List TResult) : Nat → List TResult × Nat
  | 0 => (startR ns r d, 0)
  | k + 1 => loopE fs d L ns k (d.length * c + 1) (allE fs d L ns c r k)
theorem newR_same {fs : List TFile} {d : List TDir} {L : List Nat} {ns : List ByteArray} {c k : Nat} {R : List TResult} (h : Ev fs d L ns c k R) {i : Nat} (hi : i < d.length) (he : selF fs d[i].fQuery R = idsAt R i) : newR fs d i R d[i] = R := by
  have hlen := h.len
  have hnm : (R[i]'(by omega)).fName = d[i].fName := by
    have := congrArg (fun l : List ByteArray => l[i]?) h.nm
    simp only [List.getElem?_map] at this
    rw [List.getElem?_eq_getElem (by omega), List.getElem?_eq_getElem hi] at this
    simpa using this
  have hids : idsAt R i = (R[i]'(by omega)).fIDs := by
    have : i < R.length := by omega
    simp [idsAt, List.getD_eq_getElem?_getD, this]
  unfold newR
  rw [he, hids, ← hnm]
  exact List.set_getElem_self _
theorem passT_succ (fs : List TFile) (d : List TDir) (L : List Nat) (ns : List ByteArray) (k m : Nat) (R : List TResult) (h : m < d.length) : passT fs d L ns k (m + 1) R = if lv L m = k ∧ hasS ns d[m].fName = true then newR fs d m (passT fs d L ns k m R) d[m] else passT fs d L ns k m R := by
  rw [passT, List.getElem?_eq_getElem h]
theorem passT_ev {fs : List TFile} {d : List TDir} {L : List Nat} {ns : List ByteArray} {c k : Nat} (hv : ∀ i, (hi : i < d.length) → okQ d[i].fQuery = true) (hc : Clo d.length (EE d) L) : ∀ (m : Nat) (R : List TResult), m ≤ d.length → Ev fs d L ns c k R → Ev fs d L ns c k (passT fs d L ns k m R)
  | 0, R, _, h => h
  | m + 1, R, hm, h => by
    have ih := passT_ev hv hc m R (by omega) h
    rw [passT_succ fs d L ns k m R (by omega)]
    split
    · rename_i e; exact ih.step hv hc (by omega) e.2 e.1
    · exact ih
theorem newR_cases {fs : List TFile} {d : List TDir} {L : List Nat} {ns : List ByteArray} {c k : Nat} {R : List TResult} (h : Ev fs d L ns c k R) {i : Nat} (hi : i < d.length) (hin : hasS ns d[i].fName = true) (hik : lv L i = k) : newR fs d i R d[i] = R ∨ totR R < totR (newR fs d i R d[i]) := by
  by_cases he : selF fs d[i].fQuery R = idsAt R i
  · exact .inl (newR_same h hi he)
  · exact .inr (h.grow hi hin hik he)
theorem passT_cases {fs : List TFile} {d : List TDir} {L : List Nat} {ns : List ByteArray} {c k : Nat} (hv : ∀ i, (hi : i < d.length) → okQ d[i].fQuery = true) (hc : Clo d.length (EE d) L) : ∀ (m : Nat) (R : List TResult), m ≤ d.length → Ev fs d L ns c k R → passT fs d L ns k m R = R ∨ totR R < totR (passT fs d L ns k m R)
  | 0, R, _, _ => .inl rfl
  | m + 1, R, hm, h => by
    have ih := passT_cases hv hc m R (by omega) h
    have he := passT_ev hv hc m R (by omega) h
    rw [passT_succ fs d L ns k m R (by omega)]
    split
    · rename_i e
      rcases newR_cases he (by omega) e.2 e.1 with e2 | g
      · rw [e2]; exact ih
      · rcases ih with e3 | g3
        · rw [e3] at g ⊢; exact .inr g
        · exact .inr (by omega)
    · exact ih
theorem startR_at (ns : List ByteArray) (r : List TResult) (d : List TDir) (i : Nat) (hi : i < d.length) : idsAt (startR ns r d) i = if hasS ns d[i].fName then [] else resIDs d[i].fName r := by
  unfold idsAt startR
  simp only [List.getD_eq_getElem?_getD, List.getElem?_map, List.getElem?_eq_getElem hi]
  rfl
theorem startR_ev {fs : List TFile} (d : List TDir) (L : List Nat) (ns : List ByteArray) (r : List TResult) : Ev fs d L ns (fs.length + wResultS r) 0 (startR ns r d) := by
  refine ⟨by simp [startR], fun i hi hn _ => ⟨fun _ => false, by rw [startR_at ns r d i hi, if_pos hn]; simp [idsOf], fun f hf => by cases hf⟩, fun i hi hn _ => by rw [startR_at ns r d i hi, if_pos hn], fun i => ?_, by omega⟩
  by_cases hi : i < d.length
  · rw [startR_at ns r d i hi]
    split
    · simp
    · have := resIDs_len d[i].fName r; omega
  · have e : idsAt (startR ns r d) i = [] := by
      unfold idsAt startR
      simp only [List.getD_eq_getElem?_getD, List.getElem?_map]
      rw [List.getElem?_eq_none (by omega)]; rfl
    rw [e]; simp
theorem loopE_ev {fs : List TFile} {d : List TDir} {L : List Nat} {ns : List ByteArray} {c k : Nat} (hv : ∀ i, (hi : i < d.length) → okQ d[i].fQuery = true) (hc : Clo d.length (EE d) L) : ∀ (F : Nat) (x : List TResult × Nat), Ev fs d L ns c k x.1 → Ev fs d L ns c k (loopE fs d L ns k F x).1
  | 0, x, h => h
  | F + 1, x, h => by
    have hp := passT_ev hv hc d.length x.1 (Nat.le_refl _) h
    unfold loopE
    split
    · exact loopE_ev hv hc F _ hp
    · exact hp
theorem allE_ev {fs : List TFile} {d : List TDir} {L : List Nat} {ns : List ByteArray} {r : List TResult} (hv : ∀ i, (hi : i < d.length) → okQ d[i].fQuery = true) (hc : Clo d.length (EE d) L) : ∀ k, Ev fs d L ns (fs.length + wResultS r) k (allE fs d L ns (fs.length + wResultS r) r k).1
  | 0 => startR_ev d L ns r
  | k + 1 => (loopE_ev hv hc _ _ (allE_ev hv hc k)).next
/-- A round of passes under way: what it comes to, from the state at hand. -/
structure Round (fs : List TFile) (d : List TDir) (L : List Nat) (ns : List ByteArray) (c : Nat) (k : Nat) (T : List TResult × Nat) (x : List TResult × Nat × Bool) : Prop where
  ev : Ev fs d L ns c k x.1
  run : x.2.2 = true → ∃ F, d.length * c + 1 ≤ F + totR x.1 ∧ T = loopE fs d L ns k F (x.1, x.2.1)
  fin : x.2.2 = false → T = (x.1, x.2.1)
theorem Round.start {fs : List TFile} {d : List TDir} {L : List Nat} {ns : List ByteArray} {c k : Nat} {R : List TResult} {n : Nat} (h : Ev fs d L ns c k R) : Round fs d L ns c k (loopE fs d L ns k (d.length * c + 1) (R, n)) (R, n, true) :=
  ⟨h, fun _ => ⟨_, by omega, rfl⟩, fun h => by cases h⟩
theorem Round.pass {fs : List TFile} {d : List TDir} {L : List Nat} {ns : List ByteArray} {c k : Nat} (hv : ∀ i, (hi : i < d.length) → okQ d[i].fQuery = true) (hc : Clo d.length (EE d) L) {T : List TResult × Nat} {R : List TResult} {n : Nat} (h : Round fs d L ns c k T (R, n, true)) : Round fs d L ns c k T (passT fs d L ns k d.length R, n + 1, decide (totR R < totR (passT fs d L ns k d.length R))) := by
  have hp := passT_ev hv hc d.length R (Nat.le_refl _) h.ev
  obtain ⟨F, hF, hT⟩ := h.run rfl
  have ht := h.ev.tot
  simp only at ht
  cases F with
  | zero => simp only at hF; omega
  | succ F =>
    unfold loopE at hT
    simp only at hT hF
    refine ⟨hp, fun hx => ?_, fun hx => ?_⟩
    · simp only [decide_eq_true_eq] at hx
      rw [if_pos hx] at hT
      exact ⟨F, by simp only; omega, hT⟩
    · simp only [decide_eq_false_iff_not] at hx
      rw [if_neg hx] at hT
      exact hT
end Go.Proofs.YtgglopecipbbfaaGreat
