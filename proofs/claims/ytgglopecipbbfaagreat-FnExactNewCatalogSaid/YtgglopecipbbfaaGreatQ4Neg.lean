/-
  NegatedNodes, PositiveDeps, NegativeDeps: both of each.
-/
import Derived.Test.YtgglopecipbbfaaGreatQ2Store
import Derived.Test.YtgglopecipbbfaaGreatK3Put
import Derived.Test.YtgglopecipbbfaaGreatL5
set_option linter.all false
set_option maxRecDepth 100000
set_option maxHeartbeats 4000000
namespace Go.Proofs.YtgglopecipbbfaaGreat
open Go Go.Sx Go.RowKit Go.Proofs

@[go_sem] def encB (b : Bool) : List D := [bv b]
def isNot (n : TNode) : Bool := decide (n.fOp = 5)
def isTwo (n : TNode) : Bool := decide (n.fOp = 6) || decide (n.fOp = 7)
def negStep (q : List TNode) (i : Nat) (L : List Bool) : List Bool := match q[i]? with
  | none => L
  | some n => if n.fOp = 5 then L.set n.fLeft.toNat true else if isTwo n then (L.set n.fLeft.toNat (L.getD i false)).set n.fRight.toNat (L.getD i false) else L
/-- After the last j nodes. -/
def negJ (q : List TNode) : Nat → List Bool
  | 0 => List.replicate q.length false
  | j + 1 => negStep q (q.length - 1 - j) (negJ q j)
theorem negStep_len (q : List TNode) (i : Nat) (L : List Bool) : (negStep q i L).length = L.length := by
  unfold negStep
  split
  · rfl
  · split
    · simp
    · split <;> simp
theorem negJ_len (q : List TNode) (j : Nat) : (negJ q j).length = q.length := by
  induction j with
  | zero => simp [negJ]
  | succ j ih => simp only [negJ, negStep_len, ih]
def negs (q : List TNode) : List Bool := negJ q q.length
theorem negs_len (q : List TNode) : (negs q).length = q.length := negJ_len q q.length
theorem negJ_step (q : List TNode) (i : Nat) (h : i < q.length) : negJ q (q.length - i) = negStep q i (negJ q (q.length - (i + 1))) := by
  have e : q.length - i = (q.length - (i + 1)) + 1 := by omega
  have e2 : q.length - 1 - (q.length - (i + 1)) = i := by omega
  rw [e, negJ, e2]
def isDirOp (n : TNode) : Bool := inB n.fOp 8 9
def sel (q : List TNode) (b : Bool) (k : Nat) : List ByteArray := match q[k]?, (negs q)[k]? with
  | some n, some x => if isDirOp n && (x == b) then [n.fName] else []
  | _, _ => []
def depsK (q : List TNode) (b : Bool) (k : Nat) : List ByteArray := (List.range k).flatMap (sel q b)
def depsL (q : List TNode) (b : Bool) : List ByteArray := depsK q b q.length
theorem depsK_succ (q : List TNode) (b : Bool) (k : Nat) : depsK q b (k + 1) = depsK q b k ++ sel q b k := by
  simp [depsK, List.range_succ, List.flatMap_append]
theorem sel_len (q : List TNode) (b : Bool) (k : Nat) : (sel q b k).length ≤ 1 := by
  unfold sel
  split
  · split <;> simp
  · simp
theorem depsK_len (q : List TNode) (b : Bool) (k : Nat) : (depsK q b k).length ≤ k := by
  induction k with
  | zero => simp [depsK]
  | succ k ih => rw [depsK_succ, List.length_append]; have := sel_len q b k; omega
theorem getB (L : List Bool) (i : Nat) (h : i < L.length) : L.getD i false = L[i] := by simp [List.getD_eq_getElem?_getD, h]
theorem setBF (L : List Bool) (l : Nat) : (L.map encB).set l [D.v (Value.bool false)] = (L.set l false).map encB := by rw [List.map_set]; rfl
theorem setBT (L : List Bool) (l : Nat) : (L.map encB).set l [D.v (Value.bool true)] = (L.set l true).map encB := by rw [List.map_set]; rfl
theorem getSet {L : List Bool} {i : Nat} {b : Bool} (h : i < L.length) (hb : L[i] = b) (l : Nat) (h' : i < (L.set l b).length) : (L.set l b)[i] = b := by
  rw [List.getElem_set]; split
  · rfl
  · exact hb
theorem getSet2 {L : List Bool} {i : Nat} {b : Bool} (h : i < L.length) (hb : L[i] = b) (l r : Nat) (h' : i < ((L.set l b).set r b).length) : ((L.set l b).set r b)[i] = b := by
  rw [List.getElem_set]; split
  · rfl
  · exact getSet h hb l _
theorem negStep5 {q : List TNode} {i : Nat} (h : i < q.length) (L : List Bool) {l : Nat} (h5 : q[i].fOp = 5) (hl : q[i].fLeft = (l : Int)) : negStep q i L = L.set l true := by
  simp [negStep, List.getElem?_eq_getElem h, h5, hl]
theorem negStep67 {q : List TNode} {i : Nat} (h : i < q.length) (L : List Bool) (hi : i < L.length) {l m : Nat} (h5 : ¬ q[i].fOp = 5) (h67 : q[i].fOp = 6 ∨ q[i].fOp = 7) (hl : q[i].fLeft = (l : Int)) (hm : q[i].fRight = (m : Int)) : negStep q i L = (L.set l L[i]).set m L[i] := by
  have h2 : isTwo q[i] = true := by unfold isTwo; rcases h67 with h | h <;> simp [h]
  simp only [negStep, List.getElem?_eq_getElem h, h5, if_false, h2, if_true, hl, hm, Int.toNat_natCast, getB L i hi]
theorem negStepNo {q : List TNode} {i : Nat} (h : i < q.length) (L : List Bool) (h5 : ¬ q[i].fOp = 5) (h67 : ¬ (q[i].fOp = 6 ∨ q[i].fOp = 7)) : negStep q i L = L := by
  have h2 : isTwo q[i] = false := by
    unfold isTwo
    have h6 : ¬ q[i].fOp = 6 := fun h => h67 (.inl h)
    have h7 : ¬ q[i].fOp = 7 := fun h => h67 (.inr h)
    simp [h6, h7]
  simp only [negStep, List.getElem?_eq_getElem h, h5, if_false, h2, Bool.false_eq_true]
theorem implNeg_ok (q : List TNode) (hq : okQ q = true) (hw : wNodeS q ≤ 4300000) : FnC Tryz.prog 313 [.o (.d (.sl (q.map encNode)))] (.o (.w 4 1 ((negs q).map encB))) := by
  have hl9 := okQ_len hq
  refine ent Tryz.func313 rfl Tryz.call313 rfl (fun C => ?_); simp only [go_sem, st0, Tryz.ntmps313]
  repeat' (with_reducible first | refine nY ?_ | (refine mX ?_; try simp only [go_sem, hq]) | refine kO ?_ (by decide) | refine regd (by kernel_rfl) ?_ | (refine cC (implIsValidQuery_ok q hw) ?_ ?_; focus simp only [go_sem, and_self]; done) | (refine And.intro ?_ ?_; focus omega))
  refine WP_lp (α := Nat) (fun m => [(4, oi ((m : Int) - 1))]) (fun m => [(0, .row 4 1 ((negJ q (q.length - m)).map encB) true)]) (fun m => m ≤ q.length) (fun m => m) q.length (fun _ => ?_) ?_ ?_ (fun m hm => ?_)
  · simp only [go_sem]
  · simp only [go_sem]; simp [negJ, encB]
  · simp
  · simp only [go_sem]
    repeat' (with_reducible first | refine nY ?_ | (refine mX ?_; try simp only [go_sem]) | refine kO ?_ (by decide) | refine regd (by kernel_rfl) ?_ | (refine And.intro ?_ ?_; focus omega))
    refine cnd rfl (fun h => ?_) (fun h => ?_)
    · simp only [decide_eq_true_eq] at h
      obtain ⟨i, rfl⟩ : ∃ i, m = i + 1 := ⟨m - 1, by omega⟩
      have hx : ((i + 1 : Nat) : Int) - 1 = (i : Int) := by omega
      have hi : i < q.length := by omega
      have hst := negJ_step q i hi
      have hLl := negJ_len q (q.length - (i + 1))
      generalize negJ q (q.length - (i + 1)) = L at *
      have hiL : i < L.length := by omega
      have hok := okQ_at hq (List.getElem?_eq_getElem hi)
      have hop := okNode_op hok
      by_cases h5 : q[i].fOp = 5
      · obtain ⟨l, hl, hli⟩ := okNode_left hok (.inl h5)
        have hlL : l < L.length := by omega
        rw [negStep5 hi L h5 hl] at hst
        cases hb : L[i]
        all_goals
          repeat' (with_reducible first | refine nY ?_ | (refine mX ?_; try simp only [go_sem, hx, hi, hiL, hb, h5, hl, hlL, decide_true, decide_false, Int.toNat_natCast]) | refine kO ?_ (by decide) | refine regd (by kernel_rfl) ?_ | (refine And.intro ?_ ?_; focus omega))
          refine L_next i ?_ ?_ ?_
          · simp only [go_sem, hst]; simp [encB]
          · omega
          · omega
      by_cases h67 : q[i].fOp = 6 ∨ q[i].fOp = 7
      · obtain ⟨l, hl, hli⟩ := okNode_left hok (.inr h67)
        obtain ⟨r, hr, hri⟩ := okNode_right hok h67
        have hlL : l < L.length := by omega
        have hrL : r < L.length := by omega
        rw [negStep67 hi L hiL h5 h67 hl hr] at hst
        by_cases h6 : q[i].fOp = 6
        · cases hb : L[i]
          all_goals
            rw [hb] at hst
            have hrL1 : r < (L.set l false).length := by simpa using hrL
            have hrL2 : r < (L.set l true).length := by simpa using hrL
            repeat' (with_reducible first | refine nY ?_ | (refine mX ?_; try simp only [go_sem, hx, hi, hiL, hb, h5, h6, hl, hr, hlL, hrL, setBF, setBT, hrL1, hrL2, decide_true, decide_false, Int.toNat_natCast]) | refine kO ?_ (by decide) | (refine rS [15, 17] [] (by simp only [go_sem]; rfl) (by simp only [go_sem]; rfl) (by decide +kernel) ?_ ?_; (focus simp only [go_sem]; done)) | refine st_cons (aX ?_) (uX ?_) | refine st_nil (aX ?_) ?_ | (refine uA ?_; simp only [go_sem, hx, hi, hiL, hb, h5, h6, hl, hr, hlL, hrL, setBF, setBT, hrL1, hrL2, decide_true, decide_false, Int.toNat_natCast]; (repeat' first | omega | refine And.intro ?_ ?_); done) | refine regd (by kernel_rfl) ?_ | (refine And.intro ?_ ?_; focus omega))
            refine L_next i ?_ ?_ ?_
            · simp only [go_sem, hst]; simp [encB]
            · omega
            · omega
        · have h7 : q[i].fOp = 7 := by omega
          cases hb : L[i]
          all_goals
            rw [hb] at hst
            have hrL1 : r < (L.set l false).length := by simpa using hrL
            have hrL2 : r < (L.set l true).length := by simpa using hrL
            repeat' (with_reducible first | refine nY ?_ | (refine mX ?_; try simp only [go_sem, hx, hi, hiL, hb, h5, h6, h7, hl, hr, hlL, hrL, setBF, setBT, hrL1, hrL2, decide_true, decide_false, Int.toNat_natCast]) | refine kO ?_ (by decide) | (refine rS [15, 17] [] (by simp only [go_sem]; rfl) (by simp only [go_sem]; rfl) (by decide +kernel) ?_ ?_; (focus simp only [go_sem]; done)) | refine st_cons (aX ?_) (uX ?_) | refine st_nil (aX ?_) ?_ | (refine uA ?_; simp only [go_sem, hx, hi, hiL, hb, h5, h6, h7, hl, hr, hlL, hrL, setBF, setBT, hrL1, hrL2, decide_true, decide_false, Int.toNat_natCast]; (repeat' first | omega | refine And.intro ?_ ?_); done) | refine regd (by kernel_rfl) ?_ | (refine And.intro ?_ ?_; focus omega))
            refine L_next i ?_ ?_ ?_
            · simp only [go_sem, hst]; simp [encB]
            · omega
            · omega
      · have h6 : ¬ q[i].fOp = 6 := fun h => h67 (.inl h)
        have h7 : ¬ q[i].fOp = 7 := fun h => h67 (.inr h)
        rw [negStepNo hi L h5 h67] at hst
        cases hb : L[i]
        all_goals
          repeat' (with_reducible first | refine nY ?_ | (refine mX ?_; try simp only [go_sem, hx, hi, hiL, hb, h5, h6, h7, decide_true, decide_false, Int.toNat_natCast]) | refine kO ?_ (by decide) | refine regd (by kernel_rfl) ?_ | (refine And.intro ?_ ?_; focus omega))
          refine L_next i ?_ ?_ ?_
          · simp only [go_sem, hst]; simp [encB]
          · omega
          · omega
    · simp only [decide_eq_false_iff_not] at h
      have e : m = 0 := by omega
      subst e
      repeat' (with_reducible first | refine nY ?_ | (refine mX ?_; try simp only [go_sem]) | refine kO ?_ (by decide) | refine regd (by kernel_rfl) ?_ | (refine And.intro ?_ ?_; focus omega))
      exact retK_ret ⟨⟨_, rfl, by simp only [go_sem, negs, Nat.sub_zero]⟩, trivial⟩
theorem specNeg_ok (q : List TNode) (hq : okQ q = true) (hw : wNodeS q ≤ 4300000) : FnC Tryz.prog 312 [.o (.d (.sl (q.map encNode)))] (.o (.w 4 1 ((negs q).map encB))) := by
  have hl9 := okQ_len hq
  refine ent Tryz.func312 rfl Tryz.call312 rfl (fun C => ?_); simp only [go_sem, st0, Tryz.ntmps312]
  repeat' (with_reducible first | refine nY ?_ | (refine mX ?_; try simp only [go_sem, hq]) | refine kO ?_ (by decide) | refine regd (by kernel_rfl) ?_ | (refine cC (specIsValidQuery_ok q hw) ?_ ?_; focus simp only [go_sem, and_self]; done) | (refine And.intro ?_ ?_; focus omega))
  refine WP_lp (α := Nat) (fun m => [(4, oi ((m : Int) - 1))]) (fun m => [(0, .row 4 1 ((negJ q (q.length - m)).map encB) true)]) (fun m => m ≤ q.length) (fun m => m) q.length (fun _ => ?_) ?_ ?_ (fun m hm => ?_)
  · simp only [go_sem]
  · simp only [go_sem]; simp [negJ, encB]
  · simp
  · simp only [go_sem]
    repeat' (with_reducible first | refine nY ?_ | (refine mX ?_; try simp only [go_sem]) | refine kO ?_ (by decide) | refine regd (by kernel_rfl) ?_ | (refine And.intro ?_ ?_; focus omega))
    refine cnd rfl (fun h => ?_) (fun h => ?_)
    · simp only [decide_eq_true_eq] at h
      obtain ⟨i, rfl⟩ : ∃ i, m = i + 1 := ⟨m - 1, by omega⟩
      have hx : ((i + 1 : Nat) : Int) - 1 = (i : Int) := by omega
      have hi : i < q.length := by omega
      have hst := negJ_step q i hi
      have hLl := negJ_len q (q.length - (i + 1))
      generalize negJ q (q.length - (i + 1)) = L at *
      have hiL : i < L.length := by omega
      have hok := okQ_at hq (List.getElem?_eq_getElem hi)
      have hop := okNode_op hok
      by_cases h5 : q[i].fOp = 5
      · obtain ⟨l, hl, hli⟩ := okNode_left hok (.inl h5)
        have hlL : l < L.length := by omega
        rw [negStep5 hi L h5 hl] at hst
        cases hb : L[i]
        all_goals
          repeat' (with_reducible first | refine nY ?_ | (refine mX ?_; try simp only [go_sem, hx, hi, hiL, hb, h5, hl, hlL, decide_true, decide_false, Int.toNat_natCast]) | refine kO ?_ (by decide) | refine regd (by kernel_rfl) ?_ | (refine And.intro ?_ ?_; focus omega))
          refine L_next i ?_ ?_ ?_
          · simp only [go_sem, hst]; simp [encB]
          · omega
          · omega
      by_cases h67 : q[i].fOp = 6 ∨ q[i].fOp = 7
      · obtain ⟨l, hl, hli⟩ := okNode_left hok (.inr h67)
        obtain ⟨r, hr, hri⟩ := okNode_right hok h67
        have hlL : l < L.length := by omega
        have hrL : r < L.length := by omega
        rw [negStep67 hi L hiL h5 h67 hl hr] at hst
        by_cases h6 : q[i].fOp = 6
        · cases hb : L[i]
          all_goals
            rw [hb] at hst
            have hs1 := getSet hiL hb l
            have hs2 := getSet2 hiL hb l r
            have hrL1 : r < (L.set l false).length := by simpa using hrL
            have hrL2 : r < (L.set l true).length := by simpa using hrL
            repeat' (with_reducible first | refine nY ?_ | (refine mX ?_; try simp only [go_sem, hx, hi, hiL, hb, h5, h6, hl, hr, hlL, hrL, setBF, setBT, hrL1, hrL2, hs1, hs2, decide_true, decide_false, Int.toNat_natCast]) | refine kO ?_ (by decide) | (refine rS [8] [] (by simp only [go_sem]; rfl) (by simp only [go_sem]; rfl) (by decide +kernel) ?_ ?_; (focus simp only [go_sem]; done)) | refine st_cons (aX ?_) (uX ?_) | refine st_nil (aX ?_) ?_ | (refine uA ?_; simp only [go_sem, hx, hi, hiL, hb, h5, h6, hl, hr, hlL, hrL, setBF, setBT, hrL1, hrL2, hs1, hs2, decide_true, decide_false, Int.toNat_natCast]; (repeat' first | omega | refine And.intro ?_ ?_); done) | refine regd (by kernel_rfl) ?_ | (refine And.intro ?_ ?_; focus omega))
            refine L_next i ?_ ?_ ?_
            · simp only [go_sem, hst]; simp [encB]
            · omega
            · omega
        · have h7 : q[i].fOp = 7 := by omega
          cases hb : L[i]
          all_goals
            rw [hb] at hst
            have hs1 := getSet hiL hb l
            have hs2 := getSet2 hiL hb l r
            have hrL1 : r < (L.set l false).length := by simpa using hrL
            have hrL2 : r < (L.set l true).length := by simpa using hrL
            repeat' (with_reducible first | refine nY ?_ | (refine mX ?_; try simp only [go_sem, hx, hi, hiL, hb, h5, h6, h7, hl, hr, hlL, hrL, setBF, setBT, hrL1, hrL2, hs1, hs2, decide_true, decide_false, Int.toNat_natCast]) | refine kO ?_ (by decide) | (refine rS [8] [] (by simp only [go_sem]; rfl) (by simp only [go_sem]; rfl) (by decide +kernel) ?_ ?_; (focus simp only [go_sem]; done)) | refine st_cons (aX ?_) (uX ?_) | refine st_nil (aX ?_) ?_ | (refine uA ?_; simp only [go_sem, hx, hi, hiL, hb, h5, h6, h7, hl, hr, hlL, hrL, setBF, setBT, hrL1, hrL2, hs1, hs2, decide_true, decide_false, Int.toNat_natCast]; (repeat' first | omega | refine And.intro ?_ ?_); done) | refine regd (by kernel_rfl) ?_ | (refine And.intro ?_ ?_; focus omega))
            refine L_next i ?_ ?_ ?_
            · simp only [go_sem, hst]; simp [encB]
            · omega
            · omega
      · have h6 : ¬ q[i].fOp = 6 := fun h => h67 (.inl h)
        have h7 : ¬ q[i].fOp = 7 := fun h => h67 (.inr h)
        rw [negStepNo hi L h5 h67] at hst
        cases hb : L[i]
        all_goals
          repeat' (with_reducible first | refine nY ?_ | (refine mX ?_; try simp only [go_sem, hx, hi, hiL, hb, h5, h6, h7, decide_true, decide_false, Int.toNat_natCast]) | refine kO ?_ (by decide) | refine regd (by kernel_rfl) ?_ | (refine And.intro ?_ ?_; focus omega))
          refine L_next i ?_ ?_ ?_
          · simp only [go_sem, hst]; simp [encB]
          · omega
          · omega
    · simp only [decide_eq_false_iff_not] at h
      have e : m = 0 := by omega
      subst e
      repeat' (with_reducible first | refine nY ?_ | (refine mX ?_; try simp only [go_sem]) | refine kO ?_ (by decide) | refine regd (by kernel_rfl) ?_ | (refine And.intro ?_ ?_; focus omega))
      exact retK_ret ⟨⟨_, rfl, by simp only [go_sem, negs, Nat.sub_zero]⟩, trivial⟩
end Go.Proofs.YtgglopecipbbfaaGreat
