/- Joined texts. -/
import Derived.Test.YtolgdibgnndoaaaZ08
import Derived.Test.YtolgdibgnndoaaaZ07
import Derived.Test.YtolgdibgnndoaaaZ06
set_option linter.all false
section
set_option maxRecDepth 100000
set_option maxHeartbeats 4000000
namespace Go.Proofs.Ytolgdibgnndoaaa
open Go Go.Sx Go.RowKit Go.Proofs
theorem sN (l : List TAttr) (hl : l.length ≤ 4300000) : FnC Try.prog 62 [.o (.d (.sl (l.map aM)))] (.o (.w 95 4 (l.map aM))) := by
 refine ent Try.func62 rfl Try.call62 rfl (fun C => ?_); simp only [go_sem, st0, Try.ntmps62]
 refine aF ?_
 intro b hb
 refine aF ?_
 refine cnd rfl (fun h1 => ?_) (fun h1 => ?_)
 ·have e := hb h1
  simp only [List.map_eq_nil_iff] at e
  subst e
  refine aF ?_
  exact aA ⟨⟨_, rfl, by simp only [go_sem]⟩, trivial⟩
 ·refine aF ?_
  exact aA ⟨⟨_, rfl, by simp only [go_sem, a9n]⟩, trivial⟩
theorem iU (f : Nat) (c : List D) (p : TAttr → Bool) (l : List TAttr) (hf : ∀ s ∈ l, FnC Try.prog f [a1A s, .o (.q c)] (ob (p s))) (hl : l.length ≤ 8388608) : FnC Try.prog 63 [.o (.d (.sl (l.map aM))), .o (.f f [c])] (oi (gY p l 0)) := by
 refine ent Try.func63 rfl Try.call63 rfl (fun C => ?_); simp only [go_sem, st0, Try.ntmps63]
 refine aF ?_
 refine eY (α := Nat) (fun k => [(8, oi k)]) (fun _ => []) (fun k => k ≤ l.length ∧ gY p l 0 = gY p (l.drop k) k) (fun k => l.length - k) 0 (fun _ => ?_) ?_ ?_ (fun k hk => ?_)
 ·simp only [go_sem]
 ·simp only [go_sem]; simp
 ·simp
 ·obtain ⟨hk, hq⟩ := hk
  simp only [go_sem]
  refine aF ?_
  refine cnd rfl (fun h => ?_) (fun h => ?_)
  ·simp only [decide_eq_true_eq, Int.ofNat_lt] at h
   have hd := List.drop_eq_getElem_cons h
   rw [hd, gY] at hq
   have q0 := @h; refine yF (hf l[k] (List.getElem_mem h)) ?_
   refine cnd rfl (fun h2 => ?_) (fun h2 => ?_)
   ·refine aF ?_
    exact aA ⟨⟨_, rfl, by simp only [go_sem, hq, h2]⟩, trivial⟩
   ·refine aF ?_
    refine bE (k + 1) ?_ ?_ ?_
    ·simp only [go_sem]; simp
    ·rw [hq, h2]; exact ⟨h, by simp⟩
    ·omega
  ·simp only [decide_eq_false_iff_not] at h
   have e : k = l.length := by omega
   subst e
   simp only [List.drop_length, gY] at hq
   refine aF ?_
   exact aA ⟨⟨_, rfl, by simp only [go_sem, hq]⟩, trivial⟩
def low (s : ByteArray) (k : Nat) : Bool := inB (iC s k) 97 122
def jE (s : ByteArray) : Bool := (List.range s.size).all (low s)
def bL (s : ByteArray) (n : Int) : Bool := jE s && inB s.size 1 n
theorem xP (s : ByteArray) (n : Int) (hs : s.size ≤ 4300000) : FnC Try.prog 135 [os s, oi n] (ob (bL s n)) := by
 refine ent Try.func135 rfl Try.call135 rfl (fun C => ?_); simp only [go_sem, st0, Try.ntmps135]
 refine aF ?_
 refine eY (α := Nat) (fun k => [(5, oi k)]) (fun _ => []) (fun k => k ≤ s.size ∧ jE s = ((List.range s.size).drop k).all (low s)) (fun k => s.size - k) 0 (fun _ => ?_) ?_ ?_ (fun k hk => ?_)
 ·simp only [go_sem]
 ·simp only [go_sem]; simp
 ·simp [jE]
 ·obtain ⟨hk, hq⟩ := hk
  simp only [go_sem]
  refine aF ?_
  refine cnd rfl (fun h => ?_) (fun h => ?_)
  ·simp only [decide_eq_true_eq, Int.ofNat_lt] at h
   have h' : k < (List.range s.size).length := by simpa using h
   have hd := List.drop_eq_getElem_cons h'
   rw [hd, List.all_cons, List.getElem_range] at hq
   have hb := yV s k
   by_cases h1 : iC s k < 97
   ·have hf : jE s = false := by rw [hq]; simp [low, inB]; omega
    have q0 := @h; have q1 := @h1; refine jH ?_
    exact aA ⟨⟨_, rfl, by simp only [go_sem, bL, hf, Bool.false_and]⟩, trivial⟩
   by_cases h2 : 122 < iC s k
   ·have hf : jE s = false := by rw [hq]; simp [low, inB]; omega
    have q0 := @h; have q1 := @h1; have q2 := @h2; have q3 := @decide_false; refine kW ?_
    exact aA ⟨⟨_, rfl, by simp only [go_sem, bL, hf, Bool.false_and]⟩, trivial⟩
   ·have q0 := @h; have q1 := @h1; have q2 := @h2; have q3 := @decide_false; refine kW ?_
    refine bE (k + 1) ?_ ?_ ?_
    ·simp only [go_sem]; simp
    ·refine ⟨h, ?_⟩
     have hl : low s k = true := by simp [low, inB]; omega
     rw [hq, hl]; simp
    ·omega
  ·simp only [decide_eq_false_iff_not] at h
   have e : k = s.size := by omega
   have hq' : jE s = true := by
    rw [hq, List.drop_of_length_le (by simp [e])]; rfl
   refine lS (lV s.size 1 n) ?_
   refine aA ⟨⟨_, rfl, ?_⟩, ?_⟩
   ·simp only [go_sem, bL, hq']
   ·trivial
theorem aN (s : ByteArray) (hs : s.size ≤ 4300000) : FnC Try.prog 111 [os s] (ob (bL s 1)) := by
 refine ent Try.func111 rfl Try.call111 rfl (fun C => ?_); simp only [go_sem, st0, Try.ntmps111]
 refine lS (xP s 1 hs) ?_
 refine aA ⟨⟨_, rfl, ?_⟩, ?_⟩
 ·simp only [go_sem]
 ·trivial
theorem a6L (s : ByteArray) : bL s 1 = (decide ((s.size : Int) = 1) && low s 0) := by
 unfold bL jE inB
 rcases Nat.lt_trichotomy s.size 1 with h | h | h
 ·have : s.size = 0 := by omega
  simp [this]
 ·simp [h, List.range_succ]
 ·have h1 : ¬ ((s.size : Int) ≤ 1) := by omega
  have h2 : ¬ ((s.size : Int) = 1) := by omega
  simp [h1, h2]
theorem aB (s : ByteArray) : FnC Try.prog 126 [os s] (ob (bL s 1)) := by
 rw [a6L]
 refine ent Try.func126 rfl Try.call126 rfl (fun C => ?_); simp only [go_sem, st0, Try.ntmps126]
 by_cases h0 : (s.size : Int) = 1
 ·have h0' : 0 < s.size := by omega
  by_cases h1 : 97 ≤ iC s 0 <;> by_cases h2 : iC s 0 ≤ 122
  all_goals
   have q0 := @h0; have q1 := @h0'; have q2 := @h1; have q3 := @h2; have q4 := @decide_false; have q5 := @Int.toNat_zero; have q6 := @Int.le_refl; refine a4R ?_
   refine aA ⟨⟨_, rfl, ?_⟩, ?_⟩
   ·simp only [go_sem]; simp [h0, h1, h2, low, inB]
   ·trivial
 ·have q0 := @h0; have q1 := @decide_false; refine jH ?_
  refine aA ⟨⟨_, rfl, ?_⟩, ?_⟩
  ·simp only [go_sem]; simp [h0]
  ·trivial
theorem dE (s : ByteArray) (hs : s.size ≤ 4300000) : FnC Try.prog 113 [os s] (ob (bL s 6)) := by
 refine ent Try.func113 rfl Try.call113 rfl (fun C => ?_); simp only [go_sem, st0, Try.ntmps113]
 refine lS (xP s 6 hs) ?_
 exact aA ⟨⟨_, rfl, by simp only [go_sem]⟩, trivial⟩
theorem bN (s : ByteArray) (hs : s.size ≤ 4300000) : FnC Try.prog 128 [os s] (ob (bL s 6)) := by
 refine ent Try.func128 rfl Try.call128 rfl (fun C => ?_); simp only [go_sem, st0, Try.ntmps128]
 refine aF ?_
 refine eY (α := Nat) (fun k => [(6, oi k)]) (fun _ => []) (fun k => k ≤ s.size ∧ jE s = ((List.range s.size).drop k).all (low s)) (fun k => s.size - k) 0 (fun _ => ?_) ?_ ?_ (fun k hk => ?_)
 ·simp only [go_sem]
 ·simp only [go_sem]; simp
 ·simp [jE]
 ·obtain ⟨hk, hq⟩ := hk
  simp only [go_sem]
  refine aF ?_
  refine cnd rfl (fun h => ?_) (fun h => ?_)
  ·simp only [decide_eq_true_eq, Int.ofNat_lt] at h
   have h' : k < (List.range s.size).length := by simpa using h
   have hd := List.drop_eq_getElem_cons h'
   rw [hd, List.all_cons, List.getElem_range] at hq
   have hb := yV s k
   by_cases h1 : iC s k < 97
   ·have hf : jE s = false := by rw [hq]; simp [low, inB]; omega
    have q0 := @h; have q1 := @h1; refine jH ?_
    exact aA ⟨⟨_, rfl, by simp only [go_sem, bL, hf, Bool.false_and]⟩, trivial⟩
   by_cases h2 : 122 < iC s k
   ·have hf : jE s = false := by rw [hq]; simp [low, inB]; omega
    have q0 := @h; have q1 := @h1; have q2 := @h2; have q3 := @decide_false; refine kW ?_
    exact aA ⟨⟨_, rfl, by simp only [go_sem, bL, hf, Bool.false_and]⟩, trivial⟩
   ·have q0 := @h; have q1 := @h1; have q2 := @h2; have q3 := @decide_false; refine kW ?_
    refine bE (k + 1) ?_ ?_ ?_
    ·simp only [go_sem]; simp
    ·refine ⟨h, ?_⟩
     have hl : low s k = true := by simp [low, inB]; omega
     rw [hq, hl]; simp
    ·omega
  ·simp only [decide_eq_false_iff_not] at h
   have e : k = s.size := by omega
   have hq' : jE s = true := by
    rw [hq, List.drop_of_length_le (by simp [e])]; rfl
   refine lS (aK s.size 1 6) ?_
   refine aA ⟨⟨_, rfl, ?_⟩, ?_⟩
   ·simp only [go_sem, bL, hq']
   ·trivial
def eO (v : TValue) : Bool :=
 if v.fKind = 0 then decide (v.fInt = 0) && decide (v.fStr = ⟨#[]⟩)
 else if v.fKind = 1 then inB v.fInt 0 999 && decide (v.fStr = ⟨#[]⟩)
 else if v.fKind = 2 then bL v.fStr 6 && decide (v.fInt = 0) else false
theorem aC (v : TValue) (hs : v.fStr.size ≤ 4300000) : FnC Try.prog 127 [iO v] (ob (eO v)) := by
 refine ent Try.func127 rfl Try.call127 rfl (fun C => ?_); simp only [go_sem, st0, Try.ntmps127]
 by_cases h0 : v.fKind = 0
 ·have q0 := @h0; have q1 := @decide_true; refine jH ?_
  exact aA ⟨⟨_, rfl, by simp only [go_sem, eO, h0, if_true, decide_true, Bool.true_and]⟩, trivial⟩
 by_cases h1 : v.fKind = 1
 ·cases hb : inB v.fInt 0 999
  ·have q0 := @h0; have q1 := @h1; have q2 := @decide_true; have q3 := @decide_false; have q4 := @hb; refine a2s (aK v.fInt 0 999) ?_
   exact aA ⟨⟨_, rfl, by simp only [go_sem, eO, h0, h1, hb, if_true, if_false, Bool.false_and]⟩, trivial⟩
  ·have q0 := @h0; have q1 := @h1; have q2 := @decide_true; have q3 := @decide_false; have q4 := @hb; refine a2s (aK v.fInt 0 999) ?_
   exact aA ⟨⟨_, rfl, by simp only [go_sem, eO, h0, h1, hb, if_true, if_false, Bool.true_and]⟩, trivial⟩
 by_cases h2 : v.fKind = 2
 ·cases hb : bL v.fStr 6
  ·have q0 := @h0; have q1 := @h1; have q2 := @h2; have q3 := @decide_true; have q4 := @decide_false; have q5 := @hb; refine a1n (bN v.fStr hs) ?_
   exact aA ⟨⟨_, rfl, by simp only [go_sem, eO, h0, h1, h2, hb, if_true, if_false, Bool.false_and]⟩, trivial⟩
  ·have q0 := @h0; have q1 := @h1; have q2 := @h2; have q3 := @decide_true; have q4 := @decide_false; have q5 := @hb; refine a1n (bN v.fStr hs) ?_
   exact aA ⟨⟨_, rfl, by simp only [go_sem, eO, h0, h1, h2, hb, if_true, if_false, Bool.true_and]⟩, trivial⟩
 ·have q0 := @h0; have q1 := @h1; have q2 := @h2; have q3 := @decide_false; refine kW ?_
  exact aA ⟨⟨_, rfl, by simp only [go_sem, eO, h0, h1, h2, if_false]⟩, trivial⟩
theorem bC (v : TValue) (hs : v.fStr.size ≤ 4300000) : FnC Try.prog 112 [iO v] (ob (eO v)) := by
 refine ent Try.func112 rfl Try.call112 rfl (fun C => ?_); simp only [go_sem, st0, Try.ntmps112]
 by_cases h0 : v.fKind = 0
 ·have q0 := @h0; have q1 := @decide_true; refine jH ?_
  exact aA ⟨⟨_, rfl, by simp only [go_sem, eO, h0, if_true, decide_true, Bool.true_and]⟩, trivial⟩
 by_cases h1 : v.fKind = 1
 ·cases hb : inB v.fInt 0 999
  ·have q0 := @h0; have q1 := @h1; have q2 := @decide_true; have q3 := @decide_false; have q4 := @hb; refine a2s (lV v.fInt 0 999) ?_
   exact aA ⟨⟨_, rfl, by simp only [go_sem, eO, h0, h1, hb, if_true, if_false, Bool.false_and]⟩, trivial⟩
  ·have q0 := @h0; have q1 := @h1; have q2 := @decide_true; have q3 := @decide_false; have q4 := @hb; refine a2s (lV v.fInt 0 999) ?_
   exact aA ⟨⟨_, rfl, by simp only [go_sem, eO, h0, h1, hb, if_true, if_false, Bool.true_and]⟩, trivial⟩
 by_cases h2 : v.fKind = 2
 ·cases hb : bL v.fStr 6
  ·have q0 := @h0; have q1 := @h1; have q2 := @h2; have q3 := @decide_true; have q4 := @decide_false; have q5 := @hb; refine a1n (dE v.fStr hs) ?_
   exact aA ⟨⟨_, rfl, by simp only [go_sem, eO, h0, h1, h2, hb, if_true, if_false, Bool.false_and]⟩, trivial⟩
  ·have q0 := @h0; have q1 := @h1; have q2 := @h2; have q3 := @decide_true; have q4 := @decide_false; have q5 := @hb; refine a1n (dE v.fStr hs) ?_
   exact aA ⟨⟨_, rfl, by simp only [go_sem, eO, h0, h1, h2, hb, if_true, if_false, Bool.true_and]⟩, trivial⟩
 ·have q0 := @h0; have q1 := @h1; have q2 := @h2; have q3 := @decide_false; refine kW ?_
  exact aA ⟨⟨_, rfl, by simp only [go_sem, eO, h0, h1, h2, if_false]⟩, trivial⟩
theorem bT : (∀ b : Bool, (b && true) = b) ∧ (∀ b : Bool, (b && false) = false) ∧ (∀ b : Bool, (true && b) = b) ∧ (∀ b : Bool, (false && b) = false) ∧ (!true) = false ∧ (!false) = true := ⟨Bool.and_true, Bool.and_false, Bool.true_and, Bool.false_and, rfl, rfl⟩
def two (n : TNode) : Bool := decide (n.fOp = 6) || decide (n.fOp = 7)
def a5z (n : TNode) (i : Int) : Nat := (if (two n || decide (n.fOp = 5)) && decide (n.fLeft = i) then 1 else 0) + (if two n && decide (n.fRight = i) then 1 else 0)
def refs (q : List TNode) (i : Int) : Nat := match q with
 | [] => 0
 | n :: q => a5z n i + refs q i
theorem a5A (q r : List TNode) (i : Int) : refs (q ++ r) i = refs q i + refs r i := by
 induction q with
 | nil => simp [refs]
 | cons n q ih => simp only [List.cons_append, refs, ih]; omega
theorem zJ (q : List TNode) (i : Int) (k : Nat) (h : k < q.length) : refs (q.take (k + 1)) i = refs (q.take k) i + a5z q[k] i := by
 rw [List.take_succ_eq_append_getElem h, a5A]; simp [refs]
theorem a3q (q : List TNode) (i : Int) : refs q i ≤ 2 * q.length := by
 induction q with
 | nil => simp [refs]
 | cons n q ih => simp only [refs, List.length_cons]; unfold a5z; split <;> split <;> omega
theorem nA (q : List TNode) (i : Int) (hl : q.length ≤ 4300000) : FnC Try.prog 91 [.o (.d (.sl (q.map bA))), oi i] (oi (refs q i)) := by
 refine ent Try.func91 rfl Try.call91 rfl (fun C => ?_); simp only [go_sem, st0, Try.ntmps91]
 refine aF ?_
 refine eY (α := Nat) (fun k => [(5, oi (refs (q.take k) i)), (11, oi k)]) (fun _ => []) (fun k => k ≤ q.length) (fun k => q.length - k) 0 (fun _ => ?_) ?_ ?_ (fun k hk => ?_)
 ·simp only [go_sem]
 ·simp only [go_sem]; simp [refs]
 ·simp
 ·simp only [go_sem]
  refine aF ?_
  refine cnd rfl (fun h1 => ?_) (fun h1 => ?_)
  ·simp only [decide_eq_true_eq, Int.ofNat_lt] at h1
   have ht := zJ q i k h1
   have hle := a3q (q.take k) i
   simp only [List.length_take] at hle
   by_cases c6 : q[k].fOp = 6 <;> by_cases c7 : q[k].fOp = 7 <;> by_cases c5 : q[k].fOp = 5 <;> by_cases cl : q[k].fLeft = i <;> by_cases cr : q[k].fRight = i
   all_goals (try omega)
   all_goals
    simp only [a5z, two, c5, c6, c7, cl, cr, decide_true, decide_false, Bool.true_or, Bool.or_true, Bool.false_or, Bool.or_false, Bool.and_true, Bool.and_false, Bool.true_and, Bool.false_and, if_true, if_false, Bool.false_eq_true] at ht
    have d5 : decide (q[k].fOp = 5) = decide (q[k].fOp = 5) := rfl
    have q0 := @h1; have q1 := @c5; have q2 := @c6; have q3 := @c7; have q4 := @cl; have q5 := @cr; have q6 := @decide_true; have q7 := @decide_false; refine a2t ?_
    refine bE (k + 1) ?_ ?_ ?_
    ·simp only [go_sem, ht]; simp <;> omega
    ·omega
    ·omega
  ·simp only [decide_eq_false_iff_not] at h1
   have e : k = q.length := by omega
   subst e
   rw [List.take_length]
   refine aF ?_
   exact aA ⟨⟨_, rfl, by simp only [go_sem, List.take_length]⟩, trivial⟩
theorem nC (q : List TNode) (i : Int) (hl : q.length ≤ 4300000) : FnC Try.prog 72 [.o (.d (.sl (q.map bA))), oi i] (oi (refs q i)) := by
 refine ent Try.func72 rfl Try.call72 rfl (fun C => ?_); simp only [go_sem, st0, Try.ntmps72]
 refine aF ?_
 refine eY (α := Nat) (fun k => [(5, oi (refs (q.take k) i)), (6, oi k)]) (fun _ => []) (fun k => k ≤ q.length) (fun k => q.length - k) 0 (fun _ => ?_) ?_ ?_ (fun k hk => ?_)
 ·simp only [go_sem]
 ·simp only [go_sem]; simp [refs]
 ·simp
 ·simp only [go_sem]
  refine aF ?_
  refine cnd rfl (fun h1 => ?_) (fun h1 => ?_)
  ·simp only [decide_eq_true_eq, Int.ofNat_lt] at h1
   have ht := zJ q i k h1
   have hle := a3q (q.take k) i
   simp only [List.length_take] at hle
   by_cases c6 : q[k].fOp = 6 <;> by_cases c7 : q[k].fOp = 7 <;> by_cases c5 : q[k].fOp = 5 <;> by_cases cl : q[k].fLeft = i <;> by_cases cr : q[k].fRight = i
   all_goals (try omega)
   all_goals
    simp only [a5z, two, c5, c6, c7, cl, cr, decide_true, decide_false, Bool.true_or, Bool.or_true, Bool.false_or, Bool.or_false, Bool.and_true, Bool.and_false, Bool.true_and, Bool.false_and, if_true, if_false, Bool.false_eq_true] at ht
    have d5 : decide (q[k].fOp = 5) = decide (q[k].fOp = 5) := rfl
    have q0 := @h1; have q1 := @c5; have q2 := @c6; have q3 := @c7; have q4 := @cl; have q5 := @cr; have q6 := @decide_true; have q7 := @decide_false; refine a2t ?_
    refine bE (k + 1) ?_ ?_ ?_
    ·simp only [go_sem, ht]; simp <;> omega
    ·omega
    ·omega
  ·simp only [decide_eq_false_iff_not] at h1
   have e : k = q.length := by omega
   subst e
   rw [List.take_length]
   refine aF ?_
   exact aA ⟨⟨_, rfl, by simp only [go_sem, List.take_length]⟩, trivial⟩
def eV (v : TValue) : Bool := decide (v.fKind = 0) && (decide (v.fInt = 0) && decide (v.fStr = ⟨#[]⟩))
def nL (n : TNode) (i : Nat) : Bool := inB n.fLeft 0 ((i : Int) - 1) && decide (0 < (i : Int))
def xN (n : TNode) (i : Nat) : Bool := inB n.fRight 0 ((i : Int) - 1)
def gB (n : TNode) : Bool := decide (n.fLeft = 0) && decide (n.fRight = 0)
def jD (n : TNode) : Bool := decide (n.fName = ⟨#[]⟩) && eV n.fValue
def aT (n : TNode) (i : Nat) : Bool :=
 if n.fOp = 1 then gB n && jD n
 else if n.fOp = 2 then bL n.fName 1 && (gB n && eV n.fValue)
 else if n.fOp = 3 then bL n.fName 1 && (eO n.fValue && (!decide (n.fValue.fKind = 0) && gB n))
 else if n.fOp = 4 then bL n.fName 1 && (eO n.fValue && (decide (n.fValue.fKind = 1) && gB n))
 else if n.fOp = 5 then nL n i && (decide (n.fRight = 0) && jD n)
 else if n.fOp = 6 ∨ n.fOp = 7 then nL n i && (xN n i && jD n)
 else if n.fOp = 8 ∨ n.fOp = 9 then bL n.fName 6 && (gB n && eV n.fValue)
 else false
def yJ (q : List TNode) (i : Nat) : Bool := match q[i]? with
 | none => true
 | some n => aT n i && (decide (q.length ≤ i + 1) || decide (refs q i = 1))
def okQ (q : List TNode) : Bool := (List.range q.length).all (yJ q) && inB (q.length : Int) 1 9
theorem xO {q : List TNode} (h : okQ q = true) {i : Nat} {n : TNode} (hi : q[i]? = some n) : aT n i = true := by
 unfold okQ at h
 simp only [Bool.and_eq_true, List.all_eq_true, List.mem_range] at h
 have hl : i < q.length := by
  rcases Nat.lt_or_ge i q.length with hl | hl
  ·exact hl
  ·rw [List.getElem?_eq_none hl] at hi; cases hi
 have := h.1 i hl
 unfold yJ at this
 rw [hi] at this
 simp only [Bool.and_eq_true] at this
 exact this.1
theorem jI {q : List TNode} (h : okQ q = true) : 1 ≤ q.length ∧ q.length ≤ 9 := by
 unfold okQ inB at h
 simp only [Bool.and_eq_true, decide_eq_true_eq] at h
 omega
theorem uE {s : ByteArray} {n : Int} (h : bL s n = true) : (s.size : Int) ≤ n := by
 unfold bL inB at h
 simp only [Bool.and_eq_true, decide_eq_true_eq] at h
 omega
theorem a5y {v : TValue} (h : eO v = true) : v.fStr.size ≤ 6 := by
 unfold eO at h
 have e0 : (⟨#[]⟩ : ByteArray).size = 0 := rfl
 split at h
 ·simp only [Bool.and_eq_true, decide_eq_true_eq] at h; rw [h.2]; omega
 split at h
 ·simp only [Bool.and_eq_true, decide_eq_true_eq] at h; rw [h.2]; omega
 split at h
 ·simp only [Bool.and_eq_true, decide_eq_true_eq] at h; have := uE h.1; omega
 ·cases h
theorem dZ {n : TNode} {i : Nat} (h : aT n i = true) (ho : n.fOp = 5 ∨ n.fOp = 6 ∨ n.fOp = 7) : ∃ l : Nat, n.fLeft = (l : Int) ∧ l < i := by
 have hk : nL n i = true := by
  unfold aT at h
  rcases ho with ho | ho | ho <;> simp [ho] at h <;> exact h.1
 unfold nL inB at hk
 simp only [Bool.and_eq_true, decide_eq_true_eq] at hk
 exact ⟨n.fLeft.toNat, by omega, by omega⟩
theorem gF {n : TNode} {i : Nat} (h : aT n i = true) (ho : n.fOp = 6 ∨ n.fOp = 7) : ∃ l : Nat, n.fRight = (l : Int) ∧ l < i := by
 have hk : xN n i = true ∧ nL n i = true := by
  unfold aT at h
  rcases ho with ho | ho <;> simp [ho] at h <;> exact ⟨h.2.1, h.1⟩
 unfold nL xN inB at hk
 simp only [Bool.and_eq_true, decide_eq_true_eq] at hk
 exact ⟨n.fRight.toNat, by omega, by omega⟩
theorem pK {n : TNode} {i : Nat} (h : aT n i = true) : n.fOp = 1 ∨ n.fOp = 2 ∨ n.fOp = 3 ∨ n.fOp = 4 ∨ n.fOp = 5 ∨ n.fOp = 6 ∨ n.fOp = 7 ∨ n.fOp = 8 ∨ n.fOp = 9 := by
 unfold aT at h
 repeat' split at h
 all_goals first | omega | cases h
theorem a1J {n : TNode} {i : Nat} (h : aT n i = true) (ho : n.fOp = 2 ∨ n.fOp = 3) : n.fName.size ≤ 1 ∧ (n.fOp = 3 → n.fValue.fStr.size ≤ 6) := by
 unfold aT at h
 rcases ho with ho | ho
 ·simp [ho] at h
  have := uE h.1
  exact ⟨by omega, fun e => by omega⟩
 ·simp [ho] at h
  have h1 := uE h.1
  have h2 := a5y h.2.1
  exact ⟨by omega, fun _ => h2⟩
theorem fF (n : TNode) (i : Nat) (hi : i ≤ 4300000) (hs : n.fValue.fStr.size ≤ 4300000) (hn : n.fName.size ≤ 4300000) : FnC Try.prog 90 [a5d n, oi i] (ob (aT n i)) := by
 refine ent Try.func90 rfl Try.call90 rfl (fun C => ?_); simp only [go_sem, st0, Try.ntmps90]
 by_cases h1 : n.fOp = 1
 ·cases hz : (decide (n.fLeft = 0) && (decide (n.fRight = 0) && (decide (n.fName = ⟨#[]⟩) && (decide (n.fValue.fKind = 0) && (decide (n.fValue.fInt = 0) && decide (n.fValue.fStr = ⟨#[]⟩))))))
  all_goals
   have hr : aT n i = (decide (n.fLeft = 0) && (decide (n.fRight = 0) && (decide (n.fName = ⟨#[]⟩) && (decide (n.fValue.fKind = 0) && (decide (n.fValue.fInt = 0) && decide (n.fValue.fStr = ⟨#[]⟩)))))) := by simp [aT, h1, gB, jD, eV, Bool.and_assoc]
   rw [hz] at hr
   have q0 := @h1; have q1 := @decide_true; have q2 := @hz; refine pO ?_
   exact aA ⟨⟨_, rfl, by simp only [go_sem, hr]⟩, trivial⟩
 by_cases h2 : n.fOp = 2
 ·cases hz : (decide (n.fLeft = 0) && (decide (n.fRight = 0) && (decide (n.fValue.fKind = 0) && (decide (n.fValue.fInt = 0) && decide (n.fValue.fStr = ⟨#[]⟩))))) <;> cases ht : bL n.fName 1
  all_goals
   have hr : aT n i = (bL n.fName 1 && (decide (n.fLeft = 0) && (decide (n.fRight = 0) && (decide (n.fValue.fKind = 0) && (decide (n.fValue.fInt = 0) && decide (n.fValue.fStr = ⟨#[]⟩)))))) := by simp [aT, h2, gB, jD, eV, Bool.and_assoc]
   rw [hz, ht] at hr
   have q0 := @h1; have q1 := @h2; have q2 := @decide_true; have q3 := @decide_false; have q4 := @hz; have q5 := @ht; refine a1n (aB n.fName) ?_
   exact aA ⟨⟨_, rfl, by simp only [go_sem, hr, Bool.and_true, Bool.and_false]⟩, trivial⟩
 by_cases h3 : n.fOp = 3
 ·have hr : aT n i = (bL n.fName 1 && (eO n.fValue && (!decide (n.fValue.fKind = 0) && (decide (n.fLeft = 0) && decide (n.fRight = 0))))) := by simp [aT, h3, gB]
  have qH := aI @h1 (aI @h2 (aI @h3 (aI @decide_true @decide_false))); repeat' (with_reducible first | refine nY ?_ | (refine mX ?_; try simp only [go_sem, qH]) | refine kD ?_ | refine rT [5, 7] [] ?_ | refine dF (aX ?_) (uX ?_) | refine dX (aX ?_) ?_ | (refine uA ?_; simp only [go_sem, qH]; (repeat' first | omega | refine And.intro ?_ ?_ | refine cP (aB n.fName) ?_ | refine cP (aC n.fValue hs) ?_ | (refine mX ?_; simp only [go_sem, qH] <;> fail)); done) | refine cP (aB n.fName) ?_ | refine cP (aC n.fValue hs) ?_ | refine aO ?_ | fail)
  cases hz : (decide (n.fLeft = 0) && decide (n.fRight = 0))
  ·rw [hz] at hr
   simp only [go_sem, hz]
   have qH := aI @h1 (aI @h2 (aI @h3 (aI @decide_true (aI @decide_false @hz)))); repeat' (with_reducible first | refine nY ?_ | (refine mX ?_; try simp only [go_sem, qH]) | refine kD ?_ | refine rT [5, 7] [] ?_ | refine dF (aX ?_) (uX ?_) | refine dX (aX ?_) ?_ | (refine uA ?_; simp only [go_sem, qH]; (repeat' first | omega | refine And.intro ?_ ?_ | refine cP (aB n.fName) ?_ | refine cP (aC n.fValue hs) ?_ | (refine mX ?_; simp only [go_sem, qH] <;> fail)); done) | refine cP (aB n.fName) ?_ | refine cP (aC n.fValue hs) ?_ | refine aO ?_ | fail)
   exact aA ⟨⟨_, rfl, by simp only [go_sem, hr, bT]⟩, trivial⟩
  rw [hz] at hr
  simp only [go_sem, hz]
  have qH := aI @h1 (aI @h2 (aI @h3 (aI @decide_true (aI @decide_false @hz)))); repeat' (with_reducible first | refine nY ?_ | (refine mX ?_; try simp only [go_sem, qH]) | refine kD ?_ | refine rT [5, 7] [] ?_ | refine dF (aX ?_) (uX ?_) | refine dX (aX ?_) ?_ | (refine uA ?_; simp only [go_sem, qH]; (repeat' first | omega | refine And.intro ?_ ?_ | refine cP (aB n.fName) ?_ | refine cP (aC n.fValue hs) ?_ | (refine mX ?_; simp only [go_sem, qH] <;> fail)); done) | refine cP (aB n.fName) ?_ | refine cP (aC n.fValue hs) ?_ | refine aO ?_ | fail)
  cases ht : bL n.fName 1
  ·rw [ht] at hr
   simp only [go_sem, ht]
   have qH := aI @h1 (aI @h2 (aI @h3 (aI @decide_true (aI @decide_false (aI @hz @ht))))); repeat' (with_reducible first | refine nY ?_ | (refine mX ?_; try simp only [go_sem, qH]) | refine kD ?_ | refine rT [5, 7] [] ?_ | refine dF (aX ?_) (uX ?_) | refine dX (aX ?_) ?_ | (refine uA ?_; simp only [go_sem, qH]; (repeat' first | omega | refine And.intro ?_ ?_ | refine cP (aB n.fName) ?_ | refine cP (aC n.fValue hs) ?_ | (refine mX ?_; simp only [go_sem, qH] <;> fail)); done) | refine cP (aB n.fName) ?_ | refine cP (aC n.fValue hs) ?_ | refine aO ?_ | fail)
   exact aA ⟨⟨_, rfl, by simp only [go_sem, hr, bT]⟩, trivial⟩
  rw [ht] at hr
  simp only [go_sem, ht]
  have qH := aI @h1 (aI @h2 (aI @h3 (aI @decide_true (aI @decide_false (aI @hz @ht))))); repeat' (with_reducible first | refine nY ?_ | (refine mX ?_; try simp only [go_sem, qH]) | refine kD ?_ | refine rT [5, 7] [] ?_ | refine dF (aX ?_) (uX ?_) | refine dX (aX ?_) ?_ | (refine uA ?_; simp only [go_sem, qH]; (repeat' first | omega | refine And.intro ?_ ?_ | refine cP (aB n.fName) ?_ | refine cP (aC n.fValue hs) ?_ | (refine mX ?_; simp only [go_sem, qH] <;> fail)); done) | refine cP (aB n.fName) ?_ | refine cP (aC n.fValue hs) ?_ | refine aO ?_ | fail)
  cases hv : eO n.fValue
  ·rw [hv] at hr
   simp only [go_sem, hv]
   have qH := aI @h1 (aI @h2 (aI @h3 (aI @decide_true (aI @decide_false (aI @hz (aI @ht @hv)))))); repeat' (with_reducible first | refine nY ?_ | (refine mX ?_; try simp only [go_sem, qH]) | refine kD ?_ | refine rT [5, 7] [] ?_ | refine dF (aX ?_) (uX ?_) | refine dX (aX ?_) ?_ | (refine uA ?_; simp only [go_sem, qH]; (repeat' first | omega | refine And.intro ?_ ?_ | refine cP (aB n.fName) ?_ | refine cP (aC n.fValue hs) ?_ | (refine mX ?_; simp only [go_sem, qH] <;> fail)); done) | refine cP (aB n.fName) ?_ | refine cP (aC n.fValue hs) ?_ | refine aO ?_ | fail)
   exact aA ⟨⟨_, rfl, by simp only [go_sem, hr, bT]⟩, trivial⟩
  rw [hv] at hr
  simp only [go_sem, hv]
  have qH := aI @h1 (aI @h2 (aI @h3 (aI @decide_true (aI @decide_false (aI @hz (aI @ht @hv)))))); repeat' (with_reducible first | refine nY ?_ | (refine mX ?_; try simp only [go_sem, qH]) | refine kD ?_ | refine rT [5, 7] [] ?_ | refine dF (aX ?_) (uX ?_) | refine dX (aX ?_) ?_ | (refine uA ?_; simp only [go_sem, qH]; (repeat' first | omega | refine And.intro ?_ ?_ | refine cP (aB n.fName) ?_ | refine cP (aC n.fValue hs) ?_ | (refine mX ?_; simp only [go_sem, qH] <;> fail)); done) | refine cP (aB n.fName) ?_ | refine cP (aC n.fValue hs) ?_ | refine aO ?_ | fail)
  by_cases hk : n.fValue.fKind = 0
  ·simp only [hk, decide_true] at hr
   simp only [go_sem, hk, decide_true]
   have qH := aI @h1 (aI @h2 (aI @h3 (aI @decide_true (aI @decide_false (aI @hz (aI @ht (aI @hv @hk))))))); repeat' (with_reducible first | refine nY ?_ | (refine mX ?_; try simp only [go_sem, qH]) | refine kD ?_ | refine rT [5, 7] [] ?_ | refine dF (aX ?_) (uX ?_) | refine dX (aX ?_) ?_ | (refine uA ?_; simp only [go_sem, qH]; (repeat' first | omega | refine And.intro ?_ ?_ | refine cP (aB n.fName) ?_ | refine cP (aC n.fValue hs) ?_ | (refine mX ?_; simp only [go_sem, qH] <;> fail)); done) | refine cP (aB n.fName) ?_ | refine cP (aC n.fValue hs) ?_ | refine aO ?_ | fail)
   exact aA ⟨⟨_, rfl, by simp only [go_sem, hr, bT]⟩, trivial⟩
  simp only [hk, decide_false] at hr
  simp only [go_sem, hk, decide_false]
  have qH := aI @h1 (aI @h2 (aI @h3 (aI @decide_true (aI @decide_false (aI @hz (aI @ht (aI @hv @hk))))))); repeat' (with_reducible first | refine nY ?_ | (refine mX ?_; try simp only [go_sem, qH]) | refine kD ?_ | refine rT [5, 7] [] ?_ | refine dF (aX ?_) (uX ?_) | refine dX (aX ?_) ?_ | (refine uA ?_; simp only [go_sem, qH]; (repeat' first | omega | refine And.intro ?_ ?_ | refine cP (aB n.fName) ?_ | refine cP (aC n.fValue hs) ?_ | (refine mX ?_; simp only [go_sem, qH] <;> fail)); done) | refine cP (aB n.fName) ?_ | refine cP (aC n.fValue hs) ?_ | refine aO ?_ | fail)
  exact aA ⟨⟨_, rfl, by simp only [go_sem, hr, bT]⟩, trivial⟩
 by_cases h4 : n.fOp = 4
 ·have hr : aT n i = (bL n.fName 1 && (eO n.fValue && (!decide (n.fValue.fKind = 0) && (decide (n.fValue.fKind = 1) && (decide (n.fLeft = 0) && decide (n.fRight = 0)))))) := by
   simp only [aT, h4, gB]
   by_cases hk : n.fValue.fKind = 1 <;> simp [hk]
  have qH := aI @h1 (aI @h2 (aI @h3 (aI @h4 (aI @decide_true @decide_false)))); repeat' (with_reducible first | refine nY ?_ | (refine mX ?_; try simp only [go_sem, qH]) | refine kD ?_ | refine rT [5, 7] [] ?_ | refine dF (aX ?_) (uX ?_) | refine dX (aX ?_) ?_ | (refine uA ?_; simp only [go_sem, qH]; (repeat' first | omega | refine And.intro ?_ ?_ | refine cP (aB n.fName) ?_ | refine cP (aC n.fValue hs) ?_ | (refine mX ?_; simp only [go_sem, qH] <;> fail)); done) | refine cP (aB n.fName) ?_ | refine cP (aC n.fValue hs) ?_ | refine aO ?_ | fail)
  cases hz : (decide (n.fLeft = 0) && decide (n.fRight = 0))
  ·rw [hz] at hr
   simp only [go_sem, hz]
   have qH := aI @h1 (aI @h2 (aI @h3 (aI @h4 (aI @decide_true (aI @decide_false @hz))))); repeat' (with_reducible first | refine nY ?_ | (refine mX ?_; try simp only [go_sem, qH]) | refine kD ?_ | refine rT [5, 7] [] ?_ | refine dF (aX ?_) (uX ?_) | refine dX (aX ?_) ?_ | (refine uA ?_; simp only [go_sem, qH]; (repeat' first | omega | refine And.intro ?_ ?_ | refine cP (aB n.fName) ?_ | refine cP (aC n.fValue hs) ?_ | (refine mX ?_; simp only [go_sem, qH] <;> fail)); done) | refine cP (aB n.fName) ?_ | refine cP (aC n.fValue hs) ?_ | refine aO ?_ | fail)
   exact aA ⟨⟨_, rfl, by simp only [go_sem, hr, bT]⟩, trivial⟩
  rw [hz] at hr
  simp only [go_sem, hz]
  have qH := aI @h1 (aI @h2 (aI @h3 (aI @h4 (aI @decide_true (aI @decide_false @hz))))); repeat' (with_reducible first | refine nY ?_ | (refine mX ?_; try simp only [go_sem, qH]) | refine kD ?_ | refine rT [5, 7] [] ?_ | refine dF (aX ?_) (uX ?_) | refine dX (aX ?_) ?_ | (refine uA ?_; simp only [go_sem, qH]; (repeat' first | omega | refine And.intro ?_ ?_ | refine cP (aB n.fName) ?_ | refine cP (aC n.fValue hs) ?_ | (refine mX ?_; simp only [go_sem, qH] <;> fail)); done) | refine cP (aB n.fName) ?_ | refine cP (aC n.fValue hs) ?_ | refine aO ?_ | fail)
  cases ht : bL n.fName 1
  ·rw [ht] at hr
   simp only [go_sem, ht]
   have qH := aI @h1 (aI @h2 (aI @h3 (aI @h4 (aI @decide_true (aI @decide_false (aI @hz @ht)))))); repeat' (with_reducible first | refine nY ?_ | (refine mX ?_; try simp only [go_sem, qH]) | refine kD ?_ | refine rT [5, 7] [] ?_ | refine dF (aX ?_) (uX ?_) | refine dX (aX ?_) ?_ | (refine uA ?_; simp only [go_sem, qH]; (repeat' first | omega | refine And.intro ?_ ?_ | refine cP (aB n.fName) ?_ | refine cP (aC n.fValue hs) ?_ | (refine mX ?_; simp only [go_sem, qH] <;> fail)); done) | refine cP (aB n.fName) ?_ | refine cP (aC n.fValue hs) ?_ | refine aO ?_ | fail)
   exact aA ⟨⟨_, rfl, by simp only [go_sem, hr, bT]⟩, trivial⟩
  rw [ht] at hr
  simp only [go_sem, ht]
  have qH := aI @h1 (aI @h2 (aI @h3 (aI @h4 (aI @decide_true (aI @decide_false (aI @hz @ht)))))); repeat' (with_reducible first | refine nY ?_ | (refine mX ?_; try simp only [go_sem, qH]) | refine kD ?_ | refine rT [5, 7] [] ?_ | refine dF (aX ?_) (uX ?_) | refine dX (aX ?_) ?_ | (refine uA ?_; simp only [go_sem, qH]; (repeat' first | omega | refine And.intro ?_ ?_ | refine cP (aB n.fName) ?_ | refine cP (aC n.fValue hs) ?_ | (refine mX ?_; simp only [go_sem, qH] <;> fail)); done) | refine cP (aB n.fName) ?_ | refine cP (aC n.fValue hs) ?_ | refine aO ?_ | fail)
  cases hv : eO n.fValue
  ·rw [hv] at hr
   simp only [go_sem, hv]
   have qH := aI @h1 (aI @h2 (aI @h3 (aI @h4 (aI @decide_true (aI @decide_false (aI @hz (aI @ht @hv))))))); repeat' (with_reducible first | refine nY ?_ | (refine mX ?_; try simp only [go_sem, qH]) | refine kD ?_ | refine rT [5, 7] [] ?_ | refine dF (aX ?_) (uX ?_) | refine dX (aX ?_) ?_ | (refine uA ?_; simp only [go_sem, qH]; (repeat' first | omega | refine And.intro ?_ ?_ | refine cP (aB n.fName) ?_ | refine cP (aC n.fValue hs) ?_ | (refine mX ?_; simp only [go_sem, qH] <;> fail)); done) | refine cP (aB n.fName) ?_ | refine cP (aC n.fValue hs) ?_ | refine aO ?_ | fail)
   exact aA ⟨⟨_, rfl, by simp only [go_sem, hr, bT]⟩, trivial⟩
  rw [hv] at hr
  simp only [go_sem, hv]
  have qH := aI @h1 (aI @h2 (aI @h3 (aI @h4 (aI @decide_true (aI @decide_false (aI @hz (aI @ht @hv))))))); repeat' (with_reducible first | refine nY ?_ | (refine mX ?_; try simp only [go_sem, qH]) | refine kD ?_ | refine rT [5, 7] [] ?_ | refine dF (aX ?_) (uX ?_) | refine dX (aX ?_) ?_ | (refine uA ?_; simp only [go_sem, qH]; (repeat' first | omega | refine And.intro ?_ ?_ | refine cP (aB n.fName) ?_ | refine cP (aC n.fValue hs) ?_ | (refine mX ?_; simp only [go_sem, qH] <;> fail)); done) | refine cP (aB n.fName) ?_ | refine cP (aC n.fValue hs) ?_ | refine aO ?_ | fail)
  by_cases hk : n.fValue.fKind = 0
  ·simp only [hk, decide_true] at hr
   simp only [go_sem, hk, decide_true]
   have qH := aI @h1 (aI @h2 (aI @h3 (aI @h4 (aI @decide_true (aI @decide_false (aI @hz (aI @ht (aI @hv @hk)))))))); repeat' (with_reducible first | refine nY ?_ | (refine mX ?_; try simp only [go_sem, qH]) | refine kD ?_ | refine rT [5, 7] [] ?_ | refine dF (aX ?_) (uX ?_) | refine dX (aX ?_) ?_ | (refine uA ?_; simp only [go_sem, qH]; (repeat' first | omega | refine And.intro ?_ ?_ | refine cP (aB n.fName) ?_ | refine cP (aC n.fValue hs) ?_ | (refine mX ?_; simp only [go_sem, qH] <;> fail)); done) | refine cP (aB n.fName) ?_ | refine cP (aC n.fValue hs) ?_ | refine aO ?_ | fail)
   exact aA ⟨⟨_, rfl, by simp only [go_sem, hr, bT]⟩, trivial⟩
  simp only [hk, decide_false] at hr
  simp only [go_sem, hk, decide_false]
  have qH := aI @h1 (aI @h2 (aI @h3 (aI @h4 (aI @decide_true (aI @decide_false (aI @hz (aI @ht (aI @hv @hk)))))))); repeat' (with_reducible first | refine nY ?_ | (refine mX ?_; try simp only [go_sem, qH]) | refine kD ?_ | refine rT [5, 7] [] ?_ | refine dF (aX ?_) (uX ?_) | refine dX (aX ?_) ?_ | (refine uA ?_; simp only [go_sem, qH]; (repeat' first | omega | refine And.intro ?_ ?_ | refine cP (aB n.fName) ?_ | refine cP (aC n.fValue hs) ?_ | (refine mX ?_; simp only [go_sem, qH] <;> fail)); done) | refine cP (aB n.fName) ?_ | refine cP (aC n.fValue hs) ?_ | refine aO ?_ | fail)
  by_cases hj : n.fValue.fKind = 1
  rotate_left
  ·simp only [hj, decide_false] at hr
   simp only [go_sem, hj, decide_false]
   have qH := aI @h1 (aI @h2 (aI @h3 (aI @h4 (aI @decide_true (aI @decide_false (aI @hz (aI @ht (aI @hv (aI @hk @hj))))))))); repeat' (with_reducible first | refine nY ?_ | (refine mX ?_; try simp only [go_sem, qH]) | refine kD ?_ | refine rT [5, 7] [] ?_ | refine dF (aX ?_) (uX ?_) | refine dX (aX ?_) ?_ | (refine uA ?_; simp only [go_sem, qH]; (repeat' first | omega | refine And.intro ?_ ?_ | refine cP (aB n.fName) ?_ | refine cP (aC n.fValue hs) ?_ | (refine mX ?_; simp only [go_sem, qH] <;> fail)); done) | refine cP (aB n.fName) ?_ | refine cP (aC n.fValue hs) ?_ | refine aO ?_ | fail)
   exact aA ⟨⟨_, rfl, by simp only [go_sem, hr, bT]⟩, trivial⟩
  simp only [hj, decide_true] at hr
  simp only [go_sem, hj, decide_true]
  have qH := aI @h1 (aI @h2 (aI @h3 (aI @h4 (aI @decide_true (aI @decide_false (aI @hz (aI @ht (aI @hv (aI @hk @hj))))))))); repeat' (with_reducible first | refine nY ?_ | (refine mX ?_; try simp only [go_sem, qH]) | refine kD ?_ | refine rT [5, 7] [] ?_ | refine dF (aX ?_) (uX ?_) | refine dX (aX ?_) ?_ | (refine uA ?_; simp only [go_sem, qH]; (repeat' first | omega | refine And.intro ?_ ?_ | refine cP (aB n.fName) ?_ | refine cP (aC n.fValue hs) ?_ | (refine mX ?_; simp only [go_sem, qH] <;> fail)); done) | refine cP (aB n.fName) ?_ | refine cP (aC n.fValue hs) ?_ | refine aO ?_ | fail)
  exact aA ⟨⟨_, rfl, by simp only [go_sem, hr, bT]⟩, trivial⟩
 by_cases h5 : n.fOp = 5
 ·have hr : aT n i = ((decide (n.fRight = 0) && (decide (n.fName = ⟨#[]⟩) && (decide (n.fValue.fKind = 0) && (decide (n.fValue.fInt = 0) && decide (n.fValue.fStr = ⟨#[]⟩))))) && (decide (0 < (i : Int)) && inB n.fLeft 0 ((i : Int) - 1))) := by simp [aT, h5, nL, jD, eV, Bool.and_assoc, Bool.and_comm, Bool.and_left_comm]
  have q0 := @h1; have q1 := @h2; have q2 := @h3; have q3 := @h4; have q4 := @h5; have q5 := @decide_true; have q6 := @decide_false; refine a4S (aK n.fLeft 0 ((i : Int) - 1)) ?_
  cases hz : (decide (n.fRight = 0) && (decide (n.fName = ⟨#[]⟩) && (decide (n.fValue.fKind = 0) && (decide (n.fValue.fInt = 0) && decide (n.fValue.fStr = ⟨#[]⟩)))))
  ·rw [hz] at hr
   simp only [go_sem, hz]
   have q0 := @h1; have q1 := @h2; have q2 := @h3; have q3 := @h4; have q4 := @h5; have q5 := @decide_true; have q6 := @decide_false; have q7 := @hz; refine a2u (aK n.fLeft 0 ((i : Int) - 1)) ?_
   exact aA ⟨⟨_, rfl, by simp only [go_sem, hr, bT]⟩, trivial⟩
  rw [hz] at hr
  simp only [go_sem, hz]
  have q0 := @h1; have q1 := @h2; have q2 := @h3; have q3 := @h4; have q4 := @h5; have q5 := @decide_true; have q6 := @decide_false; have q7 := @hz; refine a2u (aK n.fLeft 0 ((i : Int) - 1)) ?_
  by_cases hp : 0 < (i : Int)
  rotate_left
  ·simp only [hp, decide_false] at hr
   simp only [go_sem, hp, decide_false]
   have q0 := @h1; have q1 := @h2; have q2 := @h3; have q3 := @h4; have q4 := @h5; have q5 := @decide_true; have q6 := @decide_false; have q7 := @hz; have q8 := @hp; refine a6s (aK n.fLeft 0 ((i : Int) - 1)) ?_
   exact aA ⟨⟨_, rfl, by simp only [go_sem, hr, bT]⟩, trivial⟩
  simp only [hp, decide_true] at hr
  simp only [go_sem, hp, decide_true]
  have q0 := @h1; have q1 := @h2; have q2 := @h3; have q3 := @h4; have q4 := @h5; have q5 := @decide_true; have q6 := @decide_false; have q7 := @hz; have q8 := @hp; refine a6s (aK n.fLeft 0 ((i : Int) - 1)) ?_
  exact aA ⟨⟨_, rfl, by simp only [go_sem, hr, bT]⟩, trivial⟩
 by_cases h67 : n.fOp = 6 ∨ n.fOp = 7
 ·have hr : aT n i = ((decide (n.fName = ⟨#[]⟩) && (decide (n.fValue.fKind = 0) && (decide (n.fValue.fInt = 0) && decide (n.fValue.fStr = ⟨#[]⟩)))) && (decide (0 < (i : Int)) && (inB n.fLeft 0 ((i : Int) - 1) && inB n.fRight 0 ((i : Int) - 1)))) := by
   rcases h67 with h67 | h67 <;> simp [aT, h67, nL, xN, jD, eV, Bool.and_assoc, Bool.and_comm, Bool.and_left_comm]
  by_cases h6 : n.fOp = 6
  ·skip
   have qH := aI @h1 (aI @h2 (aI @h3 (aI @h4 (aI @h5 (aI @h6 (aI @decide_true @decide_false)))))); repeat' (with_reducible first | refine nY ?_ | (refine mX ?_; try simp only [go_sem, qH]) | refine kD ?_ | refine rT [5, 7] [] ?_ | refine dF (aX ?_) (uX ?_) | refine dX (aX ?_) ?_ | (refine uA ?_; simp only [go_sem, qH]; (repeat' first | omega | refine And.intro ?_ ?_ | refine cP (aK n.fLeft 0 ((i : Int) - 1)) ?_ | refine cP (aK n.fRight 0 ((i : Int) - 1)) ?_ | (refine mX ?_; simp only [go_sem, qH] <;> fail)); done) | refine cP (aK n.fLeft 0 ((i : Int) - 1)) ?_ | refine cP (aK n.fRight 0 ((i : Int) - 1)) ?_ | refine aO ?_ | fail)
   cases hz : (decide (n.fName = ⟨#[]⟩) && (decide (n.fValue.fKind = 0) && (decide (n.fValue.fInt = 0) && decide (n.fValue.fStr = ⟨#[]⟩))))
   ·rw [hz] at hr
    simp only [go_sem, hz]
    have q0 := @h1; have q1 := @h2; have q2 := @h3; have q3 := @h4; have q4 := @h5; have q5 := @h6; have q6 := @decide_true; have q7 := @decide_false; have q8 := @hz; refine a2w (aK n.fLeft 0 ((i : Int) - 1)) (aK n.fRight 0 ((i : Int) - 1)) ?_
    exact aA ⟨⟨_, rfl, by simp only [go_sem, hr, bT]⟩, trivial⟩
   rw [hz] at hr
   simp only [go_sem, hz]
   have q0 := @h1; have q1 := @h2; have q2 := @h3; have q3 := @h4; have q4 := @h5; have q5 := @h6; have q6 := @decide_true; have q7 := @decide_false; have q8 := @hz; refine a2w (aK n.fLeft 0 ((i : Int) - 1)) (aK n.fRight 0 ((i : Int) - 1)) ?_
   by_cases hp : 0 < (i : Int)
   rotate_left
   ·simp only [hp, decide_false] at hr
    simp only [go_sem, hp, decide_false]
    have q0 := @h1; have q1 := @h2; have q2 := @h3; have q3 := @h4; have q4 := @h5; have q5 := @h6; have q6 := @decide_true; have q7 := @decide_false; have q8 := @hz; have q9 := @hp; refine zF (aK n.fLeft 0 ((i : Int) - 1)) (aK n.fRight 0 ((i : Int) - 1)) ?_
    exact aA ⟨⟨_, rfl, by simp only [go_sem, hr, bT]⟩, trivial⟩
   simp only [hp, decide_true] at hr
   simp only [go_sem, hp, decide_true]
   have q0 := @h1; have q1 := @h2; have q2 := @h3; have q3 := @h4; have q4 := @h5; have q5 := @h6; have q6 := @decide_true; have q7 := @decide_false; have q8 := @hz; have q9 := @hp; refine zF (aK n.fLeft 0 ((i : Int) - 1)) (aK n.fRight 0 ((i : Int) - 1)) ?_
   cases hl : inB n.fLeft 0 ((i : Int) - 1)
   ·rw [hl] at hr
    simp only [go_sem, hl]
    have qH := aI @h1 (aI @h2 (aI @h3 (aI @h4 (aI @h5 (aI @h6 (aI @decide_true (aI @decide_false (aI @hz (aI @hp @hl))))))))); repeat' (with_reducible first | refine nY ?_ | (refine mX ?_; try simp only [go_sem, qH]) | refine kD ?_ | refine cP (aK n.fLeft 0 ((i : Int) - 1)) ?_ | refine cP (aK n.fRight 0 ((i : Int) - 1)) ?_ | refine aO ?_ | fail)
    exact aA ⟨⟨_, rfl, by simp only [go_sem, hr, bT]⟩, trivial⟩
   rw [hl] at hr
   simp only [go_sem, hl]
   have qH := aI @h1 (aI @h2 (aI @h3 (aI @h4 (aI @h5 (aI @h6 (aI @decide_true (aI @decide_false (aI @hz (aI @hp @hl))))))))); repeat' (with_reducible first | refine nY ?_ | (refine mX ?_; try simp only [go_sem, qH]) | refine kD ?_ | refine cP (aK n.fLeft 0 ((i : Int) - 1)) ?_ | refine cP (aK n.fRight 0 ((i : Int) - 1)) ?_ | refine aO ?_ | fail)
   exact aA ⟨⟨_, rfl, by simp only [go_sem, hr, bT]⟩, trivial⟩
  ·have h7 : n.fOp = 7 := by omega
   have qH := aI @h1 (aI @h2 (aI @h3 (aI @h4 (aI @h5 (aI @h6 (aI @h7 (aI @decide_true @decide_false))))))); repeat' (with_reducible first | refine nY ?_ | (refine mX ?_; try simp only [go_sem, qH]) | refine kD ?_ | refine rT [5, 7] [] ?_ | refine dF (aX ?_) (uX ?_) | refine dX (aX ?_) ?_ | (refine uA ?_; simp only [go_sem, qH]; (repeat' first | omega | refine And.intro ?_ ?_ | refine cP (aK n.fLeft 0 ((i : Int) - 1)) ?_ | refine cP (aK n.fRight 0 ((i : Int) - 1)) ?_ | (refine mX ?_; simp only [go_sem, qH] <;> fail)); done) | refine cP (aK n.fLeft 0 ((i : Int) - 1)) ?_ | refine cP (aK n.fRight 0 ((i : Int) - 1)) ?_ | refine aO ?_ | fail)
   cases hz : (decide (n.fName = ⟨#[]⟩) && (decide (n.fValue.fKind = 0) && (decide (n.fValue.fInt = 0) && decide (n.fValue.fStr = ⟨#[]⟩))))
   ·rw [hz] at hr
    simp only [go_sem, hz]
    have q0 := @h1; have q1 := @h2; have q2 := @h3; have q3 := @h4; have q4 := @h5; have q5 := @h6; have q6 := @h7; have q7 := @decide_true; have q8 := @decide_false; have q9 := @hz; refine zF (aK n.fLeft 0 ((i : Int) - 1)) (aK n.fRight 0 ((i : Int) - 1)) ?_
    exact aA ⟨⟨_, rfl, by simp only [go_sem, hr, bT]⟩, trivial⟩
   rw [hz] at hr
   simp only [go_sem, hz]
   have q0 := @h1; have q1 := @h2; have q2 := @h3; have q3 := @h4; have q4 := @h5; have q5 := @h6; have q6 := @h7; have q7 := @decide_true; have q8 := @decide_false; have q9 := @hz; refine zF (aK n.fLeft 0 ((i : Int) - 1)) (aK n.fRight 0 ((i : Int) - 1)) ?_
   by_cases hp : 0 < (i : Int)
   rotate_left
   ·simp only [hp, decide_false] at hr
    simp only [go_sem, hp, decide_false]
    have qH := aI @h1 (aI @h2 (aI @h3 (aI @h4 (aI @h5 (aI @h6 (aI @h7 (aI @decide_true (aI @decide_false (aI @hz @hp))))))))); repeat' (with_reducible first | refine nY ?_ | (refine mX ?_; try simp only [go_sem, qH]) | refine kD ?_ | refine cP (aK n.fLeft 0 ((i : Int) - 1)) ?_ | refine cP (aK n.fRight 0 ((i : Int) - 1)) ?_ | refine aO ?_ | fail)
    exact aA ⟨⟨_, rfl, by simp only [go_sem, hr, bT]⟩, trivial⟩
   simp only [hp, decide_true] at hr
   simp only [go_sem, hp, decide_true]
   have qH := aI @h1 (aI @h2 (aI @h3 (aI @h4 (aI @h5 (aI @h6 (aI @h7 (aI @decide_true (aI @decide_false (aI @hz @hp))))))))); repeat' (with_reducible first | refine nY ?_ | (refine mX ?_; try simp only [go_sem, qH]) | refine kD ?_ | refine cP (aK n.fLeft 0 ((i : Int) - 1)) ?_ | refine cP (aK n.fRight 0 ((i : Int) - 1)) ?_ | refine aO ?_ | fail)
   cases hl : inB n.fLeft 0 ((i : Int) - 1)
   ·rw [hl] at hr
    simp only [go_sem, hl]
    have qH := aI @h1 (aI @h2 (aI @h3 (aI @h4 (aI @h5 (aI @h6 (aI @h7 (aI @decide_true (aI @decide_false (aI @hz (aI @hp @hl)))))))))); repeat' (with_reducible first | refine nY ?_ | (refine mX ?_; try simp only [go_sem, qH]) | refine kD ?_ | refine cP (aK n.fLeft 0 ((i : Int) - 1)) ?_ | refine cP (aK n.fRight 0 ((i : Int) - 1)) ?_ | refine aO ?_ | fail)
    exact aA ⟨⟨_, rfl, by simp only [go_sem, hr, bT]⟩, trivial⟩
   rw [hl] at hr
   simp only [go_sem, hl]
   have qH := aI @h1 (aI @h2 (aI @h3 (aI @h4 (aI @h5 (aI @h6 (aI @h7 (aI @decide_true (aI @decide_false (aI @hz (aI @hp @hl)))))))))); repeat' (with_reducible first | refine nY ?_ | (refine mX ?_; try simp only [go_sem, qH]) | refine kD ?_ | refine cP (aK n.fLeft 0 ((i : Int) - 1)) ?_ | refine cP (aK n.fRight 0 ((i : Int) - 1)) ?_ | refine aO ?_ | fail)
   exact aA ⟨⟨_, rfl, by simp only [go_sem, hr, bT]⟩, trivial⟩
 have h6 : ¬ n.fOp = 6 := by omega
 have h7 : ¬ n.fOp = 7 := by omega
 by_cases h8 : n.fOp = 8
 ·have hr : aT n i = (bL n.fName 6 && (decide (n.fLeft = 0) && (decide (n.fRight = 0) && (decide (n.fValue.fKind = 0) && (decide (n.fValue.fInt = 0) && decide (n.fValue.fStr = ⟨#[]⟩)))))) := by simp [aT, h8, gB, eV, Bool.and_assoc]
  have q0 := @h1; have q1 := @h2; have q2 := @h3; have q3 := @h4; have q4 := @h5; have q5 := @h6; have q6 := @h7; have q7 := @h8; have q8 := @decide_true; have q9 := @decide_false; refine a6T (bN n.fName hn) ?_
  cases hz : (decide (n.fLeft = 0) && (decide (n.fRight = 0) && (decide (n.fValue.fKind = 0) && (decide (n.fValue.fInt = 0) && decide (n.fValue.fStr = ⟨#[]⟩)))))
  ·rw [hz] at hr
   simp only [go_sem, hz]
   have qH := aI @h1 (aI @h2 (aI @h3 (aI @h4 (aI @h5 (aI @h6 (aI @h7 (aI @h8 (aI @decide_true (aI @decide_false @hz))))))))); repeat' (with_reducible first | refine nY ?_ | (refine mX ?_; try simp only [go_sem, qH]) | refine kD ?_ | refine cP (bN n.fName hn) ?_ | refine aO ?_ | fail)
   exact aA ⟨⟨_, rfl, by simp only [go_sem, hr, bT]⟩, trivial⟩
  rw [hz] at hr
  simp only [go_sem, hz]
  have qH := aI @h1 (aI @h2 (aI @h3 (aI @h4 (aI @h5 (aI @h6 (aI @h7 (aI @h8 (aI @decide_true (aI @decide_false @hz))))))))); repeat' (with_reducible first | refine nY ?_ | (refine mX ?_; try simp only [go_sem, qH]) | refine kD ?_ | refine cP (bN n.fName hn) ?_ | refine aO ?_ | fail)
  exact aA ⟨⟨_, rfl, by simp only [go_sem, hr, bT]⟩, trivial⟩
 by_cases h9 : n.fOp = 9
 ·have hr : aT n i = (bL n.fName 6 && (decide (n.fLeft = 0) && (decide (n.fRight = 0) && (decide (n.fValue.fKind = 0) && (decide (n.fValue.fInt = 0) && decide (n.fValue.fStr = ⟨#[]⟩)))))) := by simp [aT, h9, gB, eV, Bool.and_assoc]
  have qH := aI @h1 (aI @h2 (aI @h3 (aI @h4 (aI @h5 (aI @h6 (aI @h7 (aI @h8 (aI @h9 (aI @decide_true @decide_false))))))))); repeat' (with_reducible first | refine nY ?_ | (refine mX ?_; try simp only [go_sem, qH]) | refine kD ?_ | refine cP (bN n.fName hn) ?_ | refine aO ?_ | fail)
  cases hz : (decide (n.fLeft = 0) && (decide (n.fRight = 0) && (decide (n.fValue.fKind = 0) && (decide (n.fValue.fInt = 0) && decide (n.fValue.fStr = ⟨#[]⟩)))))
  ·rw [hz] at hr
   simp only [go_sem, hz]
   have qH := aI @h1 (aI @h2 (aI @h3 (aI @h4 (aI @h5 (aI @h6 (aI @h7 (aI @h8 (aI @h9 (aI @decide_true (aI @decide_false @hz)))))))))); repeat' (with_reducible first | refine nY ?_ | (refine mX ?_; try simp only [go_sem, qH]) | refine kD ?_ | refine cP (bN n.fName hn) ?_ | refine aO ?_ | fail)
   exact aA ⟨⟨_, rfl, by simp only [go_sem, hr, bT]⟩, trivial⟩
  rw [hz] at hr
  simp only [go_sem, hz]
  have qH := aI @h1 (aI @h2 (aI @h3 (aI @h4 (aI @h5 (aI @h6 (aI @h7 (aI @h8 (aI @h9 (aI @decide_true (aI @decide_false @hz)))))))))); repeat' (with_reducible first | refine nY ?_ | (refine mX ?_; try simp only [go_sem, qH]) | refine kD ?_ | refine cP (bN n.fName hn) ?_ | refine aO ?_ | fail)
  exact aA ⟨⟨_, rfl, by simp only [go_sem, hr, bT]⟩, trivial⟩
 have hr : aT n i = false := by simp [aT, h1, h2, h3, h4, h5, h6, h7, h8, h9]
 have q0 := @h1; have q1 := @h2; have q2 := @h3; have q3 := @h4; have q4 := @h5; have q5 := @h6; have q6 := @h7; have q7 := @h8; have q8 := @h9; have q9 := @decide_false; refine uO ?_
 exact aA ⟨⟨_, rfl, by simp only [go_sem, hr]⟩, trivial⟩
end Go.Proofs.Ytolgdibgnndoaaa
end
section
namespace Go.Proofs.Ytolgdibgnndoaaa
open Go Go.Sx Go.RowKit Go.Proofs
def bZ (name : ByteArray) : List TAttr → TValue
 | [] => ⟨0, 0, ⟨#[]⟩⟩
 | a :: r => if a.fName = name then a.fValue else bZ name r
theorem iF (x : TFile) (name : ByteArray) (h : dM x ≤ 4300000) : FnC Try.prog 41 [eH x, os name] (iO (bZ name x.fAttrs)) := by
 unfold dM bF at h
 generalize hg : bZ name x.fAttrs = res
 refine ent Try.func41 rfl Try.call41 rfl (fun C => ?_); simp only [go_sem, st0, Try.ntmps41]
 refine aF ?_
 refine eY (α := Nat) (fun k => [(10, oi k)]) (fun _ => []) (fun k => k ≤ x.fAttrs.length ∧ bZ name (x.fAttrs.drop k) = res) (fun k => x.fAttrs.length - k) 0 (fun _ => ?_) ?_ ?_ (fun k hk => ?_)
 ·simp only [go_sem]
 ·simp only [go_sem]; simp
 ·simp [hg]
 ·obtain ⟨hk, hq⟩ := hk
  simp only [go_sem]
  refine aF ?_
  refine cnd rfl (fun h => ?_) (fun h => ?_)
  ·simp only [decide_eq_true_eq, Int.ofNat_lt] at h
   have hd := List.drop_eq_getElem_cons h
   rw [hd, bZ] at hq
   by_cases h1 : x.fAttrs[k].fName = name
   ·rw [if_pos h1] at hq
    subst hq
    have q0 := @h; have q1 := @h1; refine jH ?_
    exact aA ⟨⟨_, rfl, by simp only [go_sem]⟩, trivial⟩
   ·rw [if_neg h1] at hq
    have q0 := @h; have q1 := @h1; refine jH ?_
    refine bE (k + 1) ?_ ?_ ?_
    ·simp only [go_sem]; simp
    ·exact ⟨h, hq⟩
    ·omega
  ·simp only [decide_eq_false_iff_not] at h
   have e : k = x.fAttrs.length := by omega
   rw [e, List.drop_length, bZ] at hq
   subst hq
   refine aF ?_
   exact aA ⟨⟨_, rfl, by simp only [go_sem]⟩, trivial⟩
theorem bX (x : TFile) (name : ByteArray) (h : dM x ≤ 4300000) : FnC Try.prog 36 [eH x, os name] (iO (bZ name x.fAttrs)) := by
 unfold dM bF at h
 generalize hg : bZ name x.fAttrs = res
 refine ent Try.func36 rfl Try.call36 rfl (fun C => ?_); simp only [go_sem, st0, Try.ntmps36]
 refine aF ?_
 refine eY (α := Nat) (fun k => [(5, oi k)]) (fun _ => []) (fun k => k ≤ x.fAttrs.length ∧ bZ name (x.fAttrs.drop k) = res) (fun k => x.fAttrs.length - k) 0 (fun _ => ?_) ?_ ?_ (fun k hk => ?_)
 ·simp only [go_sem]
 ·simp only [go_sem]; simp
 ·simp [hg]
 ·obtain ⟨hk, hq⟩ := hk
  simp only [go_sem]
  refine aF ?_
  refine cnd rfl (fun h => ?_) (fun h => ?_)
  ·simp only [decide_eq_true_eq, Int.ofNat_lt] at h
   have hd := List.drop_eq_getElem_cons h
   rw [hd, bZ] at hq
   by_cases h1 : x.fAttrs[k].fName = name
   ·rw [if_pos h1] at hq
    subst hq
    have q0 := @h; have q1 := @h1; refine jH ?_
    exact aA ⟨⟨_, rfl, by simp only [go_sem]⟩, trivial⟩
   ·rw [if_neg h1] at hq
    have q0 := @h; have q1 := @h1; refine jH ?_
    refine bE (k + 1) ?_ ?_ ?_
    ·simp only [go_sem]; simp
    ·exact ⟨h, hq⟩
    ·omega
  ·simp only [decide_eq_false_iff_not] at h
   have e : k = x.fAttrs.length := by omega
   rw [e, List.drop_length, bZ] at hq
   subst hq
   refine aF ?_
   exact aA ⟨⟨_, rfl, by simp only [go_sem]⟩, trivial⟩
end Go.Proofs.Ytolgdibgnndoaaa
end
section
set_option maxRecDepth 100000
set_option maxHeartbeats 4000000
namespace Go.Proofs.Ytolgdibgnndoaaa
def lX (x v : TValue) : Bool := decide (x.fKind = v.fKind) && (decide (x.fInt = v.fInt) && decide (x.fStr = v.fStr))
def pU (l : List Int) (i : Int) : Bool := l.any fun x => decide (x = i)
def dN (s : ByteArray) : List TResult → List Int
 | [] => []
 | x :: r => if x.fName = s then x.fIDs else dN s r
def xM (v : TValue) (n : Int) : Bool := decide (v.fKind = 1) && decide (v.fInt < n)
def mt (q : List TNode) (f : TFile) (r : List TResult) : Nat → Nat → Bool
 | 0, _ => false
 | k + 1, i => match q[i]? with
  | none => false
  | some n =>
   if n.fOp = 1 then true
   else if n.fOp = 2 then !decide ((bZ n.fName f.fAttrs).fKind = 0)
   else if n.fOp = 3 then lX (bZ n.fName f.fAttrs) n.fValue
   else if n.fOp = 4 then xM (bZ n.fName f.fAttrs) n.fValue.fInt
   else if n.fOp = 5 then !mt q f r k n.fLeft.toNat
   else if n.fOp = 6 then mt q f r k n.fLeft.toNat && mt q f r k n.fRight.toNat
   else if n.fOp = 7 then mt q f r k n.fLeft.toNat || mt q f r k n.fRight.toNat
   else if n.fOp = 8 then pU (dN n.fName r) f.fID
   else !decide (f.fLink = 0) && pU (dN n.fName r) f.fLink
end Go.Proofs.Ytolgdibgnndoaaa
end
