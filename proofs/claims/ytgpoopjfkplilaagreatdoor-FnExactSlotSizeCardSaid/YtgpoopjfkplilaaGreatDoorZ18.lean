/- Joined texts. -/
import Derived.Test.YtgpoopjfkplilaaGreatDoorZ17
import Derived.Test.YtgpoopjfkplilaaGreatDoorZ15
import Derived.Sort.Walk0
set_option linter.all false
section
set_option maxRecDepth 100000
set_option maxHeartbeats 4000000
namespace Go.Proofs.YtgpoopjfkplilaaGreatDoor
open Go Go.Sx Go.Wd Go.RowKit Go.Proofs
theorem b5o (l : List ByteArray) : zs l.tail ≤ zs l := by
 cases l with
 | nil => simp
 | cons x l => rw [jJ, List.tail_cons]; omega
theorem b4c {l : List ByteArray} : (hd l).size + zs l.tail ≤ zs l := by
 cases l with
 | nil =>
  have : (⟨#[]⟩ : ByteArray).size = 0 := rfl
  show (⟨#[]⟩ : ByteArray).size + zs [] ≤ zs []
  omega
 | cons x l => rw [jJ, List.tail_cons]; show x.size + zs l ≤ _; omega
theorem b4d {l : List ByteArray} (h : l ≠ []) : (hd l).size + 1 + zs l.tail = zs l := by
 cases l with
 | nil => exact absurd rfl h
 | cons x l => rw [jJ, List.tail_cons]; rfl
theorem a0e {α : Type} (w : α → Nat) (a b : List α) : wsum w (a ++ b) = wsum w a + wsum w b := by
 induction a with
 | nil => simp [wsum]
 | cons x a ih => simp only [List.cons_append, wsum, ih]; omega
theorem fQ (ns : List TNode) (n : TNode) : wNodeS (ns ++ [n]) = wNodeS ns + 1 + (n.fName.size + n.fValue.fStr.size) := by
 unfold wNodeS
 rw [a0e, List.length_append]
 simp only [wsum, List.length_cons, List.length_nil, wNode, gB]
 omega
theorem a1Q : ∀ k fs ns, wNodeS (nodeI k fs ns).2.2 + zs (nodeI k fs ns).2.1 ≤ wNodeS ns + zs fs + (if (nodeI k fs ns).1 then 0 else 1)
 | 0, fs, ns => by simp [nodeI]
 | k + 1, fs, ns => by
  have e0 : (⟨#[]⟩ : ByteArray).size = 0 := rfl
  have hne : jU (hd fs) ≠ 0 → fs ≠ [] := fun h e => by rw [e] at h; exact h yB
  have h1 : jU (hd fs) ≠ 0 → 1 + zs fs.tail ≤ zs fs := fun h => by have := b4d (hne h); omega
  have t0 := b5o fs
  have t1 := b4c (l := fs.tail)
  have t2 := b4c (l := fs.tail.tail)
  have pv := a5o (hd fs.tail.tail)
  have a2 := a1Q k fs.tail ns
  have b2 := a1Q k (nodeI k fs.tail ns).2.1 (nodeI k fs.tail ns).2.2
  unfold nodeI
  simp only
  split
  ·rename_i h
   have := h1 (by omega)
   rw [fQ]
   simp only [v0, if_true]
   omega
  ·split
   ·rename_i h
    have := h1 (by omega)
    rw [fQ]
    simp only
    split <;> omega
   ·split
    ·rename_i h
     have := h1 (by omega)
     rw [fQ]
     simp only [v0]
     revert a2
     cases (nodeI k fs.tail ns).1 <;> simp <;> intros <;> omega
    ·split
     ·rename_i h
      have := h1 (by omega)
      split
      ·rename_i h2
       rw [fQ]
       simp only [v0]
       simp only [h2, if_true] at a2
       revert b2
       cases (nodeI k (nodeI k fs.tail ns).2.1 (nodeI k fs.tail ns).2.2).1 <;> simp <;> intros <;> omega
      ·rename_i h2
       rw [fQ]
       simp only [v0]
       simp only [h2, Bool.false_eq_true, if_false] at a2 ⊢
       omega
     ·rw [fQ]
      simp only [v0]
      by_cases h0 : jU (hd fs) = 0
      ·simp [h0]; omega
      ·have := h1 h0
       simp [h0]; omega
theorem wB (p : List ByteArray) (i : Nat) : (part p i).size + zs (p.drop (i + 1)) ≤ zs (p.drop i) := by
 have e : part p i = hd (p.drop i) := by
  unfold part hd
  rw [List.getD_eq_getElem?_getD, List.headD_eq_head?_getD, List.head?_drop]
 have e2 : p.drop (i + 1) = (p.drop i).tail := by rw [List.tail_drop]
 rw [e, e2]
 exact b4c
theorem b4e (p : List ByteArray) (i : Nat) (h : part p i ≠ ⟨#[]⟩) : (part p i).size + 1 + zs (p.drop (i + 1)) = zs (p.drop i) := by
 have e : part p i = hd (p.drop i) := by
  unfold part hd
  rw [List.getD_eq_getElem?_getD, List.headD_eq_head?_getD, List.head?_drop]
 have e2 : p.drop (i + 1) = (p.drop i).tail := by rw [List.tail_drop]
 rw [e] at h ⊢
 rw [e2]
 exact b4d fun h0 => h (by rw [h0]; rfl)
theorem a1R (p : List ByteArray) : ∀ K i q deep, wNodeS (readS K p i q deep).1 ≤ wNodeS q + zs (p.drop i) ∧ ((readS K p i q deep).2 ≠ 0 → wNodeS (readS K p i q deep).1 + zs (p.drop (i + (readS K p i q deep).2)) ≤ wNodeS q + zs (p.drop i))
 | 0, i, q, deep => by simp [readS]
 | K + 1, i, q, deep => by
  have e0 : (⟨#[]⟩ : ByteArray).size = 0 := rfl
  have hne : jU (part p i) ≠ 0 → part p i ≠ ⟨#[]⟩ := fun h e => by rw [e] at h; exact h yB
  have h1 : jU (part p i) ≠ 0 → 1 + zs (p.drop (i + 1)) ≤ zs (p.drop i) := fun h => by have := b4e p i (hne h); omega
  have d1 := wB p (i + 1)
  have d2 := wB p (i + 2)
  have pv := a5o (part p (i + 2))
  obtain ⟨a1, a2⟩ := a1R p K (i + 1) q (deep + 1)
  obtain ⟨b1, b2⟩ := a1R p K (i + (1 + (readS K p (i + 1) q (deep + 1)).2)) (readS K p (i + 1) q (deep + 1)).1 (deep + 1)
  unfold readS
  simp only
  split
  ·simp
  ·rename_i hc
   have hop : jU (part p i) ≠ 0 := fun h => hc (.inl h)
   have hz := h1 hop
   split
   ·rw [fQ]; simp only [v0]
    have : p.drop (i + 2) = p.drop (i + 1 + 1) := rfl
    refine ⟨by omega, fun _ => by rw [this]; omega⟩
   ·split
    ·rw [fQ]; simp only
     have e2 : p.drop (i + 2) = p.drop (i + 1 + 1) := rfl
     have e3 : p.drop (i + 3) = p.drop (i + 2 + 1) := rfl
     rw [e2] at d2
     refine ⟨by omega, fun _ => by rw [e3]; omega⟩
    ·split
     ·split
      ·exact ⟨by simp only; omega, fun h => absurd rfl h⟩
      ·rename_i h2
       have := a2 h2
       have e2 : i + (1 + (readS K p (i + 1) q (deep + 1)).2) = i + 1 + (readS K p (i + 1) q (deep + 1)).2 := by omega
       rw [fQ]; simp only [v0]
       rw [e2]
       refine ⟨by omega, fun _ => by omega⟩
     ·split
      ·split
       ·exact ⟨by simp only; omega, fun h => absurd rfl h⟩
       ·rename_i h2
        have e2 : i + (1 + (readS K p (i + 1) q (deep + 1)).2) = i + 1 + (readS K p (i + 1) q (deep + 1)).2 := by omega
        have := a2 h2
        rw [e2] at b1 b2 ⊢
        split
        ·exact ⟨by simp only; omega, fun h => absurd rfl h⟩
        ·rename_i h3
         have := b2 h3
         rw [fQ]; simp only [v0]
         have e3 : i + (1 + (readS K p (i + 1) q (deep + 1)).2 + (readS K p (i + 1 + (readS K p (i + 1) q (deep + 1)).2) (readS K p (i + 1) q (deep + 1)).1 (deep + 1)).2) = i + 1 + (readS K p (i + 1) q (deep + 1)).2 + (readS K p (i + 1 + (readS K p (i + 1) q (deep + 1)).2) (readS K p (i + 1) q (deep + 1)).1 (deep + 1)).2 := by omega
         rw [e3]
         refine ⟨by omega, fun _ => by omega⟩
      ·rw [fQ]; simp only [v0]
       refine ⟨by omega, fun _ => by omega⟩
theorem lY (p : List ByteArray) : ∀ K i q deep, (readS K p i q deep).1.length + 1 ≤ q.length + 2 ^ K ∧ (readS K p i q deep).2 ≤ 8 ^ K
 | 0, i, q, deep => by simp [readS]
 | K + 1, i, q, deep => by
  have p1 : 1 ≤ 2 ^ K := Nat.one_le_two_pow
  have p2 : 1 ≤ 8 ^ K := Nat.one_le_pow _ _ (by omega)
  have p3 : 2 ^ (K + 1) = 2 * 2 ^ K := by rw [Nat.pow_succ]; omega
  have p4 : 8 ^ (K + 1) = 8 * 8 ^ K := by rw [Nat.pow_succ]; omega
  obtain ⟨a1, a2⟩ := lY p K (i + 1) q (deep + 1)
  obtain ⟨b1, b2⟩ := lY p K (i + (1 + (readS K p (i + 1) q (deep + 1)).2)) (readS K p (i + 1) q (deep + 1)).1 (deep + 1)
  rw [p3, p4]
  unfold readS
  simp only
  repeat' split
  all_goals
   try simp only [List.length_append, List.length_cons, List.length_nil]
   omega
theorem fC (p : List ByteArray) (i : Nat) (hi : i ≤ 4000000000000) : FnC Tryz.prog 101 [.o (.d (.sl (p.map bN))), oi i] (os (part p i)) := by
 refine ent Tryz.func101 rfl Tryz.call101 rfl (fun C => ?_); simp only [go_sem, st0, Tryz.ntmps101]
 by_cases h : i < p.length
 ·have d : decide (((p.length : Nat) : Int) ≤ (i : Int)) = false := by simp; omega
  have e : part p i = p[i] := by unfold part; rw [List.getD_eq_getElem?_getD, List.getElem?_eq_getElem h]; rfl
  have q0 := @h; have q1 := @d; have q2 := @bH; refine lQ ?_
  exact aA ⟨⟨_, rfl, by simp only [go_sem, e]⟩, trivial⟩
 ·have d : decide (((p.length : Nat) : Int) ≤ (i : Int)) = true := by simp; omega
  have e : part p i = ⟨#[]⟩ := by unfold part; rw [List.getD_eq_getElem?_getD, List.getElem?_eq_none (by omega)]; rfl
  have q0 := @d; have q1 := @bH; refine kC ?_
  exact aA ⟨⟨_, rfl, by simp only [go_sem, e]⟩, trivial⟩
theorem b4f {l : List ByteArray} (h : l ≠ []) (x : ByteArray) : cat 32 (l ++ [x]) = cat 32 l ++ ⟨#[32]⟩ ++ x := iZ h x ⟨#[32]⟩
theorem b4g (l : List ByteArray) (k : Nat) (h : k < l.length) : cat 32 (l.take (k + 1)) = if k = 0 then l[k] else cat 32 (l.take k) ++ ⟨#[32]⟩ ++ l[k] := by
 rw [List.take_succ_eq_append_getElem h]
 split
 ·rename_i e
  subst e
  rw [List.take_zero, List.nil_append, mW]
 ·rw [b4f (fun e => by have := congrArg List.length e; rw [List.length_take, List.length_nil] at this; omega)]
theorem b5p (l : List ByteArray) (k : Nat) : zs (l.take k) ≤ zs l := by
 have := a0p (l.take k) (l.drop k)
 rw [List.take_append_drop] at this
 omega
theorem a9K (l : List ByteArray) : (cat 32 l).size ≤ zs l := by
 cases l with
 | nil => simp [cat, Lib.join_nil, zs]; decide
 | cons x l => have := xZ (ws := x :: l) (by simp); omega
theorem a3t (l : List ByteArray) (hl : zs l ≤ 4000000000) : FnC Tryz.prog 105 [.o (.d (.sl (l.map bN)))] (os (cat 32 l)) := by
 refine ent Tryz.func105 rfl Tryz.call105 rfl (fun C => ?_); simp only [go_sem, st0, Tryz.ntmps105]
 refine aH ?_
 refine bD (α := Nat) (fun k => [(3, os (cat 32 (l.take k))), (4, oi (k : Nat))]) (fun _ => []) (fun k => k ≤ l.length) (fun k => l.length - k) 0 (fun _ => ?_) ?_ ?_ (fun k hk => ?_)
 ·simp only [go_sem]
 ·simp only [go_sem]; simp [cat, Lib.join_nil]
 ·simp
 simp only [go_sem]
 have q0 := @bH; refine iG ?_
 refine cnd rfl (fun h => ?_) (fun h => ?_)
 ·simp only [decide_eq_true_eq, Int.ofNat_lt] at h
  have hn := b4g l k h
  have hz := a0q (List.getElem_mem h)
  have hll := uF l
  have hz2 := b5p l k
  have hz3 := a9K (l.take k)
  have e1 : (⟨#[32]⟩ : ByteArray).size = 1 := rfl
  by_cases h0 : k = 0
  ·subst h0
   have d : decide ((0 : Int) < ((0 : Nat) : Int)) = false := rfl
   have e2 : cat 32 (l.take 0) = ⟨#[]⟩ := by simp [cat, Lib.join_nil]
   have m1 : (⟨#[]⟩ : ByteArray).size + l[0].size ≤ maxLen := by unfold maxLen; have : (⟨#[]⟩ : ByteArray).size = 0 := rfl; omega
   have e3 : (⟨#[]⟩ : ByteArray) ++ l[0] = l[0] := ByteArray.empty_append
   rw [if_pos rfl] at hn
   rw [e2]
   have q0 := @h; have q1 := @d; have q2 := @m1; have q3 := @e3; have q4 := @bH; refine tT ?_
   refine aD 1 ?_ ?_ ?_
   ·simp only [go_sem, hn]; simp
   ·omega
   ·omega
  ·have d : decide ((0 : Int) < (k : Int)) = true := by simp; omega
   rw [if_neg h0] at hn
   generalize cat 32 (l.take k) = s at *
   have m1 : s.size + (⟨#[32]⟩ : ByteArray).size ≤ maxLen := by unfold maxLen; omega
   have m2 : (s ++ ⟨#[32]⟩).size + l[k].size ≤ maxLen := by unfold maxLen; rw [ByteArray.size_append]; omega
   have q0 := @h; have q1 := @d; have q2 := @m1; have q3 := @m2; have q4 := @bH; refine tT ?_
   refine aD (k + 1) ?_ ?_ ?_
   ·simp only [go_sem, hn]; simp
   ·omega
   ·omega
 ·simp only [decide_eq_false_iff_not] at h
  have e : k = l.length := by omega
  subst e
  rw [List.take_length]
  refine aH ?_
  exact aA ⟨⟨_, rfl, by simp only [go_sem]⟩, trivial⟩
@[go_sem] def hsR (q : List TNode) : List HB := [.row 155 7 (q.map bE) true]
theorem b5q (p : List ByteArray) (hp : ∀ i, (part p i).size ≤ 4300000) : ∀ (K i : Nat) (q : List TNode) (deep : Int), 1 ≤ K → deep + K = 11 → 0 ≤ deep → i + 8 ^ K ≤ 1000000000000 → q.length + 2 ^ K ≤ 1000000 →
    FnZ Tryz.prog 160 false (hsR q) [.o (.d (.sl (p.map bN))), oi i, .o (.s 0), oi deep] (fun _ : Unit => True) (fun _ => hsR (readS K p i q deep).1) (fun _ => .t [(false, [.s 0]), (false, [.d (iv ((readS K p i q deep).2 : Nat))])]) := by
 intro K
 induction K with
 | zero => intro i q deep h; omega
 | succ K ih =>
 intro i q deep _ hdk hd0 hi hq
 have p1 : 1 ≤ 2 ^ K := Nat.one_le_two_pow
 have p2 : 1 ≤ 8 ^ K := Nat.one_le_pow _ _ (by omega)
 have p3 : 2 ^ (K + 1) = 2 * 2 ^ K := by rw [Nat.pow_succ]; omega
 have p4 : 8 ^ (K + 1) = 8 * 8 ^ K := by rw [Nat.pow_succ]; omega
 have cp := fC p i (by omega)
 refine b4j Tryz.func160 rfl Tryz.call160 rfl (fun _ => rfl) (fun h => by cases h) (fun C b => ?_)
 simp only [go_sem, Tryz.ntmps160]
 refine aH ?_
 refine bD (α := Nat) (fun j => [(10, oi (xV j (part p i))), (11, oi ((j : Nat) + 1 : Int))]) (fun j => []) (fun j => j ≤ 9) (fun j => 9 - j) 0 (fun _ => ?_) ?_ ?_ (fun j hj => ?_)
 ·simp only [go_sem]
 ·simp only [go_sem, xV]; simp
 ·omega
 simp only [go_sem]
 refine aH ?_
 refine cnd rfl (fun h => ?_) (fun h => ?_)
 ·simp only [decide_eq_true_eq] at h
  have ck := iT ((j : Int) + 1) (by omega)
  by_cases hw : part p i = kw ((j : Int) + 1)
  ·have d : decide (part p i = kw ((j : Int) + 1)) = true := by simp [hw]
   have e : xV (j + 1) (part p i) = (j : Int) + 1 := by unfold xV; rw [if_pos hw]
   clear hw
   have q0 := @d; refine a3A ck cp ?_
   refine aD (j + 1) ?_ ?_ ?_
   ·simp only [go_sem, e]; simp
   ·omega
   ·omega
  ·have d : decide (part p i = kw ((j : Int) + 1)) = false := by simp [hw]
   have e : xV (j + 1) (part p i) = xV j (part p i) := by show (if part p i = kw ((j : Int) + 1) then _ else _) = _; rw [if_neg hw]
   clear hw
   have q0 := @d; refine a3A ck cp ?_
   refine aD (j + 1) ?_ ?_ ?_
   ·simp only [go_sem, e]; simp
   ·omega
   ·omega
 simp only [decide_eq_false_iff_not] at h
 have ej : j = 9 := by omega
 subst ej
 rw [b4i]
 have hop := a9T (part p i)
 have hmu : readS (K + 1) p i q deep = _ := readS.eq_2 ..
 simp only at hmu
 by_cases hfail : jU (part p i) = 0 ∨ 9 < deep ∨ 9 < q.length
 ·have hm : readS (K + 1) p i q deep = (q, 0) := by rw [hmu, if_pos hfail]
  clear hmu
  by_cases h0 : jU (part p i) = 0
  ·have q0 := @h0; have q1 := @decide_true; refine kC ?_
   exact aT () trivial (by simp only [go_sem, hm] <;> rfl) (by simp [aL]) (by simp only [go_sem, hm, List.map_append]; simp [v0]) rfl rfl
  by_cases h1 : 9 < deep
  ·have q0 := @h0; have q1 := @h1; have q2 := @decide_true; have q3 := @decide_false; refine iW ?_
   exact aT () trivial (by simp only [go_sem, hm] <;> rfl) (by simp [aL]) (by simp only [go_sem, hm, List.map_append]; simp [v0]) rfl rfl
  have h2 : (9 : Int) < ((q.length : Nat) : Int) := by omega
  have q0 := @h0; have q1 := @h1; have q2 := @h2; have q3 := @decide_true; have q4 := @decide_false; have q5 := @bH; refine a9a ?_
  exact aT () trivial (by simp only [go_sem, hm] <;> rfl) (by simp [aL]) (by simp only [go_sem, hm, List.map_append]; simp [v0]) rfl rfl
 have dd : decide (9 < deep) = false := by simp; omega
 have dq : decide ((9 : Int) < ((q.length : Nat) : Int)) = false := by simp; omega
 have g1 : q.length + 1 ≤ 140737488355328 := by omega
 have g2 : (q.length + 1) * 80 ≤ 140737488355328 := by omega
 have ei1 : ((i + 1 : Nat) : Int) = (i : Int) + 1 := by omega
 have ei2 : ((i + 2 : Nat) : Int) = (i : Int) + 2 := by omega
 generalize ho : jU (part p i) = o at *
 rcases (by omega : o = 1 ∨ o = 2 ∨ o = 3 ∨ o = 4 ∨ o = 5 ∨ o = 6 ∨ o = 7 ∨ o = 8 ∨ o = 9) with rfl | rfl | rfl | rfl | rfl | rfl | rfl | rfl | rfl
 ·have hm : readS (K + 1) p i q deep = (q ++ [⟨1, 0, 0, ⟨#[]⟩, v0⟩], 1) := by rw [hmu]; simp [ho]; omega
  have g : inB 1 5 7 = false := by decide
  have q0 := @dd; have q1 := @dq; have q2 := @g; have q3 := @g1; have q4 := @g2; have q5 := @bH; refine tV (bA 1 5 7) ?_
  exact aT () trivial (by simp only [go_sem, hm] <;> rfl) (by simp [aL]) (by simp only [go_sem, hm, List.map_append]; simp [v0]) rfl rfl
 ·have hm : readS (K + 1) p i q deep = (q ++ [⟨2, 0, 0, part p (i + 1), v0⟩], 2) := by rw [hmu]; simp [ho]; omega
  have cp1 := fC p (i + 1) (by omega)
  rw [ei1] at cp1
  have q0 := @dd; have q1 := @dq; have q2 := @g1; have q3 := @g2; have q4 := @bH; refine qD cp1 ?_
  exact aT () trivial (by simp only [go_sem, hm] <;> rfl) (by simp [aL]) (by simp only [go_sem, hm, List.map_append]; simp [v0]) rfl rfl
 ·have hm : readS (K + 1) p i q deep = (q ++ [⟨3, 0, 0, part p (i + 1), (pV (part p (i + 2))).1⟩], 3) := by rw [hmu]; simp [ho]; omega
  have cp1 := fC p (i + 1) (by omega)
  rw [ei1] at cp1
  have cp2 := fC p (i + 2) (by omega)
  rw [ei2] at cp2
  have cv := lG (part p (i + 2)) (hp _)
  have q0 := @dd; have q1 := @dq; have q2 := @g1; have q3 := @g2; have q4 := @bH; refine b6u cp1 cp2 cv ?_
  exact aT () trivial (by simp only [go_sem, hm] <;> rfl) (by simp [aL]) (by simp only [go_sem, hm, List.map_append]; simp [v0]) rfl rfl
 ·have hm : readS (K + 1) p i q deep = (q ++ [⟨4, 0, 0, part p (i + 1), (pV (part p (i + 2))).1⟩], 3) := by rw [hmu]; simp [ho]; omega
  have cp1 := fC p (i + 1) (by omega)
  rw [ei1] at cp1
  have cp2 := fC p (i + 2) (by omega)
  rw [ei2] at cp2
  have cv := lG (part p (i + 2)) (hp _)
  have q0 := @dd; have q1 := @dq; have q2 := @g1; have q3 := @g2; have q4 := @bH; refine b6u cp1 cp2 cv ?_
  exact aT () trivial (by simp only [go_sem, hm] <;> rfl) (by simp [aL]) (by simp only [go_sem, hm, List.map_append]; simp [v0]) rfl rfl
 ·have g : inB 5 5 7 = true := by decide
  have hm0 : readS (K + 1) p i q deep = if (readS K p (i + 1) q (deep + 1)).2 = 0 then ((readS K p (i + 1) q (deep + 1)).1, 0) else ((readS K p (i + 1) q (deep + 1)).1 ++ [⟨5, ((readS K p (i + 1) q (deep + 1)).1.length : Int) - 1, 0, ⟨#[]⟩, v0⟩], 1 + (readS K p (i + 1) q (deep + 1)).2) := by rw [hmu, if_neg (by omega)]; simp [ho]
  have ci := ih (i + 1) q (deep + 1) (by omega) (by omega) (by omega) (by omega) (by omega)
  rw [ei1] at ci
  obtain ⟨a1, a2⟩ := lY p K (i + 1) q (deep + 1)
  clear hmu
  generalize readS K p (i + 1) q (deep + 1) = r at *
  obtain ⟨r1, r2⟩ := r
  simp only at *
  have f1 : r1.length + 1 ≤ 140737488355328 := by omega
  have f2 : (r1.length + 1) * 80 ≤ 140737488355328 := by omega
  have i1 : inR .i64 ((r1.length : Int) - 1) := by unfold inR; simp only; omega
  have i2 : inR .i64 (1 + (r2 : Int)) := by unfold inR; simp only; omega
  have q0 := @dd; have q1 := @dq; have q2 := @g; have q3 := @bH; refine tQ (bA 5 5 7) ?_
  refine iP ci [_] rfl rfl rfl ?_
  rintro ⟨⟩ _
  simp only [go_sem]
  by_cases hz : r2 = 0
  ·have hm := hm0
   rw [if_pos hz] at hm
   have d : decide ((r2 : Int) = 0) = true := by simp [hz]
   have q0 := @i1; have q1 := @i2; have q2 := @d; have q3 := @bH; refine iW ?_
   exact aT () trivial (by simp only [go_sem, hm] <;> rfl) (by simp [aL]) (by simp only [go_sem, hm, List.map_append]; simp [v0]) rfl rfl
  ·have hm := hm0
   rw [if_neg hz] at hm
   have d : decide ((r2 : Int) = 0) = false := by simp [hz]
   have q0 := @i1; have q1 := @i2; have q2 := @d; have q3 := @f1; have q4 := @f2; have q5 := @bH; refine a9a ?_
   exact aT () trivial (by simp only [go_sem, hm] <;> rfl) (by simp [aL]) (by simp only [go_sem, hm, List.map_append]; simp [v0]) rfl rfl
 ·have g : inB 6 5 7 = true := by decide
  have hm0 : readS (K + 1) p i q deep = if (readS K p (i + 1) q (deep + 1)).2 = 0 then ((readS K p (i + 1) q (deep + 1)).1, 0) else if (readS K p (i + (1 + (readS K p (i + 1) q (deep + 1)).2)) (readS K p (i + 1) q (deep + 1)).1 (deep + 1)).2 = 0 then ((readS K p (i + (1 + (readS K p (i + 1) q (deep + 1)).2)) (readS K p (i + 1) q (deep + 1)).1 (deep + 1)).1, 0) else ((readS K p (i + (1 + (readS K p (i + 1) q (deep + 1)).2)) (readS K p (i + 1) q (deep + 1)).1 (deep + 1)).1 ++ [⟨6, ((readS K p (i + 1) q (deep + 1)).1.length : Int) - 1, ((readS K p (i + (1 + (readS K p (i + 1) q (deep + 1)).2)) (readS K p (i + 1) q (deep + 1)).1 (deep + 1)).1.length : Int) - 1, ⟨#[]⟩, v0⟩], 1 + (readS K p (i + 1) q (deep + 1)).2 + (readS K p (i + (1 + (readS K p (i + 1) q (deep + 1)).2)) (readS K p (i + 1) q (deep + 1)).1 (deep + 1)).2) := by rw [hmu, if_neg (by omega)]; simp [ho]
  have ci := ih (i + 1) q (deep + 1) (by omega) (by omega) (by omega) (by omega) (by omega)
  rw [ei1] at ci
  obtain ⟨a1, a2⟩ := lY p K (i + 1) q (deep + 1)
  clear hmu
  generalize readS K p (i + 1) q (deep + 1) = r at *
  obtain ⟨r1, r2⟩ := r
  simp only at *
  have i1 : inR .i64 ((r1.length : Int) - 1) := by unfold inR; simp only; omega
  have i2 : inR .i64 (1 + (r2 : Int)) := by unfold inR; simp only; omega
  have q0 := @dd; have q1 := @dq; have q2 := @g; have q3 := @bH; refine tQ (bA 6 5 7) ?_
  refine iP ci [_] rfl rfl rfl ?_
  rintro ⟨⟩ _
  simp only [go_sem]
  by_cases hz : r2 = 0
  ·have hm := hm0
   rw [if_pos hz] at hm
   have d : decide ((r2 : Int) = 0) = true := by simp [hz]
   have q0 := @i1; have q1 := @i2; have q2 := @d; have q3 := @bH; refine iW ?_
   exact aT () trivial (by simp only [go_sem, hm] <;> rfl) (by simp [aL]) (by simp only [go_sem, hm, List.map_append]; simp [v0]) rfl rfl
  have d : decide ((r2 : Int) = 0) = false := by simp [hz]
  rw [if_neg hz] at hm0
  have ci2 := ih (i + (1 + r2)) r1 (deep + 1) (by omega) (by omega) (by omega) (by omega) (by omega)
  obtain ⟨b1, b2⟩ := lY p K (i + (1 + r2)) r1 (deep + 1)
  generalize readS K p (i + (1 + r2)) r1 (deep + 1) = t at *
  obtain ⟨t1, t2⟩ := t
  simp only at *
  have f1 : t1.length + 1 ≤ 140737488355328 := by omega
  have f2 : (t1.length + 1) * 80 ≤ 140737488355328 := by omega
  have i3 : inR .i64 ((t1.length : Int) - 1) := by unfold inR; simp only; omega
  have i4 : inR .i64 (1 + (r2 : Int) + (t2 : Int)) := by unfold inR; simp only; omega
  have i5 : inR .i64 ((i : Int) + (1 + (r2 : Int))) := by unfold inR; simp only; omega
  have ec : ((i + (1 + r2) : Nat) : Int) = (i : Int) + (1 + (r2 : Int)) := by omega
  rw [ec] at ci2
  have q0 := @i1; have q1 := @i2; have q2 := @i5; have q3 := @d; have q4 := @bH; refine tT ?_
  refine iP ci2 [_] rfl rfl rfl ?_
  rintro ⟨⟩ _
  simp only [go_sem]
  by_cases hy : t2 = 0
  ·have hm := hm0
   rw [if_pos hy] at hm
   have d2 : decide ((t2 : Int) = 0) = true := by simp [hy]
   have q0 := @i3; have q1 := @i4; have q2 := @d2; have q3 := @bH; refine iW ?_
   exact aT () trivial (by simp only [go_sem, hm] <;> rfl) (by simp [aL]) (by simp only [go_sem, hm, List.map_append]; simp [v0]) rfl rfl
  ·have hm := hm0
   rw [if_neg hy] at hm
   have d2 : decide ((t2 : Int) = 0) = false := by simp [hy]
   have q0 := @i3; have q1 := @i4; have q2 := @d2; have q3 := @f1; have q4 := @f2; have q5 := @bH; refine a9a ?_
   exact aT () trivial (by simp only [go_sem, hm] <;> rfl) (by simp [aL]) (by simp only [go_sem, hm, List.map_append]; simp [v0]) rfl rfl
 ·have g : inB 7 5 7 = true := by decide
  have hm0 : readS (K + 1) p i q deep = if (readS K p (i + 1) q (deep + 1)).2 = 0 then ((readS K p (i + 1) q (deep + 1)).1, 0) else if (readS K p (i + (1 + (readS K p (i + 1) q (deep + 1)).2)) (readS K p (i + 1) q (deep + 1)).1 (deep + 1)).2 = 0 then ((readS K p (i + (1 + (readS K p (i + 1) q (deep + 1)).2)) (readS K p (i + 1) q (deep + 1)).1 (deep + 1)).1, 0) else ((readS K p (i + (1 + (readS K p (i + 1) q (deep + 1)).2)) (readS K p (i + 1) q (deep + 1)).1 (deep + 1)).1 ++ [⟨7, ((readS K p (i + 1) q (deep + 1)).1.length : Int) - 1, ((readS K p (i + (1 + (readS K p (i + 1) q (deep + 1)).2)) (readS K p (i + 1) q (deep + 1)).1 (deep + 1)).1.length : Int) - 1, ⟨#[]⟩, v0⟩], 1 + (readS K p (i + 1) q (deep + 1)).2 + (readS K p (i + (1 + (readS K p (i + 1) q (deep + 1)).2)) (readS K p (i + 1) q (deep + 1)).1 (deep + 1)).2) := by rw [hmu, if_neg (by omega)]; simp [ho]
  have ci := ih (i + 1) q (deep + 1) (by omega) (by omega) (by omega) (by omega) (by omega)
  rw [ei1] at ci
  obtain ⟨a1, a2⟩ := lY p K (i + 1) q (deep + 1)
  clear hmu
  generalize readS K p (i + 1) q (deep + 1) = r at *
  obtain ⟨r1, r2⟩ := r
  simp only at *
  have i1 : inR .i64 ((r1.length : Int) - 1) := by unfold inR; simp only; omega
  have i2 : inR .i64 (1 + (r2 : Int)) := by unfold inR; simp only; omega
  have q0 := @dd; have q1 := @dq; have q2 := @g; have q3 := @bH; refine tQ (bA 7 5 7) ?_
  refine iP ci [_] rfl rfl rfl ?_
  rintro ⟨⟩ _
  simp only [go_sem]
  by_cases hz : r2 = 0
  ·have hm := hm0
   rw [if_pos hz] at hm
   have d : decide ((r2 : Int) = 0) = true := by simp [hz]
   have q0 := @i1; have q1 := @i2; have q2 := @d; have q3 := @bH; refine iW ?_
   exact aT () trivial (by simp only [go_sem, hm] <;> rfl) (by simp [aL]) (by simp only [go_sem, hm, List.map_append]; simp [v0]) rfl rfl
  have d : decide ((r2 : Int) = 0) = false := by simp [hz]
  rw [if_neg hz] at hm0
  have ci2 := ih (i + (1 + r2)) r1 (deep + 1) (by omega) (by omega) (by omega) (by omega) (by omega)
  obtain ⟨b1, b2⟩ := lY p K (i + (1 + r2)) r1 (deep + 1)
  generalize readS K p (i + (1 + r2)) r1 (deep + 1) = t at *
  obtain ⟨t1, t2⟩ := t
  simp only at *
  have f1 : t1.length + 1 ≤ 140737488355328 := by omega
  have f2 : (t1.length + 1) * 80 ≤ 140737488355328 := by omega
  have i3 : inR .i64 ((t1.length : Int) - 1) := by unfold inR; simp only; omega
  have i4 : inR .i64 (1 + (r2 : Int) + (t2 : Int)) := by unfold inR; simp only; omega
  have i5 : inR .i64 ((i : Int) + (1 + (r2 : Int))) := by unfold inR; simp only; omega
  have ec : ((i + (1 + r2) : Nat) : Int) = (i : Int) + (1 + (r2 : Int)) := by omega
  rw [ec] at ci2
  have q0 := @i1; have q1 := @i2; have q2 := @i5; have q3 := @d; have q4 := @bH; refine tT ?_
  refine iP ci2 [_] rfl rfl rfl ?_
  rintro ⟨⟩ _
  simp only [go_sem]
  by_cases hy : t2 = 0
  ·have hm := hm0
   rw [if_pos hy] at hm
   have d2 : decide ((t2 : Int) = 0) = true := by simp [hy]
   have q0 := @i3; have q1 := @i4; have q2 := @d2; have q3 := @bH; refine iW ?_
   exact aT () trivial (by simp only [go_sem, hm] <;> rfl) (by simp [aL]) (by simp only [go_sem, hm, List.map_append]; simp [v0]) rfl rfl
  ·have hm := hm0
   rw [if_neg hy] at hm
   have d2 : decide ((t2 : Int) = 0) = false := by simp [hy]
   have q0 := @i3; have q1 := @i4; have q2 := @d2; have q3 := @f1; have q4 := @f2; have q5 := @bH; refine a9a ?_
   exact aT () trivial (by simp only [go_sem, hm] <;> rfl) (by simp [aL]) (by simp only [go_sem, hm, List.map_append]; simp [v0]) rfl rfl
 ·have hm : readS (K + 1) p i q deep = (q ++ [⟨8, 0, 0, part p (i + 1), v0⟩], 2) := by rw [hmu]; simp [ho]; omega
  have cp1 := fC p (i + 1) (by omega)
  rw [ei1] at cp1
  have q0 := @dd; have q1 := @dq; have q2 := @g1; have q3 := @g2; have q4 := @bH; refine qD cp1 ?_
  exact aT () trivial (by simp only [go_sem, hm] <;> rfl) (by simp [aL]) (by simp only [go_sem, hm, List.map_append]; simp [v0]) rfl rfl
 ·have hm : readS (K + 1) p i q deep = (q ++ [⟨9, 0, 0, part p (i + 1), v0⟩], 2) := by rw [hmu]; simp [ho]; omega
  have cp1 := fC p (i + 1) (by omega)
  rw [ei1] at cp1
  have q0 := @dd; have q1 := @dq; have q2 := @g1; have q3 := @g2; have q4 := @bH; refine qD cp1 ?_
  exact aT () trivial (by simp only [go_sem, hm] <;> rfl) (by simp [aL]) (by simp only [go_sem, hm, List.map_append]; simp [v0]) rfl rfl
end Go.Proofs.YtgpoopjfkplilaaGreatDoor
end
section
set_option maxRecDepth 100000
namespace Go.Proofs.YtgpoopjfkplilaaGreatDoor
open Go Go.Sx Go.Wd Go.RowKit Go.Proofs
abbrev iM : ByteArray := ⟨#[102, 105, 101, 108, 100]⟩
abbrev jI : ByteArray := ⟨#[110, 101, 120, 116]⟩
abbrev wFile' : ByteArray := ⟨#[102, 105, 108, 101]⟩
abbrev wDir' : ByteArray := ⟨#[100, 105, 114]⟩
abbrev wT : ByteArray := ⟨#[115, 116, 114, 105, 110, 103]⟩
abbrev wU : ByteArray := ⟨#[105, 110, 116]⟩
noncomputable def atS (p : List ByteArray) (o k : Nat) : List TAttr := (List.range k).map fun j => ⟨part p (o + 2 * j), (pV (part p (o + 2 * j + 1))).1⟩
noncomputable def okS (p : List ByteArray) (o k : Nat) : Bool := (List.range k).all fun j => (pV (part p (o + 2 * j + 1))).2
theorem a3s (p : List ByteArray) (o k : Nat) : atS p o (k + 1) = atS p o k ++ [⟨part p (o + 2 * k), (pV (part p (o + 2 * k + 1))).1⟩] := by simp [atS, List.range_succ]
theorem b4b (p : List ByteArray) (o k : Nat) : okS p o (k + 1) = (okS p o k && (pV (part p (o + 2 * k + 1))).2) := by simp [okS, List.range_succ]
theorem a6v (p : List ByteArray) (o k : Nat) : (atS p o k).length = k := by simp [atS]
def f0 : TFile := ⟨0, 0, false, 0, []⟩
noncomputable def fileI (w : List ByteArray) : TFile × Bool :=
 if w.length < 4 ∨ w.length % 2 ≠ 0 then (f0, false)
 else (⟨(pU (part w 0)).1, (pU (part w 1)).1, decide (part w 2 = ⟨#[115]⟩), (pU (part w 3)).1, atS w 4 ((w.length - 4) / 2)⟩, (pU (part w 0)).2 && (pU (part w 1)).2 && (pU (part w 3)).2 && okS w 4 ((w.length - 4) / 2))
def bP (x : TSnapshot) (f : TField) : TSnapshot := ⟨⟨x.fStore.fSchema ++ [f], x.fStore.fFiles, x.fStore.fNextID⟩, x.fDirs⟩
def dU (x : TSnapshot) (f : TFile) : TSnapshot := ⟨⟨x.fStore.fSchema, x.fStore.fFiles ++ [f], x.fStore.fNextID⟩, x.fDirs⟩
def fA (x : TSnapshot) (d : TDir) : TSnapshot := ⟨x.fStore, x.fDirs ++ [d]⟩
def eX (x : TSnapshot) (n : Int) : TSnapshot := ⟨⟨x.fStore.fSchema, x.fStore.fFiles, n⟩, x.fDirs⟩
noncomputable def rdI (x : TSnapshot) (l : ByteArray) : TSnapshot × Bool :=
 let w := pieces 32 l
 if part w 0 = iM ∧ w.length = 3 then (bP x ⟨part w 1, if part w 2 = wT then 2 else 1⟩, true)
 else if part w 0 = jI ∧ w.length = 2 then (eX x (pU (part w 1)).1, (pU (part w 1)).2)
 else if part w 0 = wFile' then (dU x (fileI w.tail).1, (fileI w.tail).2)
 else if part w 0 = wDir' ∧ 2 < w.length then (fA x ⟨part w 1, (pQI (cat 32 (w.drop 2))).1⟩, (pQI (cat 32 (w.drop 2))).2)
 else (x, false)
noncomputable def fileS (p : List ByteArray) : TFile := ⟨(pU (part p 1)).1, (pU (part p 2)).1, decide (part p 3 = ⟨#[115]⟩), (pU (part p 4)).1, atS p 5 ((p.length - 4) / 2)⟩
noncomputable def rdS (x : TSnapshot) (l : ByteArray) : TSnapshot :=
 let p := sfL l
 if part p 0 = iM then bP x ⟨part p 1, if part p 2 = wU then 1 else 2⟩
 else if part p 0 = jI then eX x (pU (part p 1)).1
 else if part p 0 = wFile' then dU x (fileS p)
 else if part p 0 = wDir' then fA x ⟨part p 1, if 2 < p.length then (pQS (cat 32 (p.drop 2))).1 else []⟩
 else x
noncomputable def bQ : TSnapshot → List ByteArray → TSnapshot × Bool
 | x, [] => (x, true)
 | x, l :: ls => if (rdI x l).2 then bQ (rdI x l).1 ls else (x, false)
noncomputable def eU (x : TSnapshot) (ls : List ByteArray) : TSnapshot := ls.foldl rdS x
def x0 : TSnapshot := ⟨⟨[], [], 0⟩, []⟩
noncomputable def dcI (ls : List ByteArray) : TSnapshot × Bool := if (bQ x0 ls).2 && (eY (bQ x0 ls).1 && decide (lnX (bQ x0 ls).1 = ls)) then ((bQ x0 ls).1, true) else (x0, false)
noncomputable def dcS (ls : List ByteArray) : TSnapshot × Bool := if eY (eU x0 ls) && decide (lnX (eU x0 ls) = ls) then (eU x0 ls, true) else (x0, false)
theorem fB {p : List ByteArray} {k : Nat} (h : k < p.length) : part p k = p[k] := by unfold part; rw [List.getD_eq_getElem?_getD, List.getElem?_eq_getElem h]; rfl
theorem mK {p : List ByteArray} {i : Nat} (h : i < p.length) : (part p i).size + 1 + zs (p.drop (i + 1)) = zs (p.drop i) := by
 rw [List.drop_eq_getElem_cons h, jJ, fB h]
theorem jH (p : List ByteArray) (i : Nat) : zs (p.drop (i + 1)) ≤ zs (p.drop i) := by
 have := wB p i; omega
theorem a8f (l : List TAttr) (a : TAttr) : eF (l ++ [a]) = eF l + 1 + (a.fName.size + a.fValue.fStr.size) := by
 unfold eF
 rw [a0e, List.length_append]
 simp only [wsum, List.length_cons, List.length_nil, wAttr, gB]
 omega
theorem b3Y (p : List ByteArray) (o : Nat) : ∀ k, (∀ j, j < k → o + 2 * j < p.length) → eF (atS p o k) + zs (p.drop (o + 2 * k)) ≤ zs (p.drop o)
 | 0, _ => by simp [atS, eF, wsum]
 | k + 1, h => by
  have ih := b3Y p o k (fun j hj => h j (by omega))
  have h1 := mK (h k (by omega))
  have h2 := wB p (o + 2 * k + 1)
  have h3 := a5o (part p (o + 2 * k + 1))
  have e : o + 2 * (k + 1) = o + 2 * k + 1 + 1 := by omega
  rw [a3s, a8f, e]
  simp only
  omega
theorem b7P (s : ByteArray) : wNodeS (pQI s).1 ≤ s.size + 1 := by
 have h1 := a1Q ((sfL s).length + 10) (sfL s) []
 have h2 := a1T s
 have e : wNodeS [] = 0 := rfl
 rw [e] at h1
 unfold pQI
 simp only
 split
 ·rename_i h
  simp only [Bool.and_eq_true] at h
  rw [h.2.1] at h1
  simp only [if_true] at h1
  simp only
  omega
 ·show wNodeS [] ≤ _; omega
theorem b7Q (s : ByteArray) : wNodeS (pQS s).1 ≤ s.size + 1 := by
 have h1 := (a1R (sfL s) 11 0 [] 0).1
 have h2 := a1T s
 have e : wNodeS [] = 0 := rfl
 rw [e, List.drop_zero] at h1
 unfold pQS
 simp only
 split
 ·simp only; omega
 ·show wNodeS [] ≤ _; omega
theorem a0c (l : List TField) (f : TField) : aP (l ++ [f]) = aP l + 1 + f.fName.size := by
 unfold aP; rw [a0e, List.length_append]; simp only [wsum, List.length_cons, List.length_nil, wField]; omega
theorem a1m (l : List TFile) (f : TFile) : fF (l ++ [f]) = fF l + 1 + eF f.fAttrs := by
 unfold fF; rw [a0e, List.length_append]; simp only [wsum, List.length_cons, List.length_nil, wFile]; omega
theorem a3r (l : List TDir) (d : TDir) : fK (l ++ [d]) = fK l + 1 + (d.fName.size + wNodeS d.fQuery) := by
 unfold fK; rw [a0e, List.length_append]; simp only [wsum, List.length_cons, List.length_nil, wDir]; omega
theorem b3Z {p : List ByteArray} {i : Nat} (h : i < p.length) : part p i ∈ p := by rw [fB h]; exact List.getElem_mem h
theorem b2k {p : List ByteArray} {i : Nat} (h : ¬ i < p.length) : part p i = ⟨#[]⟩ := by unfold part; rw [List.getD_eq_getElem?_getD, List.getElem?_eq_none (by omega)]; rfl
theorem a0d {p : List ByteArray} {i : Nat} (h : part p i ≠ ⟨#[]⟩) : i < p.length := Nat.lt_of_not_le fun h' => h (b2k (by omega))
theorem b7R (x : TSnapshot) (l : ByteArray) (h : (rdI x l).2 = true) : aK (rdI x l).1 ≤ aK x + (l.size + 1) := by
 have hz := kJ 32 l
 unfold rdI at h ⊢
 simp only at h ⊢
 generalize pieces 32 l = w at *
 split at h
 ·rename_i hc
  rw [if_pos hc]
  have := a0q (b3Z (p := w) (i := 1) (by omega))
  unfold bP aK dC
  simp only
  rw [a0c]
  simp only
  omega
 ·rename_i h1
  rw [if_neg h1]
  split at h
  ·rename_i hc
   rw [if_pos hc]
   unfold eX aK dC
   simp only
   omega
  ·rename_i h2
   rw [if_neg h2]
   split at h
   ·rename_i hc
    rw [if_pos hc]
    have hw0 : 0 < w.length := a0d (by rw [hc]; decide)
    have e1 := mK hw0
    rw [List.drop_zero] at e1
    have e2 : w.drop (0 + 1) = w.tail := List.drop_one
    rw [e2] at e1
    unfold dU aK dC
    simp only
    rw [a1m]
    have hf : eF (fileI w.tail).1.fAttrs ≤ zs w.tail := by
     unfold fileI
     split
     ·show eF [] ≤ _; simp [eF, wsum]
     ·rename_i hl
      simp only
      have := b3Y w.tail 4 ((w.tail.length - 4) / 2) (fun j hj => by omega)
      have d1 := jH w.tail 0; have d2 := jH w.tail 1; have d3 := jH w.tail 2; have d4 := jH w.tail 3
      simp only [List.drop_zero, Nat.zero_add, Nat.reduceAdd] at d1 d2 d3 d4
      omega
    omega
   ·rename_i h3
    rw [if_neg h3]
    split at h
    ·rename_i hc
     rw [if_pos hc]
     have e1 := mK (p := w) (i := 0) (by omega)
     have e2 := mK (p := w) (i := 1) (by omega)
     rw [List.drop_zero] at e1
     have hq := b7P (cat 32 (w.drop 2))
     have hcz := xZ (ws := w.drop 2) (fun e => by have := congrArg List.length e; rw [List.length_drop] at this; simp at this; omega)
     unfold fA aK
     simp only
     rw [a3r]
     simp only
     have e3 : zs (w.drop (1 + 1)) = zs (w.drop 2) := rfl
     have e4 : zs (w.drop (0 + 1)) = zs (w.drop 1) := rfl
     omega
    ·cases h
theorem b7S (x : TSnapshot) (l : ByteArray) : aK (rdS x l) ≤ aK x + (l.size + 1) := by
 have hz := a1T l
 unfold rdS
 simp only
 generalize sfL l = p at *
 have d0 := wB p 0; have d1 := wB p 1; have d2 := jH p 1; have d3 := jH p 2; have d4 := jH p 3; have d5 := jH p 4
 rw [List.drop_zero] at d0
 have e1 : zs (p.drop (0 + 1)) = zs (p.drop 1) := rfl
 have e2 : zs (p.drop (1 + 1)) = zs (p.drop 2) := rfl
 split
 ·rename_i hc
  have h0 : 0 < p.length := a0d (by rw [hc]; decide)
  have e0 := mK h0
  rw [List.drop_zero] at e0
  unfold bP aK dC
  simp only
  rw [a0c]
  simp only
  omega
 ·split
  ·unfold eX aK dC
   simp only
   omega
  ·split
   ·rename_i hc
    have h0 : 0 < p.length := a0d (by rw [hc]; decide)
    have e0 := mK h0
    rw [List.drop_zero] at e0
    have := b3Y p 5 ((p.length - 4) / 2) (fun j hj => by omega)
    have e3 : zs (p.drop (2 + 1)) = zs (p.drop 3) := rfl
    have e4 : zs (p.drop (3 + 1)) = zs (p.drop 4) := rfl
    have e5 : zs (p.drop (4 + 1)) = zs (p.drop 5) := rfl
    unfold dU aK dC
    simp only
    rw [a1m]
    unfold fileS
    simp only
    omega
   ·split
    ·rename_i hc
     have h0 : 0 < p.length := a0d (by rw [hc]; decide)
     have e0 := mK h0
     rw [List.drop_zero] at e0
     unfold fA aK
     simp only
     rw [a3r]
     simp only
     split
     ·rename_i h2
      have hq := b7Q (cat 32 (p.drop 2))
      have hcz := xZ (ws := p.drop 2) (fun e => by have := congrArg List.length e; rw [List.length_drop] at this; simp at this; omega)
      have e6 := mK (p := p) (i := 1) (by omega)
      omega
     ·have : wNodeS [] = 0 := rfl
      omega
    ·omega
theorem a6u : ∀ (ls : List ByteArray) (x : TSnapshot), (bQ x ls).2 = true → aK (bQ x ls).1 ≤ aK x + zs ls
 | [], x, _ => by simp [bQ]
 | l :: ls, x, h => by
  unfold bQ at h ⊢
  split at h
  ·rename_i hc
   rw [if_pos hc]
   have h1 := b7R x l hc
   have h2 := a6u ls _ h
   rw [jJ]; omega
  ·cases h
theorem b0P : ∀ (ls : List ByteArray) (x : TSnapshot), aK (eU x ls) ≤ aK x + zs ls
 | [], x => by simp [eU]
 | l :: ls, x => by
  have h1 := b7S x l
  have h2 := b0P ls (rdS x l)
  rw [jJ]
  show aK (eU (rdS x l) ls) ≤ _
  omega
theorem b4a : aK x0 = 0 := rfl
theorem a3p {n a b : Int} (h : inB n a b = true) : a ≤ n ∧ n ≤ b := by
 unfold inB at h; simpa using h
theorem sV {s : List TField} (h : okSchema s = true) {f : TField} (hf : f ∈ s) : aQ f.fName 1 = true ∧ (f.fKind = 1 ∨ f.fKind = 2) := by
 unfold okSchema at h
 simp only [Bool.and_eq_true, List.all_eq_true, List.mem_range] at h
 obtain ⟨k, hk, rfl⟩ := List.getElem_of_mem hf
 have := h.1 k hk
 unfold gL at this
 rw [List.getElem?_eq_getElem hk] at this
 simp only [Bool.and_eq_true] at this
 have h2 := a3p this.2.1
 exact ⟨this.1, by omega⟩
theorem a0b {x : TStore} (h : dW x = true) {f : TFile} (hf : f ∈ x.fFiles) : fP x.fSchema f = true := by
 unfold dW at h
 simp only [Bool.and_eq_true, List.all_eq_true, List.mem_range] at h
 obtain ⟨k, hk, rfl⟩ := List.getElem_of_mem hf
 have := h.1 k hk
 unfold iO at this
 rw [List.getElem?_eq_getElem hk] at this
 simp only [Bool.and_eq_true] at this
 exact this.1
theorem vB {x : TStore} (h : dW x = true) : okSchema x.fSchema = true ∧ 1 ≤ x.fNextID ∧ x.fNextID ≤ 61 := by
 unfold dW at h
 simp only [Bool.and_eq_true] at h
 exact ⟨h.2.1, a3p h.2.2.2⟩
theorem sW {s : List TField} {f : TFile} (h : fP s f = true) : (1 ≤ f.fID ∧ f.fID ≤ 60) ∧ (0 ≤ f.fOwner ∧ f.fOwner ≤ 2) ∧ (0 ≤ f.fLink ∧ f.fLink ≤ 60) ∧ okSchema s = true ∧ ∀ k (hk : k < f.fAttrs.length), oN TAttr.fName f.fAttrs k = true ∧ lV s f.fAttrs[k].fName f.fAttrs[k].fValue = true := by
 unfold fP at h
 simp only [Bool.and_eq_true, List.all_eq_true, List.mem_range] at h
 refine ⟨a3p h.2.1, a3p h.2.2.1, a3p h.2.2.2.1, h.2.2.2.2, fun k hk => ?_⟩
 have := h.1 k hk
 unfold iN at this
 rw [List.getElem?_eq_getElem hk] at this
 simp only [Bool.and_eq_true] at this
 exact this
theorem wS {n : ByteArray} : ∀ {s : List TField}, fT n s ≠ 0 → ∃ f ∈ s, f.fName = n
 | [], h => absurd rfl h
 | f :: s, h => by
  unfold fT at h
  split at h
  ·exact ⟨f, by simp, by assumption⟩
  ·obtain ⟨g, hg, e⟩ := wS h
   exact ⟨g, by simp [hg], e⟩
theorem sZ {s : List TField} {n : ByteArray} {v : TValue} (hs : okSchema s = true) (h : lV s n v = true) : dH v = true ∧ v.fKind ≠ 0 ∧ aQ n 1 = true ∧ n ∈ s.map TField.fName := by
 unfold lV at h
 simp only [Bool.and_eq_true, Bool.not_eq_true', decide_eq_false_iff_not, decide_eq_true_eq] at h
 obtain ⟨f, hf, rfl⟩ := wS (n := n) (s := s) (by rw [← h.2.2]; exact h.2.1)
 exact ⟨h.1, h.2.1, (sV hs hf).1, List.mem_map.2 ⟨f, hf, rfl⟩⟩
theorem b3W {a b : ByteArray} (h : jZ a b = true) : a.data.toList < b.data.toList := by
 unfold jZ at h
 rw [Go.Proofs.bytesLess_eq, decide_eq_true_eq, ByteArray.toList_eq, ByteArray.toList_eq] at h
 exact h
theorem b3X {α : Type} (g : α → ByteArray) (l : List α) (h : ∀ k, k < l.length → oN g l k = true) : ∀ (d i : Nat) (hd : i + d + 1 < l.length), (g (l[i]'(by omega))).data.toList < (g l[i + d + 1]).data.toList
 | 0, i, hd => by
  have := h (i + 1) (by omega)
  rw [jO g l (i + 1) (by omega) (by omega)] at this
  exact b3W this
 | d + 1, i, hd => by
  have h1 := b3X g l h d i (by omega)
  have := h (i + d + 1 + 1) (by omega)
  rw [jO g l (i + d + 1 + 1) (by omega) (by omega)] at this
  exact List.lt_trans h1 (b3W this)
theorem a4U {α : Type} [DecidableEq α] : ∀ (l m : List α), l.Nodup → (∀ x ∈ l, x ∈ m) → l.length ≤ m.length
 | [], m, _, _ => Nat.zero_le _
 | x :: l, m, h, hm => by
  have hx := hm x (by simp)
  have h1 := (List.nodup_cons.1 h).1
  have := a4U l (m.erase x) (List.nodup_cons.1 h).2 fun y hy => (List.mem_erase_of_ne (fun e => h1 (by rw [← e]; exact hy))).2 (hm y (by simp [hy]))
  rw [List.length_erase_of_mem hx] at this
  have := List.length_pos_of_mem hx
  simp only [List.length_cons]
  omega
theorem a4V {s : List TField} {f : TFile} (h : fP s f = true) : f.fAttrs.length ≤ 5 := by
 obtain ⟨_, _, _, hs, ha⟩ := sW h
 have hl : s.length ≤ 5 := by
  unfold okSchema at hs
  simp only [Bool.and_eq_true, decide_eq_true_eq] at hs
  omega
 have hnd : (f.fAttrs.map TAttr.fName).Nodup := by
  rw [List.Nodup, List.pairwise_iff_getElem]
  intro i j hi hj hij e
  simp only [List.length_map] at hi hj
  obtain ⟨d, rfl⟩ : ∃ d, j = i + d + 1 := ⟨j - i - 1, by omega⟩
  have := b3X TAttr.fName f.fAttrs (fun k hk => (ha k hk).1) d i hj
  simp only [List.getElem_map] at e
  rw [e] at this
  exact List.lt_irrefl _ this
 have := a4U (f.fAttrs.map TAttr.fName) (s.map TField.fName) hnd fun x hx => by
  obtain ⟨a, ha', rfl⟩ := List.mem_map.1 hx
  obtain ⟨k, hk, rfl⟩ := List.getElem_of_mem ha'
  exact (sZ hs (ha k hk).2).2.2.2
 simpa [List.length_map] using Nat.le_trans this (by simpa using hl)
theorem a3q {d : List TDir} (h : dR d = true) {x : TDir} (hx : x ∈ d) : aQ x.fName 6 = true ∧ okQ x.fQuery = true := by
 unfold dR at h
 simp only [Bool.and_eq_true, List.all_eq_true, List.mem_range] at h
 obtain ⟨k, hk, rfl⟩ := List.getElem_of_mem hx
 have := h.1 k hk
 unfold jP at this
 rw [List.getElem?_eq_getElem hk] at this
 simp only [Bool.and_eq_true] at this
 exact ⟨this.1, this.2.2⟩
theorem tC {x : TSnapshot} (h : eY x = true) : dW x.fStore = true ∧ dR x.fDirs = true := by
 unfold eY at h
 simp only [Bool.and_eq_true] at h
 refine ⟨h.1, ?_⟩
 have := h.2
 unfold zT at this
 split at this
 ·assumption
 ·cases this
theorem i64 {n : Int} (h : -1000000 ≤ n ∧ n ≤ 1000000) : inR .i64 n := by unfold inR; simp only; omega
theorem a8e {v : TValue} (h : dH v = true) : nC v := by
 have hs := a7C h
 unfold dH at h
 refine ⟨?_, ?_, by omega⟩
 ·split at h
  ·exact i64 (by omega)
  ·split at h
   ·exact i64 (by omega)
   ·split at h
    ·exact i64 (by omega)
    ·cases h
 ·split at h
  ·simp at h; exact i64 (by omega)
  ·split at h
   ·simp [inB] at h; exact i64 (by omega)
   ·split at h
    ·simp at h; exact i64 (by omega)
    ·cases h
theorem b2j {n : TNode} {i : Nat} (hi : i ≤ 9) (h : bF n i = true) : a0E n := by
 have z : nC v0 := ⟨i64 (by simp [v0]), i64 (by simp [v0]), by simp only [v0]; decide⟩
 rcases node_shape h with ⟨o, e⟩ | ⟨o, e, et⟩ | ⟨o, e, ev, ek, et⟩ | ⟨o, l, hl, hli⟩ | ⟨o, l, m, hl, hli, hm, hmi⟩
 ·rw [e]
  exact ⟨i64 (by simp), i64 (by simp), i64 (by simp), by simp only; decide, z⟩
 ·have := jL et
  rw [e]
  exact ⟨i64 (by simp only; omega), i64 (by simp), i64 (by simp), by simp only; omega, z⟩
 ·have := jL et
  rw [e]
  exact ⟨i64 (by simp only; omega), i64 (by simp), i64 (by simp), by simp only; omega, a8e ev⟩
 ·unfold bF at h
  simp [o] at h
  obtain ⟨b1, b2⟩ := a0m h.2.2
  exact ⟨i64 (by omega), i64 (by omega), i64 (by omega), by rw [b1]; decide, by rw [b2]; exact z⟩
 ·unfold bF at h
  have h' : kI n = true := by
   rcases o with o | o <;> simp [o] at h <;> exact h.2.2
  obtain ⟨b1, b2⟩ := a0m h'
  exact ⟨i64 (by omega), i64 (by omega), i64 (by omega), by rw [b1]; decide, by rw [b2]; exact z⟩
theorem a0O {x : TSnapshot} (h : eY x = true) (hw : aK x ≤ 1048576) : SmX x := by
 obtain ⟨h1, h2⟩ := tC h
 obtain ⟨hs, hn⟩ := vB h1
 have hw' := hw
 unfold aK dC aP fF fK at hw'
 refine ⟨⟨⟨⟨by omega, fun f hf => ?_⟩, ⟨by omega, fun f hf => ?_⟩, i64 (by omega)⟩, ⟨by omega, fun d hd => ?_⟩⟩, hw⟩
 ·obtain ⟨a, b⟩ := sV hs hf
  have := jL a
  exact ⟨by omega, i64 (by omega)⟩
 ·have hf' := a0b h1 hf
  have hfew := a4V hf'
  obtain ⟨a, b, c, _, e⟩ := sW hf'
  refine ⟨i64 (by omega), i64 (by omega), trivial, i64 (by omega), by omega, fun t ht => ?_⟩
  obtain ⟨k, hk, rfl⟩ := List.getElem_of_mem ht
  obtain ⟨m1, m2, m3, _⟩ := sZ hs (e k hk).2
  have := jL m3
  exact ⟨by omega, a8e m1⟩
 ·obtain ⟨a, b⟩ := a3q h2 hd
  have := jL a
  have hl := gD b
  refine ⟨by omega, by omega, fun n hn => ?_⟩
  obtain ⟨k, hk, rfl⟩ := List.getElem_of_mem hn
  exact b2j (by omega) (oK b (List.getElem?_eq_getElem hk))
end Go.Proofs.YtgpoopjfkplilaaGreatDoor
end
section
set_option maxRecDepth 100000
set_option maxHeartbeats 4000000
namespace Go.Proofs.YtgpoopjfkplilaaGreatDoor
open Go Go.Sx Go.Wd Go.RowKit Go.Proofs
theorem a3w (s : ByteArray) (hs : s.size ≤ 4300000) : FnC Tryz.prog 149 [os s] (.t [(false, [.d (.sl ((sfL s).map bN))]), (false, [.d (bv (sfO s))])]) := (xW s hs).pu (by simp only [go_sem, and_self])
theorem vC (s : ByteArray) (hs : s.size ≤ 4300000) : FnC Tryz.prog 100 [os s] (.t [(false, [.d (.sl ((sfL s).map bN))]), (false, [.d (bv (sfO s))])]) := (xX s hs).pu (by simp only [go_sem, and_self])
theorem a6w {s w : ByteArray} (h : w ∈ sfL s) : w.size ≤ 600 := by
 have := a0q h
 have := (a1w s).2
 omega
theorem a5e {p : List ByteArray} {n : Nat} (h : ∀ w ∈ p, w.size ≤ n) (i : Nat) : (part p i).size ≤ n := by
 unfold part
 rw [List.getD_eq_getElem?_getD]
 cases hi : p[i]? with
 | none => show (⟨#[]⟩ : ByteArray).size ≤ n; have : (⟨#[]⟩ : ByteArray).size = 0 := rfl; omega
 | some w => exact h w (List.mem_of_getElem? hi)
noncomputable abbrev rQI (s : ByteArray) : SV := .t [(false, [.w 155 7 ((pQI s).1.map bE)]), (false, [.d (bv (pQI s).2)])]
noncomputable abbrev rQS (s : ByteArray) : SV := .t [(false, [.w 155 7 ((pQS s).1.map bE)]), (false, [.d (bv (pQS s).2)])]
theorem a0g (s : ByteArray) (hs : s.size ≤ 4300000) : FnC Tryz.prog 96 [os s] (rQI s) := by
 refine ent Tryz.func96 rfl Tryz.call96 rfl (fun C => ?_); simp only [go_sem, st0, Tryz.ntmps96]
 have c := a3w s hs
 cases ho : sfO s
 ·have e : pQI s = ([], false) := by unfold pQI; simp [ho]
  have q0 := @ho; have q1 := @Bool.not_false; refine uR c ?_
  exact aA ⟨⟨_, rfl, by simp only [go_sem, e]⟩, by simp [aL]⟩
 have hl := a1w s
 have cn := b5r ((sfL s).length + 10) (sfL s) [] (by omega) (by simp; omega) (fun w hw => by have := a6w hw; omega)
 have hw := a1Q ((sfL s).length + 10) (sfL s) []
 have e0 : pQI s = if (nodeI ((sfL s).length + 10) (sfL s) []).1 && ((nodeI ((sfL s).length + 10) (sfL s) []).2.1.isEmpty && okQ (nodeI ((sfL s).length + 10) (sfL s) []).2.2) then ((nodeI ((sfL s).length + 10) (sfL s) []).2.2, true) else ([], false) := by unfold pQI; rw [ho]; simp only [Bool.true_and]
 generalize nodeI ((sfL s).length + 10) (sfL s) [] = r at *
 generalize sfL s = fs at *
 obtain ⟨r1, r2, r3⟩ := r
 simp only at *
 have q0 := @ho; have q1 := @Bool.not_true; refine uR c ?_
 refine b5v 0 1 155 7 rfl rfl ?_
 simp only [go_sem]
 refine iP cn [] rfl rfl rfl ?_
 rintro ⟨⟩ _
 simp only [go_sem]
 cases r1
 ·have e : pQI s = ([], false) := by rw [e0]; rfl
  have q0 := @Bool.not_false; refine iG ?_
  exact aA ⟨⟨_, rfl, by simp only [go_sem, e]⟩, by simp [aL]⟩
 cases r2 with
 | cons w fs' =>
  have e : pQI s = ([], false) := by rw [e0]; rfl
  have d : decide ((0 : Int) < ((fs'.length + 1 : Nat) : Int)) = true := by rw [decide_eq_true_iff]; omega
  have q0 := @d; have q1 := @Bool.not_true; have q2 := @bH; have q3 := @b7s; refine iW ?_
  exact aA ⟨⟨_, rfl, by simp only [go_sem, e]⟩, by simp [aL]⟩
 | nil =>
  have d : decide ((0 : Int) < ((0 : Nat) : Int)) = false := rfl
  have hz : wNodeS r3 ≤ 4300000 := by
   have e1 : zs [] = 0 := rfl
   have e2 : wNodeS [] = 0 := rfl
   rw [e1, e2] at hw
   simp only [if_true] at hw
   omega
  have cq := bO r3 hz
  cases hq : okQ r3
  ·have e : pQI s = ([], false) := by rw [e0, hq]; rfl
   rw [hq] at cq
   have qH := aI @d (aI @Bool.not_true (aI @Bool.not_false @bH)); repeat' (with_reducible first | refine nY ?_ | (refine mX ?_; try simp only [go_sem, qH]) | refine kD ?_ | refine rD ?_ | refine vL cq ?_ | refine aO ?_ | fail)
   exact aA ⟨⟨_, rfl, by simp only [go_sem, e]⟩, by simp [aL]⟩
  ·have e : pQI s = (r3, true) := by rw [e0, hq]; rfl
   rw [hq] at cq
   have qH := aI @d (aI @Bool.not_true (aI @Bool.not_false @bH)); repeat' (with_reducible first | refine nY ?_ | (refine mX ?_; try simp only [go_sem, qH]) | refine kD ?_ | refine rD ?_ | refine vL cq ?_ | refine aO ?_ | fail)
   exact aA ⟨⟨_, rfl, by simp only [go_sem, e]⟩, by simp [aL]⟩
theorem a0P (p : List ByteArray) : ∀ K i q deep, (∀ n ∈ q, inR .i64 n.fValue.fInt) → ∀ n ∈ (readS K p i q deep).1, inR .i64 n.fValue.fInt
 | 0, i, q, deep, h => by simpa [readS] using h
 | K + 1, i, q, deep, h => by
  have z : inR .i64 v0.fInt := by unfold inR; simp [v0]
  have ap : ∀ (l : List TNode) (m : TNode), (∀ n ∈ l, inR .i64 n.fValue.fInt) → inR .i64 m.fValue.fInt → ∀ n ∈ l ++ [m], inR .i64 n.fValue.fInt := fun l m h1 h2 n hn => by
   rcases List.mem_append.1 hn with hn | hn
   ·exact h1 n hn
   ·rw [List.mem_singleton.1 hn]; exact h2
  have a := a0P p K (i + 1) q (deep + 1) h
  have b := a0P p K (i + (1 + (readS K p (i + 1) q (deep + 1)).2)) (readS K p (i + 1) q (deep + 1)).1 (deep + 1) a
  unfold readS
  simp only
  repeat' split
  all_goals
   first
   | exact h
   | exact a
   | exact b
   | exact ap _ _ h z
   | exact ap _ _ h (b5A _).2
   | exact ap _ _ a z
   | exact ap _ _ b z
theorem a0h (s : ByteArray) (hs : s.size ≤ 4300000) : FnC Tryz.prog 104 [os s] (rQS s) := by
 refine ent Tryz.func104 rfl Tryz.call104 rfl (fun C => ?_); simp only [go_sem, st0, Tryz.ntmps104]
 have c := vC s hs
 cases ho : sfO s
 ·have e : pQS s = ([], false) := by unfold pQS; simp [ho]
  have q0 := @ho; have q1 := @Bool.not_false; refine uR c ?_
  exact aA ⟨⟨_, rfl, by simp only [go_sem, e]⟩, by simp [aL]⟩
 have hl := a1w s
 have cn := b5q (sfL s) (fun i => by have := a5e (p := sfL s) (n := 600) (fun w hw => a6w hw) i; omega) 11 0 [] 0 (by omega) (by omega) (by omega) (by decide) (by decide)
 have hw := (a1R (sfL s) 11 0 [] 0).1
 have hi := a0P (sfL s) 11 0 [] 0 (by simp)
 have cj := a3t (sfL s) (by omega)
 have e0 : pQS s = if decide ((readS 11 (sfL s) 0 [] 0).2 = (sfL s).length) && (!decide (qtx (readS 11 (sfL s) 0 [] 0).1 = ⟨#[]⟩) && decide (qtx (readS 11 (sfL s) 0 [] 0).1 = cat 32 (sfL s))) then ((readS 11 (sfL s) 0 [] 0).1, true) else ([], false) := by unfold pQS; rw [ho]; simp only [Bool.true_and]
 generalize readS 11 (sfL s) 0 [] 0 = r at *
 generalize sfL s = fs at *
 obtain ⟨r1, r2⟩ := r
 simp only at *
 have e2 : wNodeS [] = 0 := rfl
 rw [e2, List.drop_zero] at hw
 have cf := nT r1 (by omega) hi
 generalize qtx r1 = tx at *
 generalize cat 32 fs = jx at *
 have q0 := @ho; have q1 := @Bool.not_true; refine uR c ?_
 refine iP (cn : FnZ _ _ _ (hsR []) [.o (.d (.sl (fs.map bN))), oi ((0 : Nat) : Int), .o (.s 0), oi 0] _ _ _) [] rfl rfl rfl ?_
 rintro ⟨⟩ _
 simp only [go_sem]
 by_cases h1 : r2 = fs.length
 ·have d1 : decide ((r2 : Int) = ((fs.length : Nat) : Int)) = true := by simp [h1]
  have f1 : decide (r2 = fs.length) = true := by simp [h1]
  by_cases h2 : tx = ⟨#[]⟩
  ·have d2 : decide (tx = ⟨#[]⟩) = true := by simp [h2]
   have e : pQS s = ([], false) := by rw [e0, f1, d2]; rfl
   clear h2
   have qH := aI @d1 (aI @d2 (aI @Bool.not_true @bH)); repeat' (with_reducible first | refine nY ?_ | (refine mX ?_; try simp only [go_sem, qH]) | refine kD ?_ | refine rD ?_ | refine vL cf ?_ | refine aO ?_ | fail)
   exact aA ⟨⟨_, rfl, by simp only [go_sem, e]⟩, by simp [aL]⟩
  have d2 : decide (tx = ⟨#[]⟩) = false := by simp [h2]
  by_cases h3 : tx = jx
  ·have d3 : decide (tx = jx) = true := by simp [h3]
   have e : pQS s = (r1, true) := by rw [e0, f1, d2, d3]; rfl
   clear h2 h3
   have qH := aI @d1 (aI @d2 (aI @d3 (aI @Bool.not_true @bH))); repeat' (with_reducible first | refine nY ?_ | (refine mX ?_; try simp only [go_sem, qH]) | refine kD ?_ | refine rD ?_ | refine vL cf ?_ | refine cP cj ?_ | refine aO ?_ | fail)
   exact aA ⟨⟨_, rfl, by simp only [go_sem, e]⟩, by simp [aL]⟩
  ·have d3 : decide (tx = jx) = false := by simp [h3]
   have e : pQS s = ([], false) := by rw [e0, f1, d2, d3]; rfl
   clear h2 h3
   have qH := aI @d1 (aI @d2 (aI @d3 (aI @Bool.not_true (aI @Bool.not_false @bH)))); repeat' (with_reducible first | refine nY ?_ | (refine mX ?_; try simp only [go_sem, qH]) | refine kD ?_ | refine rD ?_ | refine vL cf ?_ | refine cP cj ?_ | refine aO ?_ | fail)
   exact aA ⟨⟨_, rfl, by simp only [go_sem, e]⟩, by simp [aL]⟩
 ·have d1 : decide ((r2 : Int) = ((fs.length : Nat) : Int)) = false := by simp; omega
  have f1 : decide (r2 = fs.length) = false := by simp [h1]
  have e : pQS s = ([], false) := by rw [e0, f1]; rfl
  have qH := aI @d1 (aI @Bool.not_false @bH); repeat' (with_reducible first | refine nY ?_ | (refine mX ?_; try simp only [go_sem, qH]) | refine kD ?_ | refine rD ?_ | refine vL cf ?_ | refine aO ?_ | fail)
  exact aA ⟨⟨_, rfl, by simp only [go_sem, e]⟩, by simp [aL]⟩
end Go.Proofs.YtgpoopjfkplilaaGreatDoor
end
section
set_option maxRecDepth 100000
set_option maxHeartbeats 4000000
namespace Go.Sx
open Go Go.RowKit
theorem b5K {P : Program} {C : Ctx} {F : Ex → St → Prop} {st st' : St} {code : Code} (l : List (Nat × Nat)) (hs : swL st l = some st') (h : WP P C code F st') : WP P C code F st := fun g V a w hr => by
 obtain ⟨g', hr'⟩ := hr.swL l hs
 exact h g' V a w hr'
structure StopT (Q : Prop) : Prop where
 out : Q
theorem b5L (n : Nat) {P : Program} {C : Ctx} {F : Ex → St → Prop} {st : St} {ops : Array Oper} {d : Bool} (h : StopT (WP P C (.region n ops d) F st)) : WP P C (.region n ops d) F st := h.out
end Go.Sx
namespace Go.Proofs.YtgpoopjfkplilaaGreatDoor
open Go Go.Sx Go.Wd Go.RowKit Go.Proofs
noncomputable abbrev rFI (w : List ByteArray) : SV := .t [(true, [.d (iv (fileI w).1.fID), .d (iv (fileI w).1.fOwner), .d (bv (fileI w).1.fShared), .d (iv (fileI w).1.fLink), .w 124 4 ((fileI w).1.fAttrs.map dL)]), (false, [.d (bv (fileI w).2)])]
theorem a3R (w : List ByteArray) (hl : w.length ≤ 4300000) (hw : ∀ x ∈ w, x.size ≤ 4300000) : FnC Tryz.prog 95 [.o (.d (.sl (w.map bN)))] (rFI w) := by
 refine ent Tryz.func95 rfl Tryz.call95 rfl (fun C => ?_); simp only [go_sem, st0, Tryz.ntmps95]
 by_cases h4 : w.length < 4
 ·have d : decide (((w.length : Nat) : Int) < 4) = true := by rw [decide_eq_true_iff]; omega
  have e : fileI w = (f0, false) := by unfold fileI; rw [if_pos (.inl h4)]
  have q0 := @d; have q1 := @bH; refine kC ?_
  exact aA ⟨⟨_, rfl, by simp only [go_sem, e, f0]⟩, by simp [aL]⟩
 have d : decide (((w.length : Nat) : Int) < 4) = false := by rw [decide_eq_false_iff_not]; omega
 by_cases h2 : w.length % 2 ≠ 0
 ·have d2 : decide (((w.length : Nat) : Int).tmod 2 = 0) = false := by rw [decide_eq_false_iff_not, Int.tmod_eq_emod_of_nonneg (by omega)]; omega
  have e : fileI w = (f0, false) := by unfold fileI; rw [if_pos (.inr h2)]
  have q0 := @d; have q1 := @d2; have q2 := @Bool.not_false; have q3 := @bH; refine iW ?_
  exact aA ⟨⟨_, rfl, by simp only [go_sem, e, f0]⟩, by simp [aL]⟩
 have d2 : decide (((w.length : Nat) : Int).tmod 2 = 0) = true := by rw [decide_eq_true_iff, Int.tmod_eq_emod_of_nonneg (by omega)]; omega
 have c0 := gF w[0]
 have c1 := gF w[1]
 have c3 := gF w[3]
 have l0 : 0 < w.length := by omega
 have l1 : 1 < w.length := by omega
 have l2 : 2 < w.length := by omega
 have l3 : 3 < w.length := by omega
 have e : fileI w = (⟨(pU w[0]).1, (pU w[1]).1, decide (w[2] = ⟨#[115]⟩), (pU w[3]).1, atS w 4 ((w.length - 4) / 2)⟩, (pU w[0]).2 && (pU w[1]).2 && (pU w[3]).2 && okS w 4 ((w.length - 4) / 2)) := by
  unfold fileI; rw [if_neg (by omega), fB l0, fB l1, fB l2, fB l3]
 have qH := aI @d (aI @d2 (aI @Bool.not_true (aI @l0 (aI @l1 (aI @l2 (aI @l3 @bH)))))); repeat' (with_reducible first | refine b5L 7 ?_ | refine nY ?_ | (refine mX ?_; try simp only [go_sem, qH]) | refine kD ?_ | refine rD ?_ | refine cP c0 ?_ | refine cP c1 ?_ | refine cP c3 ?_ | refine aO ?_ | fail)
 refine ⟨?_⟩
 refine a8W [(11, ob ((pU w[0]).2 && (pU w[1]).2 && (pU w[3]).2))] [] ?_ ?_
 ·cases h0 : (pU w[0]).2 <;> cases h1 : (pU w[1]).2 <;> cases h3 : (pU w[3]).2
  all_goals
   have q0 := @h0; have q1 := @h1; have q2 := @h3; refine lQ ?_
   exact a2G (by simp only [go_sem, h0, h1, h3]; simp) (by simp only [go_sem])
 simp only [go_sem]
 refine aH ?_
 refine pE 1 4 124 4 rfl rfl ?_
 simp only [go_sem]
 refine bD (α := Nat) (fun k => [(11, ob ((pU w[0]).2 && (pU w[1]).2 && (pU w[3]).2 && okS w 4 k)), (12, oi ((4 + 2 * k : Nat) : Int))]) (fun k => [(1, .box 86 [.d (iv (pU w[0]).1), .d (iv (pU w[1]).1), .d (bv (decide (w[2] = ⟨#[115]⟩))), .d (iv (pU w[3]).1), .s 2]), (2, .row 124 4 ((atS w 4 k).map dL) true)]) (fun k => k ≤ (w.length - 4) / 2) (fun k => (w.length - 4) / 2 - k) 0 (fun _ => ?_) ?_ ?_ (fun k hk => ?_)
 ·simp only [go_sem]
 ·simp only [go_sem]; simp [atS, okS]
 ·omega
 simp only [go_sem]
 have q0 := @bH; refine iG ?_
 refine cnd rfl (fun h => ?_) (fun h => ?_)
 ·simp only [decide_eq_true_eq] at h
  have m0 : 4 + 2 * k < w.length := by omega
  have m1 : 4 + 2 * k + 1 < w.length := by omega
  have cv := lF w[4 + 2 * k + 1] (hw _ (List.getElem_mem m1))
  have hn := a3s w 4 k
  have hok := b4b w 4 k
  rw [fB m0, fB m1] at hn
  rw [fB m1] at hok
  have hlen := a6v w 4 k
  have g1 : (atS w 4 k).length + 1 ≤ 140737488355328 := by omega
  have ec : (((4 + 2 * k : Nat) : Int) + 1) = ((4 + 2 * k + 1 : Nat) : Int) := by omega
  have ec2 : (((4 + 2 * k : Nat) : Int) + 2) = ((4 + 2 * (k + 1) : Nat) : Int) := by omega
  have hin : inR .i64 ((4 + 2 * (k + 1) : Nat) : Int) := by unfold inR; simp only; omega
  generalize hX : ((pU w[0]).2 && (pU w[1]).2 && (pU w[3]).2 && okS w 4 k) = X at *
  have hX2 : ((pU w[0]).2 && (pU w[1]).2 && (pU w[3]).2 && okS w 4 (k + 1)) = (X && (pV w[4 + 2 * k + 1]).2) := by rw [← hX, hok]; simp only [Bool.and_assoc]
  generalize hP : pV w[4 + 2 * k + 1] = pv at *
  obtain ⟨pv1, pv2⟩ := pv
  have qH := aI @m0 (aI @m1 (aI @g1 (aI @ec (aI @hP @bH)))); repeat' (with_reducible first | refine b5L 13 ?_ | refine nY ?_ | (refine mX ?_; try simp only [go_sem, qH]) | refine kD ?_ | (apply rE [8,9,11] [] [0,1,2,3,4,5,6,7] [0,1,2,3,4,5,6,7] ((.c 8 [] [0,1] (.c 9 [10] [10] (.c 11 [] [] .n .n) .n) .n)) (by simp only [go_sem]; rfl) (by simp only [go_sem]; rfl) (by simp only [go_sem]; rfl) (by decide +kernel); (focus simp only [go_sem]; done)) | exact bY | refine bJ (uX ?_) ?_ | refine bK (aX ?_) ?_ | refine bL (aX ?_) ?_ | exact bI | exact oH | exact uB | refine rD ?_ | refine cP cv ?_ | refine aO ?_ | fail)
  refine ⟨?_⟩
  cases X <;> cases pv2
  all_goals
   have q0 := @ec2; have q1 := @hin; refine kC ?_
   refine aD (k + 1) ?_ ?_ ?_
   ·simp only [go_sem, hX2, hn, List.map_append]; simp
   ·omega
   ·omega
 ·simp only [decide_eq_false_iff_not] at h
  have ek : k = (w.length - 4) / 2 := by omega
  subst ek
  generalize atS w 4 ((w.length - 4) / 2) = l at *
  refine aH ?_
  exact aA ⟨⟨_, rfl, by simp only [go_sem, e]⟩, by simp [aL]⟩
end Go.Proofs.YtgpoopjfkplilaaGreatDoor
end
