/- Joined texts. -/
import Derived.Test.YtddimbdeggomaaaGreatZ07
import Derived.Test.YtddimbdeggomaaaGreatZ09
import Derived.Test.YtddimbdeggomaaaGreatZ10
import Derived.Test.YtddimbdeggomaaaGreatZ08
import Derived.Test.YtddimbdeggomaaaGreatZ04
set_option linter.all false
section
set_option maxRecDepth 100000
set_option maxHeartbeats 4000000
namespace Go.Proofs.YtddimbdeggomaaaGreat
open Go Go.Sx Go.RowKit Go.Proofs
theorem Bh (b : List Int) (x : Int) (hb : b.length ≤ 67108864) : FnC Tryz.prog 316 [oi x, .o (.q [.sl (b.map bY)])] (ob (hasI b x)) := by
 refine ent Tryz.func316 rfl Tryz.call316 rfl (fun C => ?_); simp only [go_sem, st0, Tryz.ntmps316]
 refine cH (mg b x hb) ?_
 exact aa ⟨⟨_, rfl, by simp only [go_sem]⟩, trivial⟩
theorem pJ (a b : List Int) (ha : a.length ≤ 67108864) (hb : b.length ≤ 67108864) : FnC Tryz.prog 295 [.o (.d (.sl (a.map bY))), .o (.d (.sl (b.map bY)))] (.o (.w 3 1 ((cA a b).map bY))) := by
 refine ent Tryz.func295 rfl Tryz.call295 rfl (fun C => ?_); simp only [go_sem, st0, Tryz.ntmps295]
 have qH := trivial; repeat' (with_reducible first | refine nY ?_ | (refine mX ?_; try simp only [go_sem]) | refine kD ?_ | refine rD ?_ | refine cP (jZ a ha) ?_ | refine vI (jS _ [.sl (b.map bY)] (hasI b) a (fun s _ => Bh b s hb) ha) ?_ | refine vJ (jS _ [.sl (b.map bY)] (hasI b) a (fun s _ => Bh b s hb) ha) ?_ | refine aO ?_ | fail)
 exact aa ⟨⟨_, rfl, by simp only [go_sem, cA]⟩, trivial⟩
theorem jR (a b : List Int) (ha : a.length ≤ 67108864) (hb : b.length ≤ 67108864) : FnC Tryz.prog 255 [.o (.d (.sl (a.map bY))), .o (.d (.sl (b.map bY)))] (.t [(false, [.w 3 1 ((cA b a).map bY)]), (false, [.w 3 1 ((cA a b).map bY)])]) := by
 refine ent Tryz.func255 rfl Tryz.call255 rfl (fun C => ?_); simp only [go_sem, st0, Tryz.ntmps255]
 refine Bc (pJ b a hb ha) (pJ a b ha hb) ?_
 exact aa ⟨⟨_, rfl, by simp only [go_sem]⟩, by simp [aE]⟩
theorem sb (a b : List Int) (k : Nat) (h : k < a.length) : cA (a.take (k + 1)) b = cA (a.take k) b ++ (if hasI b a[k] then [] else [a[k]]) := by
 unfold cA
 rw [List.take_succ_eq_append_getElem h, List.filter_append]
 cases hc : hasI b a[k]
 ·simp [hc]
 ·simp [hc]
theorem gH (a b : List Int) (ha : a.length ≤ 67108864) (hb : b.length ≤ 67108864) : FnC Tryz.prog 250 [.o (.d (.sl (a.map bY))), .o (.d (.sl (b.map bY)))] (.t [(false, [.w 3 1 ((cA b a).map bY)]), (false, [.w 3 1 ((cA a b).map bY)])]) := by
 refine ent Tryz.func250 rfl Tryz.call250 rfl (fun C => ?_); simp only [go_sem, st0, Tryz.ntmps250]
 refine af ?_
 refine ak (α := Nat) (fun k => [(6, .o (.s 0)), (10, .o .u), (8, oi k)]) (fun k => [(0, .row 3 1 ((cA (b.take k) a).map bY) true)]) (fun k => k ≤ b.length) (fun k => b.length - k) 0 (fun _ => ?_) ?_ ?_ (fun k hk => ?_)
 ·simp only [go_sem]
 ·simp only [go_sem]; simp [cA]
 ·simp
 ·simp only [go_sem]
  refine af ?_
  refine cnd rfl (fun h1 => ?_) (fun h1 => ?_)
  ·simp only [decide_eq_true_eq, Int.ofNat_lt] at h1
   have ht := sb b a k h1
   have hl := f8 (b.take k) a
   rw [List.length_take] at hl
   have hl1 : (cA (b.take k) a).length + 1 ≤ 140737488355328 := by omega
   have hl2 : ((cA (b.take k) a).length + 1) * 8 ≤ 140737488355328 := by omega
   cases hv : hasI a b[k]
   all_goals
    rw [hv] at ht
    have q0 := @h1; have q1 := @hv; have q2 := @hl1; have q3 := @hl2; refine mW (cU a b[k] ha) ?_
    refine ae (k + 1) ?_ ?_ ?_
    ·simp only [go_sem, ht, List.map_append]; simp
    ·omega
    ·omega
  ·simp only [decide_eq_false_iff_not] at h1
   have e : k = b.length := by omega
   subst e
   rw [List.take_length]
   refine af ?_
   refine ak (α := Nat) (fun k => [(7, .o (.s 1)), (11, .o .u), (9, oi k)]) (fun k => [(1, .row 3 1 ((cA (a.take k) b).map bY) true)]) (fun k => k ≤ a.length) (fun k => a.length - k) 0 (fun _ => ?_) ?_ ?_ (fun k hk => ?_)
   ·simp only [go_sem]
   ·simp only [go_sem]; simp [cA]
   ·simp
   ·simp only [go_sem]
    refine af ?_
    refine cnd rfl (fun h1 => ?_) (fun h1 => ?_)
    ·simp only [decide_eq_true_eq, Int.ofNat_lt] at h1
     have ht := sb a b k h1
     have hl := f8 (a.take k) b
     rw [List.length_take] at hl
     have hl1 : (cA (a.take k) b).length + 1 ≤ 140737488355328 := by omega
     have hl2 : ((cA (a.take k) b).length + 1) * 8 ≤ 140737488355328 := by omega
     cases hv : hasI b a[k]
     all_goals
      rw [hv] at ht
      have q0 := @h1; have q1 := @hv; have q2 := @hl1; have q3 := @hl2; refine mW (cU b a[k] hb) ?_
      refine ae (k + 1) ?_ ?_ ?_
      ·simp only [go_sem, ht, List.map_append]; simp
      ·omega
      ·omega
    ·simp only [decide_eq_false_iff_not] at h1
     have e : k = a.length := by omega
     subst e
     rw [List.take_length]
     refine af ?_
     exact aa ⟨⟨_, rfl, by simp only [go_sem]⟩, by simp [aE]⟩
theorem l9 (a b : List TResult) (ha : ah a ≤ 4300000) (hb : ah b ≤ 67108864) : FnC Tryz.prog 188 [.o (.d (.sl (a.map ai))), .o (.d (.sl (b.map ai)))] (.o (.w 158 3 ((cT a b).map dF))) := by
 have hb0 : b.length + wsum wResult b ≤ 67108864 := hb
 refine ent Tryz.func188 rfl Tryz.call188 rfl (fun C => ?_); simp only [go_sem, st0, Tryz.ntmps188]
 refine af ?_
 refine ak (α := Nat) (fun k => [(5, .o (.s 0)), (10, .o .u), (13, oi k)]) (fun k => [(0, .row 158 3 ((cT a (b.take k)).map dF) true)]) (fun k => k ≤ b.length) (fun k => b.length - k) 0 (fun _ => ?_) ?_ ?_ (fun k hk => ?_)
 ·simp only [go_sem]
 ·simp only [go_sem]; simp [cT]
 ·simp
 ·simp only [go_sem]
  refine af ?_
  refine cnd rfl (fun h1 => ?_) (fun h1 => ?_)
  ·simp only [decide_eq_true_eq, Int.ofNat_lt] at h1
   have ht := pW a b k h1
   have hw := aB wResult b h1
   have ex : wResult b[k] = b[k].fName.size + b[k].fIDs.length := rfl
   have hr := pX b[k].fName a
   have hl := sk a b k
   have hl1 : (cT a (b.take k)).length + 1 ≤ 140737488355328 := by omega
   have hl2 : ((cT a (b.take k)).length + 1) * 64 ≤ 140737488355328 := by omega
   have hs1 := f8 b[k].fIDs (aq b[k].fName a)
   have hs2 := f8 (aq b[k].fName a) b[k].fIDs
   have hI : ((cA b[k].fIDs (aq b[k].fName a)).length : Int) + ((cA (aq b[k].fName a) b[k].fIDs).length : Int) = (((cA b[k].fIDs (aq b[k].fName a)).length + (cA (aq b[k].fName a) b[k].fIDs).length : Nat) : Int) := by omega
   by_cases hv : 0 < (cA b[k].fIDs (aq b[k].fName a)).length + (cA (aq b[k].fName a) b[k].fIDs).length
   ·have hz : (0 : Int) < (((cA b[k].fIDs (aq b[k].fName a)).length + (cA (aq b[k].fName a) b[k].fIDs).length : Nat) : Int) := by omega
    have hd : gI a b[k] = [⟨b[k].fName, cA b[k].fIDs (aq b[k].fName a), cA (aq b[k].fName a) b[k].fIDs⟩] := by unfold gI; rw [if_pos hv]
    rw [hd] at ht
    have qH := aI @h1 (aI @hl1 (aI @hl2 (aI @hI (aI @hz @decide_true)))); repeat' (with_reducible first | refine nY ?_ | (refine mX ?_; try simp only [go_sem, qH]) | refine kD ?_ | (apply rE [3,6] [] [0,1,2,4,5] [0,1,2,4,5] ((.c 3 [] [4,5] (.c 6 [7,8,9,10,11] [7,8,9,10,11] .n .n) .n)) (by simp only [go_sem]; rfl) (by simp only [go_sem]; rfl) (by simp only [go_sem]; rfl) (by decide +kernel); (focus simp only [go_sem]; done)) | exact cJ | refine ca (uX ?_) ?_ | refine cd (aX ?_) ?_ | refine ce (aX ?_) ?_ | exact b9 | exact oH | exact uB | refine rD ?_ | refine cP (fP a b[k].fName (by omega)) ?_ | refine cP (jR (aq b[k].fName a) b[k].fIDs (by omega) (by omega)) ?_ | refine aO ?_ | fail)
    refine ae (k + 1) ?_ ?_ ?_
    ·simp only [go_sem, ht, List.map_append]; simp [dF]
    ·omega
    ·omega
   ·have hz : ¬ (0 : Int) < (((cA b[k].fIDs (aq b[k].fName a)).length + (cA (aq b[k].fName a) b[k].fIDs).length : Nat) : Int) := by omega
    have hd : gI a b[k] = [] := by unfold gI; rw [if_neg hv]
    rw [hd, List.append_nil] at ht
    have qH := aI @h1 (aI @hI (aI @hz @decide_false)); repeat' (with_reducible first | refine nY ?_ | (refine mX ?_; try simp only [go_sem, qH]) | refine kD ?_ | (apply rE [3,6] [] [0,1,2,4,5] [0,1,2,4,5] ((.c 3 [] [4,5] (.c 6 [7,8,9,10,11] [7,8,9,10,11] .n .n) .n)) (by simp only [go_sem]; rfl) (by simp only [go_sem]; rfl) (by simp only [go_sem]; rfl) (by decide +kernel); (focus simp only [go_sem]; done)) | exact cJ | refine ca (uX ?_) ?_ | refine cd (aX ?_) ?_ | refine ce (aX ?_) ?_ | exact b9 | exact oH | exact uB | refine rD ?_ | refine cP (fP a b[k].fName (by omega)) ?_ | refine cP (jR (aq b[k].fName a) b[k].fIDs (by omega) (by omega)) ?_ | refine aO ?_ | fail)
    refine ae (k + 1) ?_ ?_ ?_
    ·simp only [go_sem, ht]; simp
    ·omega
    ·omega
  ·simp only [decide_eq_false_iff_not] at h1
   have e : k = b.length := by omega
   subst e
   refine af ?_
   exact aa ⟨⟨_, rfl, by simp only [go_sem, List.take_length]⟩, trivial⟩
theorem tw (a b : List TResult) (ha : ah a ≤ 4300000) (hb : ah b ≤ 67108864) : FnC Tryz.prog 182 [.o (.d (.sl (a.map ai))), .o (.d (.sl (b.map ai)))] (.o (.w 158 3 ((cT a b).map dF))) := by
 have hb0 : b.length + wsum wResult b ≤ 67108864 := hb
 refine ent Tryz.func182 rfl Tryz.call182 rfl (fun C => ?_); simp only [go_sem, st0, Tryz.ntmps182]
 refine af ?_
 refine ak (α := Nat) (fun k => [(5, .o (.s 0)), (9, .o .u), (6, oi k)]) (fun k => [(0, .row 158 3 ((cT a (b.take k)).map dF) true)]) (fun k => k ≤ b.length) (fun k => b.length - k) 0 (fun _ => ?_) ?_ ?_ (fun k hk => ?_)
 ·simp only [go_sem]
 ·simp only [go_sem]; simp [cT]
 ·simp
 ·simp only [go_sem]
  refine af ?_
  refine cnd rfl (fun h1 => ?_) (fun h1 => ?_)
  ·simp only [decide_eq_true_eq, Int.ofNat_lt] at h1
   have ht := pW a b k h1
   have hw := aB wResult b h1
   have ex : wResult b[k] = b[k].fName.size + b[k].fIDs.length := rfl
   have hr := pX b[k].fName a
   have hl := sk a b k
   have hl1 : (cT a (b.take k)).length + 1 ≤ 140737488355328 := by omega
   have hl2 : ((cT a (b.take k)).length + 1) * 64 ≤ 140737488355328 := by omega
   have hs1 := f8 b[k].fIDs (aq b[k].fName a)
   have hs2 := f8 (aq b[k].fName a) b[k].fIDs
   have hI : ((cA b[k].fIDs (aq b[k].fName a)).length : Int) + ((cA (aq b[k].fName a) b[k].fIDs).length : Int) = (((cA b[k].fIDs (aq b[k].fName a)).length + (cA (aq b[k].fName a) b[k].fIDs).length : Nat) : Int) := by omega
   by_cases hv : 0 < (cA b[k].fIDs (aq b[k].fName a)).length + (cA (aq b[k].fName a) b[k].fIDs).length
   ·have hd : gI a b[k] = [⟨b[k].fName, cA b[k].fIDs (aq b[k].fName a), cA (aq b[k].fName a) b[k].fIDs⟩] := by unfold gI; rw [if_pos hv]
    rw [hd] at ht
    by_cases hz1 : 0 < (cA b[k].fIDs (aq b[k].fName a)).length
    ·have hz : (0 : Int) < ((cA b[k].fIDs (aq b[k].fName a)).length : Int) := by omega
     have qH := aI @h1 (aI @hl1 (aI @hl2 (aI @hz @decide_true))); repeat' (with_reducible first | refine nY ?_ | (refine mX ?_; try simp only [go_sem, qH]) | refine kD ?_ | (apply rE [6,12] [] [0,1,2,3,4,5,7,8,9,10,11] [0,1,2,3,4,5,7,8,9,10,11] ((.c 6 [] [7,8,9,10,11] (.c 12 [13,14,15,16,17] [13,14,15,16,17] .n .n) .n)) (by simp only [go_sem]; rfl) (by simp only [go_sem]; rfl) (by simp only [go_sem]; rfl) (by decide +kernel); (focus simp only [go_sem]; done)) | exact cJ | refine ca (uX ?_) ?_ | refine cd (aX ?_) ?_ | refine ce (aX ?_) ?_ | exact b9 | exact oH | exact uB | refine rD ?_ | refine cP (fQ a b[k].fName (by omega)) ?_ | refine cP (gH (aq b[k].fName a) b[k].fIDs (by omega) (by omega)) ?_ | refine aO ?_ | fail)
     refine ae (k + 1) ?_ ?_ ?_
     ·simp only [go_sem, ht, List.map_append]; simp [dF]
     ·omega
     ·omega
    ·have hz : ¬ (0 : Int) < ((cA b[k].fIDs (aq b[k].fName a)).length : Int) := by omega
     have hy : (0 : Int) < ((cA (aq b[k].fName a) b[k].fIDs).length : Int) := by omega
     have qH := aI @h1 (aI @hl1 (aI @hl2 (aI @hz (aI @hy (aI @decide_true @decide_false))))); repeat' (with_reducible first | refine nY ?_ | (refine mX ?_; try simp only [go_sem, qH]) | refine kD ?_ | (apply rE [6,12] [] [0,1,2,3,4,5,7,8,9,10,11] [0,1,2,3,4,5,7,8,9,10,11] ((.c 6 [] [7,8,9,10,11] (.c 12 [13,14,15,16,17] [13,14,15,16,17] .n .n) .n)) (by simp only [go_sem]; rfl) (by simp only [go_sem]; rfl) (by simp only [go_sem]; rfl) (by decide +kernel); (focus simp only [go_sem]; done)) | exact cJ | refine ca (uX ?_) ?_ | refine cd (aX ?_) ?_ | refine ce (aX ?_) ?_ | exact b9 | exact oH | exact uB | refine rD ?_ | refine cP (fQ a b[k].fName (by omega)) ?_ | refine cP (gH (aq b[k].fName a) b[k].fIDs (by omega) (by omega)) ?_ | refine aO ?_ | fail)
     refine ae (k + 1) ?_ ?_ ?_
     ·simp only [go_sem, ht, List.map_append]; simp [dF]
     ·omega
     ·omega
   ·have hz : ¬ (0 : Int) < ((cA b[k].fIDs (aq b[k].fName a)).length : Int) := by omega
    have hy : ¬ (0 : Int) < ((cA (aq b[k].fName a) b[k].fIDs).length : Int) := by omega
    have hd : gI a b[k] = [] := by unfold gI; rw [if_neg hv]
    rw [hd, List.append_nil] at ht
    have qH := aI @h1 (aI @hz (aI @hy @decide_false)); repeat' (with_reducible first | refine nY ?_ | (refine mX ?_; try simp only [go_sem, qH]) | refine kD ?_ | (apply rE [6,12] [] [0,1,2,3,4,5,7,8,9,10,11] [0,1,2,3,4,5,7,8,9,10,11] ((.c 6 [] [7,8,9,10,11] (.c 12 [13,14,15,16,17] [13,14,15,16,17] .n .n) .n)) (by simp only [go_sem]; rfl) (by simp only [go_sem]; rfl) (by simp only [go_sem]; rfl) (by decide +kernel); (focus simp only [go_sem]; done)) | exact cJ | refine ca (uX ?_) ?_ | refine cd (aX ?_) ?_ | refine ce (aX ?_) ?_ | exact b9 | exact oH | exact uB | refine rD ?_ | refine cP (fQ a b[k].fName (by omega)) ?_ | refine cP (gH (aq b[k].fName a) b[k].fIDs (by omega) (by omega)) ?_ | refine aO ?_ | fail)
    refine ae (k + 1) ?_ ?_ ?_
    ·simp only [go_sem, ht]; simp
    ·omega
    ·omega
  ·simp only [decide_eq_false_iff_not] at h1
   have e : k = b.length := by omega
   subst e
   refine af ?_
   exact aa ⟨⟨_, rfl, by simp only [go_sem, List.take_length]⟩, trivial⟩
end Go.Proofs.YtddimbdeggomaaaGreat
end
section
namespace Go.Proofs.YtddimbdeggomaaaGreat
open Go Go.Sx Go.RowKit Go.Proofs
theorem yu {α : Type} (l : List α) : (l.all fun _ => true) = true := by simp
def bZ {α : Type} (p : α → Bool) : List α → Nat
 | [] => 0
 | x :: l => if p x then 0 else bZ p l + 1
theorem mq {α : Type} (p : α → Bool) : ∀ l : List α, bZ p l ≤ l.length
 | [] => by simp [bZ]
 | x :: l => by
  have := mq p l
  unfold bZ
  split <;> simp <;> omega
theorem idxP_fst {α : Type} (p : α → Bool) : ∀ (l : List α) (k : Nat), (bp p l k < 0 ∧ bp p l k = -1 ∧ bZ p l = l.length) ∨ (bp p l k = ((k + bZ p l : Nat) : Int) ∧ bZ p l < l.length)
 | [], k => .inl ⟨by simp [bp], rfl, rfl⟩
 | x :: l, k => by
  unfold bp bZ
  cases hx : p x with
  | true => exact .inr ⟨by simp, by simp⟩
  | false =>
   rcases idxP_fst p l (k + 1) with ⟨h0, h1, h2⟩ | ⟨h1, h2⟩
   ·exact .inl ⟨by simpa using h0, by simpa using h1, by simp [h2]⟩
   ·exact .inr ⟨by simp only [Bool.false_eq_true, if_false]; rw [h1]; congr 1; omega, by simp; omega⟩
theorem qm {α : Type} (p : α → Bool) (l : List α) (k : Nat) (h : k < l.length) : bZ p (l.drop k) = if p l[k] then 0 else bZ p (l.drop (k + 1)) + 1 := by
 rw [List.drop_eq_getElem_cons h, bZ]
def eB {α : Type} (i : Nat) (x : α) (l : List α) : List α := l.take i ++ x :: l.drop i
theorem zU {α : Type} (i : Nat) (x : α) (l : List α) (h : i ≤ l.length) : (eB i x l).length = l.length + 1 := by simp [eB]; omega
end Go.Proofs.YtddimbdeggomaaaGreat
end
section
set_option maxRecDepth 100000
set_option maxHeartbeats 4000000
namespace Go.Proofs.YtddimbdeggomaaaGreat
open Go Go.Sx Go.RowKit Go.Proofs
theorem nZ (l : List ByteArray) (hl : l.length ≤ 4300000) : FnC Tryz.prog 203 [.o (.d (.sl (l.map ba)))] (.o (.w 9 1 (l.map ba))) := by
 refine ent Tryz.func203 rfl Tryz.call203 rfl (fun C => ?_); simp only [go_sem, st0, Tryz.ntmps203]
 refine af ?_
 intro b hb
 refine af ?_
 refine cnd rfl (fun h1 => ?_) (fun h1 => ?_)
 ·have e := hb h1
  simp only [List.map_eq_nil_iff] at e
  subst e
  refine af ?_
  exact aa ⟨⟨_, rfl, by simp only [go_sem]⟩, trivial⟩
 ·refine af ?_
  exact aa ⟨⟨_, rfl, by simp only [go_sem, yu]⟩, trivial⟩
end Go.Proofs.YtddimbdeggomaaaGreat
end
section
set_option maxRecDepth 100000
set_option maxHeartbeats 4000000
namespace Go.Proofs.YtddimbdeggomaaaGreat
open Go Go.Sx Go.RowKit Go.Proofs
theorem mp (l : List TAttr) (hl : l.length ≤ 4300000) : FnC Tryz.prog 227 [.o (.d (.sl (l.map aK)))] (.o (.w 181 4 (l.map aK))) := by
 refine ent Tryz.func227 rfl Tryz.call227 rfl (fun C => ?_); simp only [go_sem, st0, Tryz.ntmps227]
 refine af ?_
 intro b hb
 refine af ?_
 refine cnd rfl (fun h1 => ?_) (fun h1 => ?_)
 ·have e := hb h1
  simp only [List.map_eq_nil_iff] at e
  subst e
  refine af ?_
  exact aa ⟨⟨_, rfl, by simp only [go_sem]⟩, trivial⟩
 ·refine af ?_
  exact aa ⟨⟨_, rfl, by simp only [go_sem, yu]⟩, trivial⟩
theorem rr (l : List TField) (hl : l.length ≤ 4300000) : FnC Tryz.prog 173 [.o (.d (.sl (l.map aF)))] (.o (.w 193 2 (l.map aF))) := by
 refine ent Tryz.func173 rfl Tryz.call173 rfl (fun C => ?_); simp only [go_sem, st0, Tryz.ntmps173]
 refine af ?_
 intro b hb
 refine af ?_
 refine cnd rfl (fun h1 => ?_) (fun h1 => ?_)
 ·have e := hb h1
  simp only [List.map_eq_nil_iff] at e
  subst e
  refine af ?_
  exact aa ⟨⟨_, rfl, by simp only [go_sem]⟩, trivial⟩
 ·refine af ?_
  exact aa ⟨⟨_, rfl, by simp only [go_sem, yu]⟩, trivial⟩
theorem tN (l : List TNode) (hl : l.length ≤ 4300000) : FnC Tryz.prog 248 [.o (.d (.sl (l.map aw)))] (.o (.w 199 7 (l.map aw))) := by
 refine ent Tryz.func248 rfl Tryz.call248 rfl (fun C => ?_); simp only [go_sem, st0, Tryz.ntmps248]
 refine af ?_
 intro b hb
 refine af ?_
 refine cnd rfl (fun h1 => ?_) (fun h1 => ?_)
 ·have e := hb h1
  simp only [List.map_eq_nil_iff] at e
  subst e
  refine af ?_
  exact aa ⟨⟨_, rfl, by simp only [go_sem]⟩, trivial⟩
 ·refine af ?_
  exact aa ⟨⟨_, rfl, by simp only [go_sem, yu]⟩, trivial⟩
theorem iA (f : Nat) (c : List D) (p : TAttr → Bool) (l : List TAttr) (hf : ∀ s ∈ l, FnC Tryz.prog f [me s, .o (.q c)] (ob (p s))) (hl : l.length ≤ 8388608) : FnC Tryz.prog 209 [.o (.d (.sl (l.map aK))), .o (.f f [c])] (oi (bp p l 0)) := by
 refine ent Tryz.func209 rfl Tryz.call209 rfl (fun C => ?_); simp only [go_sem, st0, Tryz.ntmps209]
 refine af ?_
 refine ak (α := Nat) (fun k => [(8, oi k)]) (fun _ => []) (fun k => k ≤ l.length ∧ bp p l 0 = bp p (l.drop k) k) (fun k => l.length - k) 0 (fun _ => ?_) ?_ ?_ (fun k hk => ?_)
 ·simp only [go_sem]
 ·simp only [go_sem]; simp
 ·simp
 ·obtain ⟨hk, hq⟩ := hk
  simp only [go_sem]
  refine af ?_
  refine cnd rfl (fun h => ?_) (fun h => ?_)
  ·simp only [decide_eq_true_eq, Int.ofNat_lt] at h
   have hd := List.drop_eq_getElem_cons h
   rw [hd, bp] at hq
   have q0 := @h; refine cg (hf l[k] (List.getElem_mem h)) ?_
   refine cnd rfl (fun h2 => ?_) (fun h2 => ?_)
   ·refine af ?_
    exact aa ⟨⟨_, rfl, by simp only [go_sem, hq, h2]⟩, trivial⟩
   ·refine af ?_
    refine ae (k + 1) ?_ ?_ ?_
    ·simp only [go_sem]; simp
    ·rw [hq, h2]; exact ⟨h, by simp⟩
    ·omega
  ·simp only [decide_eq_false_iff_not] at h
   have e : k = l.length := by omega
   subst e
   simp only [List.drop_length, bp] at hq
   refine af ?_
   exact aa ⟨⟨_, rfl, by simp only [go_sem, hq]⟩, trivial⟩
theorem ow (f : Nat) (c : List D) (p : TDir → Bool) (l : List TDir) (hf : ∀ s ∈ l, FnC Tryz.prog f [xe s, .o (.q c)] (ob (p s))) (hl : l.length ≤ 8388608) : FnC Tryz.prog 199 [.o (.d (.sl (l.map ax))), .o (.f f [c])] (oi (bp p l 0)) := by
 refine ent Tryz.func199 rfl Tryz.call199 rfl (fun C => ?_); simp only [go_sem, st0, Tryz.ntmps199]
 refine af ?_
 refine ak (α := Nat) (fun k => [(8, oi k)]) (fun _ => []) (fun k => k ≤ l.length ∧ bp p l 0 = bp p (l.drop k) k) (fun k => l.length - k) 0 (fun _ => ?_) ?_ ?_ (fun k hk => ?_)
 ·simp only [go_sem]
 ·simp only [go_sem]; simp
 ·simp
 ·obtain ⟨hk, hq⟩ := hk
  simp only [go_sem]
  refine af ?_
  refine cnd rfl (fun h => ?_) (fun h => ?_)
  ·simp only [decide_eq_true_eq, Int.ofNat_lt] at h
   have hd := List.drop_eq_getElem_cons h
   rw [hd, bp] at hq
   have q0 := @h; refine cg (hf l[k] (List.getElem_mem h)) ?_
   refine cnd rfl (fun h2 => ?_) (fun h2 => ?_)
   ·refine af ?_
    exact aa ⟨⟨_, rfl, by simp only [go_sem, hq, h2]⟩, trivial⟩
   ·refine af ?_
    refine ae (k + 1) ?_ ?_ ?_
    ·simp only [go_sem]; simp
    ·rw [hq, h2]; exact ⟨h, by simp⟩
    ·omega
  ·simp only [decide_eq_false_iff_not] at h
   have e : k = l.length := by omega
   subst e
   simp only [List.drop_length, bp] at hq
   refine af ?_
   exact aa ⟨⟨_, rfl, by simp only [go_sem, hq]⟩, trivial⟩
theorem nc (f : Nat) (c : List D) (p : TFile → Bool) (l : List TFile) (hf : ∀ s ∈ l, FnC Tryz.prog f [a8 s, .o (.q c)] (ob (p s))) (hl : l.length ≤ 8388608) : FnC Tryz.prog 256 [.o (.d (.sl (l.map aR))), .o (.f f [c])] (oi (bp p l 0)) := by
 refine ent Tryz.func256 rfl Tryz.call256 rfl (fun C => ?_); simp only [go_sem, st0, Tryz.ntmps256]
 refine af ?_
 refine ak (α := Nat) (fun k => [(8, oi k)]) (fun _ => []) (fun k => k ≤ l.length ∧ bp p l 0 = bp p (l.drop k) k) (fun k => l.length - k) 0 (fun _ => ?_) ?_ ?_ (fun k hk => ?_)
 ·simp only [go_sem]
 ·simp only [go_sem]; simp
 ·simp
 ·obtain ⟨hk, hq⟩ := hk
  simp only [go_sem]
  refine af ?_
  refine cnd rfl (fun h => ?_) (fun h => ?_)
  ·simp only [decide_eq_true_eq, Int.ofNat_lt] at h
   have hd := List.drop_eq_getElem_cons h
   rw [hd, bp] at hq
   have q0 := @h; refine cg (hf l[k] (List.getElem_mem h)) ?_
   refine cnd rfl (fun h2 => ?_) (fun h2 => ?_)
   ·refine af ?_
    exact aa ⟨⟨_, rfl, by simp only [go_sem, hq, h2]⟩, trivial⟩
   ·refine af ?_
    refine ae (k + 1) ?_ ?_ ?_
    ·simp only [go_sem]; simp
    ·rw [hq, h2]; exact ⟨h, by simp⟩
    ·omega
  ·simp only [decide_eq_false_iff_not] at h
   have e : k = l.length := by omega
   subst e
   simp only [List.drop_length, bp] at hq
   refine af ?_
   exact aa ⟨⟨_, rfl, by simp only [go_sem, hq]⟩, trivial⟩
end Go.Proofs.YtddimbdeggomaaaGreat
end
section
set_option maxRecDepth 100000
set_option maxHeartbeats 4000000
namespace Go.Proofs.YtddimbdeggomaaaGreat
open Go Go.Sx Go.RowKit Go.Proofs
theorem na (f : TFile) (h : f.fAttrs.length ≤ 4300000) : FnC Tryz.prog 184 [a8 f] (nT f) := by
 refine ent Tryz.func184 rfl Tryz.call184 rfl (fun C => ?_); simp only [go_sem, st0, Tryz.ntmps184]
 refine cH (mp f.fAttrs h) ?_
 exact aa ⟨⟨_, rfl, by simp only [go_sem]⟩, trivial⟩
theorem BC (x : TDir) (h : x.fQuery.length ≤ 4300000) : FnC Tryz.prog 175 [xe x] (Fb x) := by
 refine ent Tryz.func175 rfl Tryz.call175 rfl (fun C => ?_); simp only [go_sem, st0, Tryz.ntmps175]
 refine cH (tN x.fQuery h) ?_
 exact aa ⟨⟨_, rfl, by simp only [go_sem]⟩, trivial⟩
theorem ql (f : TFile) (h : f.fAttrs.length ≤ 4300000) : FnC Tryz.prog 172 [a8 f] (nT f) := by
 refine ent Tryz.func172 rfl Tryz.call172 rfl (fun C => ?_); simp only [go_sem, st0, Tryz.ntmps172]
 refine af ?_
 exact aa ⟨⟨_, rfl, by simp only [go_sem]⟩, trivial⟩
theorem xj (l : List TFile) (hl : aT l ≤ 4300000) : FnC Tryz.prog 174 [.o (.d (.sl (l.map aR)))] (.o (.w 73 5 (l.map aR))) := by
 unfold aT at hl
 refine ent Tryz.func174 rfl Tryz.call174 rfl (fun C => ?_); simp only [go_sem, st0, Tryz.ntmps174]
 refine af ?_
 refine ak (α := Nat) (fun k => [(3, .o (.s 0)), (6, .o .u), (9, oi k)]) (fun k => [(0, .row 73 5 ((l.take k).map aR) true)]) (fun k => k ≤ l.length) (fun k => l.length - k) 0 (fun _ => ?_) ?_ ?_ (fun k hk => ?_)
 ·simp only [go_sem]
 ·simp only [go_sem]; simp
 ·simp
 ·simp only [go_sem]
  refine af ?_
  refine cnd rfl (fun h1 => ?_) (fun h1 => ?_)
  ·simp only [decide_eq_true_eq, Int.ofNat_lt] at h1
   have hw := aB wFile l h1
   have hx : l[k].fAttrs.length ≤ 4300000 := by
    have e : l[k].fAttrs.length ≤ wFile l[k] := by unfold wFile bg; omega
    omega
   have ht := List.take_succ_eq_append_getElem h1
   have hn : (l.take k).length = k := by rw [List.length_take]; omega
   have q0 := @h1; have q1 := @hn; refine fZ (na l[k] hx) ?_
   refine ae (k + 1) ?_ ?_ ?_
   ·simp only [go_sem, ht, List.map_append]; simp [aR]
   ·omega
   ·omega
  ·simp only [decide_eq_false_iff_not] at h1
   have e : k = l.length := by omega
   subst e
   refine af ?_
   exact aa ⟨⟨_, rfl, by simp only [go_sem, List.take_length]⟩, trivial⟩
theorem sr (l : List TDir) (hl : aA l ≤ 4300000) : FnC Tryz.prog 104 [.o (.d (.sl (l.map ax)))] (.o (.w 93 2 (l.map ax))) := by
 unfold aA at hl
 refine ent Tryz.func104 rfl Tryz.call104 rfl (fun C => ?_); simp only [go_sem, st0, Tryz.ntmps104]
 refine af ?_
 refine ak (α := Nat) (fun k => [(3, .o (.s 0)), (6, .o .u), (9, oi k)]) (fun k => [(0, .row 93 2 ((l.take k).map ax) true)]) (fun k => k ≤ l.length) (fun k => l.length - k) 0 (fun _ => ?_) ?_ ?_ (fun k hk => ?_)
 ·simp only [go_sem]
 ·simp only [go_sem]; simp
 ·simp
 ·simp only [go_sem]
  refine af ?_
  refine cnd rfl (fun h1 => ?_) (fun h1 => ?_)
  ·simp only [decide_eq_true_eq, Int.ofNat_lt] at h1
   have hw := aB wDir l h1
   have hx : l[k].fQuery.length ≤ 4300000 := by
    have e : l[k].fQuery.length ≤ wDir l[k] := by unfold wDir bb; omega
    omega
   have ht := List.take_succ_eq_append_getElem h1
   have hn : (l.take k).length = k := by rw [List.length_take]; omega
   have q0 := @h1; have q1 := @hn; refine fZ (BC l[k] hx) ?_
   refine ae (k + 1) ?_ ?_ ?_
   ·simp only [go_sem, ht, List.map_append]; simp [ax]
   ·omega
   ·omega
  ·simp only [decide_eq_false_iff_not] at h1
   have e : k = l.length := by omega
   subst e
   refine af ?_
   exact aa ⟨⟨_, rfl, by simp only [go_sem, List.take_length]⟩, trivial⟩
theorem fI (s : TStore) (h : al s ≤ 4300000) : FnC Tryz.prog 103 [bV s] (pS s) := by
 have h1 : s.fSchema.length ≤ 4300000 := by unfold al aj at h; omega
 have h2 : aT s.fFiles ≤ 4300000 := by unfold al at h; omega
 refine ent Tryz.func103 rfl Tryz.call103 rfl (fun C => ?_); simp only [go_sem, st0, Tryz.ntmps103]
 have qH := trivial; repeat' (with_reducible first | refine nY ?_ | (refine mX ?_; try simp only [go_sem]) | refine kD ?_ | (apply rE [2,5,9] [] [0,1,3,4,6,7] [0,1,3,4,6,7] ((.c 2 [] [3,4,6,7] (.c 5 [8] [6,7,8] (.c 9 [] [] .n .n) .n) .n)) (by simp only [go_sem]; rfl) (by simp only [go_sem]; rfl) (by simp only [go_sem]; rfl) (by decide +kernel); (focus simp only [go_sem]; done)) | exact cJ | refine ca (uX ?_) ?_ | refine cd (aX ?_) ?_ | refine ce (aX ?_) ?_ | exact b9 | exact oH | (refine uA ?_; simp only [go_sem]; (repeat' first | omega | refine And.intro ?_ ?_); done) | refine rD ?_ | refine cP (rr s.fSchema h1) ?_ | refine cP (xj s.fFiles h2) ?_ | refine aO ?_ | fail)
 exact aa ⟨⟨_, rfl, by simp only [go_sem]⟩, trivial⟩
theorem BD (l : List TDir) (hl : aA l ≤ 4300000) : FnC Tryz.prog 101 [.o (.d (.sl (l.map ax)))] (.o (.w 93 2 (l.map ax))) := by
 unfold aA at hl
 refine ent Tryz.func101 rfl Tryz.call101 rfl (fun C => ?_); simp only [go_sem, st0, Tryz.ntmps101]
 refine af ?_
 refine ak (α := Nat) (fun k => [(3, .o (.s 0)), (5, .o .u), (4, oi k)]) (fun k => [(0, .row 93 2 ((l.take k).map ax) true)]) (fun k => k ≤ l.length) (fun k => l.length - k) 0 (fun _ => ?_) ?_ ?_ (fun k hk => ?_)
 ·simp only [go_sem]
 ·simp only [go_sem]; simp
 ·simp
 ·simp only [go_sem]
  refine af ?_
  refine cnd rfl (fun h1 => ?_) (fun h1 => ?_)
  ·simp only [decide_eq_true_eq, Int.ofNat_lt] at h1
   have hw := aB wDir l h1
   have hx : l[k].fQuery.length ≤ 4300000 := by
    have e : l[k].fQuery.length ≤ wDir l[k] := by unfold wDir bb; omega
    omega
   have hx1 : l[k].fQuery.length ≤ 140737488355328 := by omega
   have hx2 : l[k].fQuery.length * 72 ≤ 140737488355328 := by omega
   have ht := List.take_succ_eq_append_getElem h1
   have hn : (l.take k).length = k := by rw [List.length_take]; omega
   have qH := aI @h1 (aI @hn (aI @hx1 @hx2)); repeat' (with_reducible first | refine nY ?_ | (refine mX ?_; try simp only [go_sem, qH]) | refine kD ?_ | (apply rE [6,12,14,15,16] [16] [0,1,2,3,4,5,7,8,9,10,11] [0,1,2,3,4,5,7,8,9,10,11] ((.c 6 [] [0,1,2,3,4,5,7,8,9,10,11] (.c 12 [13] [0,1,2,3,4,5,13] (.c 14 [] [0] (.c 15 [] [] (.c 16 [] [] .n .n) .n) .n) .n) .n)) (by simp only [go_sem]; rfl) (by simp only [go_sem]; rfl) (by simp only [go_sem]; rfl) (by decide +kernel); (focus simp only [go_sem]; done)) | exact cJ | refine ca (uX ?_) ?_ | refine cd (aX ?_) ?_ | refine ce (aX ?_) ?_ | exact b9 | exact oH | exact uB | refine rD ?_ | refine aO ?_ | fail)
   refine ae (k + 1) ?_ ?_ ?_
   ·simp only [go_sem, ht, List.map_append]; simp [ax]
   ·omega
   ·omega
  ·simp only [decide_eq_false_iff_not] at h1
   have e : k = l.length := by omega
   subst e
   refine af ?_
   exact aa ⟨⟨_, rfl, by simp only [go_sem, List.take_length]⟩, trivial⟩
theorem zT (l : List TResult) (hl : ah l ≤ 4300000) : FnC Tryz.prog 180 [.o (.d (.sl (l.map ai)))] (.o (.w 125 2 (l.map ai))) := by
 unfold ah at hl
 refine ent Tryz.func180 rfl Tryz.call180 rfl (fun C => ?_); simp only [go_sem, st0, Tryz.ntmps180]
 refine af ?_
 refine ak (α := Nat) (fun k => [(3, .o (.s 0)), (5, .o .u), (4, oi k)]) (fun k => [(0, .row 125 2 ((l.take k).map ai) true)]) (fun k => k ≤ l.length) (fun k => l.length - k) 0 (fun _ => ?_) ?_ ?_ (fun k hk => ?_)
 ·simp only [go_sem]
 ·simp only [go_sem]; simp
 ·simp
 ·simp only [go_sem]
  refine af ?_
  refine cnd rfl (fun h1 => ?_) (fun h1 => ?_)
  ·simp only [decide_eq_true_eq, Int.ofNat_lt] at h1
   have hw := aB wResult l h1
   have hx : l[k].fIDs.length ≤ 4300000 := by
    have e : l[k].fIDs.length ≤ wResult l[k] := by unfold wResult; omega
    omega
   have hx1 : l[k].fIDs.length ≤ 140737488355328 := by omega
   have hx2 : l[k].fIDs.length * 8 ≤ 140737488355328 := by omega
   have ht := List.take_succ_eq_append_getElem h1
   have hn : (l.take k).length = k := by rw [List.length_take]; omega
   have qH := aI @h1 (aI @hn (aI @hx1 @hx2)); repeat' (with_reducible first | refine nY ?_ | (refine mX ?_; try simp only [go_sem, qH]) | refine kD ?_ | (apply rE [6,12,14,15,16] [16] [0,1,2,3,4,5,7,8,9,10,11] [0,1,2,3,4,5,7,8,9,10,11] ((.c 6 [] [0,1,2,3,4,5,7,8,9,10,11] (.c 12 [13] [0,1,2,3,4,5,13] (.c 14 [] [0] (.c 15 [] [] (.c 16 [] [] .n .n) .n) .n) .n) .n)) (by simp only [go_sem]; rfl) (by simp only [go_sem]; rfl) (by simp only [go_sem]; rfl) (by decide +kernel); (focus simp only [go_sem]; done)) | exact cJ | refine ca (uX ?_) ?_ | refine cd (aX ?_) ?_ | refine ce (aX ?_) ?_ | exact b9 | exact oH | exact uB | refine rD ?_ | refine aO ?_ | fail)
   refine ae (k + 1) ?_ ?_ ?_
   ·simp only [go_sem, ht, List.map_append]; simp [ai]
   ·omega
   ·omega
  ·simp only [decide_eq_false_iff_not] at h1
   have e : k = l.length := by omega
   subst e
   refine af ?_
   exact aa ⟨⟨_, rfl, by simp only [go_sem, List.take_length]⟩, trivial⟩
theorem tM (l : List TResult) (hl : ah l ≤ 4300000) : FnC Tryz.prog 187 [.o (.d (.sl (l.map ai)))] (.o (.w 125 2 (l.map ai))) := by
 unfold ah at hl
 refine ent Tryz.func187 rfl Tryz.call187 rfl (fun C => ?_); simp only [go_sem, st0, Tryz.ntmps187]
 refine af ?_
 refine ak (α := Nat) (fun k => [(3, .o (.s 0)), (6, .o .u), (9, oi k)]) (fun k => [(0, .row 125 2 ((l.take k).map ai) true)]) (fun k => k ≤ l.length) (fun k => l.length - k) 0 (fun _ => ?_) ?_ ?_ (fun k hk => ?_)
 ·simp only [go_sem]
 ·simp only [go_sem]; simp
 ·simp
 ·simp only [go_sem]
  refine af ?_
  refine cnd rfl (fun h1 => ?_) (fun h1 => ?_)
  ·simp only [decide_eq_true_eq, Int.ofNat_lt] at h1
   have hw := aB wResult l h1
   have hx : l[k].fIDs.length ≤ 67108864 := by
    have e : l[k].fIDs.length ≤ wResult l[k] := by unfold wResult; omega
    omega
   have ht := List.take_succ_eq_append_getElem h1
   have hn : (l.take k).length = k := by rw [List.length_take]; omega
   have qH := aI @h1 @hn; repeat' (with_reducible first | refine nY ?_ | (refine mX ?_; try simp only [go_sem, qH]) | refine kD ?_ | (apply rE [5,7,8,9] [9] [0,1,2,3,4] [0,1,2,3,4] ((.c 5 [6] [0,1,2,6] (.c 7 [] [0] (.c 8 [] [] (.c 9 [] [] .n .n) .n) .n) .n)) (by simp only [go_sem]; rfl) (by simp only [go_sem]; rfl) (by simp only [go_sem]; rfl) (by decide +kernel); (focus simp only [go_sem]; done)) | exact cJ | refine ca (uX ?_) ?_ | refine cd (aX ?_) ?_ | refine ce (aX ?_) ?_ | exact b9 | exact oH | exact uB | refine rD ?_ | refine cP (jZ l[k].fIDs hx) ?_ | refine aO ?_ | fail)
   refine ae (k + 1) ?_ ?_ ?_
   ·simp only [go_sem, ht, List.map_append]; simp [ai]
   ·omega
   ·omega
  ·simp only [decide_eq_false_iff_not] at h1
   have e : k = l.length := by omega
   subst e
   refine af ?_
   exact aa ⟨⟨_, rfl, by simp only [go_sem, List.take_length]⟩, trivial⟩
theorem fv (c : TCatalog) (h : wCatalog c ≤ 4300000) : FnC Tryz.prog 116 [aU c] (fq c) := by
 unfold wCatalog at h
 refine ent Tryz.func116 rfl Tryz.call116 rfl (fun C => ?_); simp only [go_sem, st0, Tryz.ntmps116]
 have qH := trivial; repeat' (with_reducible first | refine nY ?_ | (refine mX ?_; try simp only [go_sem]) | refine kD ?_ | (apply rE [2,5,8,10] [] [0,1,3,4,6,7] [0,1,3,4,6,7] ((.c 2 [] [3,4,6,7] (.c 5 [] [6,7] (.c 8 [9] [9] (.c 10 [] [] .n .n) .n) .n) .n)) (by simp only [go_sem]; rfl) (by simp only [go_sem]; rfl) (by simp only [go_sem]; rfl) (by decide +kernel); (focus simp only [go_sem]; done)) | exact cJ | refine ca (uX ?_) ?_ | refine cd (aX ?_) ?_ | refine ce (aX ?_) ?_ | exact b9 | exact oH | (refine uA ?_; simp only [go_sem]; (repeat' first | omega | refine And.intro ?_ ?_); done) | refine rD ?_ | refine cP (fI c.fStore (by omega)) ?_ | refine cP (sr c.fDirs (by omega)) ?_ | refine cP (tM c.fResults (by omega)) ?_ | refine aO ?_ | fail)
 exact aa ⟨⟨_, rfl, by simp only [go_sem]⟩, trivial⟩
theorem j6 (s : TStore) (h : al s ≤ 4300000) : FnC Tryz.prog 100 [bV s] (pS s) := by
 have h1 : s.fSchema.length ≤ 4300000 := by unfold al aj at h; omega
 have h2 : s.fFiles.length + wsum wFile s.fFiles ≤ 4300000 := by unfold al aT at h; omega
 refine ent Tryz.func100 rfl Tryz.call100 rfl (fun C => ?_); simp only [go_sem, st0, Tryz.ntmps100]
 have qH := trivial; repeat' (with_reducible first | refine nY ?_ | (refine mX ?_; try simp only [go_sem]) | refine kD ?_ | (apply rE [0,3,7,8] [] [1,2,4,5] [1,2,4,5] ((.c 0 [] [1,2,4,5] (.c 3 [6] [4,5,6] (.c 7 [] [4,5,6] (.c 8 [] [] .n .n) .n) (.c 7 [] [1,2,4,5] (.c 3 [6] [4,5,6] (.c 8 [] [] .n .n) .n) .n)) (.c 7 [] [1,2,4,5] (.c 0 [] [1,2,4,5] (.c 3 [6] [4,5,6] (.c 8 [] [] .n .n) .n) .n) .n))) (by simp only [go_sem]; rfl) (by simp only [go_sem]; rfl) (by simp only [go_sem]; rfl) (by decide +kernel); (focus simp only [go_sem]; done)) | exact cJ | refine ca (uX ?_) ?_ | refine cd (aX ?_) ?_ | refine ce (aX ?_) ?_ | exact b9 | (refine yt [(2, 3)] (by simp only [go_sem]; rfl) ?_; exact rfl) | exact oH | (refine uA ?_; simp only [go_sem]; (repeat' first | omega | refine And.intro ?_ ?_); done) | refine rD ?_ | refine aO ?_ | fail)
 refine Cd 3 1 73 5 rfl rfl ?_
 simp only [go_sem]
 refine ak (α := Nat) (fun k => [(4, oi k)]) (fun k => [(4, .row 73 5 ((s.fFiles.take k).map aR) true)]) (fun k => k ≤ s.fFiles.length) (fun k => s.fFiles.length - k) 0 (fun _ => ?_) ?_ ?_ (fun k hk => ?_)
 ·simp only [go_sem]
 ·simp only [go_sem]; simp
 ·simp
 ·simp only [go_sem]
  refine af ?_
  refine cnd rfl (fun h1 => ?_) (fun h1 => ?_)
  ·simp only [decide_eq_true_eq, Int.ofNat_lt] at h1
   have hw := aB wFile s.fFiles h1
   have hx : s.fFiles[k].fAttrs.length ≤ 4300000 := by
    have e : s.fFiles[k].fAttrs.length ≤ wFile s.fFiles[k] := by unfold wFile bg; omega
    omega
   have ht := List.take_succ_eq_append_getElem h1
   have hn : (s.fFiles.take k).length = k := by rw [List.length_take]; omega
   have qH := aI @h1 @hn; repeat' (with_reducible first | refine nY ?_ | (refine mX ?_; try simp only [go_sem, qH]) | refine kD ?_ | (apply rE [7,8,9,11] [] [0,1,2,3,4,5,6] [0,1,2,3,4,5,6] ((.c 7 [] [0,1] (.c 8 [] [0,1] (.c 9 [10] [10] (.c 11 [] [] .n .n) .n) .n) .n)) (by simp only [go_sem]; rfl) (by simp only [go_sem]; rfl) (by simp only [go_sem]; rfl) (by decide +kernel); (focus simp only [go_sem]; done)) | exact cJ | refine ca (uX ?_) ?_ | refine cd (aX ?_) ?_ | refine ce (aX ?_) ?_ | exact b9 | exact oH | exact uB | refine rD ?_ | refine cP (ql s.fFiles[k] hx) ?_ | refine aO ?_ | fail)
   refine ae (k + 1) ?_ ?_ ?_
   ·simp only [go_sem, ht, List.map_append]; simp [aR]
   ·omega
   ·omega
  ·simp only [decide_eq_false_iff_not] at h1
   have e : k = s.fFiles.length := by omega
   subst e
   refine af ?_
   exact aa ⟨⟨_, rfl, by simp only [go_sem, List.take_length]⟩, trivial⟩
theorem BE (c : TCatalog) (h : wCatalog c ≤ 4300000) : FnC Tryz.prog 108 [aU c] (fq c) := by
 unfold wCatalog at h
 refine ent Tryz.func108 rfl Tryz.call108 rfl (fun C => ?_); simp only [go_sem, st0, Tryz.ntmps108]
 have qH := trivial; repeat' (with_reducible first | refine nY ?_ | (refine mX ?_; try simp only [go_sem]) | refine kD ?_ | (apply rE [2,5,8,10] [] [0,1,3,4,6,7] [0,1,3,4,6,7] ((.c 2 [] [3,4,6,7] (.c 5 [] [6,7] (.c 8 [9] [9] (.c 10 [] [] .n .n) .n) .n) .n)) (by simp only [go_sem]; rfl) (by simp only [go_sem]; rfl) (by simp only [go_sem]; rfl) (by decide +kernel); (focus simp only [go_sem]; done)) | exact cJ | refine ca (uX ?_) ?_ | refine cd (aX ?_) ?_ | refine ce (aX ?_) ?_ | exact b9 | exact oH | (refine uA ?_; simp only [go_sem]; (repeat' first | omega | refine And.intro ?_ ?_); done) | refine rD ?_ | refine cP (j6 c.fStore (by omega)) ?_ | refine cP (BD c.fDirs (by omega)) ?_ | refine cP (zT c.fResults (by omega)) ?_ | refine aO ?_ | fail)
 exact aa ⟨⟨_, rfl, by simp only [go_sem]⟩, trivial⟩
end Go.Proofs.YtddimbdeggomaaaGreat
end
section
set_option maxRecDepth 100000
set_option maxHeartbeats 4000000
namespace Go.Proofs.YtddimbdeggomaaaGreat
open Go Go.Sx Go.RowKit Go.Proofs
theorem dJ (n : TNode) (i : Nat) (hi : i ≤ 4300000) (hs : n.fValue.fStr.size ≤ 4300000) (hn : n.fName.size ≤ 4300000) : FnC Tryz.prog 284 [jt n, oi i] (ob (aQ n i)) := by
 refine ent Tryz.func284 rfl Tryz.call284 rfl (fun C => ?_); simp only [go_sem, st0, Tryz.ntmps284]
 repeat' (with_reducible first | refine nX ?_ | (refine mX ?_; try simp only [go_sem]) | refine kD ?_ | refine aO ?_ | fail)
 refine reg ?_
 repeat' (with_reducible first | refine nX ?_ | (refine mX ?_; try simp only [go_sem]) | refine kD ?_ | refine aO ?_ | fail)
 refine Ba [(5, ob (jx n i))] [] ?_ ?_
 ·cases hl : inB n.fLeft 0 ((i : Int) - 1) <;> by_cases hp : 0 < (i : Int)
  all_goals
   refine reg ?_
   have qH := aI @hl (aI @hp (aI @decide_true @decide_false)); repeat' (with_reducible first | refine nX ?_ | (refine mX ?_; try simp only [go_sem, qH]) | refine kD ?_ | refine cP (aN n.fLeft 0 ((i : Int) - 1)) ?_ | refine aO ?_ | fail)
   exact uY (by simp only [go_sem, jx, hl, hp, decide_true, decide_false, Bool.and_true, Bool.and_false]; simp) (by simp only [go_sem])
 simp only [go_sem]
 repeat' (with_reducible first | refine nX ?_ | (refine mX ?_; try simp only [go_sem]) | refine kD ?_ | refine aO ?_ | fail)
 refine Ba [(6, ob (jx n i && qe n i))] [] ?_ ?_
 ·cases hl : jx n i <;> cases hq : qe n i
  all_goals
   refine reg ?_
   have qH := aI @hl @hq; repeat' (with_reducible first | refine nX ?_ | (refine mX ?_; try simp only [go_sem, qH]) | refine kD ?_ | refine cP ((aN n.fRight 0 ((i : Int) - 1) : FnC Tryz.prog _ _ (ob (qe n i)))) ?_ | refine aO ?_ | fail)
   exact uY (by simp only [go_sem, hl, hq, Bool.and_true, Bool.and_false]; simp) (by simp only [go_sem])
 simp only [go_sem]
 by_cases h1 : n.fOp = 1
 ·have hr : aQ n i = (decide (n.fLeft = 0) && (decide (n.fRight = 0) && (decide (n.fName = ⟨#[]⟩) && (decide (n.fValue.fKind = 0) && (decide (n.fValue.fInt = 0) && decide (n.fValue.fStr = ⟨#[]⟩)))))) := by simp [aQ, h1, dY, gi, eV, Bool.and_assoc]
  have q0 := @h1; have q1 := @decide_true; have q2 := @decide_false; refine fF ?_
  exact aa ⟨⟨_, rfl, by simp only [go_sem, hr, Bool.and_true, Bool.and_false, Bool.true_and, Bool.false_and, Bool.not_true, Bool.not_false]⟩, trivial⟩
 by_cases h2 : n.fOp = 2
 ·have hr : aQ n i = (aV n.fName 1 && (decide (n.fLeft = 0) && (decide (n.fRight = 0) && (decide (n.fValue.fKind = 0) && (decide (n.fValue.fInt = 0) && decide (n.fValue.fStr = ⟨#[]⟩)))))) := by simp [aQ, h2, dY, gi, eV, Bool.and_assoc]
  have q0 := @h1; have q1 := @h2; have q2 := @decide_true; have q3 := @decide_false; refine mW (am n.fName hn) ?_
  cases ht : aV n.fName 1
  ·rw [ht] at hr
   simp only [go_sem, ht]
   have q0 := @h1; have q1 := @h2; have q2 := @decide_true; have q3 := @decide_false; have q4 := @ht; refine re ?_
   exact aa ⟨⟨_, rfl, by simp only [go_sem, hr, Bool.and_true, Bool.and_false, Bool.true_and, Bool.false_and, Bool.not_true, Bool.not_false]⟩, trivial⟩
  rw [ht] at hr
  simp only [go_sem, ht]
  have q0 := @h1; have q1 := @h2; have q2 := @decide_true; have q3 := @decide_false; have q4 := @ht; refine pD (am n.fName hn) ?_
  exact aa ⟨⟨_, rfl, by simp only [go_sem, hr, Bool.and_true, Bool.and_false, Bool.true_and, Bool.false_and, Bool.not_true, Bool.not_false]⟩, trivial⟩
 by_cases h3 : n.fOp = 3
 ·have hr : aQ n i = (aV n.fName 1 && (cW n.fValue && (!decide (n.fValue.fKind = 0) && (decide (n.fLeft = 0) && decide (n.fRight = 0))))) := by simp [aQ, h3, dY]
  have q0 := @h1; have q1 := @h2; have q2 := @h3; have q3 := @decide_true; have q4 := @decide_false; refine zu (am n.fName hn) (aH n.fValue hs) ?_
  cases ht : aV n.fName 1
  ·rw [ht] at hr
   simp only [go_sem, ht]
   have q0 := @h1; have q1 := @h2; have q2 := @h3; have q3 := @decide_true; have q4 := @decide_false; have q5 := @ht; refine Bd ?_
   exact aa ⟨⟨_, rfl, by simp only [go_sem, hr, Bool.and_true, Bool.and_false, Bool.true_and, Bool.false_and, Bool.not_true, Bool.not_false]⟩, trivial⟩
  rw [ht] at hr
  simp only [go_sem, ht]
  have q0 := @h1; have q1 := @h2; have q2 := @h3; have q3 := @decide_true; have q4 := @decide_false; have q5 := @ht; refine rf (am n.fName hn) (aH n.fValue hs) ?_
  cases hv : cW n.fValue
  ·rw [hv] at hr
   simp only [go_sem, hv]
   have q0 := @h1; have q1 := @h2; have q2 := @h3; have q3 := @decide_true; have q4 := @decide_false; have q5 := @ht; have q6 := @hv; refine wX ?_
   exact aa ⟨⟨_, rfl, by simp only [go_sem, hr, Bool.and_true, Bool.and_false, Bool.true_and, Bool.false_and, Bool.not_true, Bool.not_false]⟩, trivial⟩
  rw [hv] at hr
  simp only [go_sem, hv]
  have q0 := @h1; have q1 := @h2; have q2 := @h3; have q3 := @decide_true; have q4 := @decide_false; have q5 := @ht; have q6 := @hv; refine Ea (am n.fName hn) (aH n.fValue hs) ?_
  by_cases hk : n.fValue.fKind = 0
  ·simp only [hk, decide_true] at hr
   simp only [go_sem, hk, decide_true]
   have q0 := @h1; have q1 := @h2; have q2 := @h3; have q3 := @decide_true; have q4 := @decide_false; have q5 := @ht; have q6 := @hv; have q7 := @hk; refine rg ?_
   exact aa ⟨⟨_, rfl, by simp only [go_sem, hr, Bool.and_true, Bool.and_false, Bool.true_and, Bool.false_and, Bool.not_true, Bool.not_false]⟩, trivial⟩
  simp only [hk, decide_false] at hr
  simp only [go_sem, hk, decide_false]
  have q0 := @h1; have q1 := @h2; have q2 := @h3; have q3 := @decide_true; have q4 := @decide_false; have q5 := @ht; have q6 := @hv; have q7 := @hk; refine Be (am n.fName hn) (aH n.fValue hs) ?_
  by_cases hL : n.fLeft = 0
  rotate_left
  ·simp only [hL, decide_false] at hr
   simp only [go_sem, hL, decide_false]
   have q0 := @h1; have q1 := @h2; have q2 := @h3; have q3 := @decide_true; have q4 := @decide_false; have q5 := @ht; have q6 := @hv; have q7 := @hk; have q8 := @hL; refine mZ ?_
   exact aa ⟨⟨_, rfl, by simp only [go_sem, hr, Bool.and_true, Bool.and_false, Bool.true_and, Bool.false_and, Bool.not_true, Bool.not_false]⟩, trivial⟩
  simp only [hL, decide_true] at hr
  simp only [go_sem, hL, decide_true]
  have q0 := @h1; have q1 := @h2; have q2 := @h3; have q3 := @decide_true; have q4 := @decide_false; have q5 := @ht; have q6 := @hv; have q7 := @hk; have q8 := @hL; refine wY (am n.fName hn) (aH n.fValue hs) ?_
  exact aa ⟨⟨_, rfl, by simp only [go_sem, hr, Bool.and_true, Bool.and_false, Bool.true_and, Bool.false_and, Bool.not_true, Bool.not_false]⟩, trivial⟩
 by_cases h4 : n.fOp = 4
 ·have hr : aQ n i = (aV n.fName 1 && (cW n.fValue && (decide (n.fValue.fKind = 1) && (decide (n.fLeft = 0) && decide (n.fRight = 0))))) := by simp [aQ, h4, dY]
  have q0 := @h1; have q1 := @h2; have q2 := @h3; have q3 := @h4; have q4 := @decide_true; have q5 := @decide_false; refine rf (am n.fName hn) (aH n.fValue hs) ?_
  cases ht : aV n.fName 1
  ·rw [ht] at hr
   simp only [go_sem, ht]
   have q0 := @h1; have q1 := @h2; have q2 := @h3; have q3 := @h4; have q4 := @decide_true; have q5 := @decide_false; have q6 := @ht; refine wX ?_
   exact aa ⟨⟨_, rfl, by simp only [go_sem, hr, Bool.and_true, Bool.and_false, Bool.true_and, Bool.false_and, Bool.not_true, Bool.not_false]⟩, trivial⟩
  rw [ht] at hr
  simp only [go_sem, ht]
  have q0 := @h1; have q1 := @h2; have q2 := @h3; have q3 := @h4; have q4 := @decide_true; have q5 := @decide_false; have q6 := @ht; refine Ea (am n.fName hn) (aH n.fValue hs) ?_
  cases hv : cW n.fValue
  ·rw [hv] at hr
   simp only [go_sem, hv]
   have q0 := @h1; have q1 := @h2; have q2 := @h3; have q3 := @h4; have q4 := @decide_true; have q5 := @decide_false; have q6 := @ht; have q7 := @hv; refine rg ?_
   exact aa ⟨⟨_, rfl, by simp only [go_sem, hr, Bool.and_true, Bool.and_false, Bool.true_and, Bool.false_and, Bool.not_true, Bool.not_false]⟩, trivial⟩
  rw [hv] at hr
  simp only [go_sem, hv]
  have q0 := @h1; have q1 := @h2; have q2 := @h3; have q3 := @h4; have q4 := @decide_true; have q5 := @decide_false; have q6 := @ht; have q7 := @hv; refine Be (am n.fName hn) (aH n.fValue hs) ?_
  by_cases hk : n.fValue.fKind = 1
  rotate_left
  ·simp only [hk, decide_false] at hr
   simp only [go_sem, hk, decide_false]
   have q0 := @h1; have q1 := @h2; have q2 := @h3; have q3 := @h4; have q4 := @decide_true; have q5 := @decide_false; have q6 := @ht; have q7 := @hv; have q8 := @hk; refine mZ ?_
   exact aa ⟨⟨_, rfl, by simp only [go_sem, hr, Bool.and_true, Bool.and_false, Bool.true_and, Bool.false_and, Bool.not_true, Bool.not_false]⟩, trivial⟩
  simp only [hk, decide_true] at hr
  simp only [go_sem, hk, decide_true]
  have q0 := @h1; have q1 := @h2; have q2 := @h3; have q3 := @h4; have q4 := @decide_true; have q5 := @decide_false; have q6 := @ht; have q7 := @hv; have q8 := @hk; refine wY (am n.fName hn) (aH n.fValue hs) ?_
  by_cases hL : n.fLeft = 0
  rotate_left
  ·simp only [hL, decide_false] at hr
   simp only [go_sem, hL, decide_false]
   have q0 := @h1; have q1 := @h2; have q2 := @h3; have q3 := @h4; have q4 := @decide_true; have q5 := @decide_false; have q6 := @ht; have q7 := @hv; have q8 := @hk; have q9 := @hL; refine iu ?_
   exact aa ⟨⟨_, rfl, by simp only [go_sem, hr, Bool.and_true, Bool.and_false, Bool.true_and, Bool.false_and, Bool.not_true, Bool.not_false]⟩, trivial⟩
  simp only [hL, decide_true] at hr
  simp only [go_sem, hL, decide_true]
  have q0 := @h1; have q1 := @h2; have q2 := @h3; have q3 := @h4; have q4 := @decide_true; have q5 := @decide_false; have q6 := @ht; have q7 := @hv; have q8 := @hk; have q9 := @hL; refine u3 (am n.fName hn) (aH n.fValue hs) ?_
  exact aa ⟨⟨_, rfl, by simp only [go_sem, hr, Bool.and_true, Bool.and_false, Bool.true_and, Bool.false_and, Bool.not_true, Bool.not_false]⟩, trivial⟩
 by_cases h5 : n.fOp = 5
 ·have hr : aQ n i = (jx n i && (decide (n.fRight = 0) && (decide (n.fName = ⟨#[]⟩) && (decide (n.fValue.fKind = 0) && (decide (n.fValue.fInt = 0) && decide (n.fValue.fStr = ⟨#[]⟩)))))) := by simp [aQ, h5, gi, eV]
  have q0 := @h1; have q1 := @h2; have q2 := @h3; have q3 := @h4; have q4 := @h5; have q5 := @decide_true; have q6 := @decide_false; refine wX ?_
  cases hk : jx n i
  ·rw [hk] at hr
   simp only [go_sem, hk]
   have q0 := @h1; have q1 := @h2; have q2 := @h3; have q3 := @h4; have q4 := @h5; have q5 := @decide_true; have q6 := @decide_false; have q7 := @hk; refine rg ?_
   exact aa ⟨⟨_, rfl, by simp only [go_sem, hr, Bool.and_true, Bool.and_false, Bool.true_and, Bool.false_and, Bool.not_true, Bool.not_false]⟩, trivial⟩
  rw [hk] at hr
  simp only [go_sem, hk]
  have q0 := @h1; have q1 := @h2; have q2 := @h3; have q3 := @h4; have q4 := @h5; have q5 := @decide_true; have q6 := @decide_false; have q7 := @hk; refine rg ?_
  by_cases hR : n.fRight = 0
  rotate_left
  ·simp only [hR, decide_false] at hr
   simp only [go_sem, hR, decide_false]
   have q0 := @h1; have q1 := @h2; have q2 := @h3; have q3 := @h4; have q4 := @h5; have q5 := @decide_true; have q6 := @decide_false; have q7 := @hk; have q8 := @hR; refine mZ ?_
   exact aa ⟨⟨_, rfl, by simp only [go_sem, hr, Bool.and_true, Bool.and_false, Bool.true_and, Bool.false_and, Bool.not_true, Bool.not_false]⟩, trivial⟩
  simp only [hR, decide_true] at hr
  simp only [go_sem, hR, decide_true]
  have q0 := @h1; have q1 := @h2; have q2 := @h3; have q3 := @h4; have q4 := @h5; have q5 := @decide_true; have q6 := @decide_false; have q7 := @hk; have q8 := @hR; refine mZ ?_
  by_cases hN : n.fName = ⟨#[]⟩
  rotate_left
  ·simp only [hN, decide_false] at hr
   simp only [go_sem, hN, decide_false]
   have q0 := @h1; have q1 := @h2; have q2 := @h3; have q3 := @h4; have q4 := @h5; have q5 := @decide_true; have q6 := @decide_false; have q7 := @hk; have q8 := @hR; have q9 := @hN; refine iu ?_
   exact aa ⟨⟨_, rfl, by simp only [go_sem, hr, Bool.and_true, Bool.and_false, Bool.true_and, Bool.false_and, Bool.not_true, Bool.not_false]⟩, trivial⟩
  simp only [hN, decide_true] at hr
  simp only [go_sem, hN, decide_true]
  have q0 := @h1; have q1 := @h2; have q2 := @h3; have q3 := @h4; have q4 := @h5; have q5 := @decide_true; have q6 := @decide_false; have q7 := @hk; have q8 := @hR; have q9 := @hN; refine iu ?_
  exact aa ⟨⟨_, rfl, by simp only [go_sem, hr, Bool.and_true, Bool.and_false, Bool.true_and, Bool.false_and, Bool.not_true, Bool.not_false]⟩, trivial⟩
 by_cases h6 : n.fOp = 6
 ·have hr : aQ n i = ((jx n i && qe n i) && (decide (n.fName = ⟨#[]⟩) && (decide (n.fValue.fKind = 0) && (decide (n.fValue.fInt = 0) && decide (n.fValue.fStr = ⟨#[]⟩))))) := by simp [aQ, h6, gi, eV, Bool.and_assoc]
  have q0 := @h1; have q1 := @h2; have q2 := @h3; have q3 := @h4; have q4 := @h5; have q5 := @h6; have q6 := @decide_true; have q7 := @decide_false; refine rg ?_
  cases hk : (jx n i && qe n i)
  ·rw [hk] at hr
   simp only [go_sem, hk]
   have q0 := @h1; have q1 := @h2; have q2 := @h3; have q3 := @h4; have q4 := @h5; have q5 := @h6; have q6 := @decide_true; have q7 := @decide_false; have q8 := @hk; refine mZ ?_
   exact aa ⟨⟨_, rfl, by simp only [go_sem, hr, Bool.and_true, Bool.and_false, Bool.true_and, Bool.false_and, Bool.not_true, Bool.not_false]⟩, trivial⟩
  rw [hk] at hr
  simp only [go_sem, hk]
  have q0 := @h1; have q1 := @h2; have q2 := @h3; have q3 := @h4; have q4 := @h5; have q5 := @h6; have q6 := @decide_true; have q7 := @decide_false; have q8 := @hk; refine mZ ?_
  by_cases hN : n.fName = ⟨#[]⟩
  rotate_left
  ·simp only [hN, decide_false] at hr
   simp only [go_sem, hN, decide_false]
   have q0 := @h1; have q1 := @h2; have q2 := @h3; have q3 := @h4; have q4 := @h5; have q5 := @h6; have q6 := @decide_true; have q7 := @decide_false; have q8 := @hk; have q9 := @hN; refine iu ?_
   exact aa ⟨⟨_, rfl, by simp only [go_sem, hr, Bool.and_true, Bool.and_false, Bool.true_and, Bool.false_and, Bool.not_true, Bool.not_false]⟩, trivial⟩
  simp only [hN, decide_true] at hr
  simp only [go_sem, hN, decide_true]
  have q0 := @h1; have q1 := @h2; have q2 := @h3; have q3 := @h4; have q4 := @h5; have q5 := @h6; have q6 := @decide_true; have q7 := @decide_false; have q8 := @hk; have q9 := @hN; refine iu ?_
  exact aa ⟨⟨_, rfl, by simp only [go_sem, hr, Bool.and_true, Bool.and_false, Bool.true_and, Bool.false_and, Bool.not_true, Bool.not_false]⟩, trivial⟩
 by_cases h7 : n.fOp = 7
 ·have hr : aQ n i = ((jx n i && qe n i) && (decide (n.fName = ⟨#[]⟩) && (decide (n.fValue.fKind = 0) && (decide (n.fValue.fInt = 0) && decide (n.fValue.fStr = ⟨#[]⟩))))) := by simp [aQ, h7, gi, eV, Bool.and_assoc]
  have q0 := @h1; have q1 := @h2; have q2 := @h3; have q3 := @h4; have q4 := @h5; have q5 := @h6; have q6 := @h7; have q7 := @decide_true; have q8 := @decide_false; refine mZ ?_
  cases hk : (jx n i && qe n i)
  ·rw [hk] at hr
   simp only [go_sem, hk]
   have q0 := @h1; have q1 := @h2; have q2 := @h3; have q3 := @h4; have q4 := @h5; have q5 := @h6; have q6 := @h7; have q7 := @decide_true; have q8 := @decide_false; have q9 := @hk; refine iu ?_
   exact aa ⟨⟨_, rfl, by simp only [go_sem, hr, Bool.and_true, Bool.and_false, Bool.true_and, Bool.false_and, Bool.not_true, Bool.not_false]⟩, trivial⟩
  rw [hk] at hr
  simp only [go_sem, hk]
  have q0 := @h1; have q1 := @h2; have q2 := @h3; have q3 := @h4; have q4 := @h5; have q5 := @h6; have q6 := @h7; have q7 := @decide_true; have q8 := @decide_false; have q9 := @hk; refine iu ?_
  by_cases hN : n.fName = ⟨#[]⟩
  rotate_left
  ·simp only [hN, decide_false] at hr
   simp only [go_sem, hN, decide_false]
   have qH := aI @h1 (aI @h2 (aI @h3 (aI @h4 (aI @h5 (aI @h6 (aI @h7 (aI @decide_true (aI @decide_false (aI @hk @hN))))))))); repeat' (with_reducible first | refine nY ?_ | (refine mX ?_; try simp only [go_sem, qH]) | refine kD ?_ | refine aO ?_ | fail)
   exact aa ⟨⟨_, rfl, by simp only [go_sem, hr, Bool.and_true, Bool.and_false, Bool.true_and, Bool.false_and, Bool.not_true, Bool.not_false]⟩, trivial⟩
  simp only [hN, decide_true] at hr
  simp only [go_sem, hN, decide_true]
  have qH := aI @h1 (aI @h2 (aI @h3 (aI @h4 (aI @h5 (aI @h6 (aI @h7 (aI @decide_true (aI @decide_false (aI @hk @hN))))))))); repeat' (with_reducible first | refine nY ?_ | (refine mX ?_; try simp only [go_sem, qH]) | refine kD ?_ | refine aO ?_ | fail)
  exact aa ⟨⟨_, rfl, by simp only [go_sem, hr, Bool.and_true, Bool.and_false, Bool.true_and, Bool.false_and, Bool.not_true, Bool.not_false]⟩, trivial⟩
 by_cases h8 : n.fOp = 8
 ·have hr : aQ n i = (aV n.fName 6 && (decide (n.fLeft = 0) && (decide (n.fRight = 0) && (decide (n.fValue.fKind = 0) && (decide (n.fValue.fInt = 0) && decide (n.fValue.fStr = ⟨#[]⟩)))))) := by simp [aQ, h8, dY, eV, Bool.and_assoc]
  have q0 := @h1; have q1 := @h2; have q2 := @h3; have q3 := @h4; have q4 := @h5; have q5 := @h6; have q6 := @h7; have q7 := @h8; have q8 := @decide_true; have q9 := @decide_false; refine yg (aJ n.fName hn) ?_
  cases ht : aV n.fName 6
  ·rw [ht] at hr
   simp only [go_sem, ht]
   have qH := aI @h1 (aI @h2 (aI @h3 (aI @h4 (aI @h5 (aI @h6 (aI @h7 (aI @h8 (aI @decide_true (aI @decide_false @ht))))))))); repeat' (with_reducible first | refine nY ?_ | (refine mX ?_; try simp only [go_sem, qH]) | refine kD ?_ | refine aO ?_ | fail)
   exact aa ⟨⟨_, rfl, by simp only [go_sem, hr, Bool.and_true, Bool.and_false, Bool.true_and, Bool.false_and, Bool.not_true, Bool.not_false]⟩, trivial⟩
  rw [ht] at hr
  simp only [go_sem, ht]
  have qH := aI @h1 (aI @h2 (aI @h3 (aI @h4 (aI @h5 (aI @h6 (aI @h7 (aI @h8 (aI @decide_true (aI @decide_false @ht))))))))); repeat' (with_reducible first | refine nY ?_ | (refine mX ?_; try simp only [go_sem, qH]) | refine kD ?_ | refine cP (aJ n.fName hn) ?_ | refine aO ?_ | fail)
  exact aa ⟨⟨_, rfl, by simp only [go_sem, hr, Bool.and_true, Bool.and_false, Bool.true_and, Bool.false_and, Bool.not_true, Bool.not_false]⟩, trivial⟩
 by_cases h9 : n.fOp = 9
 ·have hr : aQ n i = (aV n.fName 6 && (decide (n.fLeft = 0) && (decide (n.fRight = 0) && (decide (n.fValue.fKind = 0) && (decide (n.fValue.fInt = 0) && decide (n.fValue.fStr = ⟨#[]⟩)))))) := by simp [aQ, h9, dY, eV, Bool.and_assoc]
  have qH := aI @h1 (aI @h2 (aI @h3 (aI @h4 (aI @h5 (aI @h6 (aI @h7 (aI @h8 (aI @h9 (aI @decide_true @decide_false))))))))); repeat' (with_reducible first | refine nY ?_ | (refine mX ?_; try simp only [go_sem, qH]) | refine kD ?_ | refine cP (aJ n.fName hn) ?_ | refine aO ?_ | fail)
  cases ht : aV n.fName 6
  ·rw [ht] at hr
   simp only [go_sem, ht]
   have qH := aI @h1 (aI @h2 (aI @h3 (aI @h4 (aI @h5 (aI @h6 (aI @h7 (aI @h8 (aI @h9 (aI @decide_true (aI @decide_false @ht)))))))))); repeat' (with_reducible first | refine nY ?_ | (refine mX ?_; try simp only [go_sem, qH]) | refine kD ?_ | refine aO ?_ | fail)
   exact aa ⟨⟨_, rfl, by simp only [go_sem, hr, Bool.and_true, Bool.and_false, Bool.true_and, Bool.false_and, Bool.not_true, Bool.not_false]⟩, trivial⟩
  rw [ht] at hr
  simp only [go_sem, ht]
  have qH := aI @h1 (aI @h2 (aI @h3 (aI @h4 (aI @h5 (aI @h6 (aI @h7 (aI @h8 (aI @h9 (aI @decide_true (aI @decide_false @ht)))))))))); repeat' (with_reducible first | refine nY ?_ | (refine mX ?_; try simp only [go_sem, qH]) | refine kD ?_ | refine cP (aJ n.fName hn) ?_ | refine aO ?_ | fail)
  exact aa ⟨⟨_, rfl, by simp only [go_sem, hr, Bool.and_true, Bool.and_false, Bool.true_and, Bool.false_and, Bool.not_true, Bool.not_false]⟩, trivial⟩
 have hr : aQ n i = false := by simp [aQ, h1, h2, h3, h4, h5, h6, h7, h8, h9]
 have qH := aI @h1 (aI @h2 (aI @h3 (aI @h4 (aI @h5 (aI @h6 (aI @h7 (aI @h8 (aI @h9 (aI @decide_true @decide_false))))))))); repeat' (with_reducible first | refine nY ?_ | (refine mX ?_; try simp only [go_sem, qH]) | refine kD ?_ | refine aO ?_ | fail)
 exact aa ⟨⟨_, rfl, by simp only [go_sem, hr]⟩, trivial⟩
theorem yB (q : List TNode) (i : Nat) (h : i < q.length) : qf q i = (aQ q[i] i && (decide (q.length ≤ i + 1) || decide (refs q i = 1))) := by
 unfold qf; rw [List.getElem?_eq_getElem h]
theorem bc (q : List TNode) (hl : bb q ≤ 4300000) : FnC Tryz.prog 271 [.o (.d (.sl (q.map aw)))] (ob (okQ q)) := by
 unfold bb at hl
 refine ent Tryz.func271 rfl Tryz.call271 rfl (fun C => ?_); simp only [go_sem, st0, Tryz.ntmps271]
 refine af ?_
 refine ak (α := Nat) (fun k => [(7, oi k)]) (fun _ => []) (fun k => k ≤ q.length ∧ (List.range q.length).all (qf q) = ((List.range q.length).drop k).all (qf q)) (fun k => q.length - k) 0 (fun _ => ?_) ?_ ?_ (fun k hk => ?_)
 ·simp only [go_sem]
 ·simp only [go_sem]; simp
 ·simp
 ·obtain ⟨hk, hq⟩ := hk
  simp only [go_sem]
  refine af ?_
  refine cnd rfl (fun h => ?_) (fun h => ?_)
  ·simp only [decide_eq_true_eq, Int.ofNat_lt] at h
   have h' : k < (List.range q.length).length := by simpa using h
   have hd := List.drop_eq_getElem_cons h'
   rw [hd, List.all_cons, List.getElem_range, yB q k h] at hq
   have hw := aB wNode q h
   have hw1 : q[k].fName.size + q[k].fValue.fStr.size ≤ wNode q[k] := by unfold wNode cI; omega
   cases hn : aQ q[k] k
   ·rw [hn] at hq
    have hf : okQ q = false := by unfold okQ; rw [hq]; simp
    have q0 := @h; have q1 := @hn; refine fZ (dG q[k] k (by omega) (by omega) (by omega)) ?_
    exact aa ⟨⟨_, rfl, by simp only [go_sem, hf]⟩, trivial⟩
   by_cases he : (k : Int) < (q.length : Int) - 1
   ·have he2 : ¬ q.length ≤ k + 1 := by omega
    by_cases hc : (refs q k : Int) = 1
    ·have hc2 : refs q k = 1 := by omega
     have q0 := @h; have q1 := @hn; have q2 := @he; have q3 := @hc; have q4 := @decide_true; have q5 := @decide_false; refine rf (dG q[k] k (by omega) (by omega) (by omega)) (jd q k (by omega)) ?_
     refine ae (k + 1) ?_ ?_ ?_
     ·simp only [go_sem]; simp
     ·refine ⟨h, ?_⟩
      rw [hq, hn]; simp [hc2]
     ·omega
    ·have hc2 : ¬ refs q k = 1 := by omega
     have hf : okQ q = false := by unfold okQ; rw [hq, hn]; simp [hc2, he2]
     have q0 := @h; have q1 := @hn; have q2 := @he; have q3 := @hc; have q4 := @decide_true; have q5 := @decide_false; refine rf (dG q[k] k (by omega) (by omega) (by omega)) (jd q k (by omega)) ?_
     exact aa ⟨⟨_, rfl, by simp only [go_sem, hf]⟩, trivial⟩
   ·have he2 : q.length ≤ k + 1 := by omega
    have q0 := @h; have q1 := @hn; have q2 := @he; have q3 := @decide_true; have q4 := @decide_false; refine zu (dG q[k] k (by omega) (by omega) (by omega)) (jd q k (by omega)) ?_
    refine ae (k + 1) ?_ ?_ ?_
    ·simp only [go_sem]; simp
    ·refine ⟨h, ?_⟩
     rw [hq, hn]; simp [he2]
    ·omega
  ·simp only [decide_eq_false_iff_not] at h
   have e : k = q.length := by omega
   have hq' : (List.range q.length).all (qf q) = true := by
    rw [hq, List.drop_of_length_le (by simp [e])]; rfl
   refine cH (ap q.length 1 9) ?_
   exact aa ⟨⟨_, rfl, by simp only [go_sem, okQ, hq', Bool.true_and]⟩, trivial⟩
theorem bm (q : List TNode) (hl : bb q ≤ 4300000) : FnC Tryz.prog 233 [.o (.d (.sl (q.map aw)))] (ob (okQ q)) := by
 unfold bb at hl
 refine ent Tryz.func233 rfl Tryz.call233 rfl (fun C => ?_); simp only [go_sem, st0, Tryz.ntmps233]
 refine af ?_
 refine ak (α := Nat) (fun k => [(3, oi k)]) (fun _ => []) (fun k => k ≤ q.length ∧ (List.range q.length).all (qf q) = ((List.range q.length).drop k).all (qf q)) (fun k => q.length - k) 0 (fun _ => ?_) ?_ ?_ (fun k hk => ?_)
 ·simp only [go_sem]
 ·simp only [go_sem]; simp
 ·simp
 ·obtain ⟨hk, hq⟩ := hk
  simp only [go_sem]
  refine af ?_
  refine cnd rfl (fun h => ?_) (fun h => ?_)
  ·simp only [decide_eq_true_eq, Int.ofNat_lt] at h
   have h' : k < (List.range q.length).length := by simpa using h
   have hd := List.drop_eq_getElem_cons h'
   rw [hd, List.all_cons, List.getElem_range, yB q k h] at hq
   have hw := aB wNode q h
   have hw1 : q[k].fName.size + q[k].fValue.fStr.size ≤ wNode q[k] := by unfold wNode cI; omega
   cases hn : aQ q[k] k
   ·rw [hn] at hq
    have hf : okQ q = false := by unfold okQ; rw [hq]; simp
    have q0 := @h; have q1 := @hn; refine fZ (dJ q[k] k (by omega) (by omega) (by omega)) ?_
    exact aa ⟨⟨_, rfl, by simp only [go_sem, hf]⟩, trivial⟩
   by_cases he : (k : Int) < (q.length : Int) - 1
   ·have he2 : ¬ q.length ≤ k + 1 := by omega
    by_cases hc : (refs q k : Int) = 1
    ·have hc2 : refs q k = 1 := by omega
     have q0 := @h; have q1 := @hn; have q2 := @he; have q3 := @hc; have q4 := @decide_true; have q5 := @decide_false; refine rf (dJ q[k] k (by omega) (by omega) (by omega)) (je q k (by omega)) ?_
     refine ae (k + 1) ?_ ?_ ?_
     ·simp only [go_sem]; simp
     ·refine ⟨h, ?_⟩
      rw [hq, hn]; simp [hc2]
     ·omega
    ·have hc2 : ¬ refs q k = 1 := by omega
     have hf : okQ q = false := by unfold okQ; rw [hq, hn]; simp [hc2, he2]
     have q0 := @h; have q1 := @hn; have q2 := @he; have q3 := @hc; have q4 := @decide_true; have q5 := @decide_false; refine rf (dJ q[k] k (by omega) (by omega) (by omega)) (je q k (by omega)) ?_
     exact aa ⟨⟨_, rfl, by simp only [go_sem, hf]⟩, trivial⟩
   ·have he2 : q.length ≤ k + 1 := by omega
    have q0 := @h; have q1 := @hn; have q2 := @he; have q3 := @decide_true; have q4 := @decide_false; refine zu (dJ q[k] k (by omega) (by omega) (by omega)) (je q k (by omega)) ?_
    refine ae (k + 1) ?_ ?_ ?_
    ·simp only [go_sem]; simp
    ·refine ⟨h, ?_⟩
     rw [hq, hn]; simp [he2]
    ·omega
  ·simp only [decide_eq_false_iff_not] at h
   have e : k = q.length := by omega
   have hq' : (List.range q.length).all (qf q) = true := by
    rw [hq, List.drop_of_length_le (by simp [e])]; rfl
   refine cH (aN q.length 1 9) ?_
   exact aa ⟨⟨_, rfl, by simp only [go_sem, okQ, hq', Bool.true_and]⟩, trivial⟩
end Go.Proofs.YtddimbdeggomaaaGreat
end
