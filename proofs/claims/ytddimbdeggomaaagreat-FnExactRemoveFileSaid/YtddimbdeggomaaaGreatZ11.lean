/- Joined texts. -/
import Derived.Test.YtddimbdeggomaaaGreatZ07
import Derived.Test.YtddimbdeggomaaaGreatZ09
import Derived.Test.YtddimbdeggomaaaGreatZ10
import Derived.Test.YtddimbdeggomaaaGreatZ08
import Derived.Test.YtddimbdeggomaaaGreatZ04
set_option linter.all false
section
set_option maxRecDepth 100000
set_option maxHeartbeats 4000000
namespace Go.Proofs.YtddimbdeggomaaaGreat
open Go Go.Sx Go.RowKit Go.Proofs
theorem wo1_ok (b : List Int) (x : Int) (hb : b.length ≤ 67108864) : FnC Tryz.prog 316 [oi x, .o (.q [.sl (b.map encI)])] (ob (hasI b x)) := by
 refine ent Tryz.func316 rfl Tryz.call316 rfl (fun C => ?_); simp only [go_sem, st0, Tryz.ntmps316]
 refine w0_1 (containsI_ok b x hb) ?_
 exact retK_ret ⟨⟨_, rfl, by simp only [go_sem]⟩, trivial⟩
theorem without_ok (a b : List Int) (ha : a.length ≤ 67108864) (hb : b.length ≤ 67108864) : FnC Tryz.prog 295 [.o (.d (.sl (a.map encI))), .o (.d (.sl (b.map encI)))] (.o (.w 3 1 ((subI a b).map encI))) := by
 refine ent Tryz.func295 rfl Tryz.call295 rfl (fun C => ?_); simp only [go_sem, st0, Tryz.ntmps295]
 repeat' (with_reducible first | refine nY ?_ | (refine mX ?_; try simp only [go_sem]) | refine kO ?_ (by decide) | refine regd (by kernel_rfl) ?_ | (refine cC (cloneInt_ok a ha) ?_ ?_; focus simp only [go_sem, and_self]; done) | (refine cali (deleteFuncI_ok _ [.sl (b.map encI)] (hasI b) a (fun s _ => wo1_ok b s hb) ha) ?_ ?_ ?_ (uX ?_); (focus simp only [go_sem]; done); (focus simp only [go_sem]; done); (focus simp only [go_sem]; done)) | (refine calj (deleteFuncI_ok _ [.sl (b.map encI)] (hasI b) a (fun s _ => wo1_ok b s hb) ha) ?_ ?_ ?_ (uX ?_); (focus simp only [go_sem]; done); (focus simp only [go_sem]; done); (focus simp only [go_sem]; done)) | (refine And.intro ?_ ?_; focus omega))
 exact retK_ret ⟨⟨_, rfl, by simp only [go_sem, subI]⟩, trivial⟩
theorem implDiffIDs_ok (a b : List Int) (ha : a.length ≤ 67108864) (hb : b.length ≤ 67108864) : FnC Tryz.prog 255 [.o (.d (.sl (a.map encI))), .o (.d (.sl (b.map encI)))] (.t [(false, [.w 3 1 ((subI b a).map encI)]), (false, [.w 3 1 ((subI a b).map encI)])]) := by
 refine ent Tryz.func255 rfl Tryz.call255 rfl (fun C => ?_); simp only [go_sem, st0, Tryz.ntmps255]
 refine w0_2 (without_ok b a hb ha) (without_ok a b ha hb) ?_
 exact retK_ret ⟨⟨_, rfl, by simp only [go_sem]⟩, by simp [notOne]⟩
theorem subI_take (a b : List Int) (k : Nat) (h : k < a.length) : subI (a.take (k + 1)) b = subI (a.take k) b ++ (if hasI b a[k] then [] else [a[k]]) := by
 unfold subI
 rw [List.take_succ_eq_append_getElem h, List.filter_append]
 cases hc : hasI b a[k]
 ·simp [hc]
 ·simp [hc]
theorem specDiffIDs_ok (a b : List Int) (ha : a.length ≤ 67108864) (hb : b.length ≤ 67108864) : FnC Tryz.prog 250 [.o (.d (.sl (a.map encI))), .o (.d (.sl (b.map encI)))] (.t [(false, [.w 3 1 ((subI b a).map encI)]), (false, [.w 3 1 ((subI a b).map encI)])]) := by
 refine ent Tryz.func250 rfl Tryz.call250 rfl (fun C => ?_); simp only [go_sem, st0, Tryz.ntmps250]
 refine w0_0 ?_
 refine WP_lp (α := Nat) (fun k => [(6, .o (.s 0)), (10, .o .u), (8, oi k)]) (fun k => [(0, .row 3 1 ((subI (b.take k) a).map encI) true)]) (fun k => k ≤ b.length) (fun k => b.length - k) 0 (fun _ => ?_) ?_ ?_ (fun k hk => ?_)
 ·simp only [go_sem]
 ·simp only [go_sem]; simp [subI]
 ·simp
 ·simp only [go_sem]
  refine w0_0 ?_
  refine cnd rfl (fun h1 => ?_) (fun h1 => ?_)
  ·simp only [decide_eq_true_eq, Int.ofNat_lt] at h1
   have ht := subI_take b a k h1
   have hl := subI_len (b.take k) a
   rw [List.length_take] at hl
   have hl1 : (subI (b.take k) a).length + 1 ≤ 140737488355328 := by omega
   have hl2 : ((subI (b.take k) a).length + 1) * 8 ≤ 140737488355328 := by omega
   cases hv : hasI a b[k]
   all_goals
    rw [hv] at ht
    have q0 := @h1; have q1 := @hv; have q2 := @hl1; have q3 := @hl2; refine w4_1 (specContainsID_ok a b[k] ha) ?_
    refine L_next (k + 1) ?_ ?_ ?_
    ·simp only [go_sem, ht, List.map_append]; simp
    ·omega
    ·omega
  ·simp only [decide_eq_false_iff_not] at h1
   have e : k = b.length := by omega
   subst e
   rw [List.take_length]
   refine w0_0 ?_
   refine WP_lp (α := Nat) (fun k => [(7, .o (.s 1)), (11, .o .u), (9, oi k)]) (fun k => [(1, .row 3 1 ((subI (a.take k) b).map encI) true)]) (fun k => k ≤ a.length) (fun k => a.length - k) 0 (fun _ => ?_) ?_ ?_ (fun k hk => ?_)
   ·simp only [go_sem]
   ·simp only [go_sem]; simp [subI]
   ·simp
   ·simp only [go_sem]
    refine w0_0 ?_
    refine cnd rfl (fun h1 => ?_) (fun h1 => ?_)
    ·simp only [decide_eq_true_eq, Int.ofNat_lt] at h1
     have ht := subI_take a b k h1
     have hl := subI_len (a.take k) b
     rw [List.length_take] at hl
     have hl1 : (subI (a.take k) b).length + 1 ≤ 140737488355328 := by omega
     have hl2 : ((subI (a.take k) b).length + 1) * 8 ≤ 140737488355328 := by omega
     cases hv : hasI b a[k]
     all_goals
      rw [hv] at ht
      have q0 := @h1; have q1 := @hv; have q2 := @hl1; have q3 := @hl2; refine w4_1 (specContainsID_ok b a[k] hb) ?_
      refine L_next (k + 1) ?_ ?_ ?_
      ·simp only [go_sem, ht, List.map_append]; simp
      ·omega
      ·omega
    ·simp only [decide_eq_false_iff_not] at h1
     have e : k = a.length := by omega
     subst e
     rw [List.take_length]
     refine w0_0 ?_
     exact retK_ret ⟨⟨_, rfl, by simp only [go_sem]⟩, by simp [notOne]⟩
theorem implDiffR_ok (a b : List TResult) (ha : wResultS a ≤ 4300000) (hb : wResultS b ≤ 67108864) : FnC Tryz.prog 188 [.o (.d (.sl (a.map encResult))), .o (.d (.sl (b.map encResult)))] (.o (.w 158 3 ((diffR a b).map encDiff))) := by
 have hb0 : b.length + wsum wResult b ≤ 67108864 := hb
 refine ent Tryz.func188 rfl Tryz.call188 rfl (fun C => ?_); simp only [go_sem, st0, Tryz.ntmps188]
 refine w0_0 ?_
 refine WP_lp (α := Nat) (fun k => [(5, .o (.s 0)), (10, .o .u), (13, oi k)]) (fun k => [(0, .row 158 3 ((diffR a (b.take k)).map encDiff) true)]) (fun k => k ≤ b.length) (fun k => b.length - k) 0 (fun _ => ?_) ?_ ?_ (fun k hk => ?_)
 ·simp only [go_sem]
 ·simp only [go_sem]; simp [diffR]
 ·simp
 ·simp only [go_sem]
  refine w0_0 ?_
  refine cnd rfl (fun h1 => ?_) (fun h1 => ?_)
  ·simp only [decide_eq_true_eq, Int.ofNat_lt] at h1
   have ht := diffR_take a b k h1
   have hw := wsum_get wResult b h1
   have ex : wResult b[k] = b[k].fName.size + b[k].fIDs.length := rfl
   have hr := resIDs_w b[k].fName a
   have hl := diffR_len a b k
   have hl1 : (diffR a (b.take k)).length + 1 ≤ 140737488355328 := by omega
   have hl2 : ((diffR a (b.take k)).length + 1) * 64 ≤ 140737488355328 := by omega
   have hs1 := subI_len b[k].fIDs (resIDs b[k].fName a)
   have hs2 := subI_len (resIDs b[k].fName a) b[k].fIDs
   have hI : ((subI b[k].fIDs (resIDs b[k].fName a)).length : Int) + ((subI (resIDs b[k].fName a) b[k].fIDs).length : Int) = (((subI b[k].fIDs (resIDs b[k].fName a)).length + (subI (resIDs b[k].fName a) b[k].fIDs).length : Nat) : Int) := by omega
   by_cases hv : 0 < (subI b[k].fIDs (resIDs b[k].fName a)).length + (subI (resIDs b[k].fName a) b[k].fIDs).length
   ·have hz : (0 : Int) < (((subI b[k].fIDs (resIDs b[k].fName a)).length + (subI (resIDs b[k].fName a) b[k].fIDs).length : Nat) : Int) := by omega
    have hd : diff1 a b[k] = [⟨b[k].fName, subI b[k].fIDs (resIDs b[k].fName a), subI (resIDs b[k].fName a) b[k].fIDs⟩] := by unfold diff1; rw [if_pos hv]
    rw [hd] at ht
    repeat' (with_reducible first | refine nY ?_ | (refine mX ?_; try simp only [go_sem, h1, hl1, hl2, hI, hz, decide_true]) | refine kO ?_ (by decide) | (apply rE [3,6] [] [0,1,2,4,5] [0,1,2,4,5] ((.c 3 [] [4,5] (.c 6 [7,8,9,10,11] [7,8,9,10,11] .n .n) .n)) (by simp only [go_sem]; rfl) (by simp only [go_sem]; rfl) (by simp only [go_sem]; rfl) (by decide +kernel); (focus simp only [go_sem]; done)) | exact tt_nil | (refine tt_cons (uX ?_) ?_) | refine tn_leaf (aX ?_) ?_ | refine tn_node (aX ?_) ?_ | exact meet_eq | (refine oG ?_; (focus simp only [go_sem]; done)) | (refine uA ?_; simp only [go_sem, h1, hl1, hl2, hI, hz, decide_true]; (repeat' first | omega | refine And.intro ?_ ?_); done) | refine regd (by kernel_rfl) ?_ | (refine cC (implResIDs_ok a b[k].fName (by omega)) ?_ ?_; focus simp only [go_sem, and_self]; done) | (refine cC (implDiffIDs_ok (resIDs b[k].fName a) b[k].fIDs (by omega) (by omega)) ?_ ?_; focus simp only [go_sem, and_self]; done) | (refine And.intro ?_ ?_; focus omega))
    refine L_next (k + 1) ?_ ?_ ?_
    ·simp only [go_sem, ht, List.map_append]; simp [encDiff]
    ·omega
    ·omega
   ·have hz : ¬ (0 : Int) < (((subI b[k].fIDs (resIDs b[k].fName a)).length + (subI (resIDs b[k].fName a) b[k].fIDs).length : Nat) : Int) := by omega
    have hd : diff1 a b[k] = [] := by unfold diff1; rw [if_neg hv]
    rw [hd, List.append_nil] at ht
    repeat' (with_reducible first | refine nY ?_ | (refine mX ?_; try simp only [go_sem, h1, hI, hz, decide_false]) | refine kO ?_ (by decide) | (apply rE [3,6] [] [0,1,2,4,5] [0,1,2,4,5] ((.c 3 [] [4,5] (.c 6 [7,8,9,10,11] [7,8,9,10,11] .n .n) .n)) (by simp only [go_sem]; rfl) (by simp only [go_sem]; rfl) (by simp only [go_sem]; rfl) (by decide +kernel); (focus simp only [go_sem]; done)) | exact tt_nil | (refine tt_cons (uX ?_) ?_) | refine tn_leaf (aX ?_) ?_ | refine tn_node (aX ?_) ?_ | exact meet_eq | (refine oG ?_; (focus simp only [go_sem]; done)) | (refine uA ?_; simp only [go_sem, h1, hI, hz, decide_false]; (repeat' first | omega | refine And.intro ?_ ?_); done) | refine regd (by kernel_rfl) ?_ | (refine cC (implResIDs_ok a b[k].fName (by omega)) ?_ ?_; focus simp only [go_sem, and_self]; done) | (refine cC (implDiffIDs_ok (resIDs b[k].fName a) b[k].fIDs (by omega) (by omega)) ?_ ?_; focus simp only [go_sem, and_self]; done) | (refine And.intro ?_ ?_; focus omega))
    refine L_next (k + 1) ?_ ?_ ?_
    ·simp only [go_sem, ht]; simp
    ·omega
    ·omega
  ·simp only [decide_eq_false_iff_not] at h1
   have e : k = b.length := by omega
   subst e
   refine w0_0 ?_
   exact retK_ret ⟨⟨_, rfl, by simp only [go_sem, List.take_length]⟩, trivial⟩
theorem specDiffR_ok (a b : List TResult) (ha : wResultS a ≤ 4300000) (hb : wResultS b ≤ 67108864) : FnC Tryz.prog 182 [.o (.d (.sl (a.map encResult))), .o (.d (.sl (b.map encResult)))] (.o (.w 158 3 ((diffR a b).map encDiff))) := by
 have hb0 : b.length + wsum wResult b ≤ 67108864 := hb
 refine ent Tryz.func182 rfl Tryz.call182 rfl (fun C => ?_); simp only [go_sem, st0, Tryz.ntmps182]
 refine w0_0 ?_
 refine WP_lp (α := Nat) (fun k => [(5, .o (.s 0)), (9, .o .u), (6, oi k)]) (fun k => [(0, .row 158 3 ((diffR a (b.take k)).map encDiff) true)]) (fun k => k ≤ b.length) (fun k => b.length - k) 0 (fun _ => ?_) ?_ ?_ (fun k hk => ?_)
 ·simp only [go_sem]
 ·simp only [go_sem]; simp [diffR]
 ·simp
 ·simp only [go_sem]
  refine w0_0 ?_
  refine cnd rfl (fun h1 => ?_) (fun h1 => ?_)
  ·simp only [decide_eq_true_eq, Int.ofNat_lt] at h1
   have ht := diffR_take a b k h1
   have hw := wsum_get wResult b h1
   have ex : wResult b[k] = b[k].fName.size + b[k].fIDs.length := rfl
   have hr := resIDs_w b[k].fName a
   have hl := diffR_len a b k
   have hl1 : (diffR a (b.take k)).length + 1 ≤ 140737488355328 := by omega
   have hl2 : ((diffR a (b.take k)).length + 1) * 64 ≤ 140737488355328 := by omega
   have hs1 := subI_len b[k].fIDs (resIDs b[k].fName a)
   have hs2 := subI_len (resIDs b[k].fName a) b[k].fIDs
   have hI : ((subI b[k].fIDs (resIDs b[k].fName a)).length : Int) + ((subI (resIDs b[k].fName a) b[k].fIDs).length : Int) = (((subI b[k].fIDs (resIDs b[k].fName a)).length + (subI (resIDs b[k].fName a) b[k].fIDs).length : Nat) : Int) := by omega
   by_cases hv : 0 < (subI b[k].fIDs (resIDs b[k].fName a)).length + (subI (resIDs b[k].fName a) b[k].fIDs).length
   ·have hd : diff1 a b[k] = [⟨b[k].fName, subI b[k].fIDs (resIDs b[k].fName a), subI (resIDs b[k].fName a) b[k].fIDs⟩] := by unfold diff1; rw [if_pos hv]
    rw [hd] at ht
    by_cases hz1 : 0 < (subI b[k].fIDs (resIDs b[k].fName a)).length
    ·have hz : (0 : Int) < ((subI b[k].fIDs (resIDs b[k].fName a)).length : Int) := by omega
     repeat' (with_reducible first | refine nY ?_ | (refine mX ?_; try simp only [go_sem, h1, hl1, hl2, hz, decide_true]) | refine kO ?_ (by decide) | (apply rE [6,12] [] [0,1,2,3,4,5,7,8,9,10,11] [0,1,2,3,4,5,7,8,9,10,11] ((.c 6 [] [7,8,9,10,11] (.c 12 [13,14,15,16,17] [13,14,15,16,17] .n .n) .n)) (by simp only [go_sem]; rfl) (by simp only [go_sem]; rfl) (by simp only [go_sem]; rfl) (by decide +kernel); (focus simp only [go_sem]; done)) | exact tt_nil | (refine tt_cons (uX ?_) ?_) | refine tn_leaf (aX ?_) ?_ | refine tn_node (aX ?_) ?_ | exact meet_eq | (refine oG ?_; (focus simp only [go_sem]; done)) | (refine uA ?_; simp only [go_sem, h1, hl1, hl2, hz, decide_true]; (repeat' first | omega | refine And.intro ?_ ?_); done) | refine regd (by kernel_rfl) ?_ | (refine cC (specResIDs_ok a b[k].fName (by omega)) ?_ ?_; focus simp only [go_sem, and_self]; done) | (refine cC (specDiffIDs_ok (resIDs b[k].fName a) b[k].fIDs (by omega) (by omega)) ?_ ?_; focus simp only [go_sem, and_self]; done) | (refine And.intro ?_ ?_; focus omega))
     refine L_next (k + 1) ?_ ?_ ?_
     ·simp only [go_sem, ht, List.map_append]; simp [encDiff]
     ·omega
     ·omega
    ·have hz : ¬ (0 : Int) < ((subI b[k].fIDs (resIDs b[k].fName a)).length : Int) := by omega
     have hy : (0 : Int) < ((subI (resIDs b[k].fName a) b[k].fIDs).length : Int) := by omega
     repeat' (with_reducible first | refine nY ?_ | (refine mX ?_; try simp only [go_sem, h1, hl1, hl2, hz, hy, decide_true, decide_false]) | refine kO ?_ (by decide) | (apply rE [6,12] [] [0,1,2,3,4,5,7,8,9,10,11] [0,1,2,3,4,5,7,8,9,10,11] ((.c 6 [] [7,8,9,10,11] (.c 12 [13,14,15,16,17] [13,14,15,16,17] .n .n) .n)) (by simp only [go_sem]; rfl) (by simp only [go_sem]; rfl) (by simp only [go_sem]; rfl) (by decide +kernel); (focus simp only [go_sem]; done)) | exact tt_nil | (refine tt_cons (uX ?_) ?_) | refine tn_leaf (aX ?_) ?_ | refine tn_node (aX ?_) ?_ | exact meet_eq | (refine oG ?_; (focus simp only [go_sem]; done)) | (refine uA ?_; simp only [go_sem, h1, hl1, hl2, hz, hy, decide_true, decide_false]; (repeat' first | omega | refine And.intro ?_ ?_); done) | refine regd (by kernel_rfl) ?_ | (refine cC (specResIDs_ok a b[k].fName (by omega)) ?_ ?_; focus simp only [go_sem, and_self]; done) | (refine cC (specDiffIDs_ok (resIDs b[k].fName a) b[k].fIDs (by omega) (by omega)) ?_ ?_; focus simp only [go_sem, and_self]; done) | (refine And.intro ?_ ?_; focus omega))
     refine L_next (k + 1) ?_ ?_ ?_
     ·simp only [go_sem, ht, List.map_append]; simp [encDiff]
     ·omega
     ·omega
   ·have hz : ¬ (0 : Int) < ((subI b[k].fIDs (resIDs b[k].fName a)).length : Int) := by omega
    have hy : ¬ (0 : Int) < ((subI (resIDs b[k].fName a) b[k].fIDs).length : Int) := by omega
    have hd : diff1 a b[k] = [] := by unfold diff1; rw [if_neg hv]
    rw [hd, List.append_nil] at ht
    repeat' (with_reducible first | refine nY ?_ | (refine mX ?_; try simp only [go_sem, h1, hz, hy, decide_false]) | refine kO ?_ (by decide) | (apply rE [6,12] [] [0,1,2,3,4,5,7,8,9,10,11] [0,1,2,3,4,5,7,8,9,10,11] ((.c 6 [] [7,8,9,10,11] (.c 12 [13,14,15,16,17] [13,14,15,16,17] .n .n) .n)) (by simp only [go_sem]; rfl) (by simp only [go_sem]; rfl) (by simp only [go_sem]; rfl) (by decide +kernel); (focus simp only [go_sem]; done)) | exact tt_nil | (refine tt_cons (uX ?_) ?_) | refine tn_leaf (aX ?_) ?_ | refine tn_node (aX ?_) ?_ | exact meet_eq | (refine oG ?_; (focus simp only [go_sem]; done)) | (refine uA ?_; simp only [go_sem, h1, hz, hy, decide_false]; (repeat' first | omega | refine And.intro ?_ ?_); done) | refine regd (by kernel_rfl) ?_ | (refine cC (specResIDs_ok a b[k].fName (by omega)) ?_ ?_; focus simp only [go_sem, and_self]; done) | (refine cC (specDiffIDs_ok (resIDs b[k].fName a) b[k].fIDs (by omega) (by omega)) ?_ ?_; focus simp only [go_sem, and_self]; done) | (refine And.intro ?_ ?_; focus omega))
    refine L_next (k + 1) ?_ ?_ ?_
    ·simp only [go_sem, ht]; simp
    ·omega
    ·omega
  ·simp only [decide_eq_false_iff_not] at h1
   have e : k = b.length := by omega
   subst e
   refine w0_0 ?_
   exact retK_ret ⟨⟨_, rfl, by simp only [go_sem, List.take_length]⟩, trivial⟩
end Go.Proofs.YtddimbdeggomaaaGreat
end
section
namespace Go.Proofs.YtddimbdeggomaaaGreat
open Go Go.Sx Go.RowKit Go.Proofs
theorem allT' {α : Type} (l : List α) : (l.all fun _ => true) = true := by simp
def fstIx {α : Type} (p : α → Bool) : List α → Nat
 | [] => 0
 | x :: l => if p x then 0 else fstIx p l + 1
theorem fstIx_le {α : Type} (p : α → Bool) : ∀ l : List α, fstIx p l ≤ l.length
 | [] => by simp [fstIx]
 | x :: l => by
  have := fstIx_le p l
  unfold fstIx
  split <;> simp <;> omega
theorem idxP_fst {α : Type} (p : α → Bool) : ∀ (l : List α) (k : Nat), (idxP p l k < 0 ∧ idxP p l k = -1 ∧ fstIx p l = l.length) ∨ (idxP p l k = ((k + fstIx p l : Nat) : Int) ∧ fstIx p l < l.length)
 | [], k => .inl ⟨by simp [idxP], rfl, rfl⟩
 | x :: l, k => by
  unfold idxP fstIx
  cases hx : p x with
  | true => exact .inr ⟨by simp, by simp⟩
  | false =>
   rcases idxP_fst p l (k + 1) with ⟨h0, h1, h2⟩ | ⟨h1, h2⟩
   ·exact .inl ⟨by simpa using h0, by simpa using h1, by simp [h2]⟩
   ·exact .inr ⟨by simp only [Bool.false_eq_true, if_false]; rw [h1]; congr 1; omega, by simp; omega⟩
theorem fstIx_drop {α : Type} (p : α → Bool) (l : List α) (k : Nat) (h : k < l.length) : fstIx p (l.drop k) = if p l[k] then 0 else fstIx p (l.drop (k + 1)) + 1 := by
 rw [List.drop_eq_getElem_cons h, fstIx]
def insAt {α : Type} (i : Nat) (x : α) (l : List α) : List α := l.take i ++ x :: l.drop i
theorem insAt_len {α : Type} (i : Nat) (x : α) (l : List α) (h : i ≤ l.length) : (insAt i x l).length = l.length + 1 := by simp [insAt]; omega
end Go.Proofs.YtddimbdeggomaaaGreat
end
section
set_option maxRecDepth 100000
set_option maxHeartbeats 4000000
namespace Go.Proofs.YtddimbdeggomaaaGreat
open Go Go.Sx Go.RowKit Go.Proofs
theorem cloneStr_ok (l : List ByteArray) (hl : l.length ≤ 4300000) : FnC Tryz.prog 203 [.o (.d (.sl (l.map encS)))] (.o (.w 9 1 (l.map encS))) := by
 refine ent Tryz.func203 rfl Tryz.call203 rfl (fun C => ?_); simp only [go_sem, st0, Tryz.ntmps203]
 refine w0_0 ?_
 intro b hb
 refine w0_0 ?_
 refine cnd rfl (fun h1 => ?_) (fun h1 => ?_)
 ·have e := hb h1
  simp only [List.map_eq_nil_iff] at e
  subst e
  refine w0_0 ?_
  exact retK_ret ⟨⟨_, rfl, by simp only [go_sem]⟩, trivial⟩
 ·refine w0_0 ?_
  exact retK_ret ⟨⟨_, rfl, by simp only [go_sem, allT']⟩, trivial⟩
end Go.Proofs.YtddimbdeggomaaaGreat
end
section
set_option maxRecDepth 100000
set_option maxHeartbeats 4000000
namespace Go.Proofs.YtddimbdeggomaaaGreat
open Go Go.Sx Go.RowKit Go.Proofs
theorem cloneAttr_ok (l : List TAttr) (hl : l.length ≤ 4300000) : FnC Tryz.prog 227 [.o (.d (.sl (l.map encAttr)))] (.o (.w 181 4 (l.map encAttr))) := by
 refine ent Tryz.func227 rfl Tryz.call227 rfl (fun C => ?_); simp only [go_sem, st0, Tryz.ntmps227]
 refine w0_0 ?_
 intro b hb
 refine w0_0 ?_
 refine cnd rfl (fun h1 => ?_) (fun h1 => ?_)
 ·have e := hb h1
  simp only [List.map_eq_nil_iff] at e
  subst e
  refine w0_0 ?_
  exact retK_ret ⟨⟨_, rfl, by simp only [go_sem]⟩, trivial⟩
 ·refine w0_0 ?_
  exact retK_ret ⟨⟨_, rfl, by simp only [go_sem, allT']⟩, trivial⟩
theorem cloneField_ok (l : List TField) (hl : l.length ≤ 4300000) : FnC Tryz.prog 173 [.o (.d (.sl (l.map encField)))] (.o (.w 193 2 (l.map encField))) := by
 refine ent Tryz.func173 rfl Tryz.call173 rfl (fun C => ?_); simp only [go_sem, st0, Tryz.ntmps173]
 refine w0_0 ?_
 intro b hb
 refine w0_0 ?_
 refine cnd rfl (fun h1 => ?_) (fun h1 => ?_)
 ·have e := hb h1
  simp only [List.map_eq_nil_iff] at e
  subst e
  refine w0_0 ?_
  exact retK_ret ⟨⟨_, rfl, by simp only [go_sem]⟩, trivial⟩
 ·refine w0_0 ?_
  exact retK_ret ⟨⟨_, rfl, by simp only [go_sem, allT']⟩, trivial⟩
theorem cloneNode_ok (l : List TNode) (hl : l.length ≤ 4300000) : FnC Tryz.prog 248 [.o (.d (.sl (l.map encNode)))] (.o (.w 199 7 (l.map encNode))) := by
 refine ent Tryz.func248 rfl Tryz.call248 rfl (fun C => ?_); simp only [go_sem, st0, Tryz.ntmps248]
 refine w0_0 ?_
 intro b hb
 refine w0_0 ?_
 refine cnd rfl (fun h1 => ?_) (fun h1 => ?_)
 ·have e := hb h1
  simp only [List.map_eq_nil_iff] at e
  subst e
  refine w0_0 ?_
  exact retK_ret ⟨⟨_, rfl, by simp only [go_sem]⟩, trivial⟩
 ·refine w0_0 ?_
  exact retK_ret ⟨⟨_, rfl, by simp only [go_sem, allT']⟩, trivial⟩
theorem indexFuncDir_ok (f : Nat) (c : List D) (p : TDir → Bool) (l : List TDir) (hf : ∀ s ∈ l, FnC Tryz.prog f [gDir s, .o (.q c)] (ob (p s))) (hl : l.length ≤ 8388608) : FnC Tryz.prog 199 [.o (.d (.sl (l.map encDir))), .o (.f f [c])] (oi (idxP p l 0)) := by
 refine ent Tryz.func199 rfl Tryz.call199 rfl (fun C => ?_); simp only [go_sem, st0, Tryz.ntmps199]
 refine w0_0 ?_
 refine WP_lp (α := Nat) (fun k => [(8, oi k)]) (fun _ => []) (fun k => k ≤ l.length ∧ idxP p l 0 = idxP p (l.drop k) k) (fun k => l.length - k) 0 (fun _ => ?_) ?_ ?_ (fun k hk => ?_)
 ·simp only [go_sem]
 ·simp only [go_sem]; simp
 ·simp
 ·obtain ⟨hk, hq⟩ := hk
  simp only [go_sem]
  refine w0_0 ?_
  refine cnd rfl (fun h => ?_) (fun h => ?_)
  ·simp only [decide_eq_true_eq, Int.ofNat_lt] at h
   have hd := List.drop_eq_getElem_cons h
   rw [hd, idxP] at hq
   have q0 := @h; refine w1_1 (hf l[k] (List.getElem_mem h)) ?_
   refine cnd rfl (fun h2 => ?_) (fun h2 => ?_)
   ·refine w0_0 ?_
    exact retK_ret ⟨⟨_, rfl, by simp only [go_sem, hq, h2]⟩, trivial⟩
   ·refine w0_0 ?_
    refine L_next (k + 1) ?_ ?_ ?_
    ·simp only [go_sem]; simp
    ·rw [hq, h2]; exact ⟨h, by simp⟩
    ·omega
  ·simp only [decide_eq_false_iff_not] at h
   have e : k = l.length := by omega
   subst e
   simp only [List.drop_length, idxP] at hq
   refine w0_0 ?_
   exact retK_ret ⟨⟨_, rfl, by simp only [go_sem, hq]⟩, trivial⟩
theorem indexFuncFile_ok (f : Nat) (c : List D) (p : TFile → Bool) (l : List TFile) (hf : ∀ s ∈ l, FnC Tryz.prog f [gFile s, .o (.q c)] (ob (p s))) (hl : l.length ≤ 8388608) : FnC Tryz.prog 256 [.o (.d (.sl (l.map encFile))), .o (.f f [c])] (oi (idxP p l 0)) := by
 refine ent Tryz.func256 rfl Tryz.call256 rfl (fun C => ?_); simp only [go_sem, st0, Tryz.ntmps256]
 refine w0_0 ?_
 refine WP_lp (α := Nat) (fun k => [(8, oi k)]) (fun _ => []) (fun k => k ≤ l.length ∧ idxP p l 0 = idxP p (l.drop k) k) (fun k => l.length - k) 0 (fun _ => ?_) ?_ ?_ (fun k hk => ?_)
 ·simp only [go_sem]
 ·simp only [go_sem]; simp
 ·simp
 ·obtain ⟨hk, hq⟩ := hk
  simp only [go_sem]
  refine w0_0 ?_
  refine cnd rfl (fun h => ?_) (fun h => ?_)
  ·simp only [decide_eq_true_eq, Int.ofNat_lt] at h
   have hd := List.drop_eq_getElem_cons h
   rw [hd, idxP] at hq
   have q0 := @h; refine w1_1 (hf l[k] (List.getElem_mem h)) ?_
   refine cnd rfl (fun h2 => ?_) (fun h2 => ?_)
   ·refine w0_0 ?_
    exact retK_ret ⟨⟨_, rfl, by simp only [go_sem, hq, h2]⟩, trivial⟩
   ·refine w0_0 ?_
    refine L_next (k + 1) ?_ ?_ ?_
    ·simp only [go_sem]; simp
    ·rw [hq, h2]; exact ⟨h, by simp⟩
    ·omega
  ·simp only [decide_eq_false_iff_not] at h
   have e : k = l.length := by omega
   subst e
   simp only [List.drop_length, idxP] at hq
   refine w0_0 ?_
   exact retK_ret ⟨⟨_, rfl, by simp only [go_sem, hq]⟩, trivial⟩
end Go.Proofs.YtddimbdeggomaaaGreat
end
section
set_option maxRecDepth 100000
set_option maxHeartbeats 4000000
namespace Go.Proofs.YtddimbdeggomaaaGreat
open Go Go.Sx Go.RowKit Go.Proofs
theorem cpFile_ok (f : TFile) (h : f.fAttrs.length ≤ 4300000) : FnC Tryz.prog 184 [gFile f] (rFile f) := by
 refine ent Tryz.func184 rfl Tryz.call184 rfl (fun C => ?_); simp only [go_sem, st0, Tryz.ntmps184]
 refine w0_1 (cloneAttr_ok f.fAttrs h) ?_
 exact retK_ret ⟨⟨_, rfl, by simp only [go_sem]⟩, trivial⟩
theorem cpDir_ok (x : TDir) (h : x.fQuery.length ≤ 4300000) : FnC Tryz.prog 175 [gDir x] (rDir x) := by
 refine ent Tryz.func175 rfl Tryz.call175 rfl (fun C => ?_); simp only [go_sem, st0, Tryz.ntmps175]
 refine w0_1 (cloneNode_ok x.fQuery h) ?_
 exact retK_ret ⟨⟨_, rfl, by simp only [go_sem]⟩, trivial⟩
theorem l04Cp_ok (f : TFile) (h : f.fAttrs.length ≤ 4300000) : FnC Tryz.prog 172 [gFile f] (rFile f) := by
 refine ent Tryz.func172 rfl Tryz.call172 rfl (fun C => ?_); simp only [go_sem, st0, Tryz.ntmps172]
 refine w0_0 ?_
 exact retK_ret ⟨⟨_, rfl, by simp only [go_sem]⟩, trivial⟩
theorem cpFiles_ok (l : List TFile) (hl : wFileS l ≤ 4300000) : FnC Tryz.prog 174 [.o (.d (.sl (l.map encFile)))] (.o (.w 73 5 (l.map encFile))) := by
 unfold wFileS at hl
 refine ent Tryz.func174 rfl Tryz.call174 rfl (fun C => ?_); simp only [go_sem, st0, Tryz.ntmps174]
 refine w0_0 ?_
 refine WP_lp (α := Nat) (fun k => [(3, .o (.s 0)), (6, .o .u), (9, oi k)]) (fun k => [(0, .row 73 5 ((l.take k).map encFile) true)]) (fun k => k ≤ l.length) (fun k => l.length - k) 0 (fun _ => ?_) ?_ ?_ (fun k hk => ?_)
 ·simp only [go_sem]
 ·simp only [go_sem]; simp
 ·simp
 ·simp only [go_sem]
  refine w0_0 ?_
  refine cnd rfl (fun h1 => ?_) (fun h1 => ?_)
  ·simp only [decide_eq_true_eq, Int.ofNat_lt] at h1
   have hw := wsum_get wFile l h1
   have hx : l[k].fAttrs.length ≤ 4300000 := by
    have e : l[k].fAttrs.length ≤ wFile l[k] := by unfold wFile wAttrS; omega
    omega
   have ht := List.take_succ_eq_append_getElem h1
   have hn : (l.take k).length = k := by rw [List.length_take]; omega
   have q0 := @h1; have q1 := @hn; refine w2_1 (cpFile_ok l[k] hx) ?_
   refine L_next (k + 1) ?_ ?_ ?_
   ·simp only [go_sem, ht, List.map_append]; simp [encFile]
   ·omega
   ·omega
  ·simp only [decide_eq_false_iff_not] at h1
   have e : k = l.length := by omega
   subst e
   refine w0_0 ?_
   exact retK_ret ⟨⟨_, rfl, by simp only [go_sem, List.take_length]⟩, trivial⟩
theorem cpDirs_ok (l : List TDir) (hl : wDirS l ≤ 4300000) : FnC Tryz.prog 104 [.o (.d (.sl (l.map encDir)))] (.o (.w 93 2 (l.map encDir))) := by
 unfold wDirS at hl
 refine ent Tryz.func104 rfl Tryz.call104 rfl (fun C => ?_); simp only [go_sem, st0, Tryz.ntmps104]
 refine w0_0 ?_
 refine WP_lp (α := Nat) (fun k => [(3, .o (.s 0)), (6, .o .u), (9, oi k)]) (fun k => [(0, .row 93 2 ((l.take k).map encDir) true)]) (fun k => k ≤ l.length) (fun k => l.length - k) 0 (fun _ => ?_) ?_ ?_ (fun k hk => ?_)
 ·simp only [go_sem]
 ·simp only [go_sem]; simp
 ·simp
 ·simp only [go_sem]
  refine w0_0 ?_
  refine cnd rfl (fun h1 => ?_) (fun h1 => ?_)
  ·simp only [decide_eq_true_eq, Int.ofNat_lt] at h1
   have hw := wsum_get wDir l h1
   have hx : l[k].fQuery.length ≤ 4300000 := by
    have e : l[k].fQuery.length ≤ wDir l[k] := by unfold wDir wNodeS; omega
    omega
   have ht := List.take_succ_eq_append_getElem h1
   have hn : (l.take k).length = k := by rw [List.length_take]; omega
   have q0 := @h1; have q1 := @hn; refine w2_1 (cpDir_ok l[k] hx) ?_
   refine L_next (k + 1) ?_ ?_ ?_
   ·simp only [go_sem, ht, List.map_append]; simp [encDir]
   ·omega
   ·omega
  ·simp only [decide_eq_false_iff_not] at h1
   have e : k = l.length := by omega
   subst e
   refine w0_0 ?_
   exact retK_ret ⟨⟨_, rfl, by simp only [go_sem, List.take_length]⟩, trivial⟩
theorem cpStore_ok (s : TStore) (h : wStore s ≤ 4300000) : FnC Tryz.prog 103 [gStore s] (rStore s) := by
 have h1 : s.fSchema.length ≤ 4300000 := by unfold wStore wFieldS at h; omega
 have h2 : wFileS s.fFiles ≤ 4300000 := by unfold wStore at h; omega
 refine ent Tryz.func103 rfl Tryz.call103 rfl (fun C => ?_); simp only [go_sem, st0, Tryz.ntmps103]
 repeat' (with_reducible first | refine nY ?_ | (refine mX ?_; try simp only [go_sem]) | refine kO ?_ (by decide) | (apply rE [2,5,9] [] [0,1,3,4,6,7] [0,1,3,4,6,7] ((.c 2 [] [3,4,6,7] (.c 5 [8] [6,7,8] (.c 9 [] [] .n .n) .n) .n)) (by simp only [go_sem]; rfl) (by simp only [go_sem]; rfl) (by simp only [go_sem]; rfl) (by decide +kernel); (focus simp only [go_sem]; done)) | exact tt_nil | (refine tt_cons (uX ?_) ?_) | refine tn_leaf (aX ?_) ?_ | refine tn_node (aX ?_) ?_ | exact meet_eq | (refine oG ?_; (focus simp only [go_sem]; done)) | (refine uA ?_; simp only [go_sem]; (repeat' first | omega | refine And.intro ?_ ?_); done) | refine regd (by kernel_rfl) ?_ | (refine cC (cloneField_ok s.fSchema h1) ?_ ?_; focus simp only [go_sem, and_self]; done) | (refine cC (cpFiles_ok s.fFiles h2) ?_ ?_; focus simp only [go_sem, and_self]; done) | (refine And.intro ?_ ?_; focus omega))
 exact retK_ret ⟨⟨_, rfl, by simp only [go_sem]⟩, trivial⟩
theorem l11Cp_ok (l : List TDir) (hl : wDirS l ≤ 4300000) : FnC Tryz.prog 101 [.o (.d (.sl (l.map encDir)))] (.o (.w 93 2 (l.map encDir))) := by
 unfold wDirS at hl
 refine ent Tryz.func101 rfl Tryz.call101 rfl (fun C => ?_); simp only [go_sem, st0, Tryz.ntmps101]
 refine w0_0 ?_
 refine WP_lp (α := Nat) (fun k => [(3, .o (.s 0)), (5, .o .u), (4, oi k)]) (fun k => [(0, .row 93 2 ((l.take k).map encDir) true)]) (fun k => k ≤ l.length) (fun k => l.length - k) 0 (fun _ => ?_) ?_ ?_ (fun k hk => ?_)
 ·simp only [go_sem]
 ·simp only [go_sem]; simp
 ·simp
 ·simp only [go_sem]
  refine w0_0 ?_
  refine cnd rfl (fun h1 => ?_) (fun h1 => ?_)
  ·simp only [decide_eq_true_eq, Int.ofNat_lt] at h1
   have hw := wsum_get wDir l h1
   have hx : l[k].fQuery.length ≤ 4300000 := by
    have e : l[k].fQuery.length ≤ wDir l[k] := by unfold wDir wNodeS; omega
    omega
   have hx1 : l[k].fQuery.length ≤ 140737488355328 := by omega
   have hx2 : l[k].fQuery.length * 72 ≤ 140737488355328 := by omega
   have ht := List.take_succ_eq_append_getElem h1
   have hn : (l.take k).length = k := by rw [List.length_take]; omega
   repeat' (with_reducible first | refine nY ?_ | (refine mX ?_; try simp only [go_sem, h1, hn, hx1, hx2]) | refine kO ?_ (by decide) | (apply rE [6,12,14,15,16] [16] [0,1,2,3,4,5,7,8,9,10,11] [0,1,2,3,4,5,7,8,9,10,11] ((.c 6 [] [0,1,2,3,4,5,7,8,9,10,11] (.c 12 [13] [0,1,2,3,4,5,13] (.c 14 [] [0] (.c 15 [] [] (.c 16 [] [] .n .n) .n) .n) .n) .n)) (by simp only [go_sem]; rfl) (by simp only [go_sem]; rfl) (by simp only [go_sem]; rfl) (by decide +kernel); (focus simp only [go_sem]; done)) | exact tt_nil | (refine tt_cons (uX ?_) ?_) | refine tn_leaf (aX ?_) ?_ | refine tn_node (aX ?_) ?_ | exact meet_eq | (refine oG ?_; (focus simp only [go_sem]; done)) | (refine uA ?_; simp only [go_sem, h1, hn, hx1, hx2]; (repeat' first | omega | refine And.intro ?_ ?_); done) | refine regd (by kernel_rfl) ?_ | (refine And.intro ?_ ?_; focus omega))
   refine L_next (k + 1) ?_ ?_ ?_
   ·simp only [go_sem, ht, List.map_append]; simp [encDir]
   ·omega
   ·omega
  ·simp only [decide_eq_false_iff_not] at h1
   have e : k = l.length := by omega
   subst e
   refine w0_0 ?_
   exact retK_ret ⟨⟨_, rfl, by simp only [go_sem, List.take_length]⟩, trivial⟩
theorem l19Ans_ok (l : List TResult) (hl : wResultS l ≤ 4300000) : FnC Tryz.prog 180 [.o (.d (.sl (l.map encResult)))] (.o (.w 125 2 (l.map encResult))) := by
 unfold wResultS at hl
 refine ent Tryz.func180 rfl Tryz.call180 rfl (fun C => ?_); simp only [go_sem, st0, Tryz.ntmps180]
 refine w0_0 ?_
 refine WP_lp (α := Nat) (fun k => [(3, .o (.s 0)), (5, .o .u), (4, oi k)]) (fun k => [(0, .row 125 2 ((l.take k).map encResult) true)]) (fun k => k ≤ l.length) (fun k => l.length - k) 0 (fun _ => ?_) ?_ ?_ (fun k hk => ?_)
 ·simp only [go_sem]
 ·simp only [go_sem]; simp
 ·simp
 ·simp only [go_sem]
  refine w0_0 ?_
  refine cnd rfl (fun h1 => ?_) (fun h1 => ?_)
  ·simp only [decide_eq_true_eq, Int.ofNat_lt] at h1
   have hw := wsum_get wResult l h1
   have hx : l[k].fIDs.length ≤ 4300000 := by
    have e : l[k].fIDs.length ≤ wResult l[k] := by unfold wResult; omega
    omega
   have hx1 : l[k].fIDs.length ≤ 140737488355328 := by omega
   have hx2 : l[k].fIDs.length * 8 ≤ 140737488355328 := by omega
   have ht := List.take_succ_eq_append_getElem h1
   have hn : (l.take k).length = k := by rw [List.length_take]; omega
   repeat' (with_reducible first | refine nY ?_ | (refine mX ?_; try simp only [go_sem, h1, hn, hx1, hx2]) | refine kO ?_ (by decide) | (apply rE [6,12,14,15,16] [16] [0,1,2,3,4,5,7,8,9,10,11] [0,1,2,3,4,5,7,8,9,10,11] ((.c 6 [] [0,1,2,3,4,5,7,8,9,10,11] (.c 12 [13] [0,1,2,3,4,5,13] (.c 14 [] [0] (.c 15 [] [] (.c 16 [] [] .n .n) .n) .n) .n) .n)) (by simp only [go_sem]; rfl) (by simp only [go_sem]; rfl) (by simp only [go_sem]; rfl) (by decide +kernel); (focus simp only [go_sem]; done)) | exact tt_nil | (refine tt_cons (uX ?_) ?_) | refine tn_leaf (aX ?_) ?_ | refine tn_node (aX ?_) ?_ | exact meet_eq | (refine oG ?_; (focus simp only [go_sem]; done)) | (refine uA ?_; simp only [go_sem, h1, hn, hx1, hx2]; (repeat' first | omega | refine And.intro ?_ ?_); done) | refine regd (by kernel_rfl) ?_ | (refine And.intro ?_ ?_; focus omega))
   refine L_next (k + 1) ?_ ?_ ?_
   ·simp only [go_sem, ht, List.map_append]; simp [encResult]
   ·omega
   ·omega
  ·simp only [decide_eq_false_iff_not] at h1
   have e : k = l.length := by omega
   subst e
   refine w0_0 ?_
   exact retK_ret ⟨⟨_, rfl, by simp only [go_sem, List.take_length]⟩, trivial⟩
theorem cpResults_ok (l : List TResult) (hl : wResultS l ≤ 4300000) : FnC Tryz.prog 187 [.o (.d (.sl (l.map encResult)))] (.o (.w 125 2 (l.map encResult))) := by
 unfold wResultS at hl
 refine ent Tryz.func187 rfl Tryz.call187 rfl (fun C => ?_); simp only [go_sem, st0, Tryz.ntmps187]
 refine w0_0 ?_
 refine WP_lp (α := Nat) (fun k => [(3, .o (.s 0)), (6, .o .u), (9, oi k)]) (fun k => [(0, .row 125 2 ((l.take k).map encResult) true)]) (fun k => k ≤ l.length) (fun k => l.length - k) 0 (fun _ => ?_) ?_ ?_ (fun k hk => ?_)
 ·simp only [go_sem]
 ·simp only [go_sem]; simp
 ·simp
 ·simp only [go_sem]
  refine w0_0 ?_
  refine cnd rfl (fun h1 => ?_) (fun h1 => ?_)
  ·simp only [decide_eq_true_eq, Int.ofNat_lt] at h1
   have hw := wsum_get wResult l h1
   have hx : l[k].fIDs.length ≤ 67108864 := by
    have e : l[k].fIDs.length ≤ wResult l[k] := by unfold wResult; omega
    omega
   have ht := List.take_succ_eq_append_getElem h1
   have hn : (l.take k).length = k := by rw [List.length_take]; omega
   repeat' (with_reducible first | refine nY ?_ | (refine mX ?_; try simp only [go_sem, h1, hn]) | refine kO ?_ (by decide) | (apply rE [5,7,8,9] [9] [0,1,2,3,4] [0,1,2,3,4] ((.c 5 [6] [0,1,2,6] (.c 7 [] [0] (.c 8 [] [] (.c 9 [] [] .n .n) .n) .n) .n)) (by simp only [go_sem]; rfl) (by simp only [go_sem]; rfl) (by simp only [go_sem]; rfl) (by decide +kernel); (focus simp only [go_sem]; done)) | exact tt_nil | (refine tt_cons (uX ?_) ?_) | refine tn_leaf (aX ?_) ?_ | refine tn_node (aX ?_) ?_ | exact meet_eq | (refine oG ?_; (focus simp only [go_sem]; done)) | (refine uA ?_; simp only [go_sem, h1, hn]; (repeat' first | omega | refine And.intro ?_ ?_); done) | refine regd (by kernel_rfl) ?_ | (refine cC (cloneInt_ok l[k].fIDs hx) ?_ ?_; focus simp only [go_sem, and_self]; done) | (refine And.intro ?_ ?_; focus omega))
   refine L_next (k + 1) ?_ ?_ ?_
   ·simp only [go_sem, ht, List.map_append]; simp [encResult]
   ·omega
   ·omega
  ·simp only [decide_eq_false_iff_not] at h1
   have e : k = l.length := by omega
   subst e
   refine w0_0 ?_
   exact retK_ret ⟨⟨_, rfl, by simp only [go_sem, List.take_length]⟩, trivial⟩
theorem cpCat_ok (c : TCatalog) (h : wCatalog c ≤ 4300000) : FnC Tryz.prog 116 [gCatalog c] (rCatalog c) := by
 unfold wCatalog at h
 refine ent Tryz.func116 rfl Tryz.call116 rfl (fun C => ?_); simp only [go_sem, st0, Tryz.ntmps116]
 repeat' (with_reducible first | refine nY ?_ | (refine mX ?_; try simp only [go_sem]) | refine kO ?_ (by decide) | (apply rE [2,5,8,10] [] [0,1,3,4,6,7] [0,1,3,4,6,7] ((.c 2 [] [3,4,6,7] (.c 5 [] [6,7] (.c 8 [9] [9] (.c 10 [] [] .n .n) .n) .n) .n)) (by simp only [go_sem]; rfl) (by simp only [go_sem]; rfl) (by simp only [go_sem]; rfl) (by decide +kernel); (focus simp only [go_sem]; done)) | exact tt_nil | (refine tt_cons (uX ?_) ?_) | refine tn_leaf (aX ?_) ?_ | refine tn_node (aX ?_) ?_ | exact meet_eq | (refine oG ?_; (focus simp only [go_sem]; done)) | (refine uA ?_; simp only [go_sem]; (repeat' first | omega | refine And.intro ?_ ?_); done) | refine regd (by kernel_rfl) ?_ | (refine cC (cpStore_ok c.fStore (by omega)) ?_ ?_; focus simp only [go_sem, and_self]; done) | (refine cC (cpDirs_ok c.fDirs (by omega)) ?_ ?_; focus simp only [go_sem, and_self]; done) | (refine cC (cpResults_ok c.fResults (by omega)) ?_ ?_; focus simp only [go_sem, and_self]; done) | (refine And.intro ?_ ?_; focus omega))
 exact retK_ret ⟨⟨_, rfl, by simp only [go_sem]⟩, trivial⟩
theorem l05Cp_ok (s : TStore) (h : wStore s ≤ 4300000) : FnC Tryz.prog 100 [gStore s] (rStore s) := by
 have h1 : s.fSchema.length ≤ 4300000 := by unfold wStore wFieldS at h; omega
 have h2 : s.fFiles.length + wsum wFile s.fFiles ≤ 4300000 := by unfold wStore wFileS at h; omega
 refine ent Tryz.func100 rfl Tryz.call100 rfl (fun C => ?_); simp only [go_sem, st0, Tryz.ntmps100]
 repeat' (with_reducible first | refine nY ?_ | (refine mX ?_; try simp only [go_sem]) | refine kO ?_ (by decide) | (apply rE [0,3,7,8] [] [1,2,4,5] [1,2,4,5] ((.c 0 [] [1,2,4,5] (.c 3 [6] [4,5,6] (.c 7 [] [4,5,6] (.c 8 [] [] .n .n) .n) (.c 7 [] [1,2,4,5] (.c 3 [6] [4,5,6] (.c 8 [] [] .n .n) .n) .n)) (.c 7 [] [1,2,4,5] (.c 0 [] [1,2,4,5] (.c 3 [6] [4,5,6] (.c 8 [] [] .n .n) .n) .n) .n))) (by simp only [go_sem]; rfl) (by simp only [go_sem]; rfl) (by simp only [go_sem]; rfl) (by decide +kernel); (focus simp only [go_sem]; done)) | exact tt_nil | (refine tt_cons (uX ?_) ?_) | refine tn_leaf (aX ?_) ?_ | refine tn_node (aX ?_) ?_ | exact meet_eq | (refine meet_sw [(2, 3)] (by simp only [go_sem]; rfl) ?_; exact rfl) | (refine oG ?_; (focus simp only [go_sem]; done)) | (refine uA ?_; simp only [go_sem]; (repeat' first | omega | refine And.intro ?_ ?_); done) | refine regd (by kernel_rfl) ?_ | (refine And.intro ?_ ?_; focus omega))
 refine WP_nilB 3 1 73 5 rfl rfl ?_
 simp only [go_sem]
 refine WP_lp (α := Nat) (fun k => [(4, oi k)]) (fun k => [(4, .row 73 5 ((s.fFiles.take k).map encFile) true)]) (fun k => k ≤ s.fFiles.length) (fun k => s.fFiles.length - k) 0 (fun _ => ?_) ?_ ?_ (fun k hk => ?_)
 ·simp only [go_sem]
 ·simp only [go_sem]; simp
 ·simp
 ·simp only [go_sem]
  refine w0_0 ?_
  refine cnd rfl (fun h1 => ?_) (fun h1 => ?_)
  ·simp only [decide_eq_true_eq, Int.ofNat_lt] at h1
   have hw := wsum_get wFile s.fFiles h1
   have hx : s.fFiles[k].fAttrs.length ≤ 4300000 := by
    have e : s.fFiles[k].fAttrs.length ≤ wFile s.fFiles[k] := by unfold wFile wAttrS; omega
    omega
   have ht := List.take_succ_eq_append_getElem h1
   have hn : (s.fFiles.take k).length = k := by rw [List.length_take]; omega
   repeat' (with_reducible first | refine nY ?_ | (refine mX ?_; try simp only [go_sem, h1, hn]) | refine kO ?_ (by decide) | (apply rE [7,8,9,11] [] [0,1,2,3,4,5,6] [0,1,2,3,4,5,6] ((.c 7 [] [0,1] (.c 8 [] [0,1] (.c 9 [10] [10] (.c 11 [] [] .n .n) .n) .n) .n)) (by simp only [go_sem]; rfl) (by simp only [go_sem]; rfl) (by simp only [go_sem]; rfl) (by decide +kernel); (focus simp only [go_sem]; done)) | exact tt_nil | (refine tt_cons (uX ?_) ?_) | refine tn_leaf (aX ?_) ?_ | refine tn_node (aX ?_) ?_ | exact meet_eq | (refine oG ?_; (focus simp only [go_sem]; done)) | (refine uA ?_; simp only [go_sem, h1, hn]; (repeat' first | omega | refine And.intro ?_ ?_); done) | refine regd (by kernel_rfl) ?_ | (refine cC (l04Cp_ok s.fFiles[k] hx) ?_ ?_; focus simp only [go_sem, and_self]; done) | (refine And.intro ?_ ?_; focus omega))
   refine L_next (k + 1) ?_ ?_ ?_
   ·simp only [go_sem, ht, List.map_append]; simp [encFile]
   ·omega
   ·omega
  ·simp only [decide_eq_false_iff_not] at h1
   have e : k = s.fFiles.length := by omega
   subst e
   refine w0_0 ?_
   exact retK_ret ⟨⟨_, rfl, by simp only [go_sem, List.take_length]⟩, trivial⟩
theorem l19Cp_ok (c : TCatalog) (h : wCatalog c ≤ 4300000) : FnC Tryz.prog 108 [gCatalog c] (rCatalog c) := by
 unfold wCatalog at h
 refine ent Tryz.func108 rfl Tryz.call108 rfl (fun C => ?_); simp only [go_sem, st0, Tryz.ntmps108]
 repeat' (with_reducible first | refine nY ?_ | (refine mX ?_; try simp only [go_sem]) | refine kO ?_ (by decide) | (apply rE [2,5,8,10] [] [0,1,3,4,6,7] [0,1,3,4,6,7] ((.c 2 [] [3,4,6,7] (.c 5 [] [6,7] (.c 8 [9] [9] (.c 10 [] [] .n .n) .n) .n) .n)) (by simp only [go_sem]; rfl) (by simp only [go_sem]; rfl) (by simp only [go_sem]; rfl) (by decide +kernel); (focus simp only [go_sem]; done)) | exact tt_nil | (refine tt_cons (uX ?_) ?_) | refine tn_leaf (aX ?_) ?_ | refine tn_node (aX ?_) ?_ | exact meet_eq | (refine oG ?_; (focus simp only [go_sem]; done)) | (refine uA ?_; simp only [go_sem]; (repeat' first | omega | refine And.intro ?_ ?_); done) | refine regd (by kernel_rfl) ?_ | (refine cC (l05Cp_ok c.fStore (by omega)) ?_ ?_; focus simp only [go_sem, and_self]; done) | (refine cC (l11Cp_ok c.fDirs (by omega)) ?_ ?_; focus simp only [go_sem, and_self]; done) | (refine cC (l19Ans_ok c.fResults (by omega)) ?_ ?_; focus simp only [go_sem, and_self]; done) | (refine And.intro ?_ ?_; focus omega))
 exact retK_ret ⟨⟨_, rfl, by simp only [go_sem]⟩, trivial⟩
end Go.Proofs.YtddimbdeggomaaaGreat
end
section
set_option maxRecDepth 100000
set_option maxHeartbeats 4000000
namespace Go.Proofs.YtddimbdeggomaaaGreat
open Go Go.Sx Go.RowKit Go.Proofs
theorem specIsValidNode_ok (n : TNode) (i : Nat) (hi : i ≤ 4300000) (hs : n.fValue.fStr.size ≤ 4300000) (hn : n.fName.size ≤ 4300000) : FnC Tryz.prog 284 [gNode n, oi i] (ob (okNode n i)) := by
 refine ent Tryz.func284 rfl Tryz.call284 rfl (fun C => ?_); simp only [go_sem, st0, Tryz.ntmps284]
 repeat' (with_reducible first | refine nX ?_ | (refine mX ?_; try simp only [go_sem]) | refine kO ?_ (by decide) | (refine And.intro ?_ ?_; focus omega))
 refine reg ?_
 repeat' (with_reducible first | refine nX ?_ | (refine mX ?_; try simp only [go_sem]) | refine kO ?_ (by decide) | (refine And.intro ?_ ?_; focus omega))
 refine WP_cut [(5, ob (kidL n i))] [] ?_ ?_
 ·cases hl : inB n.fLeft 0 ((i : Int) - 1) <;> by_cases hp : 0 < (i : Int)
  all_goals
   refine reg ?_
   repeat' (with_reducible first | refine nX ?_ | (refine mX ?_; try simp only [go_sem, hl, hp, decide_true, decide_false]) | refine kO ?_ (by decide) | (refine cC (l01In_ok n.fLeft 0 ((i : Int) - 1)) ?_ ?_; focus simp only [go_sem, and_self]; done) | (refine And.intro ?_ ?_; focus omega))
   exact cut_done (by simp only [go_sem, kidL, hl, hp, decide_true, decide_false, Bool.and_true, Bool.and_false]; simp) (by simp only [go_sem])
 simp only [go_sem]
 repeat' (with_reducible first | refine nX ?_ | (refine mX ?_; try simp only [go_sem]) | refine kO ?_ (by decide) | (refine And.intro ?_ ?_; focus omega))
 refine WP_cut [(6, ob (kidL n i && kidR n i))] [] ?_ ?_
 ·cases hl : kidL n i <;> cases hq : kidR n i
  all_goals
   refine reg ?_
   repeat' (with_reducible first | refine nX ?_ | (refine mX ?_; try simp only [go_sem, hl, hq]) | refine kO ?_ (by decide) | (refine cC ((l01In_ok n.fRight 0 ((i : Int) - 1) : FnC Tryz.prog _ _ (ob (kidR n i)))) ?_ ?_; focus simp only [go_sem, and_self]; done) | (refine And.intro ?_ ?_; focus omega))
   exact cut_done (by simp only [go_sem, hl, hq, Bool.and_true, Bool.and_false]; simp) (by simp only [go_sem])
 simp only [go_sem]
 by_cases h1 : n.fOp = 1
 ·have hr : okNode n i = (decide (n.fLeft = 0) && (decide (n.fRight = 0) && (decide (n.fName = ⟨#[]⟩) && (decide (n.fValue.fKind = 0) && (decide (n.fValue.fInt = 0) && decide (n.fValue.fStr = ⟨#[]⟩)))))) := by simp [okNode, h1, noKids, noText, eV, Bool.and_assoc]
  have q0 := @h1; have q1 := @decide_true; have q2 := @decide_false; refine w3_0 ?_
  exact retK_ret ⟨⟨_, rfl, by simp only [go_sem, hr, Bool.and_true, Bool.and_false, Bool.true_and, Bool.false_and, Bool.not_true, Bool.not_false]⟩, trivial⟩
 by_cases h2 : n.fOp = 2
 ·have hr : okNode n i = (isText n.fName 1 && (decide (n.fLeft = 0) && (decide (n.fRight = 0) && (decide (n.fValue.fKind = 0) && (decide (n.fValue.fInt = 0) && decide (n.fValue.fStr = ⟨#[]⟩)))))) := by simp [okNode, h2, noKids, noText, eV, Bool.and_assoc]
  have q0 := @h1; have q1 := @h2; have q2 := @decide_true; have q3 := @decide_false; refine w4_1 (specIsValidAttrName_ok n.fName hn) ?_
  cases ht : isText n.fName 1
  ·rw [ht] at hr
   simp only [go_sem, ht]
   have q0 := @h1; have q1 := @h2; have q2 := @decide_true; have q3 := @decide_false; have q4 := @ht; refine w5_0 ?_
   exact retK_ret ⟨⟨_, rfl, by simp only [go_sem, hr, Bool.and_true, Bool.and_false, Bool.true_and, Bool.false_and, Bool.not_true, Bool.not_false]⟩, trivial⟩
  rw [ht] at hr
  simp only [go_sem, ht]
  have q0 := @h1; have q1 := @h2; have q2 := @decide_true; have q3 := @decide_false; have q4 := @ht; refine w5_1 (specIsValidAttrName_ok n.fName hn) ?_
  exact retK_ret ⟨⟨_, rfl, by simp only [go_sem, hr, Bool.and_true, Bool.and_false, Bool.true_and, Bool.false_and, Bool.not_true, Bool.not_false]⟩, trivial⟩
 by_cases h3 : n.fOp = 3
 ·have hr : okNode n i = (isText n.fName 1 && (okVal n.fValue && (!decide (n.fValue.fKind = 0) && (decide (n.fLeft = 0) && decide (n.fRight = 0))))) := by simp [okNode, h3, noKids]
  have q0 := @h1; have q1 := @h2; have q2 := @h3; have q3 := @decide_true; have q4 := @decide_false; refine w5_2 (specIsValidAttrName_ok n.fName hn) (specIsValidValue_ok n.fValue hs) ?_
  cases ht : isText n.fName 1
  ·rw [ht] at hr
   simp only [go_sem, ht]
   have q0 := @h1; have q1 := @h2; have q2 := @h3; have q3 := @decide_true; have q4 := @decide_false; have q5 := @ht; refine w6_0 ?_
   exact retK_ret ⟨⟨_, rfl, by simp only [go_sem, hr, Bool.and_true, Bool.and_false, Bool.true_and, Bool.false_and, Bool.not_true, Bool.not_false]⟩, trivial⟩
  rw [ht] at hr
  simp only [go_sem, ht]
  have q0 := @h1; have q1 := @h2; have q2 := @h3; have q3 := @decide_true; have q4 := @decide_false; have q5 := @ht; refine w6_2 (specIsValidAttrName_ok n.fName hn) (specIsValidValue_ok n.fValue hs) ?_
  cases hv : okVal n.fValue
  ·rw [hv] at hr
   simp only [go_sem, hv]
   have q0 := @h1; have q1 := @h2; have q2 := @h3; have q3 := @decide_true; have q4 := @decide_false; have q5 := @ht; have q6 := @hv; refine w7_0 ?_
   exact retK_ret ⟨⟨_, rfl, by simp only [go_sem, hr, Bool.and_true, Bool.and_false, Bool.true_and, Bool.false_and, Bool.not_true, Bool.not_false]⟩, trivial⟩
  rw [hv] at hr
  simp only [go_sem, hv]
  have q0 := @h1; have q1 := @h2; have q2 := @h3; have q3 := @decide_true; have q4 := @decide_false; have q5 := @ht; have q6 := @hv; refine w7_2 (specIsValidAttrName_ok n.fName hn) (specIsValidValue_ok n.fValue hs) ?_
  by_cases hk : n.fValue.fKind = 0
  ·simp only [hk, decide_true] at hr
   simp only [go_sem, hk, decide_true]
   have q0 := @h1; have q1 := @h2; have q2 := @h3; have q3 := @decide_true; have q4 := @decide_false; have q5 := @ht; have q6 := @hv; have q7 := @hk; refine w8_0 ?_
   exact retK_ret ⟨⟨_, rfl, by simp only [go_sem, hr, Bool.and_true, Bool.and_false, Bool.true_and, Bool.false_and, Bool.not_true, Bool.not_false]⟩, trivial⟩
  simp only [hk, decide_false] at hr
  simp only [go_sem, hk, decide_false]
  have q0 := @h1; have q1 := @h2; have q2 := @h3; have q3 := @decide_true; have q4 := @decide_false; have q5 := @ht; have q6 := @hv; have q7 := @hk; refine w8_2 (specIsValidAttrName_ok n.fName hn) (specIsValidValue_ok n.fValue hs) ?_
  by_cases hL : n.fLeft = 0
  rotate_left
  ·simp only [hL, decide_false] at hr
   simp only [go_sem, hL, decide_false]
   have q0 := @h1; have q1 := @h2; have q2 := @h3; have q3 := @decide_true; have q4 := @decide_false; have q5 := @ht; have q6 := @hv; have q7 := @hk; have q8 := @hL; refine w9_0 ?_
   exact retK_ret ⟨⟨_, rfl, by simp only [go_sem, hr, Bool.and_true, Bool.and_false, Bool.true_and, Bool.false_and, Bool.not_true, Bool.not_false]⟩, trivial⟩
  simp only [hL, decide_true] at hr
  simp only [go_sem, hL, decide_true]
  have q0 := @h1; have q1 := @h2; have q2 := @h3; have q3 := @decide_true; have q4 := @decide_false; have q5 := @ht; have q6 := @hv; have q7 := @hk; have q8 := @hL; refine w9_2 (specIsValidAttrName_ok n.fName hn) (specIsValidValue_ok n.fValue hs) ?_
  exact retK_ret ⟨⟨_, rfl, by simp only [go_sem, hr, Bool.and_true, Bool.and_false, Bool.true_and, Bool.false_and, Bool.not_true, Bool.not_false]⟩, trivial⟩
 by_cases h4 : n.fOp = 4
 ·have hr : okNode n i = (isText n.fName 1 && (okVal n.fValue && (decide (n.fValue.fKind = 1) && (decide (n.fLeft = 0) && decide (n.fRight = 0))))) := by simp [okNode, h4, noKids]
  have q0 := @h1; have q1 := @h2; have q2 := @h3; have q3 := @h4; have q4 := @decide_true; have q5 := @decide_false; refine w6_2 (specIsValidAttrName_ok n.fName hn) (specIsValidValue_ok n.fValue hs) ?_
  cases ht : isText n.fName 1
  ·rw [ht] at hr
   simp only [go_sem, ht]
   have q0 := @h1; have q1 := @h2; have q2 := @h3; have q3 := @h4; have q4 := @decide_true; have q5 := @decide_false; have q6 := @ht; refine w7_0 ?_
   exact retK_ret ⟨⟨_, rfl, by simp only [go_sem, hr, Bool.and_true, Bool.and_false, Bool.true_and, Bool.false_and, Bool.not_true, Bool.not_false]⟩, trivial⟩
  rw [ht] at hr
  simp only [go_sem, ht]
  have q0 := @h1; have q1 := @h2; have q2 := @h3; have q3 := @h4; have q4 := @decide_true; have q5 := @decide_false; have q6 := @ht; refine w7_2 (specIsValidAttrName_ok n.fName hn) (specIsValidValue_ok n.fValue hs) ?_
  cases hv : okVal n.fValue
  ·rw [hv] at hr
   simp only [go_sem, hv]
   have q0 := @h1; have q1 := @h2; have q2 := @h3; have q3 := @h4; have q4 := @decide_true; have q5 := @decide_false; have q6 := @ht; have q7 := @hv; refine w8_0 ?_
   exact retK_ret ⟨⟨_, rfl, by simp only [go_sem, hr, Bool.and_true, Bool.and_false, Bool.true_and, Bool.false_and, Bool.not_true, Bool.not_false]⟩, trivial⟩
  rw [hv] at hr
  simp only [go_sem, hv]
  have q0 := @h1; have q1 := @h2; have q2 := @h3; have q3 := @h4; have q4 := @decide_true; have q5 := @decide_false; have q6 := @ht; have q7 := @hv; refine w8_2 (specIsValidAttrName_ok n.fName hn) (specIsValidValue_ok n.fValue hs) ?_
  by_cases hk : n.fValue.fKind = 1
  rotate_left
  ·simp only [hk, decide_false] at hr
   simp only [go_sem, hk, decide_false]
   have q0 := @h1; have q1 := @h2; have q2 := @h3; have q3 := @h4; have q4 := @decide_true; have q5 := @decide_false; have q6 := @ht; have q7 := @hv; have q8 := @hk; refine w9_0 ?_
   exact retK_ret ⟨⟨_, rfl, by simp only [go_sem, hr, Bool.and_true, Bool.and_false, Bool.true_and, Bool.false_and, Bool.not_true, Bool.not_false]⟩, trivial⟩
  simp only [hk, decide_true] at hr
  simp only [go_sem, hk, decide_true]
  have q0 := @h1; have q1 := @h2; have q2 := @h3; have q3 := @h4; have q4 := @decide_true; have q5 := @decide_false; have q6 := @ht; have q7 := @hv; have q8 := @hk; refine w9_2 (specIsValidAttrName_ok n.fName hn) (specIsValidValue_ok n.fValue hs) ?_
  by_cases hL : n.fLeft = 0
  rotate_left
  ·simp only [hL, decide_false] at hr
   simp only [go_sem, hL, decide_false]
   have q0 := @h1; have q1 := @h2; have q2 := @h3; have q3 := @h4; have q4 := @decide_true; have q5 := @decide_false; have q6 := @ht; have q7 := @hv; have q8 := @hk; have q9 := @hL; refine w10_0 ?_
   exact retK_ret ⟨⟨_, rfl, by simp only [go_sem, hr, Bool.and_true, Bool.and_false, Bool.true_and, Bool.false_and, Bool.not_true, Bool.not_false]⟩, trivial⟩
  simp only [hL, decide_true] at hr
  simp only [go_sem, hL, decide_true]
  have q0 := @h1; have q1 := @h2; have q2 := @h3; have q3 := @h4; have q4 := @decide_true; have q5 := @decide_false; have q6 := @ht; have q7 := @hv; have q8 := @hk; have q9 := @hL; refine w10_2 (specIsValidAttrName_ok n.fName hn) (specIsValidValue_ok n.fValue hs) ?_
  exact retK_ret ⟨⟨_, rfl, by simp only [go_sem, hr, Bool.and_true, Bool.and_false, Bool.true_and, Bool.false_and, Bool.not_true, Bool.not_false]⟩, trivial⟩
 by_cases h5 : n.fOp = 5
 ·have hr : okNode n i = (kidL n i && (decide (n.fRight = 0) && (decide (n.fName = ⟨#[]⟩) && (decide (n.fValue.fKind = 0) && (decide (n.fValue.fInt = 0) && decide (n.fValue.fStr = ⟨#[]⟩)))))) := by simp [okNode, h5, noText, eV]
  have q0 := @h1; have q1 := @h2; have q2 := @h3; have q3 := @h4; have q4 := @h5; have q5 := @decide_true; have q6 := @decide_false; refine w7_0 ?_
  cases hk : kidL n i
  ·rw [hk] at hr
   simp only [go_sem, hk]
   have q0 := @h1; have q1 := @h2; have q2 := @h3; have q3 := @h4; have q4 := @h5; have q5 := @decide_true; have q6 := @decide_false; have q7 := @hk; refine w8_0 ?_
   exact retK_ret ⟨⟨_, rfl, by simp only [go_sem, hr, Bool.and_true, Bool.and_false, Bool.true_and, Bool.false_and, Bool.not_true, Bool.not_false]⟩, trivial⟩
  rw [hk] at hr
  simp only [go_sem, hk]
  have q0 := @h1; have q1 := @h2; have q2 := @h3; have q3 := @h4; have q4 := @h5; have q5 := @decide_true; have q6 := @decide_false; have q7 := @hk; refine w8_0 ?_
  by_cases hR : n.fRight = 0
  rotate_left
  ·simp only [hR, decide_false] at hr
   simp only [go_sem, hR, decide_false]
   have q0 := @h1; have q1 := @h2; have q2 := @h3; have q3 := @h4; have q4 := @h5; have q5 := @decide_true; have q6 := @decide_false; have q7 := @hk; have q8 := @hR; refine w9_0 ?_
   exact retK_ret ⟨⟨_, rfl, by simp only [go_sem, hr, Bool.and_true, Bool.and_false, Bool.true_and, Bool.false_and, Bool.not_true, Bool.not_false]⟩, trivial⟩
  simp only [hR, decide_true] at hr
  simp only [go_sem, hR, decide_true]
  have q0 := @h1; have q1 := @h2; have q2 := @h3; have q3 := @h4; have q4 := @h5; have q5 := @decide_true; have q6 := @decide_false; have q7 := @hk; have q8 := @hR; refine w9_0 ?_
  by_cases hN : n.fName = ⟨#[]⟩
  rotate_left
  ·simp only [hN, decide_false] at hr
   simp only [go_sem, hN, decide_false]
   have q0 := @h1; have q1 := @h2; have q2 := @h3; have q3 := @h4; have q4 := @h5; have q5 := @decide_true; have q6 := @decide_false; have q7 := @hk; have q8 := @hR; have q9 := @hN; refine w10_0 ?_
   exact retK_ret ⟨⟨_, rfl, by simp only [go_sem, hr, Bool.and_true, Bool.and_false, Bool.true_and, Bool.false_and, Bool.not_true, Bool.not_false]⟩, trivial⟩
  simp only [hN, decide_true] at hr
  simp only [go_sem, hN, decide_true]
  have q0 := @h1; have q1 := @h2; have q2 := @h3; have q3 := @h4; have q4 := @h5; have q5 := @decide_true; have q6 := @decide_false; have q7 := @hk; have q8 := @hR; have q9 := @hN; refine w10_0 ?_
  exact retK_ret ⟨⟨_, rfl, by simp only [go_sem, hr, Bool.and_true, Bool.and_false, Bool.true_and, Bool.false_and, Bool.not_true, Bool.not_false]⟩, trivial⟩
 by_cases h6 : n.fOp = 6
 ·have hr : okNode n i = ((kidL n i && kidR n i) && (decide (n.fName = ⟨#[]⟩) && (decide (n.fValue.fKind = 0) && (decide (n.fValue.fInt = 0) && decide (n.fValue.fStr = ⟨#[]⟩))))) := by simp [okNode, h6, noText, eV, Bool.and_assoc]
  have q0 := @h1; have q1 := @h2; have q2 := @h3; have q3 := @h4; have q4 := @h5; have q5 := @h6; have q6 := @decide_true; have q7 := @decide_false; refine w8_0 ?_
  cases hk : (kidL n i && kidR n i)
  ·rw [hk] at hr
   simp only [go_sem, hk]
   have q0 := @h1; have q1 := @h2; have q2 := @h3; have q3 := @h4; have q4 := @h5; have q5 := @h6; have q6 := @decide_true; have q7 := @decide_false; have q8 := @hk; refine w9_0 ?_
   exact retK_ret ⟨⟨_, rfl, by simp only [go_sem, hr, Bool.and_true, Bool.and_false, Bool.true_and, Bool.false_and, Bool.not_true, Bool.not_false]⟩, trivial⟩
  rw [hk] at hr
  simp only [go_sem, hk]
  have q0 := @h1; have q1 := @h2; have q2 := @h3; have q3 := @h4; have q4 := @h5; have q5 := @h6; have q6 := @decide_true; have q7 := @decide_false; have q8 := @hk; refine w9_0 ?_
  by_cases hN : n.fName = ⟨#[]⟩
  rotate_left
  ·simp only [hN, decide_false] at hr
   simp only [go_sem, hN, decide_false]
   have q0 := @h1; have q1 := @h2; have q2 := @h3; have q3 := @h4; have q4 := @h5; have q5 := @h6; have q6 := @decide_true; have q7 := @decide_false; have q8 := @hk; have q9 := @hN; refine w10_0 ?_
   exact retK_ret ⟨⟨_, rfl, by simp only [go_sem, hr, Bool.and_true, Bool.and_false, Bool.true_and, Bool.false_and, Bool.not_true, Bool.not_false]⟩, trivial⟩
  simp only [hN, decide_true] at hr
  simp only [go_sem, hN, decide_true]
  have q0 := @h1; have q1 := @h2; have q2 := @h3; have q3 := @h4; have q4 := @h5; have q5 := @h6; have q6 := @decide_true; have q7 := @decide_false; have q8 := @hk; have q9 := @hN; refine w10_0 ?_
  exact retK_ret ⟨⟨_, rfl, by simp only [go_sem, hr, Bool.and_true, Bool.and_false, Bool.true_and, Bool.false_and, Bool.not_true, Bool.not_false]⟩, trivial⟩
 by_cases h7 : n.fOp = 7
 ·have hr : okNode n i = ((kidL n i && kidR n i) && (decide (n.fName = ⟨#[]⟩) && (decide (n.fValue.fKind = 0) && (decide (n.fValue.fInt = 0) && decide (n.fValue.fStr = ⟨#[]⟩))))) := by simp [okNode, h7, noText, eV, Bool.and_assoc]
  have q0 := @h1; have q1 := @h2; have q2 := @h3; have q3 := @h4; have q4 := @h5; have q5 := @h6; have q6 := @h7; have q7 := @decide_true; have q8 := @decide_false; refine w9_0 ?_
  cases hk : (kidL n i && kidR n i)
  ·rw [hk] at hr
   simp only [go_sem, hk]
   have q0 := @h1; have q1 := @h2; have q2 := @h3; have q3 := @h4; have q4 := @h5; have q5 := @h6; have q6 := @h7; have q7 := @decide_true; have q8 := @decide_false; have q9 := @hk; refine w10_0 ?_
   exact retK_ret ⟨⟨_, rfl, by simp only [go_sem, hr, Bool.and_true, Bool.and_false, Bool.true_and, Bool.false_and, Bool.not_true, Bool.not_false]⟩, trivial⟩
  rw [hk] at hr
  simp only [go_sem, hk]
  have q0 := @h1; have q1 := @h2; have q2 := @h3; have q3 := @h4; have q4 := @h5; have q5 := @h6; have q6 := @h7; have q7 := @decide_true; have q8 := @decide_false; have q9 := @hk; refine w10_0 ?_
  by_cases hN : n.fName = ⟨#[]⟩
  rotate_left
  ·simp only [hN, decide_false] at hr
   simp only [go_sem, hN, decide_false]
   repeat' (with_reducible first | refine nY ?_ | (refine mX ?_; try simp only [go_sem, h1, h2, h3, h4, h5, h6, h7, decide_true, decide_false, hk, hN]) | refine kO ?_ (by decide) | (refine And.intro ?_ ?_; focus omega))
   exact retK_ret ⟨⟨_, rfl, by simp only [go_sem, hr, Bool.and_true, Bool.and_false, Bool.true_and, Bool.false_and, Bool.not_true, Bool.not_false]⟩, trivial⟩
  simp only [hN, decide_true] at hr
  simp only [go_sem, hN, decide_true]
  repeat' (with_reducible first | refine nY ?_ | (refine mX ?_; try simp only [go_sem, h1, h2, h3, h4, h5, h6, h7, decide_true, decide_false, hk, hN]) | refine kO ?_ (by decide) | (refine And.intro ?_ ?_; focus omega))
  exact retK_ret ⟨⟨_, rfl, by simp only [go_sem, hr, Bool.and_true, Bool.and_false, Bool.true_and, Bool.false_and, Bool.not_true, Bool.not_false]⟩, trivial⟩
 by_cases h8 : n.fOp = 8
 ·have hr : okNode n i = (isText n.fName 6 && (decide (n.fLeft = 0) && (decide (n.fRight = 0) && (decide (n.fValue.fKind = 0) && (decide (n.fValue.fInt = 0) && decide (n.fValue.fStr = ⟨#[]⟩)))))) := by simp [okNode, h8, noKids, eV, Bool.and_assoc]
  have q0 := @h1; have q1 := @h2; have q2 := @h3; have q3 := @h4; have q4 := @h5; have q5 := @h6; have q6 := @h7; have q7 := @h8; have q8 := @decide_true; have q9 := @decide_false; refine w10_1 (specIsValidString_ok n.fName hn) ?_
  cases ht : isText n.fName 6
  ·rw [ht] at hr
   simp only [go_sem, ht]
   repeat' (with_reducible first | refine nY ?_ | (refine mX ?_; try simp only [go_sem, h1, h2, h3, h4, h5, h6, h7, h8, decide_true, decide_false, ht]) | refine kO ?_ (by decide) | (refine And.intro ?_ ?_; focus omega))
   exact retK_ret ⟨⟨_, rfl, by simp only [go_sem, hr, Bool.and_true, Bool.and_false, Bool.true_and, Bool.false_and, Bool.not_true, Bool.not_false]⟩, trivial⟩
  rw [ht] at hr
  simp only [go_sem, ht]
  repeat' (with_reducible first | refine nY ?_ | (refine mX ?_; try simp only [go_sem, h1, h2, h3, h4, h5, h6, h7, h8, decide_true, decide_false, ht]) | refine kO ?_ (by decide) | (refine cC (specIsValidString_ok n.fName hn) ?_ ?_; focus simp only [go_sem, and_self]; done) | (refine And.intro ?_ ?_; focus omega))
  exact retK_ret ⟨⟨_, rfl, by simp only [go_sem, hr, Bool.and_true, Bool.and_false, Bool.true_and, Bool.false_and, Bool.not_true, Bool.not_false]⟩, trivial⟩
 by_cases h9 : n.fOp = 9
 ·have hr : okNode n i = (isText n.fName 6 && (decide (n.fLeft = 0) && (decide (n.fRight = 0) && (decide (n.fValue.fKind = 0) && (decide (n.fValue.fInt = 0) && decide (n.fValue.fStr = ⟨#[]⟩)))))) := by simp [okNode, h9, noKids, eV, Bool.and_assoc]
  repeat' (with_reducible first | refine nY ?_ | (refine mX ?_; try simp only [go_sem, h1, h2, h3, h4, h5, h6, h7, h8, h9, decide_true, decide_false]) | refine kO ?_ (by decide) | (refine cC (specIsValidString_ok n.fName hn) ?_ ?_; focus simp only [go_sem, and_self]; done) | (refine And.intro ?_ ?_; focus omega))
  cases ht : isText n.fName 6
  ·rw [ht] at hr
   simp only [go_sem, ht]
   repeat' (with_reducible first | refine nY ?_ | (refine mX ?_; try simp only [go_sem, h1, h2, h3, h4, h5, h6, h7, h8, h9, decide_true, decide_false, ht]) | refine kO ?_ (by decide) | (refine And.intro ?_ ?_; focus omega))
   exact retK_ret ⟨⟨_, rfl, by simp only [go_sem, hr, Bool.and_true, Bool.and_false, Bool.true_and, Bool.false_and, Bool.not_true, Bool.not_false]⟩, trivial⟩
  rw [ht] at hr
  simp only [go_sem, ht]
  repeat' (with_reducible first | refine nY ?_ | (refine mX ?_; try simp only [go_sem, h1, h2, h3, h4, h5, h6, h7, h8, h9, decide_true, decide_false, ht]) | refine kO ?_ (by decide) | (refine cC (specIsValidString_ok n.fName hn) ?_ ?_; focus simp only [go_sem, and_self]; done) | (refine And.intro ?_ ?_; focus omega))
  exact retK_ret ⟨⟨_, rfl, by simp only [go_sem, hr, Bool.and_true, Bool.and_false, Bool.true_and, Bool.false_and, Bool.not_true, Bool.not_false]⟩, trivial⟩
 have hr : okNode n i = false := by simp [okNode, h1, h2, h3, h4, h5, h6, h7, h8, h9]
 repeat' (with_reducible first | refine nY ?_ | (refine mX ?_; try simp only [go_sem, h1, h2, h3, h4, h5, h6, h7, h8, h9, decide_true, decide_false]) | refine kO ?_ (by decide) | (refine And.intro ?_ ?_; focus omega))
 exact retK_ret ⟨⟨_, rfl, by simp only [go_sem, hr]⟩, trivial⟩
theorem okAt_eq (q : List TNode) (i : Nat) (h : i < q.length) : okAt q i = (okNode q[i] i && (decide (q.length ≤ i + 1) || decide (refs q i = 1))) := by
 unfold okAt; rw [List.getElem?_eq_getElem h]
theorem implIsValidQuery_ok (q : List TNode) (hl : wNodeS q ≤ 4300000) : FnC Tryz.prog 271 [.o (.d (.sl (q.map encNode)))] (ob (okQ q)) := by
 unfold wNodeS at hl
 refine ent Tryz.func271 rfl Tryz.call271 rfl (fun C => ?_); simp only [go_sem, st0, Tryz.ntmps271]
 refine w0_0 ?_
 refine WP_lp (α := Nat) (fun k => [(7, oi k)]) (fun _ => []) (fun k => k ≤ q.length ∧ (List.range q.length).all (okAt q) = ((List.range q.length).drop k).all (okAt q)) (fun k => q.length - k) 0 (fun _ => ?_) ?_ ?_ (fun k hk => ?_)
 ·simp only [go_sem]
 ·simp only [go_sem]; simp
 ·simp
 ·obtain ⟨hk, hq⟩ := hk
  simp only [go_sem]
  refine w0_0 ?_
  refine cnd rfl (fun h => ?_) (fun h => ?_)
  ·simp only [decide_eq_true_eq, Int.ofNat_lt] at h
   have h' : k < (List.range q.length).length := by simpa using h
   have hd := List.drop_eq_getElem_cons h'
   rw [hd, List.all_cons, List.getElem_range, okAt_eq q k h] at hq
   have hw := wsum_get wNode q h
   have hw1 : q[k].fName.size + q[k].fValue.fStr.size ≤ wNode q[k] := by unfold wNode wValue; omega
   cases hn : okNode q[k] k
   ·rw [hn] at hq
    have hf : okQ q = false := by unfold okQ; rw [hq]; simp
    have q0 := @h; have q1 := @hn; refine w2_1 (implIsValidNode_ok q[k] k (by omega) (by omega) (by omega)) ?_
    exact retK_ret ⟨⟨_, rfl, by simp only [go_sem, hf]⟩, trivial⟩
   by_cases he : (k : Int) < (q.length : Int) - 1
   ·have he2 : ¬ q.length ≤ k + 1 := by omega
    by_cases hc : (refs q k : Int) = 1
    ·have hc2 : refs q k = 1 := by omega
     have q0 := @h; have q1 := @hn; have q2 := @he; have q3 := @hc; have q4 := @decide_true; have q5 := @decide_false; refine w6_2 (implIsValidNode_ok q[k] k (by omega) (by omega) (by omega)) (implCount_ok q k (by omega)) ?_
     refine L_next (k + 1) ?_ ?_ ?_
     ·simp only [go_sem]; simp
     ·refine ⟨h, ?_⟩
      rw [hq, hn]; simp [hc2]
     ·omega
    ·have hc2 : ¬ refs q k = 1 := by omega
     have hf : okQ q = false := by unfold okQ; rw [hq, hn]; simp [hc2, he2]
     have q0 := @h; have q1 := @hn; have q2 := @he; have q3 := @hc; have q4 := @decide_true; have q5 := @decide_false; refine w6_2 (implIsValidNode_ok q[k] k (by omega) (by omega) (by omega)) (implCount_ok q k (by omega)) ?_
     exact retK_ret ⟨⟨_, rfl, by simp only [go_sem, hf]⟩, trivial⟩
   ·have he2 : q.length ≤ k + 1 := by omega
    have q0 := @h; have q1 := @hn; have q2 := @he; have q3 := @decide_true; have q4 := @decide_false; refine w5_2 (implIsValidNode_ok q[k] k (by omega) (by omega) (by omega)) (implCount_ok q k (by omega)) ?_
    refine L_next (k + 1) ?_ ?_ ?_
    ·simp only [go_sem]; simp
    ·refine ⟨h, ?_⟩
     rw [hq, hn]; simp [he2]
    ·omega
  ·simp only [decide_eq_false_iff_not] at h
   have e : k = q.length := by omega
   have hq' : (List.range q.length).all (okAt q) = true := by
    rw [hq, List.drop_of_length_le (by simp [e])]; rfl
   refine w0_1 (within_ok q.length 1 9) ?_
   exact retK_ret ⟨⟨_, rfl, by simp only [go_sem, okQ, hq', Bool.true_and]⟩, trivial⟩
theorem specIsValidQuery_ok (q : List TNode) (hl : wNodeS q ≤ 4300000) : FnC Tryz.prog 233 [.o (.d (.sl (q.map encNode)))] (ob (okQ q)) := by
 unfold wNodeS at hl
 refine ent Tryz.func233 rfl Tryz.call233 rfl (fun C => ?_); simp only [go_sem, st0, Tryz.ntmps233]
 refine w0_0 ?_
 refine WP_lp (α := Nat) (fun k => [(3, oi k)]) (fun _ => []) (fun k => k ≤ q.length ∧ (List.range q.length).all (okAt q) = ((List.range q.length).drop k).all (okAt q)) (fun k => q.length - k) 0 (fun _ => ?_) ?_ ?_ (fun k hk => ?_)
 ·simp only [go_sem]
 ·simp only [go_sem]; simp
 ·simp
 ·obtain ⟨hk, hq⟩ := hk
  simp only [go_sem]
  refine w0_0 ?_
  refine cnd rfl (fun h => ?_) (fun h => ?_)
  ·simp only [decide_eq_true_eq, Int.ofNat_lt] at h
   have h' : k < (List.range q.length).length := by simpa using h
   have hd := List.drop_eq_getElem_cons h'
   rw [hd, List.all_cons, List.getElem_range, okAt_eq q k h] at hq
   have hw := wsum_get wNode q h
   have hw1 : q[k].fName.size + q[k].fValue.fStr.size ≤ wNode q[k] := by unfold wNode wValue; omega
   cases hn : okNode q[k] k
   ·rw [hn] at hq
    have hf : okQ q = false := by unfold okQ; rw [hq]; simp
    have q0 := @h; have q1 := @hn; refine w2_1 (specIsValidNode_ok q[k] k (by omega) (by omega) (by omega)) ?_
    exact retK_ret ⟨⟨_, rfl, by simp only [go_sem, hf]⟩, trivial⟩
   by_cases he : (k : Int) < (q.length : Int) - 1
   ·have he2 : ¬ q.length ≤ k + 1 := by omega
    by_cases hc : (refs q k : Int) = 1
    ·have hc2 : refs q k = 1 := by omega
     have q0 := @h; have q1 := @hn; have q2 := @he; have q3 := @hc; have q4 := @decide_true; have q5 := @decide_false; refine w6_2 (specIsValidNode_ok q[k] k (by omega) (by omega) (by omega)) (specCount_ok q k (by omega)) ?_
     refine L_next (k + 1) ?_ ?_ ?_
     ·simp only [go_sem]; simp
     ·refine ⟨h, ?_⟩
      rw [hq, hn]; simp [hc2]
     ·omega
    ·have hc2 : ¬ refs q k = 1 := by omega
     have hf : okQ q = false := by unfold okQ; rw [hq, hn]; simp [hc2, he2]
     have q0 := @h; have q1 := @hn; have q2 := @he; have q3 := @hc; have q4 := @decide_true; have q5 := @decide_false; refine w6_2 (specIsValidNode_ok q[k] k (by omega) (by omega) (by omega)) (specCount_ok q k (by omega)) ?_
     exact retK_ret ⟨⟨_, rfl, by simp only [go_sem, hf]⟩, trivial⟩
   ·have he2 : q.length ≤ k + 1 := by omega
    have q0 := @h; have q1 := @hn; have q2 := @he; have q3 := @decide_true; have q4 := @decide_false; refine w5_2 (specIsValidNode_ok q[k] k (by omega) (by omega) (by omega)) (specCount_ok q k (by omega)) ?_
    refine L_next (k + 1) ?_ ?_ ?_
    ·simp only [go_sem]; simp
    ·refine ⟨h, ?_⟩
     rw [hq, hn]; simp [he2]
    ·omega
  ·simp only [decide_eq_false_iff_not] at h
   have e : k = q.length := by omega
   have hq' : (List.range q.length).all (okAt q) = true := by
    rw [hq, List.drop_of_length_le (by simp [e])]; rfl
   refine w0_1 (l01In_ok q.length 1 9) ?_
   exact retK_ret ⟨⟨_, rfl, by simp only [go_sem, okQ, hq', Bool.true_and]⟩, trivial⟩
end Go.Proofs.YtddimbdeggomaaaGreat
end
