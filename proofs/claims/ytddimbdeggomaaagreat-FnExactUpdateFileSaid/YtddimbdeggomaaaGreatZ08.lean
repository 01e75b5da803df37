/- Joined texts. -/
import Derived.Test.YtddimbdeggomaaaGreatZ07
import Derived.Test.YtddimbdeggomaaaGreatZ06
set_option linter.all false
section
section
set_option linter.all false
set_option maxRecDepth 100000
set_option maxHeartbeats 4000000
namespace Go.Proofs.YtddimbdeggomaaaGreat
open Go Go.Sx Go.RowKit Go.Proofs
def mDig (k : Nat) (out : ByteArray) : ByteArray :=
 if h : k = 0 then out else mDig (k / 10) (strOf [(48 : Int) + ((k % 10 : Nat) : Int)] ++ out)
decreasing_by omega
def mText (k : Int) : ByteArray := ⟨#[109]⟩ ++ mDig k.toNat ⟨#[]⟩
theorem markText_ok (k : Int) (hk : 1 ≤ k ∧ k ≤ 4611686018427387904) : FnC Tryz.prog 95 [oi k] (os (mText k)) := by
 obtain ⟨n, rfl⟩ : ∃ n : Nat, k = n := ⟨k.toNat, by omega⟩
 have h0 : ¬ ((n : Int) ≤ 0) := by omega
 have hm : mText (n : Int) = ⟨#[109]⟩ ++ mDig n ⟨#[]⟩ := by simp [mText]
 rw [hm]
 generalize hq : mDig n ⟨#[]⟩ = res
 refine ent Tryz.func95 rfl Tryz.call95 rfl (fun C => ?_); simp only [go_sem, st0, Tryz.ntmps95]
 have q0 := @h0; have q1 := @decide_false; refine w2_0 ?_
 refine WP_lp (α := Nat × ByteArray) (fun p => [(0, oi p.1), (3, os p.2)]) (fun _ => []) (fun p => mDig p.1 p.2 = res ∧ p.2.size + p.1 ≤ n) (fun p => p.1) (n, ⟨#[]⟩) (fun _ => ?_) ?_ ?_ (fun p hp => ?_)
 ·simp only [go_sem]
 ·simp only [go_sem]; simp
 ·exact ⟨hq, by show 0 + n ≤ n; omega⟩
 ·obtain ⟨j, out⟩ := p
  obtain ⟨hp, hs⟩ := hp
  simp only at hp hs
  simp only [go_sem]
  refine w0_0 ?_
  refine cnd rfl (fun h => ?_) (fun h => ?_)
  ·simp only [decide_eq_true_eq] at h
   have hj : j ≠ 0 := by omega
   rw [mDig, dif_neg hj] at hp
   have e1 : (j : Int).tmod 10 = ((j % 10 : Nat) : Int) := by rw [Int.tmod_eq_emod_of_nonneg (by omega)]; omega
   have e2 : (j : Int).tdiv 10 = ((j / 10 : Nat) : Int) := by rw [Int.tdiv_eq_ediv_of_nonneg (by omega)]; omega
   have q0 := @e1; have q1 := @e2; refine w2_0 ?_
   refine L_next (j / 10, strOf [(48 : Int) + ((j % 10 : Nat) : Int)] ++ out) ?_ ?_ ?_
   ·simp only [go_sem, e1, e2]; simp [strOf]
   ·refine ⟨hp, ?_⟩
    simp only [ByteArray.size_append, strOf, List.map_cons, List.map_nil, szlit, List.length_cons, List.length_nil]
    omega
   ·simp only; omega
  ·simp only [decide_eq_false_iff_not] at h
   have hj : j = 0 := by omega
   subst hj
   rw [mDig, dif_pos rfl] at hp
   subst hp
   refine w0_0 ?_
   exact retK_ret ⟨⟨_, rfl, by simp only [go_sem]⟩, trivial⟩
def cnInt (x : Int) : Nat := 1
theorem cnInt_pos : ∀ x, 1 ≤ cnInt x := fun x => by unfold cnInt; omega
def mkInt (x : Int) (k : Int) : Int := k
theorem markIntS_ok (l : List Int) (k : Int) (hk : 1 ≤ k ∧ k + (csum cnInt l : Nat) ≤ 4611686018427387904) : FnM Tryz.prog 97 false [.w 0 1 (l.map encI)] [.w 0 1 ((mkL mkInt cnInt l k).map encI)] k (k + (csum cnInt l : Nat)) := by
 have hlen := csum_len cnInt cnInt_pos l
 refine entm Tryz.func97 rfl Tryz.call97 rfl (by simp) (by simp only [go_sem]) (fun C tg => ?_); simp only [go_sem, Tryz.ntmps97]
 refine w0_0 ?_
 refine WP_lp (α := Nat) (fun j => [(5, oi j), (1, oi (k + (csum cnInt (l.take j) : Nat)))]) (fun j => [(0, .own (tg 0) 1 (midR encI mkInt cnInt l k j))]) (fun j => j ≤ l.length) (fun j => l.length - j) 0 (fun _ => ?_) ?_ ?_ (fun j hj => ?_)
 ·simp only [go_sem]
 ·simp only [go_sem]; simp [midR_zero, csum]
 ·simp
 ·simp only [go_sem]
  refine w0_0 ?_
  refine cnd rfl (fun h => ?_) (fun h => ?_)
  ·simp only [decide_eq_true_eq, Int.ofNat_lt] at h
   have hs := csum_take cnInt l h
   have ht := csum_le cnInt l (j + 1)
   have hc : cnInt l[j] = 1 := rfl
   have hset := midR_set encI mkInt cnInt l k j h
   have hkk : k + (csum cnInt (l.take (j + 1)) : Nat) = k + (csum cnInt (l.take j) : Nat) + (cnInt l[j] : Nat) := by omega
   generalize k + (csum cnInt (l.take j) : Nat) = K at hset hkk ⊢
   have hK : 1 ≤ K ∧ K + (cnInt l[j] : Nat) ≤ 4611686018427387904 := by omega
   have q0 := @h; refine w1_0 ?_
   refine L_next (j + 1) ?_ ?_ ?_
   ·simp only [go_sem, hkk, ← hset]
    simp [mkInt, encI, hc]
    try omega
   ·omega
   ·omega
  ·simp only [decide_eq_false_iff_not] at h
   have e : j = l.length := by omega
   subst e
   refine w0_0 ?_
   exact ⟨⟨⟨_, rfl, by simp only [go_sem, midR_all, List.take_length]⟩, trivial⟩, by simp only [go_sem, midR_all, List.take_length]⟩
theorem heldIntS_ok (l : List Int) (k : Int) (hk : 1 ≤ k ∧ k + (csum cnInt l : Nat) ≤ 4611686018427387904) : FnC Tryz.prog 98 [.o (.d (.sl ((mkL mkInt cnInt l k).map encI))), oi k] (oi (k + (csum cnInt l : Nat))) := by
 have hlen := csum_len cnInt cnInt_pos l
 refine ent Tryz.func98 rfl Tryz.call98 rfl (fun C => ?_); simp only [go_sem, st0, Tryz.ntmps98]
 refine w0_0 ?_
 refine WP_lp (α := Nat) (fun j => [(5, oi j), (1, oi (k + (csum cnInt (l.take j) : Nat)))]) (fun _ => []) (fun j => j ≤ l.length) (fun j => l.length - j) 0 (fun _ => ?_) ?_ ?_ (fun j hj => ?_)
 ·simp only [go_sem]
 ·simp only [go_sem]; simp [csum]
 ·simp
 ·simp only [go_sem]
  refine w0_0 ?_
  refine cnd rfl (fun h => ?_) (fun h => ?_)
  ·simp only [decide_eq_true_eq, Int.ofNat_lt] at h
   have hs := csum_take cnInt l h
   have ht := csum_le cnInt l (j + 1)
   have hc : cnInt l[j] = 1 := rfl
   have hkk : k + (csum cnInt (l.take (j + 1)) : Nat) = k + (csum cnInt (l.take j) : Nat) + (cnInt l[j] : Nat) := by omega
   have hg := mkL_get mkInt cnInt l k j (by rw [mkL_length]; exact h)
   generalize k + (csum cnInt (l.take j) : Nat) = K at hg hkk ⊢
   have hK : 1 ≤ K ∧ K + (cnInt l[j] : Nat) ≤ 4611686018427387904 := by omega
   repeat' (with_reducible first | refine nY ?_ | (refine mX ?_; try simp only [go_sem, h, hg, mkInt]) | refine kO ?_ (by decide) | refine regd (by kernel_rfl) ?_ | (refine And.intro ?_ ?_; focus omega))
   refine L_next (j + 1) ?_ ?_ ?_
   ·simp only [go_sem, hkk]
    simp [hc]
    try omega
   ·omega
   ·omega
  ·simp only [decide_eq_false_iff_not] at h
   have e : j = l.length := by omega
   subst e
   refine w0_0 ?_
   exact retK_ret ⟨⟨_, rfl, by simp only [go_sem, List.take_length]⟩, trivial⟩
def cnStr (x : ByteArray) : Nat := 1
def mkStr (x : ByteArray) (k : Int) : ByteArray := (mText k)
def cnBool (x : Bool) : Nat := 1
def mkBool (x : Bool) (k : Int) : Bool := (decide (Int.tmod k 3 = 0))
end Go.Proofs.YtddimbdeggomaaaGreat
end
section
set_option linter.all false
set_option maxRecDepth 100000
set_option maxHeartbeats 4000000
namespace Go.Proofs.YtddimbdeggomaaaGreat
open Go Go.Sx Go.RowKit Go.Proofs
def cnField (x : TField) : Nat := 2
theorem cnField_pos : ∀ x, 1 ≤ cnField x := fun x => by unfold cnField; omega
def mkField (x : TField) (k : Int) : TField := ⟨(mText k), (k + 1)⟩
theorem markFieldS_ok (l : List TField) (k : Int) (hk : 1 ≤ k ∧ k + (csum cnField l : Nat) ≤ 4611686018427387904) : FnM Tryz.prog 93 false [.w 0 2 (l.map encField)] [.w 0 2 ((mkL mkField cnField l k).map encField)] k (k + (csum cnField l : Nat)) := by
 have hlen := csum_len cnField cnField_pos l
 refine entm Tryz.func93 rfl Tryz.call93 rfl (by simp) (by simp only [go_sem]) (fun C tg => ?_); simp only [go_sem, Tryz.ntmps93]
 refine w0_0 ?_
 refine WP_lp (α := Nat) (fun j => [(5, oi j), (1, oi (k + (csum cnField (l.take j) : Nat)))]) (fun j => [(0, .own (tg 0) 2 (midR encField mkField cnField l k j))]) (fun j => j ≤ l.length) (fun j => l.length - j) 0 (fun _ => ?_) ?_ ?_ (fun j hj => ?_)
 ·simp only [go_sem]
 ·simp only [go_sem]; simp [midR_zero, csum]
 ·simp
 ·simp only [go_sem]
  refine w0_0 ?_
  refine cnd rfl (fun h => ?_) (fun h => ?_)
  ·simp only [decide_eq_true_eq, Int.ofNat_lt] at h
   have hs := csum_take cnField l h
   have ht := csum_le cnField l (j + 1)
   have hc : cnField l[j] = 2 := rfl
   have hset := midR_set encField mkField cnField l k j h
   have hkk : k + (csum cnField (l.take (j + 1)) : Nat) = k + (csum cnField (l.take j) : Nat) + (cnField l[j] : Nat) := by omega
   generalize k + (csum cnField (l.take j) : Nat) = K at hset hkk ⊢
   have hK : 1 ≤ K ∧ K + (cnField l[j] : Nat) ≤ 4611686018427387904 := by omega
   have q0 := @h; refine w1_1 (markText_ok K (by omega)) ?_
   refine L_next (j + 1) ?_ ?_ ?_
   ·simp only [go_sem, hkk, ← hset]
    simp [mkField, encField, hc]
    try omega
   ·omega
   ·omega
  ·simp only [decide_eq_false_iff_not] at h
   have e : j = l.length := by omega
   subst e
   refine w0_0 ?_
   exact ⟨⟨⟨_, rfl, by simp only [go_sem, midR_all, List.take_length]⟩, trivial⟩, by simp only [go_sem, midR_all, List.take_length]⟩
theorem heldFieldS_ok (l : List TField) (k : Int) (hk : 1 ≤ k ∧ k + (csum cnField l : Nat) ≤ 4611686018427387904) : FnC Tryz.prog 176 [.o (.d (.sl ((mkL mkField cnField l k).map encField))), oi k] (oi (k + (csum cnField l : Nat))) := by
 have hlen := csum_len cnField cnField_pos l
 refine ent Tryz.func176 rfl Tryz.call176 rfl (fun C => ?_); simp only [go_sem, st0, Tryz.ntmps176]
 refine w0_0 ?_
 refine WP_lp (α := Nat) (fun j => [(5, oi j), (1, oi (k + (csum cnField (l.take j) : Nat)))]) (fun _ => []) (fun j => j ≤ l.length) (fun j => l.length - j) 0 (fun _ => ?_) ?_ ?_ (fun j hj => ?_)
 ·simp only [go_sem]
 ·simp only [go_sem]; simp [csum]
 ·simp
 ·simp only [go_sem]
  refine w0_0 ?_
  refine cnd rfl (fun h => ?_) (fun h => ?_)
  ·simp only [decide_eq_true_eq, Int.ofNat_lt] at h
   have hs := csum_take cnField l h
   have ht := csum_le cnField l (j + 1)
   have hc : cnField l[j] = 2 := rfl
   have hkk : k + (csum cnField (l.take (j + 1)) : Nat) = k + (csum cnField (l.take j) : Nat) + (cnField l[j] : Nat) := by omega
   have hg := mkL_get mkField cnField l k j (by rw [mkL_length]; exact h)
   generalize k + (csum cnField (l.take j) : Nat) = K at hg hkk ⊢
   have hK : 1 ≤ K ∧ K + (cnField l[j] : Nat) ≤ 4611686018427387904 := by omega
   repeat' (with_reducible first | refine nY ?_ | (refine mX ?_; try simp only [go_sem, h, hg, mkField]) | refine kO ?_ (by decide) | refine regd (by kernel_rfl) ?_ | (refine cC (markText_ok K (by omega)) ?_ ?_; focus simp only [go_sem, and_self]; done) | (refine And.intro ?_ ?_; focus omega))
   refine L_next (j + 1) ?_ ?_ ?_
   ·simp only [go_sem, hkk]
    simp [hc]
    try omega
   ·omega
   ·omega
  ·simp only [decide_eq_false_iff_not] at h
   have e : j = l.length := by omega
   subst e
   refine w0_0 ?_
   exact retK_ret ⟨⟨_, rfl, by simp only [go_sem, List.take_length]⟩, trivial⟩
def cnAttr (x : TAttr) : Nat := 4
theorem cnAttr_pos : ∀ x, 1 ≤ cnAttr x := fun x => by unfold cnAttr; omega
def mkAttr (x : TAttr) (k : Int) : TAttr := ⟨(mText k), ⟨(k + 1), ((k + 1) + 1), (mText (((k + 1) + 1) + 1))⟩⟩
theorem markAttrS_ok (l : List TAttr) (k : Int) (hk : 1 ≤ k ∧ k + (csum cnAttr l : Nat) ≤ 4611686018427387904) : FnM Tryz.prog 66 false [.w 0 4 (l.map encAttr)] [.w 0 4 ((mkL mkAttr cnAttr l k).map encAttr)] k (k + (csum cnAttr l : Nat)) := by
 have hlen := csum_len cnAttr cnAttr_pos l
 refine entm Tryz.func66 rfl Tryz.call66 rfl (by simp) (by simp only [go_sem]) (fun C tg => ?_); simp only [go_sem, Tryz.ntmps66]
 refine w0_0 ?_
 refine WP_lp (α := Nat) (fun j => [(5, oi j), (1, oi (k + (csum cnAttr (l.take j) : Nat)))]) (fun j => [(0, .own (tg 0) 4 (midR encAttr mkAttr cnAttr l k j))]) (fun j => j ≤ l.length) (fun j => l.length - j) 0 (fun _ => ?_) ?_ ?_ (fun j hj => ?_)
 ·simp only [go_sem]
 ·simp only [go_sem]; simp [midR_zero, csum]
 ·simp
 ·simp only [go_sem]
  refine w0_0 ?_
  refine cnd rfl (fun h => ?_) (fun h => ?_)
  ·simp only [decide_eq_true_eq, Int.ofNat_lt] at h
   have hs := csum_take cnAttr l h
   have ht := csum_le cnAttr l (j + 1)
   have hc : cnAttr l[j] = 4 := rfl
   have hset := midR_set encAttr mkAttr cnAttr l k j h
   have hkk : k + (csum cnAttr (l.take (j + 1)) : Nat) = k + (csum cnAttr (l.take j) : Nat) + (cnAttr l[j] : Nat) := by omega
   generalize k + (csum cnAttr (l.take j) : Nat) = K at hset hkk ⊢
   have hK : 1 ≤ K ∧ K + (cnAttr l[j] : Nat) ≤ 4611686018427387904 := by omega
   have q0 := @h; refine w1_2 (markText_ok K (by omega)) (markText_ok (((K + 1) + 1) + 1) (by omega)) ?_
   refine L_next (j + 1) ?_ ?_ ?_
   ·simp only [go_sem, hkk, ← hset]
    simp [mkAttr, encAttr, hc]
    try omega
   ·omega
   ·omega
  ·simp only [decide_eq_false_iff_not] at h
   have e : j = l.length := by omega
   subst e
   refine w0_0 ?_
   exact ⟨⟨⟨_, rfl, by simp only [go_sem, midR_all, List.take_length]⟩, trivial⟩, by simp only [go_sem, midR_all, List.take_length]⟩
theorem heldAttrS_ok (l : List TAttr) (k : Int) (hk : 1 ≤ k ∧ k + (csum cnAttr l : Nat) ≤ 4611686018427387904) : FnC Tryz.prog 67 [.o (.d (.sl ((mkL mkAttr cnAttr l k).map encAttr))), oi k] (oi (k + (csum cnAttr l : Nat))) := by
 have hlen := csum_len cnAttr cnAttr_pos l
 refine ent Tryz.func67 rfl Tryz.call67 rfl (fun C => ?_); simp only [go_sem, st0, Tryz.ntmps67]
 refine w0_0 ?_
 refine WP_lp (α := Nat) (fun j => [(5, oi j), (1, oi (k + (csum cnAttr (l.take j) : Nat)))]) (fun _ => []) (fun j => j ≤ l.length) (fun j => l.length - j) 0 (fun _ => ?_) ?_ ?_ (fun j hj => ?_)
 ·simp only [go_sem]
 ·simp only [go_sem]; simp [csum]
 ·simp
 ·simp only [go_sem]
  refine w0_0 ?_
  refine cnd rfl (fun h => ?_) (fun h => ?_)
  ·simp only [decide_eq_true_eq, Int.ofNat_lt] at h
   have hs := csum_take cnAttr l h
   have ht := csum_le cnAttr l (j + 1)
   have hc : cnAttr l[j] = 4 := rfl
   have hkk : k + (csum cnAttr (l.take (j + 1)) : Nat) = k + (csum cnAttr (l.take j) : Nat) + (cnAttr l[j] : Nat) := by omega
   have hg := mkL_get mkAttr cnAttr l k j (by rw [mkL_length]; exact h)
   generalize k + (csum cnAttr (l.take j) : Nat) = K at hg hkk ⊢
   have hK : 1 ≤ K ∧ K + (cnAttr l[j] : Nat) ≤ 4611686018427387904 := by omega
   repeat' (with_reducible first | refine nY ?_ | (refine mX ?_; try simp only [go_sem, h, hg, mkAttr]) | refine kO ?_ (by decide) | refine regd (by kernel_rfl) ?_ | (refine cC (markText_ok K (by omega)) ?_ ?_; focus simp only [go_sem, and_self]; done) | (refine cC (markText_ok (((K + 1) + 1) + 1) (by omega)) ?_ ?_; focus simp only [go_sem, and_self]; done) | (refine And.intro ?_ ?_; focus omega))
   refine L_next (j + 1) ?_ ?_ ?_
   ·simp only [go_sem, hkk]
    simp [hc]
    try omega
   ·omega
   ·omega
  ·simp only [decide_eq_false_iff_not] at h
   have e : j = l.length := by omega
   subst e
   refine w0_0 ?_
   exact retK_ret ⟨⟨_, rfl, by simp only [go_sem, List.take_length]⟩, trivial⟩
def cnNode (x : TNode) : Nat := 7
theorem cnNode_pos : ∀ x, 1 ≤ cnNode x := fun x => by unfold cnNode; omega
def mkNode (x : TNode) (k : Int) : TNode := ⟨k, (k + 1), ((k + 1) + 1), (mText (((k + 1) + 1) + 1)), ⟨((((k + 1) + 1) + 1) + 1), (((((k + 1) + 1) + 1) + 1) + 1), (mText ((((((k + 1) + 1) + 1) + 1) + 1) + 1))⟩⟩
theorem markNodeS_ok (l : List TNode) (k : Int) (hk : 1 ≤ k ∧ k + (csum cnNode l : Nat) ≤ 4611686018427387904) : FnM Tryz.prog 96 false [.w 0 7 (l.map encNode)] [.w 0 7 ((mkL mkNode cnNode l k).map encNode)] k (k + (csum cnNode l : Nat)) := by
 have hlen := csum_len cnNode cnNode_pos l
 refine entm Tryz.func96 rfl Tryz.call96 rfl (by simp) (by simp only [go_sem]) (fun C tg => ?_); simp only [go_sem, Tryz.ntmps96]
 refine w0_0 ?_
 refine WP_lp (α := Nat) (fun j => [(5, oi j), (1, oi (k + (csum cnNode (l.take j) : Nat)))]) (fun j => [(0, .own (tg 0) 7 (midR encNode mkNode cnNode l k j))]) (fun j => j ≤ l.length) (fun j => l.length - j) 0 (fun _ => ?_) ?_ ?_ (fun j hj => ?_)
 ·simp only [go_sem]
 ·simp only [go_sem]; simp [midR_zero, csum]
 ·simp
 ·simp only [go_sem]
  refine w0_0 ?_
  refine cnd rfl (fun h => ?_) (fun h => ?_)
  ·simp only [decide_eq_true_eq, Int.ofNat_lt] at h
   have hs := csum_take cnNode l h
   have ht := csum_le cnNode l (j + 1)
   have hc : cnNode l[j] = 7 := rfl
   have hset := midR_set encNode mkNode cnNode l k j h
   have hkk : k + (csum cnNode (l.take (j + 1)) : Nat) = k + (csum cnNode (l.take j) : Nat) + (cnNode l[j] : Nat) := by omega
   generalize k + (csum cnNode (l.take j) : Nat) = K at hset hkk ⊢
   have hK : 1 ≤ K ∧ K + (cnNode l[j] : Nat) ≤ 4611686018427387904 := by omega
   have q0 := @h; refine w1_2 (markText_ok (((K + 1) + 1) + 1) (by omega)) (markText_ok ((((((K + 1) + 1) + 1) + 1) + 1) + 1) (by omega)) ?_
   refine L_next (j + 1) ?_ ?_ ?_
   ·simp only [go_sem, hkk, ← hset]
    simp [mkNode, encNode, hc]
    try omega
   ·omega
   ·omega
  ·simp only [decide_eq_false_iff_not] at h
   have e : j = l.length := by omega
   subst e
   refine w0_0 ?_
   exact ⟨⟨⟨_, rfl, by simp only [go_sem, midR_all, List.take_length]⟩, trivial⟩, by simp only [go_sem, midR_all, List.take_length]⟩
theorem heldNodeS_ok (l : List TNode) (k : Int) (hk : 1 ≤ k ∧ k + (csum cnNode l : Nat) ≤ 4611686018427387904) : FnC Tryz.prog 178 [.o (.d (.sl ((mkL mkNode cnNode l k).map encNode))), oi k] (oi (k + (csum cnNode l : Nat))) := by
 have hlen := csum_len cnNode cnNode_pos l
 refine ent Tryz.func178 rfl Tryz.call178 rfl (fun C => ?_); simp only [go_sem, st0, Tryz.ntmps178]
 refine w0_0 ?_
 refine WP_lp (α := Nat) (fun j => [(5, oi j), (1, oi (k + (csum cnNode (l.take j) : Nat)))]) (fun _ => []) (fun j => j ≤ l.length) (fun j => l.length - j) 0 (fun _ => ?_) ?_ ?_ (fun j hj => ?_)
 ·simp only [go_sem]
 ·simp only [go_sem]; simp [csum]
 ·simp
 ·simp only [go_sem]
  refine w0_0 ?_
  refine cnd rfl (fun h => ?_) (fun h => ?_)
  ·simp only [decide_eq_true_eq, Int.ofNat_lt] at h
   have hs := csum_take cnNode l h
   have ht := csum_le cnNode l (j + 1)
   have hc : cnNode l[j] = 7 := rfl
   have hkk : k + (csum cnNode (l.take (j + 1)) : Nat) = k + (csum cnNode (l.take j) : Nat) + (cnNode l[j] : Nat) := by omega
   have hg := mkL_get mkNode cnNode l k j (by rw [mkL_length]; exact h)
   generalize k + (csum cnNode (l.take j) : Nat) = K at hg hkk ⊢
   have hK : 1 ≤ K ∧ K + (cnNode l[j] : Nat) ≤ 4611686018427387904 := by omega
   repeat' (with_reducible first | refine nY ?_ | (refine mX ?_; try simp only [go_sem, h, hg, mkNode]) | refine kO ?_ (by decide) | refine regd (by kernel_rfl) ?_ | (refine cC (markText_ok (((K + 1) + 1) + 1) (by omega)) ?_ ?_; focus simp only [go_sem, and_self]; done) | (refine cC (markText_ok ((((((K + 1) + 1) + 1) + 1) + 1) + 1) (by omega)) ?_ ?_; focus simp only [go_sem, and_self]; done) | (refine And.intro ?_ ?_; focus omega))
   refine L_next (j + 1) ?_ ?_ ?_
   ·simp only [go_sem, hkk]
    simp [hc]
    try omega
   ·omega
   ·omega
  ·simp only [decide_eq_false_iff_not] at h
   have e : j = l.length := by omega
   subst e
   refine w0_0 ?_
   exact retK_ret ⟨⟨_, rfl, by simp only [go_sem, List.take_length]⟩, trivial⟩
end Go.Proofs.YtddimbdeggomaaaGreat
end
section
set_option linter.all false
set_option maxRecDepth 100000
set_option maxHeartbeats 4000000
namespace Go.Proofs.YtddimbdeggomaaaGreat
open Go Go.Sx Go.RowKit Go.Proofs
def cnFile (x : TFile) : Nat := 4 + csum cnAttr x.fAttrs
theorem cnFile_pos : ∀ x, 1 ≤ cnFile x := fun x => by unfold cnFile; omega
def mkFile (x : TFile) (k : Int) : TFile := ⟨k, (k + 1), (decide (Int.tmod ((k + 1) + 1) 3 = 0)), (((k + 1) + 1) + 1), (mkL mkAttr cnAttr x.fAttrs ((((k + 1) + 1) + 1) + 1))⟩
theorem markFileS_ok (l : List TFile) (k : Int) (hk : 1 ≤ k ∧ k + (csum cnFile l : Nat) ≤ 4611686018427387904) : FnM Tryz.prog 94 false [.w 0 5 (l.map encFile)] [.w 0 5 ((mkL mkFile cnFile l k).map encFile)] k (k + (csum cnFile l : Nat)) := by
 have hlen := csum_len cnFile cnFile_pos l
 refine entm Tryz.func94 rfl Tryz.call94 rfl (by simp) (by simp only [go_sem]) (fun C tg => ?_); simp only [go_sem, Tryz.ntmps94]
 refine w0_0 ?_
 refine WP_lp (α := Nat) (fun j => [(5, oi j), (1, oi (k + (csum cnFile (l.take j) : Nat)))]) (fun j => [(0, .own (tg 0) 5 (midR encFile mkFile cnFile l k j))]) (fun j => j ≤ l.length) (fun j => l.length - j) 0 (fun _ => ?_) ?_ ?_ (fun j hj => ?_)
 ·simp only [go_sem]
 ·simp only [go_sem]; simp [midR_zero, csum]
 ·simp
 ·simp only [go_sem]
  refine w0_0 ?_
  refine cnd rfl (fun h => ?_) (fun h => ?_)
  ·simp only [decide_eq_true_eq, Int.ofNat_lt] at h
   have hs := csum_take cnFile l h
   have ht := csum_le cnFile l (j + 1)
   have hc : cnFile l[j] = 4 + csum cnAttr l[j].fAttrs := rfl
   have hset := midR_set encFile mkFile cnFile l k j h
   have hkk : k + (csum cnFile (l.take (j + 1)) : Nat) = k + (csum cnFile (l.take j) : Nat) + (cnFile l[j] : Nat) := by omega
   generalize k + (csum cnFile (l.take j) : Nat) = K at hset hkk ⊢
   have hK : 1 ≤ K ∧ K + (cnFile l[j] : Nat) ≤ 4611686018427387904 := by omega
   repeat' (with_reducible first | refine nY ?_ | (refine mX ?_; try simp only [go_sem, h]) | refine kO ?_ (by decide) | refine regd (by kernel_rfl) ?_ | (refine caln (markAttrS_ok l[j].fAttrs _ (by omega)) ?_ (uX ?_); (focus simp only [go_sem, h]; done)) | (refine And.intro ?_ ?_; focus omega))
   refine L_next (j + 1) ?_ ?_ ?_
   ·simp only [go_sem, hkk, ← hset]
    simp [mkFile, encFile, hc]
    try omega
   ·omega
   ·omega
  ·simp only [decide_eq_false_iff_not] at h
   have e : j = l.length := by omega
   subst e
   refine w0_0 ?_
   exact ⟨⟨⟨_, rfl, by simp only [go_sem, midR_all, List.take_length]⟩, trivial⟩, by simp only [go_sem, midR_all, List.take_length]⟩
theorem heldFileS_ok (l : List TFile) (k : Int) (hk : 1 ≤ k ∧ k + (csum cnFile l : Nat) ≤ 4611686018427387904) : FnC Tryz.prog 177 [.o (.d (.sl ((mkL mkFile cnFile l k).map encFile))), oi k] (oi (k + (csum cnFile l : Nat))) := by
 have hlen := csum_len cnFile cnFile_pos l
 refine ent Tryz.func177 rfl Tryz.call177 rfl (fun C => ?_); simp only [go_sem, st0, Tryz.ntmps177]
 refine w0_0 ?_
 refine WP_lp (α := Nat) (fun j => [(5, oi j), (1, oi (k + (csum cnFile (l.take j) : Nat)))]) (fun _ => []) (fun j => j ≤ l.length) (fun j => l.length - j) 0 (fun _ => ?_) ?_ ?_ (fun j hj => ?_)
 ·simp only [go_sem]
 ·simp only [go_sem]; simp [csum]
 ·simp
 ·simp only [go_sem]
  refine w0_0 ?_
  refine cnd rfl (fun h => ?_) (fun h => ?_)
  ·simp only [decide_eq_true_eq, Int.ofNat_lt] at h
   have hs := csum_take cnFile l h
   have ht := csum_le cnFile l (j + 1)
   have hc : cnFile l[j] = 4 + csum cnAttr l[j].fAttrs := rfl
   have hkk : k + (csum cnFile (l.take (j + 1)) : Nat) = k + (csum cnFile (l.take j) : Nat) + (cnFile l[j] : Nat) := by omega
   have hg := mkL_get mkFile cnFile l k j (by rw [mkL_length]; exact h)
   generalize k + (csum cnFile (l.take j) : Nat) = K at hg hkk ⊢
   have hK : 1 ≤ K ∧ K + (cnFile l[j] : Nat) ≤ 4611686018427387904 := by omega
   have hneg0 : ¬ (((((K + 1) + 1) + 1) + 1) + (csum cnAttr l[j].fAttrs : Nat) < 0) := by omega
   repeat' (with_reducible first | refine nY ?_ | (refine mX ?_; try simp only [go_sem, h, hg, mkFile, hneg0]) | refine kO ?_ (by decide) | refine regd (by kernel_rfl) ?_ | (refine cC (heldAttrS_ok l[j].fAttrs ((((K + 1) + 1) + 1) + 1) (by omega)) ?_ ?_; focus simp only [go_sem, and_self]; done) | (refine And.intro ?_ ?_; focus omega))
   refine L_next (j + 1) ?_ ?_ ?_
   ·simp only [go_sem, hkk]
    simp [hc]
    try omega
   ·omega
   ·omega
  ·simp only [decide_eq_false_iff_not] at h
   have e : j = l.length := by omega
   subst e
   refine w0_0 ?_
   exact retK_ret ⟨⟨_, rfl, by simp only [go_sem, List.take_length]⟩, trivial⟩
def cnDir (x : TDir) : Nat := 1 + csum cnNode x.fQuery
theorem cnDir_pos : ∀ x, 1 ≤ cnDir x := fun x => by unfold cnDir; omega
def mkDir (x : TDir) (k : Int) : TDir := ⟨(mText k), (mkL mkNode cnNode x.fQuery (k + 1))⟩
theorem markDirS_ok (l : List TDir) (k : Int) (hk : 1 ≤ k ∧ k + (csum cnDir l : Nat) ≤ 4611686018427387904) : FnM Tryz.prog 29 false [.w 0 2 (l.map encDir)] [.w 0 2 ((mkL mkDir cnDir l k).map encDir)] k (k + (csum cnDir l : Nat)) := by
 have hlen := csum_len cnDir cnDir_pos l
 refine entm Tryz.func29 rfl Tryz.call29 rfl (by simp) (by simp only [go_sem]) (fun C tg => ?_); simp only [go_sem, Tryz.ntmps29]
 refine w0_0 ?_
 refine WP_lp (α := Nat) (fun j => [(5, oi j), (1, oi (k + (csum cnDir (l.take j) : Nat)))]) (fun j => [(0, .own (tg 0) 2 (midR encDir mkDir cnDir l k j))]) (fun j => j ≤ l.length) (fun j => l.length - j) 0 (fun _ => ?_) ?_ ?_ (fun j hj => ?_)
 ·simp only [go_sem]
 ·simp only [go_sem]; simp [midR_zero, csum]
 ·simp
 ·simp only [go_sem]
  refine w0_0 ?_
  refine cnd rfl (fun h => ?_) (fun h => ?_)
  ·simp only [decide_eq_true_eq, Int.ofNat_lt] at h
   have hs := csum_take cnDir l h
   have ht := csum_le cnDir l (j + 1)
   have hc : cnDir l[j] = 1 + csum cnNode l[j].fQuery := rfl
   have hset := midR_set encDir mkDir cnDir l k j h
   have hkk : k + (csum cnDir (l.take (j + 1)) : Nat) = k + (csum cnDir (l.take j) : Nat) + (cnDir l[j] : Nat) := by omega
   generalize k + (csum cnDir (l.take j) : Nat) = K at hset hkk ⊢
   have hK : 1 ≤ K ∧ K + (cnDir l[j] : Nat) ≤ 4611686018427387904 := by omega
   repeat' (with_reducible first | refine nY ?_ | (refine mX ?_; try simp only [go_sem, h]) | refine kO ?_ (by decide) | refine regd (by kernel_rfl) ?_ | (refine cC (markText_ok K (by omega)) ?_ ?_; focus simp only [go_sem, and_self]; done) | (refine caln (markNodeS_ok l[j].fQuery _ (by omega)) ?_ (uX ?_); (focus simp only [go_sem, h]; done)) | (refine And.intro ?_ ?_; focus omega))
   refine L_next (j + 1) ?_ ?_ ?_
   ·simp only [go_sem, hkk, ← hset]
    simp [mkDir, encDir, hc]
    try omega
   ·omega
   ·omega
  ·simp only [decide_eq_false_iff_not] at h
   have e : j = l.length := by omega
   subst e
   refine w0_0 ?_
   exact ⟨⟨⟨_, rfl, by simp only [go_sem, midR_all, List.take_length]⟩, trivial⟩, by simp only [go_sem, midR_all, List.take_length]⟩
theorem heldDirS_ok (l : List TDir) (k : Int) (hk : 1 ≤ k ∧ k + (csum cnDir l : Nat) ≤ 4611686018427387904) : FnC Tryz.prog 106 [.o (.d (.sl ((mkL mkDir cnDir l k).map encDir))), oi k] (oi (k + (csum cnDir l : Nat))) := by
 have hlen := csum_len cnDir cnDir_pos l
 refine ent Tryz.func106 rfl Tryz.call106 rfl (fun C => ?_); simp only [go_sem, st0, Tryz.ntmps106]
 refine w0_0 ?_
 refine WP_lp (α := Nat) (fun j => [(5, oi j), (1, oi (k + (csum cnDir (l.take j) : Nat)))]) (fun _ => []) (fun j => j ≤ l.length) (fun j => l.length - j) 0 (fun _ => ?_) ?_ ?_ (fun j hj => ?_)
 ·simp only [go_sem]
 ·simp only [go_sem]; simp [csum]
 ·simp
 ·simp only [go_sem]
  refine w0_0 ?_
  refine cnd rfl (fun h => ?_) (fun h => ?_)
  ·simp only [decide_eq_true_eq, Int.ofNat_lt] at h
   have hs := csum_take cnDir l h
   have ht := csum_le cnDir l (j + 1)
   have hc : cnDir l[j] = 1 + csum cnNode l[j].fQuery := rfl
   have hkk : k + (csum cnDir (l.take (j + 1)) : Nat) = k + (csum cnDir (l.take j) : Nat) + (cnDir l[j] : Nat) := by omega
   have hg := mkL_get mkDir cnDir l k j (by rw [mkL_length]; exact h)
   generalize k + (csum cnDir (l.take j) : Nat) = K at hg hkk ⊢
   have hK : 1 ≤ K ∧ K + (cnDir l[j] : Nat) ≤ 4611686018427387904 := by omega
   have hneg0 : ¬ ((K + 1) + (csum cnNode l[j].fQuery : Nat) < 0) := by omega
   repeat' (with_reducible first | refine nY ?_ | (refine mX ?_; try simp only [go_sem, h, hg, mkDir, hneg0]) | refine kO ?_ (by decide) | refine regd (by kernel_rfl) ?_ | (refine cC (markText_ok K (by omega)) ?_ ?_; focus simp only [go_sem, and_self]; done) | (refine cC (heldNodeS_ok l[j].fQuery (K + 1) (by omega)) ?_ ?_; focus simp only [go_sem, and_self]; done) | (refine And.intro ?_ ?_; focus omega))
   refine L_next (j + 1) ?_ ?_ ?_
   ·simp only [go_sem, hkk]
    simp [hc]
    try omega
   ·omega
   ·omega
  ·simp only [decide_eq_false_iff_not] at h
   have e : j = l.length := by omega
   subst e
   refine w0_0 ?_
   exact retK_ret ⟨⟨_, rfl, by simp only [go_sem, List.take_length]⟩, trivial⟩
def cnResult (x : TResult) : Nat := 1 + csum cnInt x.fIDs
theorem cnResult_pos : ∀ x, 1 ≤ cnResult x := fun x => by unfold cnResult; omega
def mkResult (x : TResult) (k : Int) : TResult := ⟨(mText k), (mkL mkInt cnInt x.fIDs (k + 1))⟩
theorem markResultS_ok (l : List TResult) (k : Int) (hk : 1 ≤ k ∧ k + (csum cnResult l : Nat) ≤ 4611686018427387904) : FnM Tryz.prog 30 false [.w 0 2 (l.map encResult)] [.w 0 2 ((mkL mkResult cnResult l k).map encResult)] k (k + (csum cnResult l : Nat)) := by
 have hlen := csum_len cnResult cnResult_pos l
 refine entm Tryz.func30 rfl Tryz.call30 rfl (by simp) (by simp only [go_sem]) (fun C tg => ?_); simp only [go_sem, Tryz.ntmps30]
 refine w0_0 ?_
 refine WP_lp (α := Nat) (fun j => [(5, oi j), (1, oi (k + (csum cnResult (l.take j) : Nat)))]) (fun j => [(0, .own (tg 0) 2 (midR encResult mkResult cnResult l k j))]) (fun j => j ≤ l.length) (fun j => l.length - j) 0 (fun _ => ?_) ?_ ?_ (fun j hj => ?_)
 ·simp only [go_sem]
 ·simp only [go_sem]; simp [midR_zero, csum]
 ·simp
 ·simp only [go_sem]
  refine w0_0 ?_
  refine cnd rfl (fun h => ?_) (fun h => ?_)
  ·simp only [decide_eq_true_eq, Int.ofNat_lt] at h
   have hs := csum_take cnResult l h
   have ht := csum_le cnResult l (j + 1)
   have hc : cnResult l[j] = 1 + csum cnInt l[j].fIDs := rfl
   have hset := midR_set encResult mkResult cnResult l k j h
   have hkk : k + (csum cnResult (l.take (j + 1)) : Nat) = k + (csum cnResult (l.take j) : Nat) + (cnResult l[j] : Nat) := by omega
   generalize k + (csum cnResult (l.take j) : Nat) = K at hset hkk ⊢
   have hK : 1 ≤ K ∧ K + (cnResult l[j] : Nat) ≤ 4611686018427387904 := by omega
   repeat' (with_reducible first | refine nY ?_ | (refine mX ?_; try simp only [go_sem, h]) | refine kO ?_ (by decide) | refine regd (by kernel_rfl) ?_ | (refine cC (markText_ok K (by omega)) ?_ ?_; focus simp only [go_sem, and_self]; done) | (refine caln (markIntS_ok l[j].fIDs _ (by omega)) ?_ (uX ?_); (focus simp only [go_sem, h]; done)) | (refine And.intro ?_ ?_; focus omega))
   refine L_next (j + 1) ?_ ?_ ?_
   ·simp only [go_sem, hkk, ← hset]
    simp [mkResult, encResult, hc]
    try omega
   ·omega
   ·omega
  ·simp only [decide_eq_false_iff_not] at h
   have e : j = l.length := by omega
   subst e
   refine w0_0 ?_
   exact ⟨⟨⟨_, rfl, by simp only [go_sem, midR_all, List.take_length]⟩, trivial⟩, by simp only [go_sem, midR_all, List.take_length]⟩
theorem heldResultS_ok (l : List TResult) (k : Int) (hk : 1 ≤ k ∧ k + (csum cnResult l : Nat) ≤ 4611686018427387904) : FnC Tryz.prog 32 [.o (.d (.sl ((mkL mkResult cnResult l k).map encResult))), oi k] (oi (k + (csum cnResult l : Nat))) := by
 have hlen := csum_len cnResult cnResult_pos l
 refine ent Tryz.func32 rfl Tryz.call32 rfl (fun C => ?_); simp only [go_sem, st0, Tryz.ntmps32]
 refine w0_0 ?_
 refine WP_lp (α := Nat) (fun j => [(5, oi j), (1, oi (k + (csum cnResult (l.take j) : Nat)))]) (fun _ => []) (fun j => j ≤ l.length) (fun j => l.length - j) 0 (fun _ => ?_) ?_ ?_ (fun j hj => ?_)
 ·simp only [go_sem]
 ·simp only [go_sem]; simp [csum]
 ·simp
 ·simp only [go_sem]
  refine w0_0 ?_
  refine cnd rfl (fun h => ?_) (fun h => ?_)
  ·simp only [decide_eq_true_eq, Int.ofNat_lt] at h
   have hs := csum_take cnResult l h
   have ht := csum_le cnResult l (j + 1)
   have hc : cnResult l[j] = 1 + csum cnInt l[j].fIDs := rfl
   have hkk : k + (csum cnResult (l.take (j + 1)) : Nat) = k + (csum cnResult (l.take j) : Nat) + (cnResult l[j] : Nat) := by omega
   have hg := mkL_get mkResult cnResult l k j (by rw [mkL_length]; exact h)
   generalize k + (csum cnResult (l.take j) : Nat) = K at hg hkk ⊢
   have hK : 1 ≤ K ∧ K + (cnResult l[j] : Nat) ≤ 4611686018427387904 := by omega
   have hneg0 : ¬ ((K + 1) + (csum cnInt l[j].fIDs : Nat) < 0) := by omega
   repeat' (with_reducible first | refine nY ?_ | (refine mX ?_; try simp only [go_sem, h, hg, mkResult, hneg0]) | refine kO ?_ (by decide) | refine regd (by kernel_rfl) ?_ | (refine cC (markText_ok K (by omega)) ?_ ?_; focus simp only [go_sem, and_self]; done) | (refine cC (heldIntS_ok l[j].fIDs (K + 1) (by omega)) ?_ ?_; focus simp only [go_sem, and_self]; done) | (refine And.intro ?_ ?_; focus omega))
   refine L_next (j + 1) ?_ ?_ ?_
   ·simp only [go_sem, hkk]
    simp [hc]
    try omega
   ·omega
   ·omega
  ·simp only [decide_eq_false_iff_not] at h
   have e : j = l.length := by omega
   subst e
   refine w0_0 ?_
   exact retK_ret ⟨⟨_, rfl, by simp only [go_sem, List.take_length]⟩, trivial⟩
def cnDiff (x : TDiff) : Nat := 1 + csum cnInt x.fAdded + csum cnInt x.fRemoved
theorem cnDiff_pos : ∀ x, 1 ≤ cnDiff x := fun x => by unfold cnDiff; omega
def mkDiff (x : TDiff) (k : Int) : TDiff := ⟨(mText k), (mkL mkInt cnInt x.fAdded (k + 1)), (mkL mkInt cnInt x.fRemoved ((k + 1) + (csum cnInt x.fAdded : Nat)))⟩
theorem markDiffS_ok (l : List TDiff) (k : Int) (hk : 1 ≤ k ∧ k + (csum cnDiff l : Nat) ≤ 4611686018427387904) : FnM Tryz.prog 47 false [.w 0 3 (l.map encDiff)] [.w 0 3 ((mkL mkDiff cnDiff l k).map encDiff)] k (k + (csum cnDiff l : Nat)) := by
 have hlen := csum_len cnDiff cnDiff_pos l
 refine entm Tryz.func47 rfl Tryz.call47 rfl (by simp) (by simp only [go_sem]) (fun C tg => ?_); simp only [go_sem, Tryz.ntmps47]
 refine w0_0 ?_
 refine WP_lp (α := Nat) (fun j => [(5, oi j), (1, oi (k + (csum cnDiff (l.take j) : Nat)))]) (fun j => [(0, .own (tg 0) 3 (midR encDiff mkDiff cnDiff l k j))]) (fun j => j ≤ l.length) (fun j => l.length - j) 0 (fun _ => ?_) ?_ ?_ (fun j hj => ?_)
 ·simp only [go_sem]
 ·simp only [go_sem]; simp [midR_zero, csum]
 ·simp
 ·simp only [go_sem]
  refine w0_0 ?_
  refine cnd rfl (fun h => ?_) (fun h => ?_)
  ·simp only [decide_eq_true_eq, Int.ofNat_lt] at h
   have hs := csum_take cnDiff l h
   have ht := csum_le cnDiff l (j + 1)
   have hc : cnDiff l[j] = 1 + csum cnInt l[j].fAdded + csum cnInt l[j].fRemoved := rfl
   have hset := midR_set encDiff mkDiff cnDiff l k j h
   have hkk : k + (csum cnDiff (l.take (j + 1)) : Nat) = k + (csum cnDiff (l.take j) : Nat) + (cnDiff l[j] : Nat) := by omega
   generalize k + (csum cnDiff (l.take j) : Nat) = K at hset hkk ⊢
   have hK : 1 ≤ K ∧ K + (cnDiff l[j] : Nat) ≤ 4611686018427387904 := by omega
   repeat' (with_reducible first | refine nY ?_ | (refine mX ?_; try simp only [go_sem, h]) | refine kO ?_ (by decide) | refine regd (by kernel_rfl) ?_ | (refine cC (markText_ok K (by omega)) ?_ ?_; focus simp only [go_sem, and_self]; done) | (refine caln (markIntS_ok l[j].fAdded _ (by omega)) ?_ (uX ?_); (focus simp only [go_sem, h]; done)) | (refine caln (markIntS_ok l[j].fRemoved _ (by omega)) ?_ (uX ?_); (focus simp only [go_sem, h]; done)) | (refine And.intro ?_ ?_; focus omega))
   refine L_next (j + 1) ?_ ?_ ?_
   ·simp only [go_sem, hkk, ← hset]
    simp [mkDiff, encDiff, hc]
    try omega
   ·omega
   ·omega
  ·simp only [decide_eq_false_iff_not] at h
   have e : j = l.length := by omega
   subst e
   refine w0_0 ?_
   exact ⟨⟨⟨_, rfl, by simp only [go_sem, midR_all, List.take_length]⟩, trivial⟩, by simp only [go_sem, midR_all, List.take_length]⟩
theorem heldDiffS_ok (l : List TDiff) (k : Int) (hk : 1 ≤ k ∧ k + (csum cnDiff l : Nat) ≤ 4611686018427387904) : FnC Tryz.prog 48 [.o (.d (.sl ((mkL mkDiff cnDiff l k).map encDiff))), oi k] (oi (k + (csum cnDiff l : Nat))) := by
 have hlen := csum_len cnDiff cnDiff_pos l
 refine ent Tryz.func48 rfl Tryz.call48 rfl (fun C => ?_); simp only [go_sem, st0, Tryz.ntmps48]
 refine w0_0 ?_
 refine WP_lp (α := Nat) (fun j => [(5, oi j), (1, oi (k + (csum cnDiff (l.take j) : Nat)))]) (fun _ => []) (fun j => j ≤ l.length) (fun j => l.length - j) 0 (fun _ => ?_) ?_ ?_ (fun j hj => ?_)
 ·simp only [go_sem]
 ·simp only [go_sem]; simp [csum]
 ·simp
 ·simp only [go_sem]
  refine w0_0 ?_
  refine cnd rfl (fun h => ?_) (fun h => ?_)
  ·simp only [decide_eq_true_eq, Int.ofNat_lt] at h
   have hs := csum_take cnDiff l h
   have ht := csum_le cnDiff l (j + 1)
   have hc : cnDiff l[j] = 1 + csum cnInt l[j].fAdded + csum cnInt l[j].fRemoved := rfl
   have hkk : k + (csum cnDiff (l.take (j + 1)) : Nat) = k + (csum cnDiff (l.take j) : Nat) + (cnDiff l[j] : Nat) := by omega
   have hg := mkL_get mkDiff cnDiff l k j (by rw [mkL_length]; exact h)
   generalize k + (csum cnDiff (l.take j) : Nat) = K at hg hkk ⊢
   have hK : 1 ≤ K ∧ K + (cnDiff l[j] : Nat) ≤ 4611686018427387904 := by omega
   have hneg0 : ¬ ((K + 1) + (csum cnInt l[j].fAdded : Nat) < 0) := by omega
   have hneg1 : ¬ (((K + 1) + (csum cnInt l[j].fAdded : Nat)) + (csum cnInt l[j].fRemoved : Nat) < 0) := by omega
   repeat' (with_reducible first | refine nY ?_ | (refine mX ?_; try simp only [go_sem, h, hg, mkDiff, hneg0, hneg1]) | refine kO ?_ (by decide) | refine regd (by kernel_rfl) ?_ | (refine cC (markText_ok K (by omega)) ?_ ?_; focus simp only [go_sem, and_self]; done) | (refine cC (heldIntS_ok l[j].fAdded (K + 1) (by omega)) ?_ ?_; focus simp only [go_sem, and_self]; done) | (refine cC (heldIntS_ok l[j].fRemoved ((K + 1) + (csum cnInt l[j].fAdded : Nat)) (by omega)) ?_ ?_; focus simp only [go_sem, and_self]; done) | (refine And.intro ?_ ?_; focus omega))
   refine L_next (j + 1) ?_ ?_ ?_
   ·simp only [go_sem, hkk]
    simp [hc]
    try omega
   ·omega
   ·omega
  ·simp only [decide_eq_false_iff_not] at h
   have e : j = l.length := by omega
   subst e
   refine w0_0 ?_
   exact retK_ret ⟨⟨_, rfl, by simp only [go_sem, List.take_length]⟩, trivial⟩
def cnGroup (x : TGroup) : Nat := 3 + csum cnInt x.fIDs
def mkGroup (x : TGroup) (k : Int) : TGroup := ⟨⟨k, (k + 1), (mText ((k + 1) + 1))⟩, (mkL mkInt cnInt x.fIDs (((k + 1) + 1) + 1))⟩
def cnChange (x : TChange) : Nat := 7 + csum cnAttr x.fFile.fAttrs + csum cnNode x.fDir.fQuery
def mkChange (x : TChange) (k : Int) : TChange := ⟨k, ⟨(k + 1), ((k + 1) + 1), (decide (Int.tmod (((k + 1) + 1) + 1) 3 = 0)), ((((k + 1) + 1) + 1) + 1), (mkL mkAttr cnAttr x.fFile.fAttrs (((((k + 1) + 1) + 1) + 1) + 1))⟩, ((((((k + 1) + 1) + 1) + 1) + 1) + (csum cnAttr x.fFile.fAttrs : Nat)), ⟨(mText (((((((k + 1) + 1) + 1) + 1) + 1) + (csum cnAttr x.fFile.fAttrs : Nat)) + 1)), (mkL mkNode cnNode x.fDir.fQuery ((((((((k + 1) + 1) + 1) + 1) + 1) + (csum cnAttr x.fFile.fAttrs : Nat)) + 1) + 1))⟩⟩
end Go.Proofs.YtddimbdeggomaaaGreat
end
section
set_option linter.all false
set_option maxRecDepth 100000
set_option maxHeartbeats 4000000
namespace Go.Proofs.YtddimbdeggomaaaGreat
open Go Go.Sx Go.RowKit Go.Proofs
theorem markFile_ok (x : TFile) (k : Int) (hk : 1 ≤ k ∧ k + (csum cnAttr x.fAttrs : Nat) ≤ 4611686018427387904) : FnM Tryz.prog 46 true [.d (iv x.fID), .d (iv x.fOwner), .d (bv x.fShared), .d (iv x.fLink), .w 0 4 (x.fAttrs.map encAttr)] [.d (iv x.fID), .d (iv x.fOwner), .d (bv x.fShared), .d (iv x.fLink), .w 0 4 ((mkL mkAttr cnAttr x.fAttrs (k)).map encAttr)] k (k + (csum cnAttr x.fAttrs : Nat)) := by
 refine entm Tryz.func46 rfl Tryz.call46 rfl (by simp) (by simp only [go_sem]) (fun C tg => ?_); simp only [go_sem, Tryz.ntmps46]
 repeat' (with_reducible first | refine nY ?_ | (refine mX ?_; try simp only [go_sem]) | refine kO ?_ (by decide) | refine regd (by kernel_rfl) ?_ | (refine calm (markAttrS_ok x.fAttrs _ (by omega)) ?_ ?_ (uX ?_); (focus simp only [go_sem]; done); (focus simp only [go_sem]; done)) | (refine And.intro ?_ ?_; focus omega))
 exact ⟨⟨⟨_, rfl, by simp only [go_sem]⟩, trivial⟩, by simp only [go_sem]⟩
theorem markStore_ok (x : TStore) (k : Int) (hk : 1 ≤ k ∧ k + (csum cnField x.fSchema : Nat) + (csum cnFile x.fFiles : Nat) ≤ 4611686018427387904) : FnM Tryz.prog 28 true [.w 0 2 (x.fSchema.map encField), .w 0 5 (x.fFiles.map encFile), .d (iv x.fNextID)] [.w 0 2 ((mkL mkField cnField x.fSchema (k)).map encField), .w 0 5 ((mkL mkFile cnFile x.fFiles (k + (csum cnField x.fSchema : Nat))).map encFile), .d (iv x.fNextID)] k (k + (csum cnField x.fSchema : Nat) + (csum cnFile x.fFiles : Nat)) := by
 refine entm Tryz.func28 rfl Tryz.call28 rfl (by simp) (by simp only [go_sem]) (fun C tg => ?_); simp only [go_sem, Tryz.ntmps28]
 repeat' (with_reducible first | refine nY ?_ | (refine mX ?_; try simp only [go_sem]) | refine kO ?_ (by decide) | refine regd (by kernel_rfl) ?_ | (refine calm (markFieldS_ok x.fSchema _ (by omega)) ?_ ?_ (uX ?_); (focus simp only [go_sem]; done); (focus simp only [go_sem]; done)) | (refine calm (markFileS_ok x.fFiles _ (by omega)) ?_ ?_ (uX ?_); (focus simp only [go_sem]; done); (focus simp only [go_sem]; done)) | (refine And.intro ?_ ?_; focus omega))
 exact ⟨⟨⟨_, rfl, by simp only [go_sem]⟩, trivial⟩, by simp only [go_sem]⟩
theorem heldStore_ok (x : TStore) (k : Int) (hk : 1 ≤ k ∧ k + (csum cnField x.fSchema : Nat) + (csum cnFile x.fFiles : Nat) ≤ 4611686018427387904) : FnC Tryz.prog 105 [.g [.d (.sl ((mkL mkField cnField x.fSchema (k)).map encField)), .d (.sl ((mkL mkFile cnFile x.fFiles (k + (csum cnField x.fSchema : Nat))).map encFile)), .d (iv x.fNextID)], oi k] (oi (k + (csum cnField x.fSchema : Nat) + (csum cnFile x.fFiles : Nat))) := by
 have hneg0 : ¬ (k + (csum cnField x.fSchema : Nat) < 0) := by omega
 have hneg1 : ¬ (k + (csum cnField x.fSchema : Nat) + (csum cnFile x.fFiles : Nat) < 0) := by omega
 refine ent Tryz.func105 rfl Tryz.call105 rfl (fun C => ?_); simp only [go_sem, st0, Tryz.ntmps105]
 have q0 := @hneg0; have q1 := @hneg1; refine w2_2 (heldFieldS_ok x.fSchema (k) (by omega)) (heldFileS_ok x.fFiles (k + (csum cnField x.fSchema : Nat)) (by omega)) ?_
 exact retK_ret ⟨⟨_, rfl, by simp only [go_sem]⟩, trivial⟩
theorem markCatalog_ok (x : TCatalog) (k : Int) (hk : 1 ≤ k ∧ k + (csum cnField x.fStore.fSchema : Nat) + (csum cnFile x.fStore.fFiles : Nat) + (csum cnDir x.fDirs : Nat) + (csum cnResult x.fResults : Nat) ≤ 4611686018427387904) : FnM Tryz.prog 36 true [.w 0 2 (x.fStore.fSchema.map encField), .w 0 5 (x.fStore.fFiles.map encFile), .d (iv x.fStore.fNextID), .w 0 2 (x.fDirs.map encDir), .w 0 2 (x.fResults.map encResult)] [.w 0 2 ((mkL mkField cnField x.fStore.fSchema (k)).map encField), .w 0 5 ((mkL mkFile cnFile x.fStore.fFiles (k + (csum cnField x.fStore.fSchema : Nat))).map encFile), .d (iv x.fStore.fNextID), .w 0 2 ((mkL mkDir cnDir x.fDirs (k + (csum cnField x.fStore.fSchema : Nat) + (csum cnFile x.fStore.fFiles : Nat))).map encDir), .w 0 2 ((mkL mkResult cnResult x.fResults (k + (csum cnField x.fStore.fSchema : Nat) + (csum cnFile x.fStore.fFiles : Nat) + (csum cnDir x.fDirs : Nat))).map encResult)] k (k + (csum cnField x.fStore.fSchema : Nat) + (csum cnFile x.fStore.fFiles : Nat) + (csum cnDir x.fDirs : Nat) + (csum cnResult x.fResults : Nat)) := by
 refine entm Tryz.func36 rfl Tryz.call36 rfl (by simp) (by simp only [go_sem]) (fun C tg => ?_); simp only [go_sem, Tryz.ntmps36]
 repeat' (with_reducible first | refine nY ?_ | (refine mX ?_; try simp only [go_sem]) | refine kO ?_ (by decide) | refine regd (by kernel_rfl) ?_ | (refine calm (markStore_ok x.fStore _ (by omega)) ?_ ?_ (uX ?_); (focus simp only [go_sem]; done); (focus simp only [go_sem]; done)) | (refine calm (markDirS_ok x.fDirs _ (by omega)) ?_ ?_ (uX ?_); (focus simp only [go_sem]; done); (focus simp only [go_sem]; done)) | (refine calm (markResultS_ok x.fResults _ (by omega)) ?_ ?_ (uX ?_); (focus simp only [go_sem]; done); (focus simp only [go_sem]; done)) | (refine And.intro ?_ ?_; focus omega))
 exact ⟨⟨⟨_, rfl, by simp only [go_sem]⟩, trivial⟩, by simp only [go_sem]⟩
theorem heldCatalog_ok (x : TCatalog) (k : Int) (hk : 1 ≤ k ∧ k + (csum cnField x.fStore.fSchema : Nat) + (csum cnFile x.fStore.fFiles : Nat) + (csum cnDir x.fDirs : Nat) + (csum cnResult x.fResults : Nat) ≤ 4611686018427387904) : FnC Tryz.prog 37 [.g [.d (.sl ((mkL mkField cnField x.fStore.fSchema (k)).map encField)), .d (.sl ((mkL mkFile cnFile x.fStore.fFiles (k + (csum cnField x.fStore.fSchema : Nat))).map encFile)), .d (iv x.fStore.fNextID), .d (.sl ((mkL mkDir cnDir x.fDirs (k + (csum cnField x.fStore.fSchema : Nat) + (csum cnFile x.fStore.fFiles : Nat))).map encDir)), .d (.sl ((mkL mkResult cnResult x.fResults (k + (csum cnField x.fStore.fSchema : Nat) + (csum cnFile x.fStore.fFiles : Nat) + (csum cnDir x.fDirs : Nat))).map encResult))], oi k] (oi (k + (csum cnField x.fStore.fSchema : Nat) + (csum cnFile x.fStore.fFiles : Nat) + (csum cnDir x.fDirs : Nat) + (csum cnResult x.fResults : Nat))) := by
 have hneg0 : ¬ (k + (csum cnField x.fStore.fSchema : Nat) + (csum cnFile x.fStore.fFiles : Nat) < 0) := by omega
 have hneg1 : ¬ (k + (csum cnField x.fStore.fSchema : Nat) + (csum cnFile x.fStore.fFiles : Nat) + (csum cnDir x.fDirs : Nat) < 0) := by omega
 have hneg2 : ¬ (k + (csum cnField x.fStore.fSchema : Nat) + (csum cnFile x.fStore.fFiles : Nat) + (csum cnDir x.fDirs : Nat) + (csum cnResult x.fResults : Nat) < 0) := by omega
 refine ent Tryz.func37 rfl Tryz.call37 rfl (fun C => ?_); simp only [go_sem, st0, Tryz.ntmps37]
 have q0 := @hneg0; have q1 := @hneg1; have q2 := @hneg2; refine w3_3 (heldStore_ok x.fStore (k) (by omega)) (heldDirS_ok x.fDirs (k + (csum cnField x.fStore.fSchema : Nat) + (csum cnFile x.fStore.fFiles : Nat)) (by omega)) (heldResultS_ok x.fResults (k + (csum cnField x.fStore.fSchema : Nat) + (csum cnFile x.fStore.fFiles : Nat) + (csum cnDir x.fDirs : Nat)) (by omega)) ?_
 exact retK_ret ⟨⟨_, rfl, by simp only [go_sem]⟩, trivial⟩
end Go.Proofs.YtddimbdeggomaaaGreat
end
section
set_option linter.all false
namespace Go.Proofs.YtddimbdeggomaaaGreat
open Go Go.Sx Go.RowKit Go.Proofs
theorem csum_bound {α : Type} (cn w : α → Nat) (c : Nat) (hx : ∀ x, cn x ≤ c * (1 + w x)) : ∀ l : List α, csum cn l ≤ c * (l.length + wsum w l)
 | [] => by simp [csum]
 | x :: l => by
  have h1 := csum_bound cn w c hx l
  have h2 := hx x
  simp only [csum, wsum, List.length_cons]
  have : c * (l.length + 1 + (w x + wsum w l)) = c * (1 + w x) + c * (l.length + wsum w l) := by rw [← Nat.mul_add]; congr 1; omega
  omega
theorem csum_const {α : Type} (cn : α → Nat) (c : Nat) (hx : ∀ x, cn x = c) : ∀ l : List α, csum cn l = c * l.length
 | [] => by simp [csum]
 | x :: l => by
  have h1 := csum_const cn c hx l
  simp only [csum, List.length_cons, hx, h1, Nat.mul_add]; omega
theorem csumInt (l : List Int) : csum cnInt l = l.length := by rw [csum_const cnInt 1 (fun _ => rfl)]; omega
theorem csumField (l : List TField) : csum cnField l = 2 * l.length := csum_const cnField 2 (fun _ => rfl) l
theorem csumAttr (l : List TAttr) : csum cnAttr l = 4 * l.length := csum_const cnAttr 4 (fun _ => rfl) l
theorem csumNode (l : List TNode) : csum cnNode l = 7 * l.length := csum_const cnNode 7 (fun _ => rfl) l
theorem csumFile (l : List TFile) : csum cnFile l ≤ 4 * (l.length + wsum wFile l) := csum_bound cnFile wFile 4 (fun x => by
 unfold cnFile wFile wAttrS; rw [csumAttr]; omega) l
theorem csumDir (l : List TDir) : csum cnDir l ≤ 7 * (l.length + wsum wDir l) := csum_bound cnDir wDir 7 (fun x => by
 unfold cnDir wDir wNodeS; rw [csumNode]; omega) l
theorem csumResult (l : List TResult) : csum cnResult l ≤ 1 * (l.length + wsum wResult l) := csum_bound cnResult wResult 1 (fun x => by
 unfold cnResult wResult; rw [csumInt]; omega) l
theorem csumDiff (l : List TDiff) : csum cnDiff l ≤ 1 * (l.length + wsum wDiff l) := csum_bound cnDiff wDiff 1 (fun x => by
 unfold cnDiff wDiff; rw [csumInt, csumInt]; omega) l
end Go.Proofs.YtddimbdeggomaaaGreat
end
end
section
set_option maxRecDepth 100000
set_option maxHeartbeats 4000000
namespace Go.Proofs.YtddimbdeggomaaaGreat
open Go Go.Sx Go.RowKit Go.Proofs
def hasS (l : List ByteArray) (s : ByteArray) : Bool := l.any fun x => decide (x = s)
theorem hasS_drop (l : List ByteArray) (s : ByteArray) (k : Nat) (h : k < l.length) : hasS (l.drop k) s = (decide (l[k] = s) || hasS (l.drop (k + 1)) s) := by
 rw [List.drop_eq_getElem_cons h]; rfl
theorem l12Has_ok (l : List ByteArray) (s : ByteArray) (hl : l.length ≤ 4300000) : FnC Tryz.prog 82 [.o (.d (.sl (l.map encS))), os s] (ob (hasS l s)) := by
 refine ent Tryz.func82 rfl Tryz.call82 rfl (fun C => ?_); simp only [go_sem, st0, Tryz.ntmps82]
 refine w0_0 ?_
 refine WP_lp (α := Nat) (fun k => [(5, oi k)]) (fun k => []) (fun k => k ≤ l.length ∧ hasS (l.drop k) s = hasS l s) (fun k => l.length - k) 0 (fun _ => ?_) ?_ ?_ (fun k hk => ?_)
 ·simp only [go_sem]; try simp
 ·simp only [go_sem]; try simp
 ·simp
 ·simp only [go_sem]
  obtain ⟨hk, hg⟩ := hk
  refine w0_0 ?_
  refine cnd rfl (fun h1 => ?_) (fun h1 => ?_)
  ·simp only [decide_eq_true_eq, Int.ofNat_lt] at h1
   have hd := hasS_drop l s k h1
   rw [hg] at hd
   have q0 := @h1; refine w1_0 ?_
   refine cnd rfl (fun hv => ?_) (fun hv => ?_)
   ·rw [hv, Bool.true_or] at hd
    refine w0_0 ?_
    exact retK_ret ⟨⟨_, rfl, by simp only [go_sem, hd]⟩, trivial⟩
   ·rw [hv, Bool.false_or] at hd
    refine w0_0 ?_
    refine L_next (k + 1) ?_ ?_ ?_
    ·simp only [go_sem]; try simp
    ·exact ⟨by omega, hd.symm⟩
    ·omega
  ·simp only [decide_eq_false_iff_not] at h1
   have e : k = l.length := by omega
   subst e
   have hn : hasS l s = false := by rw [← hg, List.drop_length]; rfl
   refine w0_0 ?_
   exact retK_ret ⟨⟨_, rfl, by simp only [go_sem, hn]⟩, trivial⟩
theorem indexS_ok (l : List ByteArray) (s : ByteArray) (hl : l.length ≤ 4300000) : FnC Tryz.prog 244 [.o (.d (.sl (l.map encS))), os s] (oi (idxP (fun x => decide (s = x)) l 0)) := by
 refine ent Tryz.func244 rfl Tryz.call244 rfl (fun C => ?_); simp only [go_sem, st0, Tryz.ntmps244]
 refine w0_0 ?_
 refine WP_lp (α := Nat) (fun k => [(8, oi k)]) (fun _ => []) (fun k => k ≤ l.length ∧ idxP (fun x => decide (s = x)) l 0 = idxP (fun x => decide (s = x)) (l.drop k) k) (fun k => l.length - k) 0 (fun _ => ?_) ?_ ?_ (fun k hk => ?_)
 ·simp only [go_sem]
 ·simp only [go_sem]; simp
 ·simp
 ·obtain ⟨hk, hq⟩ := hk
  simp only [go_sem]
  refine w0_0 ?_
  refine cnd rfl (fun h => ?_) (fun h => ?_)
  ·simp only [decide_eq_true_eq, Int.ofNat_lt] at h
   have hd := List.drop_eq_getElem_cons h
   rw [hd, idxP] at hq
   have q0 := @h; refine w1_0 ?_
   refine cnd rfl (fun h2 => ?_) (fun h2 => ?_)
   ·refine w0_0 ?_
    exact retK_ret ⟨⟨_, rfl, by simp only [go_sem, hq, h2]⟩, trivial⟩
   ·refine w0_0 ?_
    refine L_next (k + 1) ?_ ?_ ?_
    ·simp only [go_sem]; simp
    ·rw [hq, h2]; exact ⟨h, by simp⟩
    ·omega
  ·simp only [decide_eq_false_iff_not] at h
   have e : k = l.length := by omega
   subst e
   simp only [List.drop_length, idxP] at hq
   refine w0_0 ?_
   exact retK_ret ⟨⟨_, rfl, by simp only [go_sem, hq]⟩, trivial⟩
theorem idxP_any {α : Type} (p : α → Bool) : ∀ (l : List α) (k : Nat), decide (0 ≤ idxP p l k) = l.any p
 | [], _ => by simp [idxP]
 | x :: xs, k => by
  simp only [idxP, List.any_cons]
  by_cases h : p x = true
  ·simp [h]
  ·rw [Bool.not_eq_true] at h
   simpa [h] using idxP_any p xs (k + 1)
theorem hasS_idx (l : List ByteArray) (s : ByteArray) : decide (0 ≤ idxP (fun x => decide (s = x)) l 0) = hasS l s := by
 rw [idxP_any]; unfold hasS
 congr 1; funext x; congr 1; exact propext eq_comm
theorem containsS_ok (l : List ByteArray) (s : ByteArray) (hl : l.length ≤ 4300000) : FnC Tryz.prog 164 [.o (.d (.sl (l.map encS))), os s] (ob (hasS l s)) := by
 refine ent Tryz.func164 rfl Tryz.call164 rfl (fun C => ?_); simp only [go_sem, st0, Tryz.ntmps164]
 refine w0_1 (indexS_ok l s hl) ?_
 exact retK_ret ⟨⟨_, rfl, by simp only [go_sem, hasS_idx]⟩, trivial⟩
def dirNs (l : List TDir) : List ByteArray := l.map TDir.fName
theorem dirNs_len (l : List TDir) : (dirNs l).length = l.length := by simp [dirNs]
theorem dirNames_ok (l : List TDir) (hl : l.length ≤ 4300000) : FnC Tryz.prog 118 [.o (.d (.sl (l.map encDir)))] (.o (.w 9 1 ((dirNs l).map encS))) := by
 refine ent Tryz.func118 rfl Tryz.call118 rfl (fun C => ?_); simp only [go_sem, st0, Tryz.ntmps118]
 refine w0_0 ?_
 refine WP_lp (α := Nat) (fun k => [(3, .o (.s 0)), (6, .o .u), (9, oi k)]) (fun k => [(0, .row 9 1 ((dirNs (l.take k)).map encS) true)]) (fun k => k ≤ l.length) (fun k => l.length - k) 0 (fun _ => ?_) ?_ ?_ (fun k hk => ?_)
 ·simp only [go_sem]
 ·simp only [go_sem]; simp [dirNs]
 ·simp
 ·simp only [go_sem]
  refine w0_0 ?_
  refine cnd rfl (fun h1 => ?_) (fun h1 => ?_)
  ·simp only [decide_eq_true_eq, Int.ofNat_lt] at h1
   have ht : dirNs (l.take (k + 1)) = dirNs (l.take k) ++ [l[k].fName] := by simp only [dirNs, List.take_succ_eq_append_getElem h1, List.map_append, List.map_cons, List.map_nil]
   have hlen : (dirNs (l.take k)).length = k := by rw [dirNs_len]; simp; omega
   have q0 := @h1; have q1 := @hlen; refine w2_0 ?_
   refine L_next (k + 1) ?_ ?_ ?_
   ·simp only [go_sem, ht, List.map_append]; simp
   ·omega
   ·omega
  ·simp only [decide_eq_false_iff_not] at h1
   have e : k = l.length := by omega
   subst e
   refine w0_0 ?_
   exact retK_ret ⟨⟨_, rfl, by simp only [go_sem, List.take_length]⟩, trivial⟩
def uD (names : List ByteArray) (l : List TDir) : List ByteArray := (dirNs l).filter fun n => !hasS names n
end Go.Proofs.YtddimbdeggomaaaGreat
end
section
set_option maxRecDepth 100000
namespace Go.Proofs.YtddimbdeggomaaaGreat
open Go Go.Sx Go.RowKit Go.Proofs
theorem allT {α : Type} (l : List α) : (l.all fun _ => true) = true := by simp
theorem cloneInt_ok (l : List Int) (hl : l.length ≤ 67108864) : FnC Tryz.prog 245 [.o (.d (.sl (l.map encI)))] (.o (.w 3 1 (l.map encI))) := by
 refine ent Tryz.func245 rfl Tryz.call245 rfl (fun C => ?_); simp only [go_sem, st0, Tryz.ntmps245]
 refine w0_0 ?_
 intro b hb
 refine w0_0 ?_
 refine cnd rfl (fun h1 => ?_) (fun h1 => ?_)
 ·have e := hb h1
  simp only [List.map_eq_nil_iff] at e
  subst e
  refine w0_0 ?_
  exact retK_ret ⟨⟨_, rfl, by simp only [go_sem]⟩, trivial⟩
 ·refine w0_0 ?_
  exact retK_ret ⟨⟨_, rfl, by simp only [go_sem, allT]⟩, trivial⟩
end Go.Proofs.YtddimbdeggomaaaGreat
end
section
set_option maxRecDepth 100000
set_option maxHeartbeats 4000000
namespace Go.Proofs.YtddimbdeggomaaaGreat
open Go Go.Sx Go.RowKit Go.Proofs
def low (s : ByteArray) (k : Nat) : Bool := inB (byteAt s k) 97 122
def allLow (s : ByteArray) : Bool := (List.range s.size).all (low s)
def isText (s : ByteArray) (n : Int) : Bool := allLow s && inB s.size 1 n
theorem l02Text_ok (s : ByteArray) (n : Int) (hs : s.size ≤ 4300000) : FnC Tryz.prog 283 [os s, oi n] (ob (isText s n)) := by
 refine ent Tryz.func283 rfl Tryz.call283 rfl (fun C => ?_); simp only [go_sem, st0, Tryz.ntmps283]
 refine w0_0 ?_
 refine WP_lp (α := Nat) (fun k => [(5, oi k)]) (fun _ => []) (fun k => k ≤ s.size ∧ allLow s = ((List.range s.size).drop k).all (low s)) (fun k => s.size - k) 0 (fun _ => ?_) ?_ ?_ (fun k hk => ?_)
 ·simp only [go_sem]
 ·simp only [go_sem]; simp
 ·simp [allLow]
 ·obtain ⟨hk, hq⟩ := hk
  simp only [go_sem]
  refine w0_0 ?_
  refine cnd rfl (fun h => ?_) (fun h => ?_)
  ·simp only [decide_eq_true_eq, Int.ofNat_lt] at h
   have h' : k < (List.range s.size).length := by simpa using h
   have hd := List.drop_eq_getElem_cons h'
   rw [hd, List.all_cons, List.getElem_range] at hq
   have hb := byteAt_le s k
   by_cases h1 : byteAt s k < 97
   ·have hf : allLow s = false := by rw [hq]; simp [low, inB]; omega
    have q0 := @h; have q1 := @h1; refine w2_0 ?_
    exact retK_ret ⟨⟨_, rfl, by simp only [go_sem, isText, hf, Bool.false_and]⟩, trivial⟩
   by_cases h2 : 122 < byteAt s k
   ·have hf : allLow s = false := by rw [hq]; simp [low, inB]; omega
    have q0 := @h; have q1 := @h1; have q2 := @h2; have q3 := @decide_false; refine w4_0 ?_
    exact retK_ret ⟨⟨_, rfl, by simp only [go_sem, isText, hf, Bool.false_and]⟩, trivial⟩
   ·have q0 := @h; have q1 := @h1; have q2 := @h2; have q3 := @decide_false; refine w4_0 ?_
    refine L_next (k + 1) ?_ ?_ ?_
    ·simp only [go_sem]; simp
    ·refine ⟨h, ?_⟩
     have hl : low s k = true := by simp [low, inB]; omega
     rw [hq, hl]; simp
    ·omega
  ·simp only [decide_eq_false_iff_not] at h
   have e : k = s.size := by omega
   have hq' : allLow s = true := by
    rw [hq, List.drop_of_length_le (by simp [e])]; rfl
   refine w0_1 (l01In_ok s.size 1 n) ?_
   refine retK_ret ⟨⟨_, rfl, ?_⟩, ?_⟩
   ·simp only [go_sem, isText, hq']
   ·trivial
theorem specIsValidAttrName_ok (s : ByteArray) (hs : s.size ≤ 4300000) : FnC Tryz.prog 238 [os s] (ob (isText s 1)) := by
 refine ent Tryz.func238 rfl Tryz.call238 rfl (fun C => ?_); simp only [go_sem, st0, Tryz.ntmps238]
 refine w0_1 (l02Text_ok s 1 hs) ?_
 refine retK_ret ⟨⟨_, rfl, ?_⟩, ?_⟩
 ·simp only [go_sem]
 ·trivial
theorem isText1 (s : ByteArray) : isText s 1 = (decide ((s.size : Int) = 1) && low s 0) := by
 unfold isText allLow inB
 rcases Nat.lt_trichotomy s.size 1 with h | h | h
 ·have : s.size = 0 := by omega
  simp [this]
 ·simp [h, List.range_succ]
 ·have h1 : ¬ ((s.size : Int) ≤ 1) := by omega
  have h2 : ¬ ((s.size : Int) = 1) := by omega
  simp [h1, h2]
theorem implIsValidAttrName_ok (s : ByteArray) : FnC Tryz.prog 291 [os s] (ob (isText s 1)) := by
 rw [isText1]
 refine ent Tryz.func291 rfl Tryz.call291 rfl (fun C => ?_); simp only [go_sem, st0, Tryz.ntmps291]
 by_cases h0 : (s.size : Int) = 1
 ·have h0' : 0 < s.size := by omega
  by_cases h1 : 97 ≤ byteAt s 0 <;> by_cases h2 : byteAt s 0 ≤ 122
  all_goals
   have q0 := @h0; have q1 := @h0'; have q2 := @h1; have q3 := @h2; have q4 := @decide_false; have q5 := @Int.toNat_zero; have q6 := @Int.le_refl; refine w7_0 ?_
   refine retK_ret ⟨⟨_, rfl, ?_⟩, ?_⟩
   ·simp only [go_sem]; simp [h0, h1, h2, low, inB]
   ·trivial
 ·have q0 := @h0; have q1 := @decide_false; refine w2_0 ?_
  refine retK_ret ⟨⟨_, rfl, ?_⟩, ?_⟩
  ·simp only [go_sem]; simp [h0]
  ·trivial
theorem specIsValidString_ok (s : ByteArray) (hs : s.size ≤ 4300000) : FnC Tryz.prog 232 [os s] (ob (isText s 6)) := by
 refine ent Tryz.func232 rfl Tryz.call232 rfl (fun C => ?_); simp only [go_sem, st0, Tryz.ntmps232]
 refine w0_1 (l02Text_ok s 6 hs) ?_
 exact retK_ret ⟨⟨_, rfl, by simp only [go_sem]⟩, trivial⟩
theorem implIsValidString_ok (s : ByteArray) (hs : s.size ≤ 4300000) : FnC Tryz.prog 270 [os s] (ob (isText s 6)) := by
 refine ent Tryz.func270 rfl Tryz.call270 rfl (fun C => ?_); simp only [go_sem, st0, Tryz.ntmps270]
 refine w0_0 ?_
 refine WP_lp (α := Nat) (fun k => [(6, oi k)]) (fun _ => []) (fun k => k ≤ s.size ∧ allLow s = ((List.range s.size).drop k).all (low s)) (fun k => s.size - k) 0 (fun _ => ?_) ?_ ?_ (fun k hk => ?_)
 ·simp only [go_sem]
 ·simp only [go_sem]; simp
 ·simp [allLow]
 ·obtain ⟨hk, hq⟩ := hk
  simp only [go_sem]
  refine w0_0 ?_
  refine cnd rfl (fun h => ?_) (fun h => ?_)
  ·simp only [decide_eq_true_eq, Int.ofNat_lt] at h
   have h' : k < (List.range s.size).length := by simpa using h
   have hd := List.drop_eq_getElem_cons h'
   rw [hd, List.all_cons, List.getElem_range] at hq
   have hb := byteAt_le s k
   by_cases h1 : byteAt s k < 97
   ·have hf : allLow s = false := by rw [hq]; simp [low, inB]; omega
    have q0 := @h; have q1 := @h1; refine w2_0 ?_
    exact retK_ret ⟨⟨_, rfl, by simp only [go_sem, isText, hf, Bool.false_and]⟩, trivial⟩
   by_cases h2 : 122 < byteAt s k
   ·have hf : allLow s = false := by rw [hq]; simp [low, inB]; omega
    have q0 := @h; have q1 := @h1; have q2 := @h2; have q3 := @decide_false; refine w4_0 ?_
    exact retK_ret ⟨⟨_, rfl, by simp only [go_sem, isText, hf, Bool.false_and]⟩, trivial⟩
   ·have q0 := @h; have q1 := @h1; have q2 := @h2; have q3 := @decide_false; refine w4_0 ?_
    refine L_next (k + 1) ?_ ?_ ?_
    ·simp only [go_sem]; simp
    ·refine ⟨h, ?_⟩
     have hl : low s k = true := by simp [low, inB]; omega
     rw [hq, hl]; simp
    ·omega
  ·simp only [decide_eq_false_iff_not] at h
   have e : k = s.size := by omega
   have hq' : allLow s = true := by
    rw [hq, List.drop_of_length_le (by simp [e])]; rfl
   refine w0_1 (within_ok s.size 1 6) ?_
   refine retK_ret ⟨⟨_, rfl, ?_⟩, ?_⟩
   ·simp only [go_sem, isText, hq']
   ·trivial
def okVal (v : TValue) : Bool :=
 if v.fKind = 0 then decide (v.fInt = 0) && decide (v.fStr = ⟨#[]⟩)
 else if v.fKind = 1 then inB v.fInt 0 999 && decide (v.fStr = ⟨#[]⟩)
 else if v.fKind = 2 then isText v.fStr 6 && decide (v.fInt = 0) else false
theorem implIsValidValue_ok (v : TValue) (hs : v.fStr.size ≤ 4300000) : FnC Tryz.prog 293 [gValue v] (ob (okVal v)) := by
 refine ent Tryz.func293 rfl Tryz.call293 rfl (fun C => ?_); simp only [go_sem, st0, Tryz.ntmps293]
 by_cases h0 : v.fKind = 0
 ·have q0 := @h0; have q1 := @decide_true; refine w2_0 ?_
  exact retK_ret ⟨⟨_, rfl, by simp only [go_sem, okVal, h0, if_true, decide_true, Bool.true_and]⟩, trivial⟩
 by_cases h1 : v.fKind = 1
 ·cases hb : inB v.fInt 0 999
  ·have q0 := @h0; have q1 := @h1; have q2 := @decide_true; have q3 := @decide_false; have q4 := @hb; refine w5_1 (within_ok v.fInt 0 999) ?_
   exact retK_ret ⟨⟨_, rfl, by simp only [go_sem, okVal, h0, h1, hb, if_true, if_false, Bool.false_and]⟩, trivial⟩
  ·have q0 := @h0; have q1 := @h1; have q2 := @decide_true; have q3 := @decide_false; have q4 := @hb; refine w5_1 (within_ok v.fInt 0 999) ?_
   exact retK_ret ⟨⟨_, rfl, by simp only [go_sem, okVal, h0, h1, hb, if_true, if_false, Bool.true_and]⟩, trivial⟩
 by_cases h2 : v.fKind = 2
 ·cases hb : isText v.fStr 6
  ·have q0 := @h0; have q1 := @h1; have q2 := @h2; have q3 := @decide_true; have q4 := @decide_false; have q5 := @hb; refine w6_1 (implIsValidString_ok v.fStr hs) ?_
   exact retK_ret ⟨⟨_, rfl, by simp only [go_sem, okVal, h0, h1, h2, hb, if_true, if_false, Bool.false_and]⟩, trivial⟩
  ·have q0 := @h0; have q1 := @h1; have q2 := @h2; have q3 := @decide_true; have q4 := @decide_false; have q5 := @hb; refine w6_1 (implIsValidString_ok v.fStr hs) ?_
   exact retK_ret ⟨⟨_, rfl, by simp only [go_sem, okVal, h0, h1, h2, hb, if_true, if_false, Bool.true_and]⟩, trivial⟩
 ·have q0 := @h0; have q1 := @h1; have q2 := @h2; have q3 := @decide_false; refine w4_0 ?_
  exact retK_ret ⟨⟨_, rfl, by simp only [go_sem, okVal, h0, h1, h2, if_false]⟩, trivial⟩
theorem specIsValidValue_ok (v : TValue) (hs : v.fStr.size ≤ 4300000) : FnC Tryz.prog 287 [gValue v] (ob (okVal v)) := by
 refine ent Tryz.func287 rfl Tryz.call287 rfl (fun C => ?_); simp only [go_sem, st0, Tryz.ntmps287]
 by_cases h0 : v.fKind = 0
 ·have q0 := @h0; have q1 := @decide_true; refine w2_0 ?_
  exact retK_ret ⟨⟨_, rfl, by simp only [go_sem, okVal, h0, if_true, decide_true, Bool.true_and]⟩, trivial⟩
 by_cases h1 : v.fKind = 1
 ·cases hb : inB v.fInt 0 999
  ·have q0 := @h0; have q1 := @h1; have q2 := @decide_true; have q3 := @decide_false; have q4 := @hb; refine w5_1 (l01In_ok v.fInt 0 999) ?_
   exact retK_ret ⟨⟨_, rfl, by simp only [go_sem, okVal, h0, h1, hb, if_true, if_false, Bool.false_and]⟩, trivial⟩
  ·have q0 := @h0; have q1 := @h1; have q2 := @decide_true; have q3 := @decide_false; have q4 := @hb; refine w5_1 (l01In_ok v.fInt 0 999) ?_
   exact retK_ret ⟨⟨_, rfl, by simp only [go_sem, okVal, h0, h1, hb, if_true, if_false, Bool.true_and]⟩, trivial⟩
 by_cases h2 : v.fKind = 2
 ·cases hb : isText v.fStr 6
  ·have q0 := @h0; have q1 := @h1; have q2 := @h2; have q3 := @decide_true; have q4 := @decide_false; have q5 := @hb; refine w6_1 (specIsValidString_ok v.fStr hs) ?_
   exact retK_ret ⟨⟨_, rfl, by simp only [go_sem, okVal, h0, h1, h2, hb, if_true, if_false, Bool.false_and]⟩, trivial⟩
  ·have q0 := @h0; have q1 := @h1; have q2 := @h2; have q3 := @decide_true; have q4 := @decide_false; have q5 := @hb; refine w6_1 (specIsValidString_ok v.fStr hs) ?_
   exact retK_ret ⟨⟨_, rfl, by simp only [go_sem, okVal, h0, h1, h2, hb, if_true, if_false, Bool.true_and]⟩, trivial⟩
 ·have q0 := @h0; have q1 := @h1; have q2 := @h2; have q3 := @decide_false; refine w4_0 ?_
  exact retK_ret ⟨⟨_, rfl, by simp only [go_sem, okVal, h0, h1, h2, if_false]⟩, trivial⟩
end Go.Proofs.YtddimbdeggomaaaGreat
end
section
set_option maxRecDepth 100000
set_option maxHeartbeats 4000000
namespace Go.Proofs.YtddimbdeggomaaaGreat
open Go Go.Sx Go.RowKit Go.Proofs
def two (n : TNode) : Bool := decide (n.fOp = 6) || decide (n.fOp = 7)
def ref1 (n : TNode) (i : Int) : Nat := (if (two n || decide (n.fOp = 5)) && decide (n.fLeft = i) then 1 else 0) + (if two n && decide (n.fRight = i) then 1 else 0)
def refs (q : List TNode) (i : Int) : Nat := match q with
 | [] => 0
 | n :: q => ref1 n i + refs q i
theorem refs_app (q r : List TNode) (i : Int) : refs (q ++ r) i = refs q i + refs r i := by
 induction q with
 | nil => simp [refs]
 | cons n q ih => simp only [List.cons_append, refs, ih]; omega
theorem refs_take (q : List TNode) (i : Int) (k : Nat) (h : k < q.length) : refs (q.take (k + 1)) i = refs (q.take k) i + ref1 q[k] i := by
 rw [List.take_succ_eq_append_getElem h, refs_app]; simp [refs]
theorem refs_le (q : List TNode) (i : Int) : refs q i ≤ 2 * q.length := by
 induction q with
 | nil => simp [refs]
 | cons n q ih => simp only [refs, List.length_cons]; unfold ref1; split <;> split <;> omega
theorem implCount_ok (q : List TNode) (i : Int) (hl : q.length ≤ 4300000) : FnC Tryz.prog 303 [.o (.d (.sl (q.map encNode))), oi i] (oi (refs q i)) := by
 refine ent Tryz.func303 rfl Tryz.call303 rfl (fun C => ?_); simp only [go_sem, st0, Tryz.ntmps303]
 refine w0_0 ?_
 refine WP_lp (α := Nat) (fun k => [(5, oi (refs (q.take k) i)), (11, oi k)]) (fun _ => []) (fun k => k ≤ q.length) (fun k => q.length - k) 0 (fun _ => ?_) ?_ ?_ (fun k hk => ?_)
 ·simp only [go_sem]
 ·simp only [go_sem]; simp [refs]
 ·simp
 ·simp only [go_sem]
  refine w0_0 ?_
  refine cnd rfl (fun h1 => ?_) (fun h1 => ?_)
  ·simp only [decide_eq_true_eq, Int.ofNat_lt] at h1
   have ht := refs_take q i k h1
   have hle := refs_le (q.take k) i
   simp only [List.length_take] at hle
   by_cases c6 : q[k].fOp = 6 <;> by_cases c7 : q[k].fOp = 7 <;> by_cases c5 : q[k].fOp = 5 <;> by_cases cl : q[k].fLeft = i <;> by_cases cr : q[k].fRight = i
   all_goals (try omega)
   all_goals
    simp only [ref1, two, c5, c6, c7, cl, cr, decide_true, decide_false, Bool.true_or, Bool.or_true, Bool.false_or, Bool.or_false, Bool.and_true, Bool.and_false, Bool.true_and, Bool.false_and, if_true, if_false, Bool.false_eq_true] at ht
    have d5 : decide (q[k].fOp = 5) = decide (q[k].fOp = 5) := rfl
    have q0 := @h1; have q1 := @c5; have q2 := @c6; have q3 := @c7; have q4 := @cl; have q5 := @cr; have q6 := @decide_true; have q7 := @decide_false; refine w8_0 ?_
    refine L_next (k + 1) ?_ ?_ ?_
    ·simp only [go_sem, ht]; simp <;> omega
    ·omega
    ·omega
  ·simp only [decide_eq_false_iff_not] at h1
   have e : k = q.length := by omega
   subst e
   rw [List.take_length]
   refine w0_0 ?_
   exact retK_ret ⟨⟨_, rfl, by simp only [go_sem, List.take_length]⟩, trivial⟩
theorem specCount_ok (q : List TNode) (i : Int) (hl : q.length ≤ 4300000) : FnC Tryz.prog 285 [.o (.d (.sl (q.map encNode))), oi i] (oi (refs q i)) := by
 refine ent Tryz.func285 rfl Tryz.call285 rfl (fun C => ?_); simp only [go_sem, st0, Tryz.ntmps285]
 refine w0_0 ?_
 refine WP_lp (α := Nat) (fun k => [(5, oi (refs (q.take k) i)), (6, oi k)]) (fun _ => []) (fun k => k ≤ q.length) (fun k => q.length - k) 0 (fun _ => ?_) ?_ ?_ (fun k hk => ?_)
 ·simp only [go_sem]
 ·simp only [go_sem]; simp [refs]
 ·simp
 ·simp only [go_sem]
  refine w0_0 ?_
  refine cnd rfl (fun h1 => ?_) (fun h1 => ?_)
  ·simp only [decide_eq_true_eq, Int.ofNat_lt] at h1
   have ht := refs_take q i k h1
   have hle := refs_le (q.take k) i
   simp only [List.length_take] at hle
   by_cases c6 : q[k].fOp = 6 <;> by_cases c7 : q[k].fOp = 7 <;> by_cases c5 : q[k].fOp = 5 <;> by_cases cl : q[k].fLeft = i <;> by_cases cr : q[k].fRight = i
   all_goals (try omega)
   all_goals
    simp only [ref1, two, c5, c6, c7, cl, cr, decide_true, decide_false, Bool.true_or, Bool.or_true, Bool.false_or, Bool.or_false, Bool.and_true, Bool.and_false, Bool.true_and, Bool.false_and, if_true, if_false, Bool.false_eq_true] at ht
    have d5 : decide (q[k].fOp = 5) = decide (q[k].fOp = 5) := rfl
    have q0 := @h1; have q1 := @c5; have q2 := @c6; have q3 := @c7; have q4 := @cl; have q5 := @cr; have q6 := @decide_true; have q7 := @decide_false; refine w8_0 ?_
    refine L_next (k + 1) ?_ ?_ ?_
    ·simp only [go_sem, ht]; simp <;> omega
    ·omega
    ·omega
  ·simp only [decide_eq_false_iff_not] at h1
   have e : k = q.length := by omega
   subst e
   rw [List.take_length]
   refine w0_0 ?_
   exact retK_ret ⟨⟨_, rfl, by simp only [go_sem, List.take_length]⟩, trivial⟩
end Go.Proofs.YtddimbdeggomaaaGreat
end
