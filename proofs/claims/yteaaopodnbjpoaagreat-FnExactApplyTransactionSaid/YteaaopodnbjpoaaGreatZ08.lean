/- Joined texts. -/
import Derived.Test.YteaaopodnbjpoaaGreatZ07
import Derived.Test.YteaaopodnbjpoaaGreatZ06
set_option linter.all false
section
section
set_option linter.all false
set_option maxRecDepth 100000
set_option maxHeartbeats 4000000
namespace Go.Proofs.YteaaopodnbjpoaaGreat
open Go Go.Sx Go.RowKit Go.Proofs
def b0K (k : Nat) (out : ByteArray) : ByteArray :=
 if h : k = 0 then out else b0K (k / 10) (a0A [(48 : Int) + ((k % 10 : Nat) : Int)] ++ out)
decreasing_by omega
def qQ (k : Int) : ByteArray := ⟨#[109]⟩ ++ b0K k.toNat ⟨#[]⟩
theorem dK (k : Int) (hk : 1 ≤ k ∧ k ≤ 4611686018427387904) : FnC Tryz.prog 59 [oi k] (os (qQ k)) := by
 obtain ⟨n, rfl⟩ : ∃ n : Nat, k = n := ⟨k.toNat, by omega⟩
 have h0 : ¬ ((n : Int) ≤ 0) := by omega
 have hm : qQ (n : Int) = ⟨#[109]⟩ ++ b0K n ⟨#[]⟩ := by simp [qQ]
 rw [hm]
 generalize hq : b0K n ⟨#[]⟩ = res
 refine ent Tryz.func59 rfl Tryz.call59 rfl (fun C => ?_); simp only [go_sem, st0, Tryz.ntmps59]
 have q0 := @h0; have q1 := @decide_false; refine lF ?_
 refine aN (α := Nat × ByteArray) (fun p => [(0, oi p.1), (3, os p.2)]) (fun _ => []) (fun p => b0K p.1 p.2 = res ∧ p.2.size + p.1 ≤ n) (fun p => p.1) (n, ⟨#[]⟩) (fun _ => ?_) ?_ ?_ (fun p hp => ?_)
 ·simp only [go_sem]
 ·simp only [go_sem]; simp
 ·exact ⟨hq, by show 0 + n ≤ n; omega⟩
 ·obtain ⟨j, out⟩ := p
  obtain ⟨hp, hs⟩ := hp
  simp only at hp hs
  simp only [go_sem]
  refine aD ?_
  refine cnd rfl (fun h => ?_) (fun h => ?_)
  ·simp only [decide_eq_true_eq] at h
   have hj : j ≠ 0 := by omega
   rw [b0K, dif_neg hj] at hp
   have e1 : (j : Int).tmod 10 = ((j % 10 : Nat) : Int) := by rw [Int.tmod_eq_emod_of_nonneg (by omega)]; omega
   have e2 : (j : Int).tdiv 10 = ((j / 10 : Nat) : Int) := by rw [Int.tdiv_eq_ediv_of_nonneg (by omega)]; omega
   have q0 := @e1; have q1 := @e2; refine lF ?_
   refine aF (j / 10, a0A [(48 : Int) + ((j % 10 : Nat) : Int)] ++ out) ?_ ?_ ?_
   ·simp only [go_sem, e1, e2]; simp [a0A]
   ·refine ⟨hp, ?_⟩
    simp only [ByteArray.size_append, a0A, List.map_cons, List.map_nil, b7w, List.length_cons, List.length_nil]
    omega
   ·simp only; omega
  ·simp only [decide_eq_false_iff_not] at h
   have hj : j = 0 := by omega
   subst hj
   rw [b0K, dif_pos rfl] at hp
   subst hp
   refine aD ?_
   exact aA ⟨⟨_, rfl, by simp only [go_sem]⟩, trivial⟩
def cnInt (x : Int) : Nat := 1
theorem a6k : ∀ x, 1 ≤ cnInt x := fun x => by unfold cnInt; omega
def xK (x : Int) (k : Int) : Int := k
theorem qR (l : List Int) (k : Int) (hk : 1 ≤ k ∧ k + (csum cnInt l : Nat) ≤ 4611686018427387904) : FnM Tryz.prog 20 false [.w 0 1 (l.map fE)] [.w 0 1 ((mkL xK cnInt l k).map fE)] k (k + (csum cnInt l : Nat)) := by
 have hlen := fK cnInt a6k l
 refine entm Tryz.func20 rfl Tryz.call20 rfl (by simp) (by simp only [go_sem]) (fun C tg => ?_); simp only [go_sem, Tryz.ntmps20]
 refine aD ?_
 refine aN (α := Nat) (fun j => [(5, oi j), (1, oi (k + (csum cnInt (l.take j) : Nat)))]) (fun j => [(0, .own (tg 0) 1 (sG fE xK cnInt l k j))]) (fun j => j ≤ l.length) (fun j => l.length - j) 0 (fun _ => ?_) ?_ ?_ (fun j hj => ?_)
 ·simp only [go_sem]
 ·simp only [go_sem]; simp [kK, csum]
 ·simp
 ·simp only [go_sem]
  refine aD ?_
  refine cnd rfl (fun h => ?_) (fun h => ?_)
  ·simp only [decide_eq_true_eq, Int.ofNat_lt] at h
   have hs := eQ cnInt l h
   have ht := gU cnInt l (j + 1)
   have hc : cnInt l[j] = 1 := rfl
   have hset := lY fE xK cnInt l k j h
   have hkk : k + (csum cnInt (l.take (j + 1)) : Nat) = k + (csum cnInt (l.take j) : Nat) + (cnInt l[j] : Nat) := by omega
   generalize k + (csum cnInt (l.take j) : Nat) = K at hset hkk ⊢
   have hK : 1 ≤ K ∧ K + (cnInt l[j] : Nat) ≤ 4611686018427387904 := by omega
   have q0 := @h; refine fU ?_
   refine aF (j + 1) ?_ ?_ ?_
   ·simp only [go_sem, hkk, ← hset]
    simp [xK, fE, hc]
    try omega
   ·omega
   ·omega
  ·simp only [decide_eq_false_iff_not] at h
   have e : j = l.length := by omega
   subst e
   refine aD ?_
   exact ⟨⟨⟨_, rfl, by simp only [go_sem, fM, List.take_length]⟩, trivial⟩, by simp only [go_sem, fM, List.take_length]⟩
theorem xL (l : List Int) (k : Int) (hk : 1 ≤ k ∧ k + (csum cnInt l : Nat) ≤ 4611686018427387904) : FnC Tryz.prog 64 [.o (.d (.sl ((mkL xK cnInt l k).map fE))), oi k] (oi (k + (csum cnInt l : Nat))) := by
 have hlen := fK cnInt a6k l
 refine ent Tryz.func64 rfl Tryz.call64 rfl (fun C => ?_); simp only [go_sem, st0, Tryz.ntmps64]
 refine aD ?_
 refine aN (α := Nat) (fun j => [(5, oi j), (1, oi (k + (csum cnInt (l.take j) : Nat)))]) (fun _ => []) (fun j => j ≤ l.length) (fun j => l.length - j) 0 (fun _ => ?_) ?_ ?_ (fun j hj => ?_)
 ·simp only [go_sem]
 ·simp only [go_sem]; simp [csum]
 ·simp
 ·simp only [go_sem]
  refine aD ?_
  refine cnd rfl (fun h => ?_) (fun h => ?_)
  ·simp only [decide_eq_true_eq, Int.ofNat_lt] at h
   have hs := eQ cnInt l h
   have ht := gU cnInt l (j + 1)
   have hc : cnInt l[j] = 1 := rfl
   have hkk : k + (csum cnInt (l.take (j + 1)) : Nat) = k + (csum cnInt (l.take j) : Nat) + (cnInt l[j] : Nat) := by omega
   have hg := lX xK cnInt l k j (by rw [eP]; exact h)
   generalize k + (csum cnInt (l.take j) : Nat) = K at hg hkk ⊢
   have hK : 1 ≤ K ∧ K + (cnInt l[j] : Nat) ≤ 4611686018427387904 := by omega
   repeat' (with_reducible first | refine nY ?_ | (refine mX ?_; try simp only [go_sem, h, hg, xK]) | refine kO ?_ (by decide) | refine a3M (by kernel_rfl) ?_ | (refine And.intro ?_ ?_; focus omega))
   refine aF (j + 1) ?_ ?_ ?_
   ·simp only [go_sem, hkk]
    simp [hc]
    try omega
   ·omega
   ·omega
  ·simp only [decide_eq_false_iff_not] at h
   have e : j = l.length := by omega
   subst e
   refine aD ?_
   exact aA ⟨⟨_, rfl, by simp only [go_sem, List.take_length]⟩, trivial⟩
def c0s (x : ByteArray) : Nat := 1
def c0t (x : ByteArray) (k : Int) : ByteArray := (qQ k)
def c0h (x : Bool) : Nat := 1
def c0i (x : Bool) (k : Int) : Bool := (decide (Int.tmod k 3 = 0))
end Go.Proofs.YteaaopodnbjpoaaGreat
end
section
set_option linter.all false
set_option maxRecDepth 100000
set_option maxHeartbeats 4000000
namespace Go.Proofs.YteaaopodnbjpoaaGreat
open Go Go.Sx Go.RowKit Go.Proofs
def cnField (x : TField) : Nat := 2
theorem a2u : ∀ x, 1 ≤ cnField x := fun x => by unfold cnField; omega
def mI (x : TField) (k : Int) : TField := ⟨(qQ k), (k + 1)⟩
theorem a5w (l : List TField) (k : Int) (hk : 1 ≤ k ∧ k + (csum cnField l : Nat) ≤ 4611686018427387904) : FnM Tryz.prog 119 false [.w 0 2 (l.map bH)] [.w 0 2 ((mkL mI cnField l k).map bH)] k (k + (csum cnField l : Nat)) := by
 have hlen := fK cnField a2u l
 refine entm Tryz.func119 rfl Tryz.call119 rfl (by simp) (by simp only [go_sem]) (fun C tg => ?_); simp only [go_sem, Tryz.ntmps119]
 refine aD ?_
 refine aN (α := Nat) (fun j => [(5, oi j), (1, oi (k + (csum cnField (l.take j) : Nat)))]) (fun j => [(0, .own (tg 0) 2 (sG bH mI cnField l k j))]) (fun j => j ≤ l.length) (fun j => l.length - j) 0 (fun _ => ?_) ?_ ?_ (fun j hj => ?_)
 ·simp only [go_sem]
 ·simp only [go_sem]; simp [kK, csum]
 ·simp
 ·simp only [go_sem]
  refine aD ?_
  refine cnd rfl (fun h => ?_) (fun h => ?_)
  ·simp only [decide_eq_true_eq, Int.ofNat_lt] at h
   have hs := eQ cnField l h
   have ht := gU cnField l (j + 1)
   have hc : cnField l[j] = 2 := rfl
   have hset := lY bH mI cnField l k j h
   have hkk : k + (csum cnField (l.take (j + 1)) : Nat) = k + (csum cnField (l.take j) : Nat) + (cnField l[j] : Nat) := by omega
   generalize k + (csum cnField (l.take j) : Nat) = K at hset hkk ⊢
   have hK : 1 ≤ K ∧ K + (cnField l[j] : Nat) ≤ 4611686018427387904 := by omega
   have q0 := @h; refine fC (dK K (by omega)) ?_
   refine aF (j + 1) ?_ ?_ ?_
   ·simp only [go_sem, hkk, ← hset]
    simp [mI, bH, hc]
    try omega
   ·omega
   ·omega
  ·simp only [decide_eq_false_iff_not] at h
   have e : j = l.length := by omega
   subst e
   refine aD ?_
   exact ⟨⟨⟨_, rfl, by simp only [go_sem, fM, List.take_length]⟩, trivial⟩, by simp only [go_sem, fM, List.take_length]⟩
theorem a5x (l : List TField) (k : Int) (hk : 1 ≤ k ∧ k + (csum cnField l : Nat) ≤ 4611686018427387904) : FnC Tryz.prog 121 [.o (.d (.sl ((mkL mI cnField l k).map bH))), oi k] (oi (k + (csum cnField l : Nat))) := by
 have hlen := fK cnField a2u l
 refine ent Tryz.func121 rfl Tryz.call121 rfl (fun C => ?_); simp only [go_sem, st0, Tryz.ntmps121]
 refine aD ?_
 refine aN (α := Nat) (fun j => [(5, oi j), (1, oi (k + (csum cnField (l.take j) : Nat)))]) (fun _ => []) (fun j => j ≤ l.length) (fun j => l.length - j) 0 (fun _ => ?_) ?_ ?_ (fun j hj => ?_)
 ·simp only [go_sem]
 ·simp only [go_sem]; simp [csum]
 ·simp
 ·simp only [go_sem]
  refine aD ?_
  refine cnd rfl (fun h => ?_) (fun h => ?_)
  ·simp only [decide_eq_true_eq, Int.ofNat_lt] at h
   have hs := eQ cnField l h
   have ht := gU cnField l (j + 1)
   have hc : cnField l[j] = 2 := rfl
   have hkk : k + (csum cnField (l.take (j + 1)) : Nat) = k + (csum cnField (l.take j) : Nat) + (cnField l[j] : Nat) := by omega
   have hg := lX mI cnField l k j (by rw [eP]; exact h)
   generalize k + (csum cnField (l.take j) : Nat) = K at hg hkk ⊢
   have hK : 1 ≤ K ∧ K + (cnField l[j] : Nat) ≤ 4611686018427387904 := by omega
   repeat' (with_reducible first | refine nY ?_ | (refine mX ?_; try simp only [go_sem, h, hg, mI]) | refine kO ?_ (by decide) | refine a3M (by kernel_rfl) ?_ | (refine cC (dK K (by omega)) ?_ ?_; focus simp only [go_sem, and_self]; done) | (refine And.intro ?_ ?_; focus omega))
   refine aF (j + 1) ?_ ?_ ?_
   ·simp only [go_sem, hkk]
    simp [hc]
    try omega
   ·omega
   ·omega
  ·simp only [decide_eq_false_iff_not] at h
   have e : j = l.length := by omega
   subst e
   refine aD ?_
   exact aA ⟨⟨_, rfl, by simp only [go_sem, List.take_length]⟩, trivial⟩
def cnAttr (x : TAttr) : Nat := 4
theorem a4m : ∀ x, 1 ≤ cnAttr x := fun x => by unfold cnAttr; omega
def vC (x : TAttr) (k : Int) : TAttr := ⟨(qQ k), ⟨(k + 1), ((k + 1) + 1), (qQ (((k + 1) + 1) + 1))⟩⟩
theorem a0Z (l : List TAttr) (k : Int) (hk : 1 ≤ k ∧ k + (csum cnAttr l : Nat) ≤ 4611686018427387904) : FnM Tryz.prog 32 false [.w 0 4 (l.map eH)] [.w 0 4 ((mkL vC cnAttr l k).map eH)] k (k + (csum cnAttr l : Nat)) := by
 have hlen := fK cnAttr a4m l
 refine entm Tryz.func32 rfl Tryz.call32 rfl (by simp) (by simp only [go_sem]) (fun C tg => ?_); simp only [go_sem, Tryz.ntmps32]
 refine aD ?_
 refine aN (α := Nat) (fun j => [(5, oi j), (1, oi (k + (csum cnAttr (l.take j) : Nat)))]) (fun j => [(0, .own (tg 0) 4 (sG eH vC cnAttr l k j))]) (fun j => j ≤ l.length) (fun j => l.length - j) 0 (fun _ => ?_) ?_ ?_ (fun j hj => ?_)
 ·simp only [go_sem]
 ·simp only [go_sem]; simp [kK, csum]
 ·simp
 ·simp only [go_sem]
  refine aD ?_
  refine cnd rfl (fun h => ?_) (fun h => ?_)
  ·simp only [decide_eq_true_eq, Int.ofNat_lt] at h
   have hs := eQ cnAttr l h
   have ht := gU cnAttr l (j + 1)
   have hc : cnAttr l[j] = 4 := rfl
   have hset := lY eH vC cnAttr l k j h
   have hkk : k + (csum cnAttr (l.take (j + 1)) : Nat) = k + (csum cnAttr (l.take j) : Nat) + (cnAttr l[j] : Nat) := by omega
   generalize k + (csum cnAttr (l.take j) : Nat) = K at hset hkk ⊢
   have hK : 1 ≤ K ∧ K + (cnAttr l[j] : Nat) ≤ 4611686018427387904 := by omega
   have q0 := @h; refine a1H (dK K (by omega)) (dK (((K + 1) + 1) + 1) (by omega)) ?_
   refine aF (j + 1) ?_ ?_ ?_
   ·simp only [go_sem, hkk, ← hset]
    simp [vC, eH, hc]
    try omega
   ·omega
   ·omega
  ·simp only [decide_eq_false_iff_not] at h
   have e : j = l.length := by omega
   subst e
   refine aD ?_
   exact ⟨⟨⟨_, rfl, by simp only [go_sem, fM, List.take_length]⟩, trivial⟩, by simp only [go_sem, fM, List.take_length]⟩
theorem a7l (l : List TAttr) (k : Int) (hk : 1 ≤ k ∧ k + (csum cnAttr l : Nat) ≤ 4611686018427387904) : FnC Tryz.prog 33 [.o (.d (.sl ((mkL vC cnAttr l k).map eH))), oi k] (oi (k + (csum cnAttr l : Nat))) := by
 have hlen := fK cnAttr a4m l
 refine ent Tryz.func33 rfl Tryz.call33 rfl (fun C => ?_); simp only [go_sem, st0, Tryz.ntmps33]
 refine aD ?_
 refine aN (α := Nat) (fun j => [(5, oi j), (1, oi (k + (csum cnAttr (l.take j) : Nat)))]) (fun _ => []) (fun j => j ≤ l.length) (fun j => l.length - j) 0 (fun _ => ?_) ?_ ?_ (fun j hj => ?_)
 ·simp only [go_sem]
 ·simp only [go_sem]; simp [csum]
 ·simp
 ·simp only [go_sem]
  refine aD ?_
  refine cnd rfl (fun h => ?_) (fun h => ?_)
  ·simp only [decide_eq_true_eq, Int.ofNat_lt] at h
   have hs := eQ cnAttr l h
   have ht := gU cnAttr l (j + 1)
   have hc : cnAttr l[j] = 4 := rfl
   have hkk : k + (csum cnAttr (l.take (j + 1)) : Nat) = k + (csum cnAttr (l.take j) : Nat) + (cnAttr l[j] : Nat) := by omega
   have hg := lX vC cnAttr l k j (by rw [eP]; exact h)
   generalize k + (csum cnAttr (l.take j) : Nat) = K at hg hkk ⊢
   have hK : 1 ≤ K ∧ K + (cnAttr l[j] : Nat) ≤ 4611686018427387904 := by omega
   repeat' (with_reducible first | refine nY ?_ | (refine mX ?_; try simp only [go_sem, h, hg, vC]) | refine kO ?_ (by decide) | refine a3M (by kernel_rfl) ?_ | (refine cC (dK K (by omega)) ?_ ?_; focus simp only [go_sem, and_self]; done) | (refine cC (dK (((K + 1) + 1) + 1) (by omega)) ?_ ?_; focus simp only [go_sem, and_self]; done) | (refine And.intro ?_ ?_; focus omega))
   refine aF (j + 1) ?_ ?_ ?_
   ·simp only [go_sem, hkk]
    simp [hc]
    try omega
   ·omega
   ·omega
  ·simp only [decide_eq_false_iff_not] at h
   have e : j = l.length := by omega
   subst e
   refine aD ?_
   exact aA ⟨⟨_, rfl, by simp only [go_sem, List.take_length]⟩, trivial⟩
def cnNode (x : TNode) : Nat := 7
theorem a4n : ∀ x, 1 ≤ cnNode x := fun x => by unfold cnNode; omega
def vE (x : TNode) (k : Int) : TNode := ⟨k, (k + 1), ((k + 1) + 1), (qQ (((k + 1) + 1) + 1)), ⟨((((k + 1) + 1) + 1) + 1), (((((k + 1) + 1) + 1) + 1) + 1), (qQ ((((((k + 1) + 1) + 1) + 1) + 1) + 1))⟩⟩
theorem a1a (l : List TNode) (k : Int) (hk : 1 ≤ k ∧ k + (csum cnNode l : Nat) ≤ 4611686018427387904) : FnM Tryz.prog 60 false [.w 0 7 (l.map bC)] [.w 0 7 ((mkL vE cnNode l k).map bC)] k (k + (csum cnNode l : Nat)) := by
 have hlen := fK cnNode a4n l
 refine entm Tryz.func60 rfl Tryz.call60 rfl (by simp) (by simp only [go_sem]) (fun C tg => ?_); simp only [go_sem, Tryz.ntmps60]
 refine aD ?_
 refine aN (α := Nat) (fun j => [(5, oi j), (1, oi (k + (csum cnNode (l.take j) : Nat)))]) (fun j => [(0, .own (tg 0) 7 (sG bC vE cnNode l k j))]) (fun j => j ≤ l.length) (fun j => l.length - j) 0 (fun _ => ?_) ?_ ?_ (fun j hj => ?_)
 ·simp only [go_sem]
 ·simp only [go_sem]; simp [kK, csum]
 ·simp
 ·simp only [go_sem]
  refine aD ?_
  refine cnd rfl (fun h => ?_) (fun h => ?_)
  ·simp only [decide_eq_true_eq, Int.ofNat_lt] at h
   have hs := eQ cnNode l h
   have ht := gU cnNode l (j + 1)
   have hc : cnNode l[j] = 7 := rfl
   have hset := lY bC vE cnNode l k j h
   have hkk : k + (csum cnNode (l.take (j + 1)) : Nat) = k + (csum cnNode (l.take j) : Nat) + (cnNode l[j] : Nat) := by omega
   generalize k + (csum cnNode (l.take j) : Nat) = K at hset hkk ⊢
   have hK : 1 ≤ K ∧ K + (cnNode l[j] : Nat) ≤ 4611686018427387904 := by omega
   have q0 := @h; refine a1H (dK (((K + 1) + 1) + 1) (by omega)) (dK ((((((K + 1) + 1) + 1) + 1) + 1) + 1) (by omega)) ?_
   refine aF (j + 1) ?_ ?_ ?_
   ·simp only [go_sem, hkk, ← hset]
    simp [vE, bC, hc]
    try omega
   ·omega
   ·omega
  ·simp only [decide_eq_false_iff_not] at h
   have e : j = l.length := by omega
   subst e
   refine aD ?_
   exact ⟨⟨⟨_, rfl, by simp only [go_sem, fM, List.take_length]⟩, trivial⟩, by simp only [go_sem, fM, List.take_length]⟩
theorem a7m (l : List TNode) (k : Int) (hk : 1 ≤ k ∧ k + (csum cnNode l : Nat) ≤ 4611686018427387904) : FnC Tryz.prog 123 [.o (.d (.sl ((mkL vE cnNode l k).map bC))), oi k] (oi (k + (csum cnNode l : Nat))) := by
 have hlen := fK cnNode a4n l
 refine ent Tryz.func123 rfl Tryz.call123 rfl (fun C => ?_); simp only [go_sem, st0, Tryz.ntmps123]
 refine aD ?_
 refine aN (α := Nat) (fun j => [(5, oi j), (1, oi (k + (csum cnNode (l.take j) : Nat)))]) (fun _ => []) (fun j => j ≤ l.length) (fun j => l.length - j) 0 (fun _ => ?_) ?_ ?_ (fun j hj => ?_)
 ·simp only [go_sem]
 ·simp only [go_sem]; simp [csum]
 ·simp
 ·simp only [go_sem]
  refine aD ?_
  refine cnd rfl (fun h => ?_) (fun h => ?_)
  ·simp only [decide_eq_true_eq, Int.ofNat_lt] at h
   have hs := eQ cnNode l h
   have ht := gU cnNode l (j + 1)
   have hc : cnNode l[j] = 7 := rfl
   have hkk : k + (csum cnNode (l.take (j + 1)) : Nat) = k + (csum cnNode (l.take j) : Nat) + (cnNode l[j] : Nat) := by omega
   have hg := lX vE cnNode l k j (by rw [eP]; exact h)
   generalize k + (csum cnNode (l.take j) : Nat) = K at hg hkk ⊢
   have hK : 1 ≤ K ∧ K + (cnNode l[j] : Nat) ≤ 4611686018427387904 := by omega
   repeat' (with_reducible first | refine nY ?_ | (refine mX ?_; try simp only [go_sem, h, hg, vE]) | refine kO ?_ (by decide) | refine a3M (by kernel_rfl) ?_ | (refine cC (dK (((K + 1) + 1) + 1) (by omega)) ?_ ?_; focus simp only [go_sem, and_self]; done) | (refine cC (dK ((((((K + 1) + 1) + 1) + 1) + 1) + 1) (by omega)) ?_ ?_; focus simp only [go_sem, and_self]; done) | (refine And.intro ?_ ?_; focus omega))
   refine aF (j + 1) ?_ ?_ ?_
   ·simp only [go_sem, hkk]
    simp [hc]
    try omega
   ·omega
   ·omega
  ·simp only [decide_eq_false_iff_not] at h
   have e : j = l.length := by omega
   subst e
   refine aD ?_
   exact aA ⟨⟨_, rfl, by simp only [go_sem, List.take_length]⟩, trivial⟩
end Go.Proofs.YteaaopodnbjpoaaGreat
end
section
set_option linter.all false
set_option maxRecDepth 100000
set_option maxHeartbeats 4000000
namespace Go.Proofs.YteaaopodnbjpoaaGreat
open Go Go.Sx Go.RowKit Go.Proofs
def cnFile (x : TFile) : Nat := 4 + csum cnAttr x.fAttrs
theorem a4o : ∀ x, 1 ≤ cnFile x := fun x => by unfold cnFile; omega
def pO (x : TFile) (k : Int) : TFile := ⟨k, (k + 1), (decide (Int.tmod ((k + 1) + 1) 3 = 0)), (((k + 1) + 1) + 1), (mkL vC cnAttr x.fAttrs ((((k + 1) + 1) + 1) + 1))⟩
theorem a7n (l : List TFile) (k : Int) (hk : 1 ≤ k ∧ k + (csum cnFile l : Nat) ≤ 4611686018427387904) : FnM Tryz.prog 120 false [.w 0 5 (l.map bB)] [.w 0 5 ((mkL pO cnFile l k).map bB)] k (k + (csum cnFile l : Nat)) := by
 have hlen := fK cnFile a4o l
 refine entm Tryz.func120 rfl Tryz.call120 rfl (by simp) (by simp only [go_sem]) (fun C tg => ?_); simp only [go_sem, Tryz.ntmps120]
 refine aD ?_
 refine aN (α := Nat) (fun j => [(5, oi j), (1, oi (k + (csum cnFile (l.take j) : Nat)))]) (fun j => [(0, .own (tg 0) 5 (sG bB pO cnFile l k j))]) (fun j => j ≤ l.length) (fun j => l.length - j) 0 (fun _ => ?_) ?_ ?_ (fun j hj => ?_)
 ·simp only [go_sem]
 ·simp only [go_sem]; simp [kK, csum]
 ·simp
 ·simp only [go_sem]
  refine aD ?_
  refine cnd rfl (fun h => ?_) (fun h => ?_)
  ·simp only [decide_eq_true_eq, Int.ofNat_lt] at h
   have hs := eQ cnFile l h
   have ht := gU cnFile l (j + 1)
   have hc : cnFile l[j] = 4 + csum cnAttr l[j].fAttrs := rfl
   have hset := lY bB pO cnFile l k j h
   have hkk : k + (csum cnFile (l.take (j + 1)) : Nat) = k + (csum cnFile (l.take j) : Nat) + (cnFile l[j] : Nat) := by omega
   generalize k + (csum cnFile (l.take j) : Nat) = K at hset hkk ⊢
   have hK : 1 ≤ K ∧ K + (cnFile l[j] : Nat) ≤ 4611686018427387904 := by omega
   have qH := @h; repeat' (with_reducible first | refine nY ?_ | (refine mX ?_; try simp only [go_sem, qH]) | refine kD ?_ | refine rD ?_ | refine vN (a0Z l[j].fAttrs _ (by omega)) ?_ | refine aO ?_ | fail)
   refine aF (j + 1) ?_ ?_ ?_
   ·simp only [go_sem, hkk, ← hset]
    simp [pO, bB, hc]
    try omega
   ·omega
   ·omega
  ·simp only [decide_eq_false_iff_not] at h
   have e : j = l.length := by omega
   subst e
   refine aD ?_
   exact ⟨⟨⟨_, rfl, by simp only [go_sem, fM, List.take_length]⟩, trivial⟩, by simp only [go_sem, fM, List.take_length]⟩
theorem a7o (l : List TFile) (k : Int) (hk : 1 ≤ k ∧ k + (csum cnFile l : Nat) ≤ 4611686018427387904) : FnC Tryz.prog 122 [.o (.d (.sl ((mkL pO cnFile l k).map bB))), oi k] (oi (k + (csum cnFile l : Nat))) := by
 have hlen := fK cnFile a4o l
 refine ent Tryz.func122 rfl Tryz.call122 rfl (fun C => ?_); simp only [go_sem, st0, Tryz.ntmps122]
 refine aD ?_
 refine aN (α := Nat) (fun j => [(5, oi j), (1, oi (k + (csum cnFile (l.take j) : Nat)))]) (fun _ => []) (fun j => j ≤ l.length) (fun j => l.length - j) 0 (fun _ => ?_) ?_ ?_ (fun j hj => ?_)
 ·simp only [go_sem]
 ·simp only [go_sem]; simp [csum]
 ·simp
 ·simp only [go_sem]
  refine aD ?_
  refine cnd rfl (fun h => ?_) (fun h => ?_)
  ·simp only [decide_eq_true_eq, Int.ofNat_lt] at h
   have hs := eQ cnFile l h
   have ht := gU cnFile l (j + 1)
   have hc : cnFile l[j] = 4 + csum cnAttr l[j].fAttrs := rfl
   have hkk : k + (csum cnFile (l.take (j + 1)) : Nat) = k + (csum cnFile (l.take j) : Nat) + (cnFile l[j] : Nat) := by omega
   have hg := lX pO cnFile l k j (by rw [eP]; exact h)
   generalize k + (csum cnFile (l.take j) : Nat) = K at hg hkk ⊢
   have hK : 1 ≤ K ∧ K + (cnFile l[j] : Nat) ≤ 4611686018427387904 := by omega
   have hneg0 : ¬ (((((K + 1) + 1) + 1) + 1) + (csum cnAttr l[j].fAttrs : Nat) < 0) := by omega
   repeat' (with_reducible first | refine nY ?_ | (refine mX ?_; try simp only [go_sem, h, hg, pO, hneg0]) | refine kO ?_ (by decide) | refine a3M (by kernel_rfl) ?_ | (refine cC (a7l l[j].fAttrs ((((K + 1) + 1) + 1) + 1) (by omega)) ?_ ?_; focus simp only [go_sem, and_self]; done) | (refine And.intro ?_ ?_; focus omega))
   refine aF (j + 1) ?_ ?_ ?_
   ·simp only [go_sem, hkk]
    simp [hc]
    try omega
   ·omega
   ·omega
  ·simp only [decide_eq_false_iff_not] at h
   have e : j = l.length := by omega
   subst e
   refine aD ?_
   exact aA ⟨⟨_, rfl, by simp only [go_sem, List.take_length]⟩, trivial⟩
def cnDir (x : TDir) : Nat := 1 + csum cnNode x.fQuery
theorem a6l : ∀ x, 1 ≤ cnDir x := fun x => by unfold cnDir; omega
def a1b (x : TDir) (k : Int) : TDir := ⟨(qQ k), (mkL vE cnNode x.fQuery (k + 1))⟩
theorem a8W (l : List TDir) (k : Int) (hk : 1 ≤ k ∧ k + (csum cnDir l : Nat) ≤ 4611686018427387904) : FnM Tryz.prog 57 false [.w 0 2 (l.map aM)] [.w 0 2 ((mkL a1b cnDir l k).map aM)] k (k + (csum cnDir l : Nat)) := by
 have hlen := fK cnDir a6l l
 refine entm Tryz.func57 rfl Tryz.call57 rfl (by simp) (by simp only [go_sem]) (fun C tg => ?_); simp only [go_sem, Tryz.ntmps57]
 refine aD ?_
 refine aN (α := Nat) (fun j => [(5, oi j), (1, oi (k + (csum cnDir (l.take j) : Nat)))]) (fun j => [(0, .own (tg 0) 2 (sG aM a1b cnDir l k j))]) (fun j => j ≤ l.length) (fun j => l.length - j) 0 (fun _ => ?_) ?_ ?_ (fun j hj => ?_)
 ·simp only [go_sem]
 ·simp only [go_sem]; simp [kK, csum]
 ·simp
 ·simp only [go_sem]
  refine aD ?_
  refine cnd rfl (fun h => ?_) (fun h => ?_)
  ·simp only [decide_eq_true_eq, Int.ofNat_lt] at h
   have hs := eQ cnDir l h
   have ht := gU cnDir l (j + 1)
   have hc : cnDir l[j] = 1 + csum cnNode l[j].fQuery := rfl
   have hset := lY aM a1b cnDir l k j h
   have hkk : k + (csum cnDir (l.take (j + 1)) : Nat) = k + (csum cnDir (l.take j) : Nat) + (cnDir l[j] : Nat) := by omega
   generalize k + (csum cnDir (l.take j) : Nat) = K at hset hkk ⊢
   have hK : 1 ≤ K ∧ K + (cnDir l[j] : Nat) ≤ 4611686018427387904 := by omega
   have qH := @h; repeat' (with_reducible first | refine nY ?_ | (refine mX ?_; try simp only [go_sem, qH]) | refine kD ?_ | refine rD ?_ | refine cP (dK K (by omega)) ?_ | refine vN (a1a l[j].fQuery _ (by omega)) ?_ | refine aO ?_ | fail)
   refine aF (j + 1) ?_ ?_ ?_
   ·simp only [go_sem, hkk, ← hset]
    simp [a1b, aM, hc]
    try omega
   ·omega
   ·omega
  ·simp only [decide_eq_false_iff_not] at h
   have e : j = l.length := by omega
   subst e
   refine aD ?_
   exact ⟨⟨⟨_, rfl, by simp only [go_sem, fM, List.take_length]⟩, trivial⟩, by simp only [go_sem, fM, List.take_length]⟩
theorem a8X (l : List TDir) (k : Int) (hk : 1 ≤ k ∧ k + (csum cnDir l : Nat) ≤ 4611686018427387904) : FnC Tryz.prog 62 [.o (.d (.sl ((mkL a1b cnDir l k).map aM))), oi k] (oi (k + (csum cnDir l : Nat))) := by
 have hlen := fK cnDir a6l l
 refine ent Tryz.func62 rfl Tryz.call62 rfl (fun C => ?_); simp only [go_sem, st0, Tryz.ntmps62]
 refine aD ?_
 refine aN (α := Nat) (fun j => [(5, oi j), (1, oi (k + (csum cnDir (l.take j) : Nat)))]) (fun _ => []) (fun j => j ≤ l.length) (fun j => l.length - j) 0 (fun _ => ?_) ?_ ?_ (fun j hj => ?_)
 ·simp only [go_sem]
 ·simp only [go_sem]; simp [csum]
 ·simp
 ·simp only [go_sem]
  refine aD ?_
  refine cnd rfl (fun h => ?_) (fun h => ?_)
  ·simp only [decide_eq_true_eq, Int.ofNat_lt] at h
   have hs := eQ cnDir l h
   have ht := gU cnDir l (j + 1)
   have hc : cnDir l[j] = 1 + csum cnNode l[j].fQuery := rfl
   have hkk : k + (csum cnDir (l.take (j + 1)) : Nat) = k + (csum cnDir (l.take j) : Nat) + (cnDir l[j] : Nat) := by omega
   have hg := lX a1b cnDir l k j (by rw [eP]; exact h)
   generalize k + (csum cnDir (l.take j) : Nat) = K at hg hkk ⊢
   have hK : 1 ≤ K ∧ K + (cnDir l[j] : Nat) ≤ 4611686018427387904 := by omega
   have hneg0 : ¬ ((K + 1) + (csum cnNode l[j].fQuery : Nat) < 0) := by omega
   repeat' (with_reducible first | refine nY ?_ | (refine mX ?_; try simp only [go_sem, h, hg, a1b, hneg0]) | refine kO ?_ (by decide) | refine a3M (by kernel_rfl) ?_ | (refine cC (dK K (by omega)) ?_ ?_; focus simp only [go_sem, and_self]; done) | (refine cC (a7m l[j].fQuery (K + 1) (by omega)) ?_ ?_; focus simp only [go_sem, and_self]; done) | (refine And.intro ?_ ?_; focus omega))
   refine aF (j + 1) ?_ ?_ ?_
   ·simp only [go_sem, hkk]
    simp [hc]
    try omega
   ·omega
   ·omega
  ·simp only [decide_eq_false_iff_not] at h
   have e : j = l.length := by omega
   subst e
   refine aD ?_
   exact aA ⟨⟨_, rfl, by simp only [go_sem, List.take_length]⟩, trivial⟩
def cnResult (x : TResult) : Nat := 1 + csum cnInt x.fIDs
theorem a1c : ∀ x, 1 ≤ cnResult x := fun x => by unfold cnResult; omega
def mJ (x : TResult) (k : Int) : TResult := ⟨(qQ k), (mkL xK cnInt x.fIDs (k + 1))⟩
theorem a4p (l : List TResult) (k : Int) (hk : 1 ≤ k ∧ k + (csum cnResult l : Nat) ≤ 4611686018427387904) : FnM Tryz.prog 58 false [.w 0 2 (l.map aJ)] [.w 0 2 ((mkL mJ cnResult l k).map aJ)] k (k + (csum cnResult l : Nat)) := by
 have hlen := fK cnResult a1c l
 refine entm Tryz.func58 rfl Tryz.call58 rfl (by simp) (by simp only [go_sem]) (fun C tg => ?_); simp only [go_sem, Tryz.ntmps58]
 refine aD ?_
 refine aN (α := Nat) (fun j => [(5, oi j), (1, oi (k + (csum cnResult (l.take j) : Nat)))]) (fun j => [(0, .own (tg 0) 2 (sG aJ mJ cnResult l k j))]) (fun j => j ≤ l.length) (fun j => l.length - j) 0 (fun _ => ?_) ?_ ?_ (fun j hj => ?_)
 ·simp only [go_sem]
 ·simp only [go_sem]; simp [kK, csum]
 ·simp
 ·simp only [go_sem]
  refine aD ?_
  refine cnd rfl (fun h => ?_) (fun h => ?_)
  ·simp only [decide_eq_true_eq, Int.ofNat_lt] at h
   have hs := eQ cnResult l h
   have ht := gU cnResult l (j + 1)
   have hc : cnResult l[j] = 1 + csum cnInt l[j].fIDs := rfl
   have hset := lY aJ mJ cnResult l k j h
   have hkk : k + (csum cnResult (l.take (j + 1)) : Nat) = k + (csum cnResult (l.take j) : Nat) + (cnResult l[j] : Nat) := by omega
   generalize k + (csum cnResult (l.take j) : Nat) = K at hset hkk ⊢
   have hK : 1 ≤ K ∧ K + (cnResult l[j] : Nat) ≤ 4611686018427387904 := by omega
   have qH := @h; repeat' (with_reducible first | refine nY ?_ | (refine mX ?_; try simp only [go_sem, qH]) | refine kD ?_ | refine rD ?_ | refine cP (dK K (by omega)) ?_ | refine vN (qR l[j].fIDs _ (by omega)) ?_ | refine aO ?_ | fail)
   refine aF (j + 1) ?_ ?_ ?_
   ·simp only [go_sem, hkk, ← hset]
    simp [mJ, aJ, hc]
    try omega
   ·omega
   ·omega
  ·simp only [decide_eq_false_iff_not] at h
   have e : j = l.length := by omega
   subst e
   refine aD ?_
   exact ⟨⟨⟨_, rfl, by simp only [go_sem, fM, List.take_length]⟩, trivial⟩, by simp only [go_sem, fM, List.take_length]⟩
theorem a4q (l : List TResult) (k : Int) (hk : 1 ≤ k ∧ k + (csum cnResult l : Nat) ≤ 4611686018427387904) : FnC Tryz.prog 63 [.o (.d (.sl ((mkL mJ cnResult l k).map aJ))), oi k] (oi (k + (csum cnResult l : Nat))) := by
 have hlen := fK cnResult a1c l
 refine ent Tryz.func63 rfl Tryz.call63 rfl (fun C => ?_); simp only [go_sem, st0, Tryz.ntmps63]
 refine aD ?_
 refine aN (α := Nat) (fun j => [(5, oi j), (1, oi (k + (csum cnResult (l.take j) : Nat)))]) (fun _ => []) (fun j => j ≤ l.length) (fun j => l.length - j) 0 (fun _ => ?_) ?_ ?_ (fun j hj => ?_)
 ·simp only [go_sem]
 ·simp only [go_sem]; simp [csum]
 ·simp
 ·simp only [go_sem]
  refine aD ?_
  refine cnd rfl (fun h => ?_) (fun h => ?_)
  ·simp only [decide_eq_true_eq, Int.ofNat_lt] at h
   have hs := eQ cnResult l h
   have ht := gU cnResult l (j + 1)
   have hc : cnResult l[j] = 1 + csum cnInt l[j].fIDs := rfl
   have hkk : k + (csum cnResult (l.take (j + 1)) : Nat) = k + (csum cnResult (l.take j) : Nat) + (cnResult l[j] : Nat) := by omega
   have hg := lX mJ cnResult l k j (by rw [eP]; exact h)
   generalize k + (csum cnResult (l.take j) : Nat) = K at hg hkk ⊢
   have hK : 1 ≤ K ∧ K + (cnResult l[j] : Nat) ≤ 4611686018427387904 := by omega
   have hneg0 : ¬ ((K + 1) + (csum cnInt l[j].fIDs : Nat) < 0) := by omega
   repeat' (with_reducible first | refine nY ?_ | (refine mX ?_; try simp only [go_sem, h, hg, mJ, hneg0]) | refine kO ?_ (by decide) | refine a3M (by kernel_rfl) ?_ | (refine cC (dK K (by omega)) ?_ ?_; focus simp only [go_sem, and_self]; done) | (refine cC (xL l[j].fIDs (K + 1) (by omega)) ?_ ?_; focus simp only [go_sem, and_self]; done) | (refine And.intro ?_ ?_; focus omega))
   refine aF (j + 1) ?_ ?_ ?_
   ·simp only [go_sem, hkk]
    simp [hc]
    try omega
   ·omega
   ·omega
  ·simp only [decide_eq_false_iff_not] at h
   have e : j = l.length := by omega
   subst e
   refine aD ?_
   exact aA ⟨⟨_, rfl, by simp only [go_sem, List.take_length]⟩, trivial⟩
def cnDiff (x : TDiff) : Nat := 1 + csum cnInt x.fAdded + csum cnInt x.fRemoved
theorem a4r : ∀ x, 1 ≤ cnDiff x := fun x => by unfold cnDiff; omega
def a0g (x : TDiff) (k : Int) : TDiff := ⟨(qQ k), (mkL xK cnInt x.fAdded (k + 1)), (mkL xK cnInt x.fRemoved ((k + 1) + (csum cnInt x.fAdded : Nat)))⟩
theorem a7p (l : List TDiff) (k : Int) (hk : 1 ≤ k ∧ k + (csum cnDiff l : Nat) ≤ 4611686018427387904) : FnM Tryz.prog 21 false [.w 0 3 (l.map dH)] [.w 0 3 ((mkL a0g cnDiff l k).map dH)] k (k + (csum cnDiff l : Nat)) := by
 have hlen := fK cnDiff a4r l
 refine entm Tryz.func21 rfl Tryz.call21 rfl (by simp) (by simp only [go_sem]) (fun C tg => ?_); simp only [go_sem, Tryz.ntmps21]
 refine aD ?_
 refine aN (α := Nat) (fun j => [(5, oi j), (1, oi (k + (csum cnDiff (l.take j) : Nat)))]) (fun j => [(0, .own (tg 0) 3 (sG dH a0g cnDiff l k j))]) (fun j => j ≤ l.length) (fun j => l.length - j) 0 (fun _ => ?_) ?_ ?_ (fun j hj => ?_)
 ·simp only [go_sem]
 ·simp only [go_sem]; simp [kK, csum]
 ·simp
 ·simp only [go_sem]
  refine aD ?_
  refine cnd rfl (fun h => ?_) (fun h => ?_)
  ·simp only [decide_eq_true_eq, Int.ofNat_lt] at h
   have hs := eQ cnDiff l h
   have ht := gU cnDiff l (j + 1)
   have hc : cnDiff l[j] = 1 + csum cnInt l[j].fAdded + csum cnInt l[j].fRemoved := rfl
   have hset := lY dH a0g cnDiff l k j h
   have hkk : k + (csum cnDiff (l.take (j + 1)) : Nat) = k + (csum cnDiff (l.take j) : Nat) + (cnDiff l[j] : Nat) := by omega
   generalize k + (csum cnDiff (l.take j) : Nat) = K at hset hkk ⊢
   have hK : 1 ≤ K ∧ K + (cnDiff l[j] : Nat) ≤ 4611686018427387904 := by omega
   have qH := @h; repeat' (with_reducible first | refine nY ?_ | (refine mX ?_; try simp only [go_sem, qH]) | refine kD ?_ | refine rD ?_ | refine cP (dK K (by omega)) ?_ | refine vN (qR l[j].fAdded _ (by omega)) ?_ | refine vN (qR l[j].fRemoved _ (by omega)) ?_ | refine aO ?_ | fail)
   refine aF (j + 1) ?_ ?_ ?_
   ·simp only [go_sem, hkk, ← hset]
    simp [a0g, dH, hc]
    try omega
   ·omega
   ·omega
  ·simp only [decide_eq_false_iff_not] at h
   have e : j = l.length := by omega
   subst e
   refine aD ?_
   exact ⟨⟨⟨_, rfl, by simp only [go_sem, fM, List.take_length]⟩, trivial⟩, by simp only [go_sem, fM, List.take_length]⟩
theorem a1d (l : List TDiff) (k : Int) (hk : 1 ≤ k ∧ k + (csum cnDiff l : Nat) ≤ 4611686018427387904) : FnC Tryz.prog 23 [.o (.d (.sl ((mkL a0g cnDiff l k).map dH))), oi k] (oi (k + (csum cnDiff l : Nat))) := by
 have hlen := fK cnDiff a4r l
 refine ent Tryz.func23 rfl Tryz.call23 rfl (fun C => ?_); simp only [go_sem, st0, Tryz.ntmps23]
 refine aD ?_
 refine aN (α := Nat) (fun j => [(5, oi j), (1, oi (k + (csum cnDiff (l.take j) : Nat)))]) (fun _ => []) (fun j => j ≤ l.length) (fun j => l.length - j) 0 (fun _ => ?_) ?_ ?_ (fun j hj => ?_)
 ·simp only [go_sem]
 ·simp only [go_sem]; simp [csum]
 ·simp
 ·simp only [go_sem]
  refine aD ?_
  refine cnd rfl (fun h => ?_) (fun h => ?_)
  ·simp only [decide_eq_true_eq, Int.ofNat_lt] at h
   have hs := eQ cnDiff l h
   have ht := gU cnDiff l (j + 1)
   have hc : cnDiff l[j] = 1 + csum cnInt l[j].fAdded + csum cnInt l[j].fRemoved := rfl
   have hkk : k + (csum cnDiff (l.take (j + 1)) : Nat) = k + (csum cnDiff (l.take j) : Nat) + (cnDiff l[j] : Nat) := by omega
   have hg := lX a0g cnDiff l k j (by rw [eP]; exact h)
   generalize k + (csum cnDiff (l.take j) : Nat) = K at hg hkk ⊢
   have hK : 1 ≤ K ∧ K + (cnDiff l[j] : Nat) ≤ 4611686018427387904 := by omega
   have hneg0 : ¬ ((K + 1) + (csum cnInt l[j].fAdded : Nat) < 0) := by omega
   have hneg1 : ¬ (((K + 1) + (csum cnInt l[j].fAdded : Nat)) + (csum cnInt l[j].fRemoved : Nat) < 0) := by omega
   repeat' (with_reducible first | refine nY ?_ | (refine mX ?_; try simp only [go_sem, h, hg, a0g, hneg0, hneg1]) | refine kO ?_ (by decide) | refine a3M (by kernel_rfl) ?_ | (refine cC (dK K (by omega)) ?_ ?_; focus simp only [go_sem, and_self]; done) | (refine cC (xL l[j].fAdded (K + 1) (by omega)) ?_ ?_; focus simp only [go_sem, and_self]; done) | (refine cC (xL l[j].fRemoved ((K + 1) + (csum cnInt l[j].fAdded : Nat)) (by omega)) ?_ ?_; focus simp only [go_sem, and_self]; done) | (refine And.intro ?_ ?_; focus omega))
   refine aF (j + 1) ?_ ?_ ?_
   ·simp only [go_sem, hkk]
    simp [hc]
    try omega
   ·omega
   ·omega
  ·simp only [decide_eq_false_iff_not] at h
   have e : j = l.length := by omega
   subst e
   refine aD ?_
   exact aA ⟨⟨_, rfl, by simp only [go_sem, List.take_length]⟩, trivial⟩
def b9D (x : TGroup) : Nat := 3 + csum cnInt x.fIDs
def b9E (x : TGroup) (k : Int) : TGroup := ⟨⟨k, (k + 1), (qQ ((k + 1) + 1))⟩, (mkL xK cnInt x.fIDs (((k + 1) + 1) + 1))⟩
def cnChange (x : TChange) : Nat := 7 + csum cnAttr x.fFile.fAttrs + csum cnNode x.fDir.fQuery
theorem a7q : ∀ x, 1 ≤ cnChange x := fun x => by unfold cnChange; omega
def a1e (x : TChange) (k : Int) : TChange := ⟨k, ⟨(k + 1), ((k + 1) + 1), (decide (Int.tmod (((k + 1) + 1) + 1) 3 = 0)), ((((k + 1) + 1) + 1) + 1), (mkL vC cnAttr x.fFile.fAttrs (((((k + 1) + 1) + 1) + 1) + 1))⟩, ((((((k + 1) + 1) + 1) + 1) + 1) + (csum cnAttr x.fFile.fAttrs : Nat)), ⟨(qQ (((((((k + 1) + 1) + 1) + 1) + 1) + (csum cnAttr x.fFile.fAttrs : Nat)) + 1)), (mkL vE cnNode x.fDir.fQuery ((((((((k + 1) + 1) + 1) + 1) + 1) + (csum cnAttr x.fFile.fAttrs : Nat)) + 1) + 1))⟩⟩
theorem a4s (l : List TChange) (k : Int) (hk : 1 ≤ k ∧ k + (csum cnChange l : Nat) ≤ 4611686018427387904) : FnM Tryz.prog 19 false [.w 0 9 (l.map dV)] [.w 0 9 ((mkL a1e cnChange l k).map dV)] k (k + (csum cnChange l : Nat)) := by
 have hlen := fK cnChange a7q l
 refine entm Tryz.func19 rfl Tryz.call19 rfl (by simp) (by simp only [go_sem]) (fun C tg => ?_); simp only [go_sem, Tryz.ntmps19]
 refine aD ?_
 refine aN (α := Nat) (fun j => [(5, oi j), (1, oi (k + (csum cnChange (l.take j) : Nat)))]) (fun j => [(0, .own (tg 0) 9 (sG dV a1e cnChange l k j))]) (fun j => j ≤ l.length) (fun j => l.length - j) 0 (fun _ => ?_) ?_ ?_ (fun j hj => ?_)
 ·simp only [go_sem]
 ·simp only [go_sem]; simp [kK, csum]
 ·simp
 ·simp only [go_sem]
  refine aD ?_
  refine cnd rfl (fun h => ?_) (fun h => ?_)
  ·simp only [decide_eq_true_eq, Int.ofNat_lt] at h
   have hs := eQ cnChange l h
   have ht := gU cnChange l (j + 1)
   have hc : cnChange l[j] = 7 + csum cnAttr l[j].fFile.fAttrs + csum cnNode l[j].fDir.fQuery := rfl
   have hset := lY dV a1e cnChange l k j h
   have hkk : k + (csum cnChange (l.take (j + 1)) : Nat) = k + (csum cnChange (l.take j) : Nat) + (cnChange l[j] : Nat) := by omega
   generalize k + (csum cnChange (l.take j) : Nat) = K at hset hkk ⊢
   have hK : 1 ≤ K ∧ K + (cnChange l[j] : Nat) ≤ 4611686018427387904 := by omega
   have qH := @h; repeat' (with_reducible first | refine nY ?_ | (refine mX ?_; try simp only [go_sem, qH]) | refine kD ?_ | refine rD ?_ | refine cP (dK (((((((K + 1) + 1) + 1) + 1) + 1) + (csum cnAttr l[j].fFile.fAttrs : Nat)) + 1) (by omega)) ?_ | refine vN (a0Z l[j].fFile.fAttrs _ (by omega)) ?_ | refine vN (a1a l[j].fDir.fQuery _ (by omega)) ?_ | refine aO ?_ | fail)
   refine aF (j + 1) ?_ ?_ ?_
   ·simp only [go_sem, hkk, ← hset]
    simp [a1e, dV, hc]
    try omega
   ·omega
   ·omega
  ·simp only [decide_eq_false_iff_not] at h
   have e : j = l.length := by omega
   subst e
   refine aD ?_
   exact ⟨⟨⟨_, rfl, by simp only [go_sem, fM, List.take_length]⟩, trivial⟩, by simp only [go_sem, fM, List.take_length]⟩
end Go.Proofs.YteaaopodnbjpoaaGreat
end
section
set_option linter.all false
set_option maxRecDepth 100000
set_option maxHeartbeats 4000000
namespace Go.Proofs.YteaaopodnbjpoaaGreat
open Go Go.Sx Go.RowKit Go.Proofs
theorem a7r (x : TStore) (k : Int) (hk : 1 ≤ k ∧ k + (csum cnField x.fSchema : Nat) + (csum cnFile x.fFiles : Nat) ≤ 4611686018427387904) : FnM Tryz.prog 56 true [.w 0 2 (x.fSchema.map bH), .w 0 5 (x.fFiles.map bB), .d (iv x.fNextID)] [.w 0 2 ((mkL mI cnField x.fSchema (k)).map bH), .w 0 5 ((mkL pO cnFile x.fFiles (k + (csum cnField x.fSchema : Nat))).map bB), .d (iv x.fNextID)] k (k + (csum cnField x.fSchema : Nat) + (csum cnFile x.fFiles : Nat)) := by
 refine entm Tryz.func56 rfl Tryz.call56 rfl (by simp) (by simp only [go_sem]) (fun C tg => ?_); simp only [go_sem, Tryz.ntmps56]
 have qH := trivial; repeat' (with_reducible first | refine nY ?_ | (refine mX ?_; try simp only [go_sem]) | refine kD ?_ | refine rD ?_ | refine vM (a5w x.fSchema _ (by omega)) ?_ | refine vM (a7n x.fFiles _ (by omega)) ?_ | refine aO ?_ | fail)
 exact ⟨⟨⟨_, rfl, by simp only [go_sem]⟩, trivial⟩, by simp only [go_sem]⟩
theorem a7s (x : TStore) (k : Int) (hk : 1 ≤ k ∧ k + (csum cnField x.fSchema : Nat) + (csum cnFile x.fFiles : Nat) ≤ 4611686018427387904) : FnC Tryz.prog 61 [.g [.d (.sl ((mkL mI cnField x.fSchema (k)).map bH)), .d (.sl ((mkL pO cnFile x.fFiles (k + (csum cnField x.fSchema : Nat))).map bB)), .d (iv x.fNextID)], oi k] (oi (k + (csum cnField x.fSchema : Nat) + (csum cnFile x.fFiles : Nat))) := by
 have hneg0 : ¬ (k + (csum cnField x.fSchema : Nat) < 0) := by omega
 have hneg1 : ¬ (k + (csum cnField x.fSchema : Nat) + (csum cnFile x.fFiles : Nat) < 0) := by omega
 refine ent Tryz.func61 rfl Tryz.call61 rfl (fun C => ?_); simp only [go_sem, st0, Tryz.ntmps61]
 have q0 := @hneg0; have q1 := @hneg1; refine uU (a5x x.fSchema (k) (by omega)) (a7o x.fFiles (k + (csum cnField x.fSchema : Nat)) (by omega)) ?_
 exact aA ⟨⟨_, rfl, by simp only [go_sem]⟩, trivial⟩
theorem xM (x : TCatalog) (k : Int) (hk : 1 ≤ k ∧ k + (csum cnField x.fStore.fSchema : Nat) + (csum cnFile x.fStore.fFiles : Nat) + (csum cnDir x.fDirs : Nat) + (csum cnResult x.fResults : Nat) ≤ 4611686018427387904) : FnM Tryz.prog 18 true [.w 0 2 (x.fStore.fSchema.map bH), .w 0 5 (x.fStore.fFiles.map bB), .d (iv x.fStore.fNextID), .w 0 2 (x.fDirs.map aM), .w 0 2 (x.fResults.map aJ)] [.w 0 2 ((mkL mI cnField x.fStore.fSchema (k)).map bH), .w 0 5 ((mkL pO cnFile x.fStore.fFiles (k + (csum cnField x.fStore.fSchema : Nat))).map bB), .d (iv x.fStore.fNextID), .w 0 2 ((mkL a1b cnDir x.fDirs (k + (csum cnField x.fStore.fSchema : Nat) + (csum cnFile x.fStore.fFiles : Nat))).map aM), .w 0 2 ((mkL mJ cnResult x.fResults (k + (csum cnField x.fStore.fSchema : Nat) + (csum cnFile x.fStore.fFiles : Nat) + (csum cnDir x.fDirs : Nat))).map aJ)] k (k + (csum cnField x.fStore.fSchema : Nat) + (csum cnFile x.fStore.fFiles : Nat) + (csum cnDir x.fDirs : Nat) + (csum cnResult x.fResults : Nat)) := by
 refine entm Tryz.func18 rfl Tryz.call18 rfl (by simp) (by simp only [go_sem]) (fun C tg => ?_); simp only [go_sem, Tryz.ntmps18]
 have qH := trivial; repeat' (with_reducible first | refine nY ?_ | (refine mX ?_; try simp only [go_sem]) | refine kD ?_ | refine rD ?_ | refine vM (a7r x.fStore _ (by omega)) ?_ | refine vM (a8W x.fDirs _ (by omega)) ?_ | refine vM (a4p x.fResults _ (by omega)) ?_ | refine aO ?_ | fail)
 exact ⟨⟨⟨_, rfl, by simp only [go_sem]⟩, trivial⟩, by simp only [go_sem]⟩
theorem xN (x : TCatalog) (k : Int) (hk : 1 ≤ k ∧ k + (csum cnField x.fStore.fSchema : Nat) + (csum cnFile x.fStore.fFiles : Nat) + (csum cnDir x.fDirs : Nat) + (csum cnResult x.fResults : Nat) ≤ 4611686018427387904) : FnC Tryz.prog 22 [.g [.d (.sl ((mkL mI cnField x.fStore.fSchema (k)).map bH)), .d (.sl ((mkL pO cnFile x.fStore.fFiles (k + (csum cnField x.fStore.fSchema : Nat))).map bB)), .d (iv x.fStore.fNextID), .d (.sl ((mkL a1b cnDir x.fDirs (k + (csum cnField x.fStore.fSchema : Nat) + (csum cnFile x.fStore.fFiles : Nat))).map aM)), .d (.sl ((mkL mJ cnResult x.fResults (k + (csum cnField x.fStore.fSchema : Nat) + (csum cnFile x.fStore.fFiles : Nat) + (csum cnDir x.fDirs : Nat))).map aJ))], oi k] (oi (k + (csum cnField x.fStore.fSchema : Nat) + (csum cnFile x.fStore.fFiles : Nat) + (csum cnDir x.fDirs : Nat) + (csum cnResult x.fResults : Nat))) := by
 have hneg0 : ¬ (k + (csum cnField x.fStore.fSchema : Nat) + (csum cnFile x.fStore.fFiles : Nat) < 0) := by omega
 have hneg1 : ¬ (k + (csum cnField x.fStore.fSchema : Nat) + (csum cnFile x.fStore.fFiles : Nat) + (csum cnDir x.fDirs : Nat) < 0) := by omega
 have hneg2 : ¬ (k + (csum cnField x.fStore.fSchema : Nat) + (csum cnFile x.fStore.fFiles : Nat) + (csum cnDir x.fDirs : Nat) + (csum cnResult x.fResults : Nat) < 0) := by omega
 refine ent Tryz.func22 rfl Tryz.call22 rfl (fun C => ?_); simp only [go_sem, st0, Tryz.ntmps22]
 have q0 := @hneg0; have q1 := @hneg1; have q2 := @hneg2; refine a8K (a7s x.fStore (k) (by omega)) (a8X x.fDirs (k + (csum cnField x.fStore.fSchema : Nat) + (csum cnFile x.fStore.fFiles : Nat)) (by omega)) (a4q x.fResults (k + (csum cnField x.fStore.fSchema : Nat) + (csum cnFile x.fStore.fFiles : Nat) + (csum cnDir x.fDirs : Nat)) (by omega)) ?_
 exact aA ⟨⟨_, rfl, by simp only [go_sem]⟩, trivial⟩
end Go.Proofs.YteaaopodnbjpoaaGreat
end
section
set_option linter.all false
namespace Go.Proofs.YteaaopodnbjpoaaGreat
open Go Go.Sx Go.RowKit Go.Proofs
theorem mY {α : Type} (cn w : α → Nat) (c : Nat) (hx : ∀ x, cn x ≤ c * (1 + w x)) : ∀ l : List α, csum cn l ≤ c * (l.length + wsum w l)
 | [] => by simp [csum]
 | x :: l => by
  have h1 := mY cn w c hx l
  have h2 := hx x
  simp only [csum, wsum, List.length_cons]
  have : c * (l.length + 1 + (w x + wsum w l)) = c * (1 + w x) + c * (l.length + wsum w l) := by rw [← Nat.mul_add]; congr 1; omega
  omega
theorem pQ {α : Type} (cn : α → Nat) (c : Nat) (hx : ∀ x, cn x = c) : ∀ l : List α, csum cn l = c * l.length
 | [] => by simp [csum]
 | x :: l => by
  have h1 := pQ cn c hx l
  simp only [csum, List.length_cons, hx, h1, Nat.mul_add]; omega
theorem a3l (l : List Int) : csum cnInt l = l.length := by rw [pQ cnInt 1 (fun _ => rfl)]; omega
theorem a6m (l : List TField) : csum cnField l = 2 * l.length := pQ cnField 2 (fun _ => rfl) l
theorem a8Y (l : List TAttr) : csum cnAttr l = 4 * l.length := pQ cnAttr 4 (fun _ => rfl) l
theorem a8Z (l : List TNode) : csum cnNode l = 7 * l.length := pQ cnNode 7 (fun _ => rfl) l
theorem a9a (l : List TFile) : csum cnFile l ≤ 4 * (l.length + wsum wFile l) := mY cnFile wFile 4 (fun x => by
 unfold cnFile wFile dN; rw [a8Y]; omega) l
theorem b2a (l : List TDir) : csum cnDir l ≤ 7 * (l.length + wsum wDir l) := mY cnDir wDir 7 (fun x => by
 unfold cnDir wDir bT; rw [a8Z]; omega) l
theorem a4t (l : List TResult) : csum cnResult l ≤ 1 * (l.length + wsum wResult l) := mY cnResult wResult 1 (fun x => by
 unfold cnResult wResult; rw [a3l]; omega) l
theorem b5k (l : List TDiff) : csum cnDiff l ≤ 1 * (l.length + wsum wL l) := mY cnDiff wL 1 (fun x => by
 unfold cnDiff wL; rw [a3l, a3l]; omega) l
theorem b0L (l : List TChange) : csum cnChange l ≤ 7 * (l.length + wsum wChange l) := mY cnChange wChange 7 (fun x => by
 unfold cnChange wChange wFile wDir dN bT; rw [a8Y, a8Z]; omega) l
end Go.Proofs.YteaaopodnbjpoaaGreat
end
end
section
set_option maxRecDepth 100000
set_option maxHeartbeats 4000000
namespace Go.Proofs.YteaaopodnbjpoaaGreat
open Go Go.Sx Go.RowKit Go.Proofs
def hasS (l : List ByteArray) (s : ByteArray) : Bool := l.any fun x => decide (x = s)
theorem b3s (l : List ByteArray) (s : ByteArray) (k : Nat) (h : k < l.length) : hasS (l.drop k) s = (decide (l[k] = s) || hasS (l.drop (k + 1)) s) := by
 rw [List.drop_eq_getElem_cons h]; rfl
theorem iB (l : List ByteArray) (s : ByteArray) (hl : l.length ≤ 4300000) : FnC Tryz.prog 223 [.o (.d (.sl (l.map bV))), os s] (ob (hasS l s)) := by
 refine ent Tryz.func223 rfl Tryz.call223 rfl (fun C => ?_); simp only [go_sem, st0, Tryz.ntmps223]
 refine aD ?_
 refine aN (α := Nat) (fun k => [(5, oi k)]) (fun k => []) (fun k => k ≤ l.length ∧ hasS (l.drop k) s = hasS l s) (fun k => l.length - k) 0 (fun _ => ?_) ?_ ?_ (fun k hk => ?_)
 ·simp only [go_sem]; try simp
 ·simp only [go_sem]; try simp
 ·simp
 ·simp only [go_sem]
  obtain ⟨hk, hg⟩ := hk
  refine aD ?_
  refine cnd rfl (fun h1 => ?_) (fun h1 => ?_)
  ·simp only [decide_eq_true_eq, Int.ofNat_lt] at h1
   have hd := b3s l s k h1
   rw [hg] at hd
   have q0 := @h1; refine fU ?_
   refine cnd rfl (fun hv => ?_) (fun hv => ?_)
   ·rw [hv, Bool.true_or] at hd
    refine aD ?_
    exact aA ⟨⟨_, rfl, by simp only [go_sem, hd]⟩, trivial⟩
   ·rw [hv, Bool.false_or] at hd
    refine aD ?_
    refine aF (k + 1) ?_ ?_ ?_
    ·simp only [go_sem]; try simp
    ·exact ⟨by omega, hd.symm⟩
    ·omega
  ·simp only [decide_eq_false_iff_not] at h1
   have e : k = l.length := by omega
   subst e
   have hn : hasS l s = false := by rw [← hg, List.drop_length]; rfl
   refine aD ?_
   exact aA ⟨⟨_, rfl, by simp only [go_sem, hn]⟩, trivial⟩
theorem b3t (l : List ByteArray) (s : ByteArray) (hl : l.length ≤ 4300000) : FnC Tryz.prog 239 [.o (.d (.sl (l.map bV))), os s] (oi (dX (fun x => decide (s = x)) l 0)) := by
 refine ent Tryz.func239 rfl Tryz.call239 rfl (fun C => ?_); simp only [go_sem, st0, Tryz.ntmps239]
 refine aD ?_
 refine aN (α := Nat) (fun k => [(8, oi k)]) (fun _ => []) (fun k => k ≤ l.length ∧ dX (fun x => decide (s = x)) l 0 = dX (fun x => decide (s = x)) (l.drop k) k) (fun k => l.length - k) 0 (fun _ => ?_) ?_ ?_ (fun k hk => ?_)
 ·simp only [go_sem]
 ·simp only [go_sem]; simp
 ·simp
 ·obtain ⟨hk, hq⟩ := hk
  simp only [go_sem]
  refine aD ?_
  refine cnd rfl (fun h => ?_) (fun h => ?_)
  ·simp only [decide_eq_true_eq, Int.ofNat_lt] at h
   have hd := List.drop_eq_getElem_cons h
   rw [hd, dX] at hq
   have q0 := @h; refine fU ?_
   refine cnd rfl (fun h2 => ?_) (fun h2 => ?_)
   ·refine aD ?_
    exact aA ⟨⟨_, rfl, by simp only [go_sem, hq, h2]⟩, trivial⟩
   ·refine aD ?_
    refine aF (k + 1) ?_ ?_ ?_
    ·simp only [go_sem]; simp
    ·rw [hq, h2]; exact ⟨h, by simp⟩
    ·omega
  ·simp only [decide_eq_false_iff_not] at h
   have e : k = l.length := by omega
   subst e
   simp only [List.drop_length, dX] at hq
   refine aD ?_
   exact aA ⟨⟨_, rfl, by simp only [go_sem, hq]⟩, trivial⟩
theorem xJ {α : Type} (p : α → Bool) : ∀ (l : List α) (k : Nat), decide (0 ≤ dX p l k) = l.any p
 | [], _ => by simp [dX]
 | x :: xs, k => by
  simp only [dX, List.any_cons]
  by_cases h : p x = true
  ·simp [h]
  ·rw [Bool.not_eq_true] at h
   simpa [h] using xJ p xs (k + 1)
theorem b5j (l : List ByteArray) (s : ByteArray) : decide (0 ≤ dX (fun x => decide (s = x)) l 0) = hasS l s := by
 rw [xJ]; unfold hasS
 congr 1; funext x; congr 1; exact propext eq_comm
theorem eZ (l : List ByteArray) (s : ByteArray) (hl : l.length ≤ 4300000) : FnC Tryz.prog 190 [.o (.d (.sl (l.map bV))), os s] (ob (hasS l s)) := by
 refine ent Tryz.func190 rfl Tryz.call190 rfl (fun C => ?_); simp only [go_sem, st0, Tryz.ntmps190]
 refine gP (b3t l s hl) ?_
 exact aA ⟨⟨_, rfl, by simp only [go_sem, b5j]⟩, trivial⟩
def dirNs (l : List TDir) : List ByteArray := l.map TDir.fName
theorem lN (l : List TDir) : (dirNs l).length = l.length := by simp [dirNs]
theorem qP (l : List TDir) (hl : l.length ≤ 4300000) : FnC Tryz.prog 167 [.o (.d (.sl (l.map aM)))] (.o (.w 9 1 ((dirNs l).map bV))) := by
 refine ent Tryz.func167 rfl Tryz.call167 rfl (fun C => ?_); simp only [go_sem, st0, Tryz.ntmps167]
 refine aD ?_
 refine aN (α := Nat) (fun k => [(3, .o (.s 0)), (6, .o .u), (9, oi k)]) (fun k => [(0, .row 9 1 ((dirNs (l.take k)).map bV) true)]) (fun k => k ≤ l.length) (fun k => l.length - k) 0 (fun _ => ?_) ?_ ?_ (fun k hk => ?_)
 ·simp only [go_sem]
 ·simp only [go_sem]; simp [dirNs]
 ·simp
 ·simp only [go_sem]
  refine aD ?_
  refine cnd rfl (fun h1 => ?_) (fun h1 => ?_)
  ·simp only [decide_eq_true_eq, Int.ofNat_lt] at h1
   have ht : dirNs (l.take (k + 1)) = dirNs (l.take k) ++ [l[k].fName] := by simp only [dirNs, List.take_succ_eq_append_getElem h1, List.map_append, List.map_cons, List.map_nil]
   have hlen : (dirNs (l.take k)).length = k := by rw [lN]; simp; omega
   have q0 := @h1; have q1 := @hlen; refine lF ?_
   refine aF (k + 1) ?_ ?_ ?_
   ·simp only [go_sem, ht, List.map_append]; simp
   ·omega
   ·omega
  ·simp only [decide_eq_false_iff_not] at h1
   have e : k = l.length := by omega
   subst e
   refine aD ?_
   exact aA ⟨⟨_, rfl, by simp only [go_sem, List.take_length]⟩, trivial⟩
def uD (names : List ByteArray) (l : List TDir) : List ByteArray := (dirNs l).filter fun n => !hasS names n
end Go.Proofs.YteaaopodnbjpoaaGreat
end
section
set_option maxRecDepth 100000
namespace Go.Proofs.YteaaopodnbjpoaaGreat
open Go Go.Sx Go.RowKit Go.Proofs
theorem c0n {α : Type} (l : List α) : (l.all fun _ => true) = true := by simp
theorem xQ (l : List Int) (hl : l.length ≤ 67108864) : FnC Tryz.prog 174 [.o (.d (.sl (l.map fE)))] (.o (.w 3 1 (l.map fE))) := by
 refine ent Tryz.func174 rfl Tryz.call174 rfl (fun C => ?_); simp only [go_sem, st0, Tryz.ntmps174]
 refine aD ?_
 intro b hb
 refine aD ?_
 refine cnd rfl (fun h1 => ?_) (fun h1 => ?_)
 ·have e := hb h1
  simp only [List.map_eq_nil_iff] at e
  subst e
  refine aD ?_
  exact aA ⟨⟨_, rfl, by simp only [go_sem]⟩, trivial⟩
 ·refine aD ?_
  exact aA ⟨⟨_, rfl, by simp only [go_sem, c0n]⟩, trivial⟩
end Go.Proofs.YteaaopodnbjpoaaGreat
end
section
set_option maxRecDepth 100000
set_option maxHeartbeats 4000000
namespace Go.Proofs.YteaaopodnbjpoaaGreat
open Go Go.Sx Go.RowKit Go.Proofs
def low (s : ByteArray) (k : Nat) : Bool := inB (mD s k) 97 122
def nV (s : ByteArray) : Bool := (List.range s.size).all (low s)
def bW (s : ByteArray) (n : Int) : Bool := nV s && inB s.size 1 n
theorem a4y (s : ByteArray) (n : Int) (hs : s.size ≤ 4300000) : FnC Tryz.prog 303 [os s, oi n] (ob (bW s n)) := by
 refine ent Tryz.func303 rfl Tryz.call303 rfl (fun C => ?_); simp only [go_sem, st0, Tryz.ntmps303]
 refine aD ?_
 refine aN (α := Nat) (fun k => [(5, oi k)]) (fun _ => []) (fun k => k ≤ s.size ∧ nV s = ((List.range s.size).drop k).all (low s)) (fun k => s.size - k) 0 (fun _ => ?_) ?_ ?_ (fun k hk => ?_)
 ·simp only [go_sem]
 ·simp only [go_sem]; simp
 ·simp [nV]
 ·obtain ⟨hk, hq⟩ := hk
  simp only [go_sem]
  refine aD ?_
  refine cnd rfl (fun h => ?_) (fun h => ?_)
  ·simp only [decide_eq_true_eq, Int.ofNat_lt] at h
   have h' : k < (List.range s.size).length := by simpa using h
   have hd := List.drop_eq_getElem_cons h'
   rw [hd, List.all_cons, List.getElem_range] at hq
   have hb := a5U s k
   by_cases h1 : mD s k < 97
   ·have hf : nV s = false := by rw [hq]; simp [low, inB]; omega
    have q0 := @h; have q1 := @h1; refine lF ?_
    exact aA ⟨⟨_, rfl, by simp only [go_sem, bW, hf, Bool.false_and]⟩, trivial⟩
   by_cases h2 : 122 < mD s k
   ·have hf : nV s = false := by rw [hq]; simp [low, inB]; omega
    have q0 := @h; have q1 := @h1; have q2 := @h2; have q3 := @decide_false; refine mW ?_
    exact aA ⟨⟨_, rfl, by simp only [go_sem, bW, hf, Bool.false_and]⟩, trivial⟩
   ·have q0 := @h; have q1 := @h1; have q2 := @h2; have q3 := @decide_false; refine mW ?_
    refine aF (k + 1) ?_ ?_ ?_
    ·simp only [go_sem]; simp
    ·refine ⟨h, ?_⟩
     have hl : low s k = true := by simp [low, inB]; omega
     rw [hq, hl]; simp
    ·omega
  ·simp only [decide_eq_false_iff_not] at h
   have e : k = s.size := by omega
   have hq' : nV s = true := by
    rw [hq, List.drop_of_length_le (by simp [e])]; rfl
   refine gP (aW s.size 1 n) ?_
   refine aA ⟨⟨_, rfl, ?_⟩, ?_⟩
   ·simp only [go_sem, bW, hq']
   ·trivial
theorem aR (s : ByteArray) (hs : s.size ≤ 4300000) : FnC Tryz.prog 289 [os s] (ob (bW s 1)) := by
 refine ent Tryz.func289 rfl Tryz.call289 rfl (fun C => ?_); simp only [go_sem, st0, Tryz.ntmps289]
 refine gP (a4y s 1 hs) ?_
 refine aA ⟨⟨_, rfl, ?_⟩, ?_⟩
 ·simp only [go_sem]
 ·trivial
theorem b6T (s : ByteArray) : bW s 1 = (decide ((s.size : Int) = 1) && low s 0) := by
 unfold bW nV inB
 rcases Nat.lt_trichotomy s.size 1 with h | h | h
 ·have : s.size = 0 := by omega
  simp [this]
 ·simp [h, List.range_succ]
 ·have h1 : ¬ ((s.size : Int) ≤ 1) := by omega
  have h2 : ¬ ((s.size : Int) = 1) := by omega
  simp [h1, h2]
theorem aC (s : ByteArray) : FnC Tryz.prog 293 [os s] (ob (bW s 1)) := by
 rw [b6T]
 refine ent Tryz.func293 rfl Tryz.call293 rfl (fun C => ?_); simp only [go_sem, st0, Tryz.ntmps293]
 by_cases h0 : (s.size : Int) = 1
 ·have h0' : 0 < s.size := by omega
  by_cases h1 : 97 ≤ mD s 0 <;> by_cases h2 : mD s 0 ≤ 122
  all_goals
   have q0 := @h0; have q1 := @h0'; have q2 := @h1; have q3 := @h2; have q4 := @decide_false; have q5 := @Int.toNat_zero; have q6 := @Int.le_refl; refine a7f ?_
   refine aA ⟨⟨_, rfl, ?_⟩, ?_⟩
   ·simp only [go_sem]; simp [h0, h1, h2, low, inB]
   ·trivial
 ·have q0 := @h0; have q1 := @decide_false; refine lF ?_
  refine aA ⟨⟨_, rfl, ?_⟩, ?_⟩
  ·simp only [go_sem]; simp [h0]
  ·trivial
theorem bO (s : ByteArray) (hs : s.size ≤ 4300000) : FnC Tryz.prog 269 [os s] (ob (bW s 6)) := by
 refine ent Tryz.func269 rfl Tryz.call269 rfl (fun C => ?_); simp only [go_sem, st0, Tryz.ntmps269]
 refine gP (a4y s 6 hs) ?_
 exact aA ⟨⟨_, rfl, by simp only [go_sem]⟩, trivial⟩
theorem bD (s : ByteArray) (hs : s.size ≤ 4300000) : FnC Tryz.prog 237 [os s] (ob (bW s 6)) := by
 refine ent Tryz.func237 rfl Tryz.call237 rfl (fun C => ?_); simp only [go_sem, st0, Tryz.ntmps237]
 refine aD ?_
 refine aN (α := Nat) (fun k => [(6, oi k)]) (fun _ => []) (fun k => k ≤ s.size ∧ nV s = ((List.range s.size).drop k).all (low s)) (fun k => s.size - k) 0 (fun _ => ?_) ?_ ?_ (fun k hk => ?_)
 ·simp only [go_sem]
 ·simp only [go_sem]; simp
 ·simp [nV]
 ·obtain ⟨hk, hq⟩ := hk
  simp only [go_sem]
  refine aD ?_
  refine cnd rfl (fun h => ?_) (fun h => ?_)
  ·simp only [decide_eq_true_eq, Int.ofNat_lt] at h
   have h' : k < (List.range s.size).length := by simpa using h
   have hd := List.drop_eq_getElem_cons h'
   rw [hd, List.all_cons, List.getElem_range] at hq
   have hb := a5U s k
   by_cases h1 : mD s k < 97
   ·have hf : nV s = false := by rw [hq]; simp [low, inB]; omega
    have q0 := @h; have q1 := @h1; refine lF ?_
    exact aA ⟨⟨_, rfl, by simp only [go_sem, bW, hf, Bool.false_and]⟩, trivial⟩
   by_cases h2 : 122 < mD s k
   ·have hf : nV s = false := by rw [hq]; simp [low, inB]; omega
    have q0 := @h; have q1 := @h1; have q2 := @h2; have q3 := @decide_false; refine mW ?_
    exact aA ⟨⟨_, rfl, by simp only [go_sem, bW, hf, Bool.false_and]⟩, trivial⟩
   ·have q0 := @h; have q1 := @h1; have q2 := @h2; have q3 := @decide_false; refine mW ?_
    refine aF (k + 1) ?_ ?_ ?_
    ·simp only [go_sem]; simp
    ·refine ⟨h, ?_⟩
     have hl : low s k = true := by simp [low, inB]; omega
     rw [hq, hl]; simp
    ·omega
  ·simp only [decide_eq_false_iff_not] at h
   have e : k = s.size := by omega
   have hq' : nV s = true := by
    rw [hq, List.drop_of_length_le (by simp [e])]; rfl
   refine gP (aQ s.size 1 6) ?_
   refine aA ⟨⟨_, rfl, ?_⟩, ?_⟩
   ·simp only [go_sem, bW, hq']
   ·trivial
def iG (v : TValue) : Bool :=
 if v.fKind = 0 then decide (v.fInt = 0) && decide (v.fStr = ⟨#[]⟩)
 else if v.fKind = 1 then inB v.fInt 0 999 && decide (v.fStr = ⟨#[]⟩)
 else if v.fKind = 2 then bW v.fStr 6 && decide (v.fInt = 0) else false
theorem aG (v : TValue) (hs : v.fStr.size ≤ 4300000) : FnC Tryz.prog 294 [pK v] (ob (iG v)) := by
 refine ent Tryz.func294 rfl Tryz.call294 rfl (fun C => ?_); simp only [go_sem, st0, Tryz.ntmps294]
 by_cases h0 : v.fKind = 0
 ·have q0 := @h0; have q1 := @decide_true; refine lF ?_
  exact aA ⟨⟨_, rfl, by simp only [go_sem, iG, h0, if_true, decide_true, Bool.true_and]⟩, trivial⟩
 by_cases h1 : v.fKind = 1
 ·cases hb : inB v.fInt 0 999
  ·have q0 := @h0; have q1 := @h1; have q2 := @decide_true; have q3 := @decide_false; have q4 := @hb; refine a2O (aQ v.fInt 0 999) ?_
   exact aA ⟨⟨_, rfl, by simp only [go_sem, iG, h0, h1, hb, if_true, if_false, Bool.false_and]⟩, trivial⟩
  ·have q0 := @h0; have q1 := @h1; have q2 := @decide_true; have q3 := @decide_false; have q4 := @hb; refine a2O (aQ v.fInt 0 999) ?_
   exact aA ⟨⟨_, rfl, by simp only [go_sem, iG, h0, h1, hb, if_true, if_false, Bool.true_and]⟩, trivial⟩
 by_cases h2 : v.fKind = 2
 ·cases hb : bW v.fStr 6
  ·have q0 := @h0; have q1 := @h1; have q2 := @h2; have q3 := @decide_true; have q4 := @decide_false; have q5 := @hb; refine a2P (bD v.fStr hs) ?_
   exact aA ⟨⟨_, rfl, by simp only [go_sem, iG, h0, h1, h2, hb, if_true, if_false, Bool.false_and]⟩, trivial⟩
  ·have q0 := @h0; have q1 := @h1; have q2 := @h2; have q3 := @decide_true; have q4 := @decide_false; have q5 := @hb; refine a2P (bD v.fStr hs) ?_
   exact aA ⟨⟨_, rfl, by simp only [go_sem, iG, h0, h1, h2, hb, if_true, if_false, Bool.true_and]⟩, trivial⟩
 ·have q0 := @h0; have q1 := @h1; have q2 := @h2; have q3 := @decide_false; refine mW ?_
  exact aA ⟨⟨_, rfl, by simp only [go_sem, iG, h0, h1, h2, if_false]⟩, trivial⟩
theorem bN (v : TValue) (hs : v.fStr.size ≤ 4300000) : FnC Tryz.prog 290 [pK v] (ob (iG v)) := by
 refine ent Tryz.func290 rfl Tryz.call290 rfl (fun C => ?_); simp only [go_sem, st0, Tryz.ntmps290]
 by_cases h0 : v.fKind = 0
 ·have q0 := @h0; have q1 := @decide_true; refine lF ?_
  exact aA ⟨⟨_, rfl, by simp only [go_sem, iG, h0, if_true, decide_true, Bool.true_and]⟩, trivial⟩
 by_cases h1 : v.fKind = 1
 ·cases hb : inB v.fInt 0 999
  ·have q0 := @h0; have q1 := @h1; have q2 := @decide_true; have q3 := @decide_false; have q4 := @hb; refine a2O (aW v.fInt 0 999) ?_
   exact aA ⟨⟨_, rfl, by simp only [go_sem, iG, h0, h1, hb, if_true, if_false, Bool.false_and]⟩, trivial⟩
  ·have q0 := @h0; have q1 := @h1; have q2 := @decide_true; have q3 := @decide_false; have q4 := @hb; refine a2O (aW v.fInt 0 999) ?_
   exact aA ⟨⟨_, rfl, by simp only [go_sem, iG, h0, h1, hb, if_true, if_false, Bool.true_and]⟩, trivial⟩
 by_cases h2 : v.fKind = 2
 ·cases hb : bW v.fStr 6
  ·have q0 := @h0; have q1 := @h1; have q2 := @h2; have q3 := @decide_true; have q4 := @decide_false; have q5 := @hb; refine a2P (bO v.fStr hs) ?_
   exact aA ⟨⟨_, rfl, by simp only [go_sem, iG, h0, h1, h2, hb, if_true, if_false, Bool.false_and]⟩, trivial⟩
  ·have q0 := @h0; have q1 := @h1; have q2 := @h2; have q3 := @decide_true; have q4 := @decide_false; have q5 := @hb; refine a2P (bO v.fStr hs) ?_
   exact aA ⟨⟨_, rfl, by simp only [go_sem, iG, h0, h1, h2, hb, if_true, if_false, Bool.true_and]⟩, trivial⟩
 ·have q0 := @h0; have q1 := @h1; have q2 := @h2; have q3 := @decide_false; refine mW ?_
  exact aA ⟨⟨_, rfl, by simp only [go_sem, iG, h0, h1, h2, if_false]⟩, trivial⟩
end Go.Proofs.YteaaopodnbjpoaaGreat
end
section
set_option maxRecDepth 100000
set_option maxHeartbeats 4000000
namespace Go.Proofs.YteaaopodnbjpoaaGreat
open Go Go.Sx Go.RowKit Go.Proofs
def two (n : TNode) : Bool := decide (n.fOp = 6) || decide (n.fOp = 7)
def vP (n : TNode) (i : Int) : Nat := (if (two n || decide (n.fOp = 5)) && decide (n.fLeft = i) then 1 else 0) + (if two n && decide (n.fRight = i) then 1 else 0)
def refs (q : List TNode) (i : Int) : Nat := match q with
 | [] => 0
 | n :: q => vP n i + refs q i
theorem b5l (q r : List TNode) (i : Int) : refs (q ++ r) i = refs q i + refs r i := by
 induction q with
 | nil => simp [refs]
 | cons n q ih => simp only [List.cons_append, refs, ih]; omega
theorem a6o (q : List TNode) (i : Int) (k : Nat) (h : k < q.length) : refs (q.take (k + 1)) i = refs (q.take k) i + vP q[k] i := by
 rw [List.take_succ_eq_append_getElem h, b5l]; simp [refs]
theorem b2b (q : List TNode) (i : Int) : refs q i ≤ 2 * q.length := by
 induction q with
 | nil => simp [refs]
 | cons n q ih => simp only [refs, List.length_cons]; unfold vP; split <;> split <;> omega
theorem vS (q : List TNode) (i : Int) (hl : q.length ≤ 4300000) : FnC Tryz.prog 256 [.o (.d (.sl (q.map bC))), oi i] (oi (refs q i)) := by
 refine ent Tryz.func256 rfl Tryz.call256 rfl (fun C => ?_); simp only [go_sem, st0, Tryz.ntmps256]
 refine aD ?_
 refine aN (α := Nat) (fun k => [(5, oi (refs (q.take k) i)), (11, oi k)]) (fun _ => []) (fun k => k ≤ q.length) (fun k => q.length - k) 0 (fun _ => ?_) ?_ ?_ (fun k hk => ?_)
 ·simp only [go_sem]
 ·simp only [go_sem]; simp [refs]
 ·simp
 ·simp only [go_sem]
  refine aD ?_
  refine cnd rfl (fun h1 => ?_) (fun h1 => ?_)
  ·simp only [decide_eq_true_eq, Int.ofNat_lt] at h1
   have ht := a6o q i k h1
   have hle := b2b (q.take k) i
   simp only [List.length_take] at hle
   by_cases c6 : q[k].fOp = 6 <;> by_cases c7 : q[k].fOp = 7 <;> by_cases c5 : q[k].fOp = 5 <;> by_cases cl : q[k].fLeft = i <;> by_cases cr : q[k].fRight = i
   all_goals (try omega)
   all_goals
    simp only [vP, two, c5, c6, c7, cl, cr, decide_true, decide_false, Bool.true_or, Bool.or_true, Bool.false_or, Bool.or_false, Bool.and_true, Bool.and_false, Bool.true_and, Bool.false_and, if_true, if_false, Bool.false_eq_true] at ht
    have d5 : decide (q[k].fOp = 5) = decide (q[k].fOp = 5) := rfl
    have q0 := @h1; have q1 := @c5; have q2 := @c6; have q3 := @c7; have q4 := @cl; have q5 := @cr; have q6 := @decide_true; have q7 := @decide_false; refine a3T ?_
    refine aF (k + 1) ?_ ?_ ?_
    ·simp only [go_sem, ht]; simp <;> omega
    ·omega
    ·omega
  ·simp only [decide_eq_false_iff_not] at h1
   have e : k = q.length := by omega
   subst e
   rw [List.take_length]
   refine aD ?_
   exact aA ⟨⟨_, rfl, by simp only [go_sem, List.take_length]⟩, trivial⟩
theorem vT (q : List TNode) (i : Int) (hl : q.length ≤ 4300000) : FnC Tryz.prog 249 [.o (.d (.sl (q.map bC))), oi i] (oi (refs q i)) := by
 refine ent Tryz.func249 rfl Tryz.call249 rfl (fun C => ?_); simp only [go_sem, st0, Tryz.ntmps249]
 refine aD ?_
 refine aN (α := Nat) (fun k => [(5, oi (refs (q.take k) i)), (6, oi k)]) (fun _ => []) (fun k => k ≤ q.length) (fun k => q.length - k) 0 (fun _ => ?_) ?_ ?_ (fun k hk => ?_)
 ·simp only [go_sem]
 ·simp only [go_sem]; simp [refs]
 ·simp
 ·simp only [go_sem]
  refine aD ?_
  refine cnd rfl (fun h1 => ?_) (fun h1 => ?_)
  ·simp only [decide_eq_true_eq, Int.ofNat_lt] at h1
   have ht := a6o q i k h1
   have hle := b2b (q.take k) i
   simp only [List.length_take] at hle
   by_cases c6 : q[k].fOp = 6 <;> by_cases c7 : q[k].fOp = 7 <;> by_cases c5 : q[k].fOp = 5 <;> by_cases cl : q[k].fLeft = i <;> by_cases cr : q[k].fRight = i
   all_goals (try omega)
   all_goals
    simp only [vP, two, c5, c6, c7, cl, cr, decide_true, decide_false, Bool.true_or, Bool.or_true, Bool.false_or, Bool.or_false, Bool.and_true, Bool.and_false, Bool.true_and, Bool.false_and, if_true, if_false, Bool.false_eq_true] at ht
    have d5 : decide (q[k].fOp = 5) = decide (q[k].fOp = 5) := rfl
    have q0 := @h1; have q1 := @c5; have q2 := @c6; have q3 := @c7; have q4 := @cl; have q5 := @cr; have q6 := @decide_true; have q7 := @decide_false; refine a3T ?_
    refine aF (k + 1) ?_ ?_ ?_
    ·simp only [go_sem, ht]; simp <;> omega
    ·omega
    ·omega
  ·simp only [decide_eq_false_iff_not] at h1
   have e : k = q.length := by omega
   subst e
   rw [List.take_length]
   refine aD ?_
   exact aA ⟨⟨_, rfl, by simp only [go_sem, List.take_length]⟩, trivial⟩
end Go.Proofs.YteaaopodnbjpoaaGreat
end
