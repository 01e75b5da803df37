/- Joined texts. -/
import Derived.Test.YteaaopodnbjpoaaGreatZ06
import Derived.Test.YteaaopodnbjpoaaGreatZ10
import Derived.Test.YteaaopodnbjpoaaGreatZ07
import Derived.Test.YteaaopodnbjpoaaGreatZ11
set_option linter.all false
section
section
set_option linter.all false
set_option maxRecDepth 100000
set_option maxHeartbeats 4000000
namespace Go.Proofs.YteaaopodnbjpoaaGreat
open Go Go.Sx Go.RowKit Go.Proofs
def b1w (k : Nat) (out : ByteArray) : ByteArray :=
 if h : k = 0 then out else b1w (k / 10) (a0N [(48 : Int) + ((k % 10 : Nat) : Int)] ++ out)
decreasing_by omega
def rW (k : Int) : ByteArray := ⟨#[109]⟩ ++ b1w k.toNat ⟨#[]⟩
theorem eB (k : Int) (hk : 1 ≤ k ∧ k ≤ 4611686018427387904) : FnC Tryz.prog 59 [oi k] (os (rW k)) := by
 obtain ⟨n, rfl⟩ : ∃ n : Nat, k = n := ⟨k.toNat, by omega⟩
 have h0 : ¬ ((n : Int) ≤ 0) := by omega
 have hm : rW (n : Int) = ⟨#[109]⟩ ++ b1w n ⟨#[]⟩ := by simp [rW]
 rw [hm]
 generalize hq : b1w n ⟨#[]⟩ = res
 refine ent Tryz.func59 rfl Tryz.call59 rfl (fun C => ?_); simp only [go_sem, st0, Tryz.ntmps59]
 have q0 := @h0; have q1 := @decide_false; refine fI ?_
 refine aM (α := Nat × ByteArray) (fun p => [(0, oi p.1), (3, os p.2)]) (fun _ => []) (fun p => b1w p.1 p.2 = res ∧ p.2.size + p.1 ≤ n) (fun p => p.1) (n, ⟨#[]⟩) (fun _ => ?_) ?_ ?_ (fun p hp => ?_)
 ·simp only [go_sem]
 ·simp only [go_sem]; simp
 ·exact ⟨hq, by show 0 + n ≤ n; omega⟩
 ·obtain ⟨j, out⟩ := p
  obtain ⟨hp, hs⟩ := hp
  simp only at hp hs
  simp only [go_sem]
  refine aD ?_
  refine cnd rfl (fun h => ?_) (fun h => ?_)
  ·simp only [decide_eq_true_eq] at h
   have hj : j ≠ 0 := by omega
   rw [b1w, dif_neg hj] at hp
   have e1 : (j : Int).tmod 10 = ((j % 10 : Nat) : Int) := by rw [Int.tmod_eq_emod_of_nonneg (by omega)]; omega
   have e2 : (j : Int).tdiv 10 = ((j / 10 : Nat) : Int) := by rw [Int.tdiv_eq_ediv_of_nonneg (by omega)]; omega
   have q0 := @e1; have q1 := @e2; refine fI ?_
   refine aC (j / 10, a0N [(48 : Int) + ((j % 10 : Nat) : Int)] ++ out) ?_ ?_ ?_
   ·simp only [go_sem, e1, e2]; simp [a0N]
   ·refine ⟨hp, ?_⟩
    simp only [ByteArray.size_append, a0N, List.map_cons, List.map_nil, b7F, List.length_cons, List.length_nil]
    omega
   ·simp only; omega
  ·simp only [decide_eq_false_iff_not] at h
   have hj : j = 0 := by omega
   subst hj
   rw [b1w, dif_pos rfl] at hp
   subst hp
   refine aD ?_
   exact aA ⟨⟨_, rfl, by simp only [go_sem]⟩, trivial⟩
def cnInt (x : Int) : Nat := 1
theorem a6T : ∀ x, 1 ≤ cnInt x := fun x => by unfold cnInt; omega
def yH (x : Int) (k : Int) : Int := k
theorem a9L (l : List Int) (k : Int) (hk : 1 ≤ k ∧ k + (csum cnInt l : Nat) ≤ 4611686018427387904) : FnM Tryz.prog 20 false [.w 0 1 (l.map eQ)] [.w 0 1 ((mkL yH cnInt l k).map eQ)] k (k + (csum cnInt l : Nat)) := by
 have hlen := gI cnInt a6T l
 refine entm Tryz.func20 rfl Tryz.call20 rfl (by simp) (by simp only [go_sem]) (fun C tg => ?_); simp only [go_sem, Tryz.ntmps20]
 refine aD ?_
 refine aM (α := Nat) (fun j => [(5, oi j), (1, oi (k + (csum cnInt (l.take j) : Nat)))]) (fun j => [(0, .own (tg 0) 1 (wZ eQ yH cnInt l k j))]) (fun j => j ≤ l.length) (fun j => l.length - j) 0 (fun _ => ?_) ?_ ?_ (fun j hj => ?_)
 ·simp only [go_sem]
 ·simp only [go_sem]; simp [nD, csum]
 ·simp
 ·simp only [go_sem]
  refine aD ?_
  refine cnd rfl (fun h => ?_) (fun h => ?_)
  ·simp only [decide_eq_true_eq, Int.ofNat_lt] at h
   have hs := fG cnInt l h
   have ht := jF cnInt l (j + 1)
   have hc : cnInt l[j] = 1 := rfl
   have hset := qG eQ yH cnInt l k j h
   have hkk : k + (csum cnInt (l.take (j + 1)) : Nat) = k + (csum cnInt (l.take j) : Nat) + (cnInt l[j] : Nat) := by omega
   generalize k + (csum cnInt (l.take j) : Nat) = K at hset hkk ⊢
   have hK : 1 ≤ K ∧ K + (cnInt l[j] : Nat) ≤ 4611686018427387904 := by omega
   have q0 := @h; refine fD ?_
   refine aC (j + 1) ?_ ?_ ?_
   ·simp only [go_sem, hkk, ← hset]
    simp [yH, eQ, hc]
    try omega
   ·omega
   ·omega
  ·simp only [decide_eq_false_iff_not] at h
   have e : j = l.length := by omega
   subst e
   refine aD ?_
   exact ⟨⟨⟨_, rfl, by simp only [go_sem, iA, List.take_length]⟩, trivial⟩, by simp only [go_sem, iA, List.take_length]⟩
theorem a9M (l : List Int) (k : Int) (hk : 1 ≤ k ∧ k + (csum cnInt l : Nat) ≤ 4611686018427387904) : FnC Tryz.prog 64 [.o (.d (.sl ((mkL yH cnInt l k).map eQ))), oi k] (oi (k + (csum cnInt l : Nat))) := by
 have hlen := gI cnInt a6T l
 refine ent Tryz.func64 rfl Tryz.call64 rfl (fun C => ?_); simp only [go_sem, st0, Tryz.ntmps64]
 refine aD ?_
 refine aM (α := Nat) (fun j => [(5, oi j), (1, oi (k + (csum cnInt (l.take j) : Nat)))]) (fun _ => []) (fun j => j ≤ l.length) (fun j => l.length - j) 0 (fun _ => ?_) ?_ ?_ (fun j hj => ?_)
 ·simp only [go_sem]
 ·simp only [go_sem]; simp [csum]
 ·simp
 ·simp only [go_sem]
  refine aD ?_
  refine cnd rfl (fun h => ?_) (fun h => ?_)
  ·simp only [decide_eq_true_eq, Int.ofNat_lt] at h
   have hs := fG cnInt l h
   have ht := jF cnInt l (j + 1)
   have hc : cnInt l[j] = 1 := rfl
   have hkk : k + (csum cnInt (l.take (j + 1)) : Nat) = k + (csum cnInt (l.take j) : Nat) + (cnInt l[j] : Nat) := by omega
   have hg := nT yH cnInt l k j (by rw [eY]; exact h)
   generalize k + (csum cnInt (l.take j) : Nat) = K at hg hkk ⊢
   have hK : 1 ≤ K ∧ K + (cnInt l[j] : Nat) ≤ 4611686018427387904 := by omega
   repeat' (with_reducible first | refine nY ?_ | (refine mX ?_; try simp only [go_sem, h, hg, yH]) | refine kO ?_ (by decide) | refine a5W (by kernel_rfl) ?_ | (refine And.intro ?_ ?_; focus omega))
   refine aC (j + 1) ?_ ?_ ?_
   ·simp only [go_sem, hkk]
    simp [hc]
    try omega
   ·omega
   ·omega
  ·simp only [decide_eq_false_iff_not] at h
   have e : j = l.length := by omega
   subst e
   refine aD ?_
   exact aA ⟨⟨_, rfl, by simp only [go_sem, List.take_length]⟩, trivial⟩
def c0C (x : ByteArray) : Nat := 1
def c0D (x : ByteArray) (k : Int) : ByteArray := (rW k)
def c0t (x : Bool) : Nat := 1
def c0u (x : Bool) (k : Int) : Bool := (decide (Int.tmod k 3 = 0))
end Go.Proofs.YteaaopodnbjpoaaGreat
end
section
set_option linter.all false
set_option maxRecDepth 100000
set_option maxHeartbeats 4000000
namespace Go.Proofs.YteaaopodnbjpoaaGreat
open Go Go.Sx Go.RowKit Go.Proofs
def cnField (x : TField) : Nat := 2
theorem a2S : ∀ x, 1 ≤ cnField x := fun x => by unfold cnField; omega
def mM (x : TField) (k : Int) : TField := ⟨(rW k), (k + 1)⟩
theorem a6h (l : List TField) (k : Int) (hk : 1 ≤ k ∧ k + (csum cnField l : Nat) ≤ 4611686018427387904) : FnM Tryz.prog 119 false [.w 0 2 (l.map bM)] [.w 0 2 ((mkL mM cnField l k).map bM)] k (k + (csum cnField l : Nat)) := by
 have hlen := gI cnField a2S l
 refine entm Tryz.func119 rfl Tryz.call119 rfl (by simp) (by simp only [go_sem]) (fun C tg => ?_); simp only [go_sem, Tryz.ntmps119]
 refine aD ?_
 refine aM (α := Nat) (fun j => [(5, oi j), (1, oi (k + (csum cnField (l.take j) : Nat)))]) (fun j => [(0, .own (tg 0) 2 (wZ bM mM cnField l k j))]) (fun j => j ≤ l.length) (fun j => l.length - j) 0 (fun _ => ?_) ?_ ?_ (fun j hj => ?_)
 ·simp only [go_sem]
 ·simp only [go_sem]; simp [nD, csum]
 ·simp
 ·simp only [go_sem]
  refine aD ?_
  refine cnd rfl (fun h => ?_) (fun h => ?_)
  ·simp only [decide_eq_true_eq, Int.ofNat_lt] at h
   have hs := fG cnField l h
   have ht := jF cnField l (j + 1)
   have hc : cnField l[j] = 2 := rfl
   have hset := qG bM mM cnField l k j h
   have hkk : k + (csum cnField (l.take (j + 1)) : Nat) = k + (csum cnField (l.take j) : Nat) + (cnField l[j] : Nat) := by omega
   generalize k + (csum cnField (l.take j) : Nat) = K at hset hkk ⊢
   have hK : 1 ≤ K ∧ K + (cnField l[j] : Nat) ≤ 4611686018427387904 := by omega
   have q0 := @h; refine eZ (eB K (by omega)) ?_
   refine aC (j + 1) ?_ ?_ ?_
   ·simp only [go_sem, hkk, ← hset]
    simp [mM, bM, hc]
    try omega
   ·omega
   ·omega
  ·simp only [decide_eq_false_iff_not] at h
   have e : j = l.length := by omega
   subst e
   refine aD ?_
   exact ⟨⟨⟨_, rfl, by simp only [go_sem, iA, List.take_length]⟩, trivial⟩, by simp only [go_sem, iA, List.take_length]⟩
theorem a6i (l : List TField) (k : Int) (hk : 1 ≤ k ∧ k + (csum cnField l : Nat) ≤ 4611686018427387904) : FnC Tryz.prog 121 [.o (.d (.sl ((mkL mM cnField l k).map bM))), oi k] (oi (k + (csum cnField l : Nat))) := by
 have hlen := gI cnField a2S l
 refine ent Tryz.func121 rfl Tryz.call121 rfl (fun C => ?_); simp only [go_sem, st0, Tryz.ntmps121]
 refine aD ?_
 refine aM (α := Nat) (fun j => [(5, oi j), (1, oi (k + (csum cnField (l.take j) : Nat)))]) (fun _ => []) (fun j => j ≤ l.length) (fun j => l.length - j) 0 (fun _ => ?_) ?_ ?_ (fun j hj => ?_)
 ·simp only [go_sem]
 ·simp only [go_sem]; simp [csum]
 ·simp
 ·simp only [go_sem]
  refine aD ?_
  refine cnd rfl (fun h => ?_) (fun h => ?_)
  ·simp only [decide_eq_true_eq, Int.ofNat_lt] at h
   have hs := fG cnField l h
   have ht := jF cnField l (j + 1)
   have hc : cnField l[j] = 2 := rfl
   have hkk : k + (csum cnField (l.take (j + 1)) : Nat) = k + (csum cnField (l.take j) : Nat) + (cnField l[j] : Nat) := by omega
   have hg := nT mM cnField l k j (by rw [eY]; exact h)
   generalize k + (csum cnField (l.take j) : Nat) = K at hg hkk ⊢
   have hK : 1 ≤ K ∧ K + (cnField l[j] : Nat) ≤ 4611686018427387904 := by omega
   repeat' (with_reducible first | refine nY ?_ | (refine mX ?_; try simp only [go_sem, h, hg, mM]) | refine kO ?_ (by decide) | refine a5W (by kernel_rfl) ?_ | (refine cC (eB K (by omega)) ?_ ?_; focus simp only [go_sem, and_self]; done) | (refine And.intro ?_ ?_; focus omega))
   refine aC (j + 1) ?_ ?_ ?_
   ·simp only [go_sem, hkk]
    simp [hc]
    try omega
   ·omega
   ·omega
  ·simp only [decide_eq_false_iff_not] at h
   have e : j = l.length := by omega
   subst e
   refine aD ?_
   exact aA ⟨⟨_, rfl, by simp only [go_sem, List.take_length]⟩, trivial⟩
def cnAttr (x : TAttr) : Nat := 4
theorem a4W : ∀ x, 1 ≤ cnAttr x := fun x => by unfold cnAttr; omega
def wD (x : TAttr) (k : Int) : TAttr := ⟨(rW k), ⟨(k + 1), ((k + 1) + 1), (rW (((k + 1) + 1) + 1))⟩⟩
theorem wE (l : List TAttr) (k : Int) (hk : 1 ≤ k ∧ k + (csum cnAttr l : Nat) ≤ 4611686018427387904) : FnM Tryz.prog 32 false [.w 0 4 (l.map aJ)] [.w 0 4 ((mkL wD cnAttr l k).map aJ)] k (k + (csum cnAttr l : Nat)) := by
 have hlen := gI cnAttr a4W l
 refine entm Tryz.func32 rfl Tryz.call32 rfl (by simp) (by simp only [go_sem]) (fun C tg => ?_); simp only [go_sem, Tryz.ntmps32]
 refine aD ?_
 refine aM (α := Nat) (fun j => [(5, oi j), (1, oi (k + (csum cnAttr (l.take j) : Nat)))]) (fun j => [(0, .own (tg 0) 4 (wZ aJ wD cnAttr l k j))]) (fun j => j ≤ l.length) (fun j => l.length - j) 0 (fun _ => ?_) ?_ ?_ (fun j hj => ?_)
 ·simp only [go_sem]
 ·simp only [go_sem]; simp [nD, csum]
 ·simp
 ·simp only [go_sem]
  refine aD ?_
  refine cnd rfl (fun h => ?_) (fun h => ?_)
  ·simp only [decide_eq_true_eq, Int.ofNat_lt] at h
   have hs := fG cnAttr l h
   have ht := jF cnAttr l (j + 1)
   have hc : cnAttr l[j] = 4 := rfl
   have hset := qG aJ wD cnAttr l k j h
   have hkk : k + (csum cnAttr (l.take (j + 1)) : Nat) = k + (csum cnAttr (l.take j) : Nat) + (cnAttr l[j] : Nat) := by omega
   generalize k + (csum cnAttr (l.take j) : Nat) = K at hset hkk ⊢
   have hK : 1 ≤ K ∧ K + (cnAttr l[j] : Nat) ≤ 4611686018427387904 := by omega
   have q0 := @h; refine a4n (eB K (by omega)) (eB (((K + 1) + 1) + 1) (by omega)) ?_
   refine aC (j + 1) ?_ ?_ ?_
   ·simp only [go_sem, hkk, ← hset]
    simp [wD, aJ, hc]
    try omega
   ·omega
   ·omega
  ·simp only [decide_eq_false_iff_not] at h
   have e : j = l.length := by omega
   subst e
   refine aD ?_
   exact ⟨⟨⟨_, rfl, by simp only [go_sem, iA, List.take_length]⟩, trivial⟩, by simp only [go_sem, iA, List.take_length]⟩
theorem mO (l : List TAttr) (k : Int) (hk : 1 ≤ k ∧ k + (csum cnAttr l : Nat) ≤ 4611686018427387904) : FnC Tryz.prog 33 [.o (.d (.sl ((mkL wD cnAttr l k).map aJ))), oi k] (oi (k + (csum cnAttr l : Nat))) := by
 have hlen := gI cnAttr a4W l
 refine ent Tryz.func33 rfl Tryz.call33 rfl (fun C => ?_); simp only [go_sem, st0, Tryz.ntmps33]
 refine aD ?_
 refine aM (α := Nat) (fun j => [(5, oi j), (1, oi (k + (csum cnAttr (l.take j) : Nat)))]) (fun _ => []) (fun j => j ≤ l.length) (fun j => l.length - j) 0 (fun _ => ?_) ?_ ?_ (fun j hj => ?_)
 ·simp only [go_sem]
 ·simp only [go_sem]; simp [csum]
 ·simp
 ·simp only [go_sem]
  refine aD ?_
  refine cnd rfl (fun h => ?_) (fun h => ?_)
  ·simp only [decide_eq_true_eq, Int.ofNat_lt] at h
   have hs := fG cnAttr l h
   have ht := jF cnAttr l (j + 1)
   have hc : cnAttr l[j] = 4 := rfl
   have hkk : k + (csum cnAttr (l.take (j + 1)) : Nat) = k + (csum cnAttr (l.take j) : Nat) + (cnAttr l[j] : Nat) := by omega
   have hg := nT wD cnAttr l k j (by rw [eY]; exact h)
   generalize k + (csum cnAttr (l.take j) : Nat) = K at hg hkk ⊢
   have hK : 1 ≤ K ∧ K + (cnAttr l[j] : Nat) ≤ 4611686018427387904 := by omega
   repeat' (with_reducible first | refine nY ?_ | (refine mX ?_; try simp only [go_sem, h, hg, wD]) | refine kO ?_ (by decide) | refine a5W (by kernel_rfl) ?_ | (refine cC (eB K (by omega)) ?_ ?_; focus simp only [go_sem, and_self]; done) | (refine cC (eB (((K + 1) + 1) + 1) (by omega)) ?_ ?_; focus simp only [go_sem, and_self]; done) | (refine And.intro ?_ ?_; focus omega))
   refine aC (j + 1) ?_ ?_ ?_
   ·simp only [go_sem, hkk]
    simp [hc]
    try omega
   ·omega
   ·omega
  ·simp only [decide_eq_false_iff_not] at h
   have e : j = l.length := by omega
   subst e
   refine aD ?_
   exact aA ⟨⟨_, rfl, by simp only [go_sem, List.take_length]⟩, trivial⟩
def cnNode (x : TNode) : Nat := 7
theorem a4X : ∀ x, 1 ≤ cnNode x := fun x => by unfold cnNode; omega
def wF (x : TNode) (k : Int) : TNode := ⟨k, (k + 1), ((k + 1) + 1), (rW (((k + 1) + 1) + 1)), ⟨((((k + 1) + 1) + 1) + 1), (((((k + 1) + 1) + 1) + 1) + 1), (rW ((((((k + 1) + 1) + 1) + 1) + 1) + 1))⟩⟩
theorem a7V (l : List TNode) (k : Int) (hk : 1 ≤ k ∧ k + (csum cnNode l : Nat) ≤ 4611686018427387904) : FnM Tryz.prog 60 false [.w 0 7 (l.map aT)] [.w 0 7 ((mkL wF cnNode l k).map aT)] k (k + (csum cnNode l : Nat)) := by
 have hlen := gI cnNode a4X l
 refine entm Tryz.func60 rfl Tryz.call60 rfl (by simp) (by simp only [go_sem]) (fun C tg => ?_); simp only [go_sem, Tryz.ntmps60]
 refine aD ?_
 refine aM (α := Nat) (fun j => [(5, oi j), (1, oi (k + (csum cnNode (l.take j) : Nat)))]) (fun j => [(0, .own (tg 0) 7 (wZ aT wF cnNode l k j))]) (fun j => j ≤ l.length) (fun j => l.length - j) 0 (fun _ => ?_) ?_ ?_ (fun j hj => ?_)
 ·simp only [go_sem]
 ·simp only [go_sem]; simp [nD, csum]
 ·simp
 ·simp only [go_sem]
  refine aD ?_
  refine cnd rfl (fun h => ?_) (fun h => ?_)
  ·simp only [decide_eq_true_eq, Int.ofNat_lt] at h
   have hs := fG cnNode l h
   have ht := jF cnNode l (j + 1)
   have hc : cnNode l[j] = 7 := rfl
   have hset := qG aT wF cnNode l k j h
   have hkk : k + (csum cnNode (l.take (j + 1)) : Nat) = k + (csum cnNode (l.take j) : Nat) + (cnNode l[j] : Nat) := by omega
   generalize k + (csum cnNode (l.take j) : Nat) = K at hset hkk ⊢
   have hK : 1 ≤ K ∧ K + (cnNode l[j] : Nat) ≤ 4611686018427387904 := by omega
   have q0 := @h; refine a4n (eB (((K + 1) + 1) + 1) (by omega)) (eB ((((((K + 1) + 1) + 1) + 1) + 1) + 1) (by omega)) ?_
   refine aC (j + 1) ?_ ?_ ?_
   ·simp only [go_sem, hkk, ← hset]
    simp [wF, aT, hc]
    try omega
   ·omega
   ·omega
  ·simp only [decide_eq_false_iff_not] at h
   have e : j = l.length := by omega
   subst e
   refine aD ?_
   exact ⟨⟨⟨_, rfl, by simp only [go_sem, iA, List.take_length]⟩, trivial⟩, by simp only [go_sem, iA, List.take_length]⟩
theorem a7W (l : List TNode) (k : Int) (hk : 1 ≤ k ∧ k + (csum cnNode l : Nat) ≤ 4611686018427387904) : FnC Tryz.prog 123 [.o (.d (.sl ((mkL wF cnNode l k).map aT))), oi k] (oi (k + (csum cnNode l : Nat))) := by
 have hlen := gI cnNode a4X l
 refine ent Tryz.func123 rfl Tryz.call123 rfl (fun C => ?_); simp only [go_sem, st0, Tryz.ntmps123]
 refine aD ?_
 refine aM (α := Nat) (fun j => [(5, oi j), (1, oi (k + (csum cnNode (l.take j) : Nat)))]) (fun _ => []) (fun j => j ≤ l.length) (fun j => l.length - j) 0 (fun _ => ?_) ?_ ?_ (fun j hj => ?_)
 ·simp only [go_sem]
 ·simp only [go_sem]; simp [csum]
 ·simp
 ·simp only [go_sem]
  refine aD ?_
  refine cnd rfl (fun h => ?_) (fun h => ?_)
  ·simp only [decide_eq_true_eq, Int.ofNat_lt] at h
   have hs := fG cnNode l h
   have ht := jF cnNode l (j + 1)
   have hc : cnNode l[j] = 7 := rfl
   have hkk : k + (csum cnNode (l.take (j + 1)) : Nat) = k + (csum cnNode (l.take j) : Nat) + (cnNode l[j] : Nat) := by omega
   have hg := nT wF cnNode l k j (by rw [eY]; exact h)
   generalize k + (csum cnNode (l.take j) : Nat) = K at hg hkk ⊢
   have hK : 1 ≤ K ∧ K + (cnNode l[j] : Nat) ≤ 4611686018427387904 := by omega
   repeat' (with_reducible first | refine nY ?_ | (refine mX ?_; try simp only [go_sem, h, hg, wF]) | refine kO ?_ (by decide) | refine a5W (by kernel_rfl) ?_ | (refine cC (eB (((K + 1) + 1) + 1) (by omega)) ?_ ?_; focus simp only [go_sem, and_self]; done) | (refine cC (eB ((((((K + 1) + 1) + 1) + 1) + 1) + 1) (by omega)) ?_ ?_; focus simp only [go_sem, and_self]; done) | (refine And.intro ?_ ?_; focus omega))
   refine aC (j + 1) ?_ ?_ ?_
   ·simp only [go_sem, hkk]
    simp [hc]
    try omega
   ·omega
   ·omega
  ·simp only [decide_eq_false_iff_not] at h
   have e : j = l.length := by omega
   subst e
   refine aD ?_
   exact aA ⟨⟨_, rfl, by simp only [go_sem, List.take_length]⟩, trivial⟩
end Go.Proofs.YteaaopodnbjpoaaGreat
end
section
set_option linter.all false
set_option maxRecDepth 100000
set_option maxHeartbeats 4000000
namespace Go.Proofs.YteaaopodnbjpoaaGreat
open Go Go.Sx Go.RowKit Go.Proofs
def cnFile (x : TFile) : Nat := 4 + csum cnAttr x.fAttrs
theorem a4Y : ∀ x, 1 ≤ cnFile x := fun x => by unfold cnFile; omega
def qV (x : TFile) (k : Int) : TFile := ⟨k, (k + 1), (decide (Int.tmod ((k + 1) + 1) 3 = 0)), (((k + 1) + 1) + 1), (mkL wD cnAttr x.fAttrs ((((k + 1) + 1) + 1) + 1))⟩
theorem a7X (l : List TFile) (k : Int) (hk : 1 ≤ k ∧ k + (csum cnFile l : Nat) ≤ 4611686018427387904) : FnM Tryz.prog 120 false [.w 0 5 (l.map bN)] [.w 0 5 ((mkL qV cnFile l k).map bN)] k (k + (csum cnFile l : Nat)) := by
 have hlen := gI cnFile a4Y l
 refine entm Tryz.func120 rfl Tryz.call120 rfl (by simp) (by simp only [go_sem]) (fun C tg => ?_); simp only [go_sem, Tryz.ntmps120]
 refine aD ?_
 refine aM (α := Nat) (fun j => [(5, oi j), (1, oi (k + (csum cnFile (l.take j) : Nat)))]) (fun j => [(0, .own (tg 0) 5 (wZ bN qV cnFile l k j))]) (fun j => j ≤ l.length) (fun j => l.length - j) 0 (fun _ => ?_) ?_ ?_ (fun j hj => ?_)
 ·simp only [go_sem]
 ·simp only [go_sem]; simp [nD, csum]
 ·simp
 ·simp only [go_sem]
  refine aD ?_
  refine cnd rfl (fun h => ?_) (fun h => ?_)
  ·simp only [decide_eq_true_eq, Int.ofNat_lt] at h
   have hs := fG cnFile l h
   have ht := jF cnFile l (j + 1)
   have hc : cnFile l[j] = 4 + csum cnAttr l[j].fAttrs := rfl
   have hset := qG bN qV cnFile l k j h
   have hkk : k + (csum cnFile (l.take (j + 1)) : Nat) = k + (csum cnFile (l.take j) : Nat) + (cnFile l[j] : Nat) := by omega
   generalize k + (csum cnFile (l.take j) : Nat) = K at hset hkk ⊢
   have hK : 1 ≤ K ∧ K + (cnFile l[j] : Nat) ≤ 4611686018427387904 := by omega
   have qH := @h; repeat' (with_reducible first | refine nY ?_ | (refine mX ?_; try simp only [go_sem, qH]) | refine kD ?_ | refine rD ?_ | refine vN (wE l[j].fAttrs _ (by omega)) ?_ | refine aO ?_ | fail)
   refine aC (j + 1) ?_ ?_ ?_
   ·simp only [go_sem, hkk, ← hset]
    simp [qV, bN, hc]
    try omega
   ·omega
   ·omega
  ·simp only [decide_eq_false_iff_not] at h
   have e : j = l.length := by omega
   subst e
   refine aD ?_
   exact ⟨⟨⟨_, rfl, by simp only [go_sem, iA, List.take_length]⟩, trivial⟩, by simp only [go_sem, iA, List.take_length]⟩
theorem a7Y (l : List TFile) (k : Int) (hk : 1 ≤ k ∧ k + (csum cnFile l : Nat) ≤ 4611686018427387904) : FnC Tryz.prog 122 [.o (.d (.sl ((mkL qV cnFile l k).map bN))), oi k] (oi (k + (csum cnFile l : Nat))) := by
 have hlen := gI cnFile a4Y l
 refine ent Tryz.func122 rfl Tryz.call122 rfl (fun C => ?_); simp only [go_sem, st0, Tryz.ntmps122]
 refine aD ?_
 refine aM (α := Nat) (fun j => [(5, oi j), (1, oi (k + (csum cnFile (l.take j) : Nat)))]) (fun _ => []) (fun j => j ≤ l.length) (fun j => l.length - j) 0 (fun _ => ?_) ?_ ?_ (fun j hj => ?_)
 ·simp only [go_sem]
 ·simp only [go_sem]; simp [csum]
 ·simp
 ·simp only [go_sem]
  refine aD ?_
  refine cnd rfl (fun h => ?_) (fun h => ?_)
  ·simp only [decide_eq_true_eq, Int.ofNat_lt] at h
   have hs := fG cnFile l h
   have ht := jF cnFile l (j + 1)
   have hc : cnFile l[j] = 4 + csum cnAttr l[j].fAttrs := rfl
   have hkk : k + (csum cnFile (l.take (j + 1)) : Nat) = k + (csum cnFile (l.take j) : Nat) + (cnFile l[j] : Nat) := by omega
   have hg := nT qV cnFile l k j (by rw [eY]; exact h)
   generalize k + (csum cnFile (l.take j) : Nat) = K at hg hkk ⊢
   have hK : 1 ≤ K ∧ K + (cnFile l[j] : Nat) ≤ 4611686018427387904 := by omega
   have hneg0 : ¬ (((((K + 1) + 1) + 1) + 1) + (csum cnAttr l[j].fAttrs : Nat) < 0) := by omega
   repeat' (with_reducible first | refine nY ?_ | (refine mX ?_; try simp only [go_sem, h, hg, qV, hneg0]) | refine kO ?_ (by decide) | refine a5W (by kernel_rfl) ?_ | (refine cC (mO l[j].fAttrs ((((K + 1) + 1) + 1) + 1) (by omega)) ?_ ?_; focus simp only [go_sem, and_self]; done) | (refine And.intro ?_ ?_; focus omega))
   refine aC (j + 1) ?_ ?_ ?_
   ·simp only [go_sem, hkk]
    simp [hc]
    try omega
   ·omega
   ·omega
  ·simp only [decide_eq_false_iff_not] at h
   have e : j = l.length := by omega
   subst e
   refine aD ?_
   exact aA ⟨⟨_, rfl, by simp only [go_sem, List.take_length]⟩, trivial⟩
def cnDir (x : TDir) : Nat := 1 + csum cnNode x.fQuery
theorem a6U : ∀ x, 1 ≤ cnDir x := fun x => by unfold cnDir; omega
def a1y (x : TDir) (k : Int) : TDir := ⟨(rW k), (mkL wF cnNode x.fQuery (k + 1))⟩
theorem a9N (l : List TDir) (k : Int) (hk : 1 ≤ k ∧ k + (csum cnDir l : Nat) ≤ 4611686018427387904) : FnM Tryz.prog 57 false [.w 0 2 (l.map aS)] [.w 0 2 ((mkL a1y cnDir l k).map aS)] k (k + (csum cnDir l : Nat)) := by
 have hlen := gI cnDir a6U l
 refine entm Tryz.func57 rfl Tryz.call57 rfl (by simp) (by simp only [go_sem]) (fun C tg => ?_); simp only [go_sem, Tryz.ntmps57]
 refine aD ?_
 refine aM (α := Nat) (fun j => [(5, oi j), (1, oi (k + (csum cnDir (l.take j) : Nat)))]) (fun j => [(0, .own (tg 0) 2 (wZ aS a1y cnDir l k j))]) (fun j => j ≤ l.length) (fun j => l.length - j) 0 (fun _ => ?_) ?_ ?_ (fun j hj => ?_)
 ·simp only [go_sem]
 ·simp only [go_sem]; simp [nD, csum]
 ·simp
 ·simp only [go_sem]
  refine aD ?_
  refine cnd rfl (fun h => ?_) (fun h => ?_)
  ·simp only [decide_eq_true_eq, Int.ofNat_lt] at h
   have hs := fG cnDir l h
   have ht := jF cnDir l (j + 1)
   have hc : cnDir l[j] = 1 + csum cnNode l[j].fQuery := rfl
   have hset := qG aS a1y cnDir l k j h
   have hkk : k + (csum cnDir (l.take (j + 1)) : Nat) = k + (csum cnDir (l.take j) : Nat) + (cnDir l[j] : Nat) := by omega
   generalize k + (csum cnDir (l.take j) : Nat) = K at hset hkk ⊢
   have hK : 1 ≤ K ∧ K + (cnDir l[j] : Nat) ≤ 4611686018427387904 := by omega
   have qH := @h; repeat' (with_reducible first | refine nY ?_ | (refine mX ?_; try simp only [go_sem, qH]) | refine kD ?_ | refine rD ?_ | refine cP (eB K (by omega)) ?_ | refine vN (a7V l[j].fQuery _ (by omega)) ?_ | refine aO ?_ | fail)
   refine aC (j + 1) ?_ ?_ ?_
   ·simp only [go_sem, hkk, ← hset]
    simp [a1y, aS, hc]
    try omega
   ·omega
   ·omega
  ·simp only [decide_eq_false_iff_not] at h
   have e : j = l.length := by omega
   subst e
   refine aD ?_
   exact ⟨⟨⟨_, rfl, by simp only [go_sem, iA, List.take_length]⟩, trivial⟩, by simp only [go_sem, iA, List.take_length]⟩
theorem a9O (l : List TDir) (k : Int) (hk : 1 ≤ k ∧ k + (csum cnDir l : Nat) ≤ 4611686018427387904) : FnC Tryz.prog 62 [.o (.d (.sl ((mkL a1y cnDir l k).map aS))), oi k] (oi (k + (csum cnDir l : Nat))) := by
 have hlen := gI cnDir a6U l
 refine ent Tryz.func62 rfl Tryz.call62 rfl (fun C => ?_); simp only [go_sem, st0, Tryz.ntmps62]
 refine aD ?_
 refine aM (α := Nat) (fun j => [(5, oi j), (1, oi (k + (csum cnDir (l.take j) : Nat)))]) (fun _ => []) (fun j => j ≤ l.length) (fun j => l.length - j) 0 (fun _ => ?_) ?_ ?_ (fun j hj => ?_)
 ·simp only [go_sem]
 ·simp only [go_sem]; simp [csum]
 ·simp
 ·simp only [go_sem]
  refine aD ?_
  refine cnd rfl (fun h => ?_) (fun h => ?_)
  ·simp only [decide_eq_true_eq, Int.ofNat_lt] at h
   have hs := fG cnDir l h
   have ht := jF cnDir l (j + 1)
   have hc : cnDir l[j] = 1 + csum cnNode l[j].fQuery := rfl
   have hkk : k + (csum cnDir (l.take (j + 1)) : Nat) = k + (csum cnDir (l.take j) : Nat) + (cnDir l[j] : Nat) := by omega
   have hg := nT a1y cnDir l k j (by rw [eY]; exact h)
   generalize k + (csum cnDir (l.take j) : Nat) = K at hg hkk ⊢
   have hK : 1 ≤ K ∧ K + (cnDir l[j] : Nat) ≤ 4611686018427387904 := by omega
   have hneg0 : ¬ ((K + 1) + (csum cnNode l[j].fQuery : Nat) < 0) := by omega
   repeat' (with_reducible first | refine nY ?_ | (refine mX ?_; try simp only [go_sem, h, hg, a1y, hneg0]) | refine kO ?_ (by decide) | refine a5W (by kernel_rfl) ?_ | (refine cC (eB K (by omega)) ?_ ?_; focus simp only [go_sem, and_self]; done) | (refine cC (a7W l[j].fQuery (K + 1) (by omega)) ?_ ?_; focus simp only [go_sem, and_self]; done) | (refine And.intro ?_ ?_; focus omega))
   refine aC (j + 1) ?_ ?_ ?_
   ·simp only [go_sem, hkk]
    simp [hc]
    try omega
   ·omega
   ·omega
  ·simp only [decide_eq_false_iff_not] at h
   have e : j = l.length := by omega
   subst e
   refine aD ?_
   exact aA ⟨⟨_, rfl, by simp only [go_sem, List.take_length]⟩, trivial⟩
def cnResult (x : TResult) : Nat := 1 + csum cnInt x.fIDs
theorem a1z : ∀ x, 1 ≤ cnResult x := fun x => by unfold cnResult; omega
def mP (x : TResult) (k : Int) : TResult := ⟨(rW k), (mkL yH cnInt x.fIDs (k + 1))⟩
theorem a4Z (l : List TResult) (k : Int) (hk : 1 ≤ k ∧ k + (csum cnResult l : Nat) ≤ 4611686018427387904) : FnM Tryz.prog 58 false [.w 0 2 (l.map aH)] [.w 0 2 ((mkL mP cnResult l k).map aH)] k (k + (csum cnResult l : Nat)) := by
 have hlen := gI cnResult a1z l
 refine entm Tryz.func58 rfl Tryz.call58 rfl (by simp) (by simp only [go_sem]) (fun C tg => ?_); simp only [go_sem, Tryz.ntmps58]
 refine aD ?_
 refine aM (α := Nat) (fun j => [(5, oi j), (1, oi (k + (csum cnResult (l.take j) : Nat)))]) (fun j => [(0, .own (tg 0) 2 (wZ aH mP cnResult l k j))]) (fun j => j ≤ l.length) (fun j => l.length - j) 0 (fun _ => ?_) ?_ ?_ (fun j hj => ?_)
 ·simp only [go_sem]
 ·simp only [go_sem]; simp [nD, csum]
 ·simp
 ·simp only [go_sem]
  refine aD ?_
  refine cnd rfl (fun h => ?_) (fun h => ?_)
  ·simp only [decide_eq_true_eq, Int.ofNat_lt] at h
   have hs := fG cnResult l h
   have ht := jF cnResult l (j + 1)
   have hc : cnResult l[j] = 1 + csum cnInt l[j].fIDs := rfl
   have hset := qG aH mP cnResult l k j h
   have hkk : k + (csum cnResult (l.take (j + 1)) : Nat) = k + (csum cnResult (l.take j) : Nat) + (cnResult l[j] : Nat) := by omega
   generalize k + (csum cnResult (l.take j) : Nat) = K at hset hkk ⊢
   have hK : 1 ≤ K ∧ K + (cnResult l[j] : Nat) ≤ 4611686018427387904 := by omega
   have qH := @h; repeat' (with_reducible first | refine nY ?_ | (refine mX ?_; try simp only [go_sem, qH]) | refine kD ?_ | refine rD ?_ | refine cP (eB K (by omega)) ?_ | refine vN (a9L l[j].fIDs _ (by omega)) ?_ | refine aO ?_ | fail)
   refine aC (j + 1) ?_ ?_ ?_
   ·simp only [go_sem, hkk, ← hset]
    simp [mP, aH, hc]
    try omega
   ·omega
   ·omega
  ·simp only [decide_eq_false_iff_not] at h
   have e : j = l.length := by omega
   subst e
   refine aD ?_
   exact ⟨⟨⟨_, rfl, by simp only [go_sem, iA, List.take_length]⟩, trivial⟩, by simp only [go_sem, iA, List.take_length]⟩
theorem a5a (l : List TResult) (k : Int) (hk : 1 ≤ k ∧ k + (csum cnResult l : Nat) ≤ 4611686018427387904) : FnC Tryz.prog 63 [.o (.d (.sl ((mkL mP cnResult l k).map aH))), oi k] (oi (k + (csum cnResult l : Nat))) := by
 have hlen := gI cnResult a1z l
 refine ent Tryz.func63 rfl Tryz.call63 rfl (fun C => ?_); simp only [go_sem, st0, Tryz.ntmps63]
 refine aD ?_
 refine aM (α := Nat) (fun j => [(5, oi j), (1, oi (k + (csum cnResult (l.take j) : Nat)))]) (fun _ => []) (fun j => j ≤ l.length) (fun j => l.length - j) 0 (fun _ => ?_) ?_ ?_ (fun j hj => ?_)
 ·simp only [go_sem]
 ·simp only [go_sem]; simp [csum]
 ·simp
 ·simp only [go_sem]
  refine aD ?_
  refine cnd rfl (fun h => ?_) (fun h => ?_)
  ·simp only [decide_eq_true_eq, Int.ofNat_lt] at h
   have hs := fG cnResult l h
   have ht := jF cnResult l (j + 1)
   have hc : cnResult l[j] = 1 + csum cnInt l[j].fIDs := rfl
   have hkk : k + (csum cnResult (l.take (j + 1)) : Nat) = k + (csum cnResult (l.take j) : Nat) + (cnResult l[j] : Nat) := by omega
   have hg := nT mP cnResult l k j (by rw [eY]; exact h)
   generalize k + (csum cnResult (l.take j) : Nat) = K at hg hkk ⊢
   have hK : 1 ≤ K ∧ K + (cnResult l[j] : Nat) ≤ 4611686018427387904 := by omega
   have hneg0 : ¬ ((K + 1) + (csum cnInt l[j].fIDs : Nat) < 0) := by omega
   repeat' (with_reducible first | refine nY ?_ | (refine mX ?_; try simp only [go_sem, h, hg, mP, hneg0]) | refine kO ?_ (by decide) | refine a5W (by kernel_rfl) ?_ | (refine cC (eB K (by omega)) ?_ ?_; focus simp only [go_sem, and_self]; done) | (refine cC (a9M l[j].fIDs (K + 1) (by omega)) ?_ ?_; focus simp only [go_sem, and_self]; done) | (refine And.intro ?_ ?_; focus omega))
   refine aC (j + 1) ?_ ?_ ?_
   ·simp only [go_sem, hkk]
    simp [hc]
    try omega
   ·omega
   ·omega
  ·simp only [decide_eq_false_iff_not] at h
   have e : j = l.length := by omega
   subst e
   refine aD ?_
   exact aA ⟨⟨_, rfl, by simp only [go_sem, List.take_length]⟩, trivial⟩
def c0v (x : TDiff) : Nat := 1 + csum cnInt x.fAdded + csum cnInt x.fRemoved
def c0w (x : TDiff) (k : Int) : TDiff := ⟨(rW k), (mkL yH cnInt x.fAdded (k + 1)), (mkL yH cnInt x.fRemoved ((k + 1) + (csum cnInt x.fAdded : Nat)))⟩
def b9Q (x : TGroup) : Nat := 3 + csum cnInt x.fIDs
def b9R (x : TGroup) (k : Int) : TGroup := ⟨⟨k, (k + 1), (rW ((k + 1) + 1))⟩, (mkL yH cnInt x.fIDs (((k + 1) + 1) + 1))⟩
def b9C (x : TChange) : Nat := 7 + csum cnAttr x.fFile.fAttrs + csum cnNode x.fDir.fQuery
def b9D (x : TChange) (k : Int) : TChange := ⟨k, ⟨(k + 1), ((k + 1) + 1), (decide (Int.tmod (((k + 1) + 1) + 1) 3 = 0)), ((((k + 1) + 1) + 1) + 1), (mkL wD cnAttr x.fFile.fAttrs (((((k + 1) + 1) + 1) + 1) + 1))⟩, ((((((k + 1) + 1) + 1) + 1) + 1) + (csum cnAttr x.fFile.fAttrs : Nat)), ⟨(rW (((((((k + 1) + 1) + 1) + 1) + 1) + (csum cnAttr x.fFile.fAttrs : Nat)) + 1)), (mkL wF cnNode x.fDir.fQuery ((((((((k + 1) + 1) + 1) + 1) + 1) + (csum cnAttr x.fFile.fAttrs : Nat)) + 1) + 1))⟩⟩
end Go.Proofs.YteaaopodnbjpoaaGreat
end
section
set_option linter.all false
set_option maxRecDepth 100000
set_option maxHeartbeats 4000000
namespace Go.Proofs.YteaaopodnbjpoaaGreat
open Go Go.Sx Go.RowKit Go.Proofs
theorem a7Z (x : TStore) (k : Int) (hk : 1 ≤ k ∧ k + (csum cnField x.fSchema : Nat) + (csum cnFile x.fFiles : Nat) ≤ 4611686018427387904) : FnM Tryz.prog 56 true [.w 0 2 (x.fSchema.map bM), .w 0 5 (x.fFiles.map bN), .d (iv x.fNextID)] [.w 0 2 ((mkL mM cnField x.fSchema (k)).map bM), .w 0 5 ((mkL qV cnFile x.fFiles (k + (csum cnField x.fSchema : Nat))).map bN), .d (iv x.fNextID)] k (k + (csum cnField x.fSchema : Nat) + (csum cnFile x.fFiles : Nat)) := by
 refine entm Tryz.func56 rfl Tryz.call56 rfl (by simp) (by simp only [go_sem]) (fun C tg => ?_); simp only [go_sem, Tryz.ntmps56]
 have qH := trivial; repeat' (with_reducible first | refine nY ?_ | (refine mX ?_; try simp only [go_sem]) | refine kD ?_ | refine rD ?_ | refine vM (a6h x.fSchema _ (by omega)) ?_ | refine vM (a7X x.fFiles _ (by omega)) ?_ | refine aO ?_ | fail)
 exact ⟨⟨⟨_, rfl, by simp only [go_sem]⟩, trivial⟩, by simp only [go_sem]⟩
theorem a8a (x : TStore) (k : Int) (hk : 1 ≤ k ∧ k + (csum cnField x.fSchema : Nat) + (csum cnFile x.fFiles : Nat) ≤ 4611686018427387904) : FnC Tryz.prog 61 [.g [.d (.sl ((mkL mM cnField x.fSchema (k)).map bM)), .d (.sl ((mkL qV cnFile x.fFiles (k + (csum cnField x.fSchema : Nat))).map bN)), .d (iv x.fNextID)], oi k] (oi (k + (csum cnField x.fSchema : Nat) + (csum cnFile x.fFiles : Nat))) := by
 have hneg0 : ¬ (k + (csum cnField x.fSchema : Nat) < 0) := by omega
 have hneg1 : ¬ (k + (csum cnField x.fSchema : Nat) + (csum cnFile x.fFiles : Nat) < 0) := by omega
 refine ent Tryz.func61 rfl Tryz.call61 rfl (fun C => ?_); simp only [go_sem, st0, Tryz.ntmps61]
 have q0 := @hneg0; have q1 := @hneg1; refine sI (a6i x.fSchema (k) (by omega)) (a7Y x.fFiles (k + (csum cnField x.fSchema : Nat)) (by omega)) ?_
 exact aA ⟨⟨_, rfl, by simp only [go_sem]⟩, trivial⟩
theorem mQ (x : TCatalog) (k : Int) (hk : 1 ≤ k ∧ k + (csum cnField x.fStore.fSchema : Nat) + (csum cnFile x.fStore.fFiles : Nat) + (csum cnDir x.fDirs : Nat) + (csum cnResult x.fResults : Nat) ≤ 4611686018427387904) : FnM Tryz.prog 18 true [.w 0 2 (x.fStore.fSchema.map bM), .w 0 5 (x.fStore.fFiles.map bN), .d (iv x.fStore.fNextID), .w 0 2 (x.fDirs.map aS), .w 0 2 (x.fResults.map aH)] [.w 0 2 ((mkL mM cnField x.fStore.fSchema (k)).map bM), .w 0 5 ((mkL qV cnFile x.fStore.fFiles (k + (csum cnField x.fStore.fSchema : Nat))).map bN), .d (iv x.fStore.fNextID), .w 0 2 ((mkL a1y cnDir x.fDirs (k + (csum cnField x.fStore.fSchema : Nat) + (csum cnFile x.fStore.fFiles : Nat))).map aS), .w 0 2 ((mkL mP cnResult x.fResults (k + (csum cnField x.fStore.fSchema : Nat) + (csum cnFile x.fStore.fFiles : Nat) + (csum cnDir x.fDirs : Nat))).map aH)] k (k + (csum cnField x.fStore.fSchema : Nat) + (csum cnFile x.fStore.fFiles : Nat) + (csum cnDir x.fDirs : Nat) + (csum cnResult x.fResults : Nat)) := by
 refine entm Tryz.func18 rfl Tryz.call18 rfl (by simp) (by simp only [go_sem]) (fun C tg => ?_); simp only [go_sem, Tryz.ntmps18]
 have qH := trivial; repeat' (with_reducible first | refine nY ?_ | (refine mX ?_; try simp only [go_sem]) | refine kD ?_ | refine rD ?_ | refine vM (a7Z x.fStore _ (by omega)) ?_ | refine vM (a9N x.fDirs _ (by omega)) ?_ | refine vM (a4Z x.fResults _ (by omega)) ?_ | refine aO ?_ | fail)
 exact ⟨⟨⟨_, rfl, by simp only [go_sem]⟩, trivial⟩, by simp only [go_sem]⟩
theorem mR (x : TCatalog) (k : Int) (hk : 1 ≤ k ∧ k + (csum cnField x.fStore.fSchema : Nat) + (csum cnFile x.fStore.fFiles : Nat) + (csum cnDir x.fDirs : Nat) + (csum cnResult x.fResults : Nat) ≤ 4611686018427387904) : FnC Tryz.prog 22 [.g [.d (.sl ((mkL mM cnField x.fStore.fSchema (k)).map bM)), .d (.sl ((mkL qV cnFile x.fStore.fFiles (k + (csum cnField x.fStore.fSchema : Nat))).map bN)), .d (iv x.fStore.fNextID), .d (.sl ((mkL a1y cnDir x.fDirs (k + (csum cnField x.fStore.fSchema : Nat) + (csum cnFile x.fStore.fFiles : Nat))).map aS)), .d (.sl ((mkL mP cnResult x.fResults (k + (csum cnField x.fStore.fSchema : Nat) + (csum cnFile x.fStore.fFiles : Nat) + (csum cnDir x.fDirs : Nat))).map aH))], oi k] (oi (k + (csum cnField x.fStore.fSchema : Nat) + (csum cnFile x.fStore.fFiles : Nat) + (csum cnDir x.fDirs : Nat) + (csum cnResult x.fResults : Nat))) := by
 have hneg0 : ¬ (k + (csum cnField x.fStore.fSchema : Nat) + (csum cnFile x.fStore.fFiles : Nat) < 0) := by omega
 have hneg1 : ¬ (k + (csum cnField x.fStore.fSchema : Nat) + (csum cnFile x.fStore.fFiles : Nat) + (csum cnDir x.fDirs : Nat) < 0) := by omega
 have hneg2 : ¬ (k + (csum cnField x.fStore.fSchema : Nat) + (csum cnFile x.fStore.fFiles : Nat) + (csum cnDir x.fDirs : Nat) + (csum cnResult x.fResults : Nat) < 0) := by omega
 refine ent Tryz.func22 rfl Tryz.call22 rfl (fun C => ?_); simp only [go_sem, st0, Tryz.ntmps22]
 have q0 := @hneg0; have q1 := @hneg1; have q2 := @hneg2; refine b8s (a8a x.fStore (k) (by omega)) (a9O x.fDirs (k + (csum cnField x.fStore.fSchema : Nat) + (csum cnFile x.fStore.fFiles : Nat)) (by omega)) (a5a x.fResults (k + (csum cnField x.fStore.fSchema : Nat) + (csum cnFile x.fStore.fFiles : Nat) + (csum cnDir x.fDirs : Nat)) (by omega)) ?_
 exact aA ⟨⟨_, rfl, by simp only [go_sem]⟩, trivial⟩
end Go.Proofs.YteaaopodnbjpoaaGreat
end
section
set_option linter.all false
namespace Go.Proofs.YteaaopodnbjpoaaGreat
open Go Go.Sx Go.RowKit Go.Proofs
theorem wG {α : Type} (cn w : α → Nat) (c : Nat) (hx : ∀ x, cn x ≤ c * (1 + w x)) : ∀ l : List α, csum cn l ≤ c * (l.length + wsum w l)
 | [] => by simp [csum]
 | x :: l => by
  have h1 := wG cn w c hx l
  have h2 := hx x
  simp only [csum, wsum, List.length_cons]
  have : c * (l.length + 1 + (w x + wsum w l)) = c * (1 + w x) + c * (l.length + wsum w l) := by rw [← Nat.mul_add]; congr 1; omega
  omega
theorem qW {α : Type} (cn : α → Nat) (c : Nat) (hx : ∀ x, cn x = c) : ∀ l : List α, csum cn l = c * l.length
 | [] => by simp [csum]
 | x :: l => by
  have h1 := qW cn c hx l
  simp only [csum, List.length_cons, hx, h1, Nat.mul_add]; omega
theorem b7j (l : List Int) : csum cnInt l = l.length := by rw [qW cnInt 1 (fun _ => rfl)]; omega
theorem zN (l : List TField) : csum cnField l = 2 * l.length := qW cnField 2 (fun _ => rfl) l
theorem a5b (l : List TAttr) : csum cnAttr l = 4 * l.length := qW cnAttr 4 (fun _ => rfl) l
theorem b5G (l : List TNode) : csum cnNode l = 7 * l.length := qW cnNode 7 (fun _ => rfl) l
theorem a1A (l : List TFile) : csum cnFile l ≤ 4 * (l.length + wsum wFile l) := wG cnFile wFile 4 (fun x => by
 unfold cnFile wFile aV; rw [a5b]; omega) l
theorem a3M (l : List TDir) : csum cnDir l ≤ 7 * (l.length + wsum wDir l) := wG cnDir wDir 7 (fun x => by
 unfold cnDir wDir bK; rw [b5G]; omega) l
theorem wH (l : List TResult) : csum cnResult l ≤ 1 * (l.length + wsum wResult l) := wG cnResult wResult 1 (fun x => by
 unfold cnResult wResult; rw [b7j]; omega) l
end Go.Proofs.YteaaopodnbjpoaaGreat
end
end
section
set_option maxRecDepth 100000
set_option maxHeartbeats 4000000
namespace Go.Proofs.YteaaopodnbjpoaaGreat
open Go Go.Sx Go.RowKit Go.Proofs
def hasS (l : List ByteArray) (s : ByteArray) : Bool := l.any fun x => decide (x = s)
theorem b3R (l : List ByteArray) (s : ByteArray) (k : Nat) (h : k < l.length) : hasS (l.drop k) s = (decide (l[k] = s) || hasS (l.drop (k + 1)) s) := by
 rw [List.drop_eq_getElem_cons h]; rfl
theorem gY (l : List ByteArray) (s : ByteArray) (hl : l.length ≤ 4300000) : FnC Tryz.prog 223 [.o (.d (.sl (l.map dD))), os s] (ob (hasS l s)) := by
 refine ent Tryz.func223 rfl Tryz.call223 rfl (fun C => ?_); simp only [go_sem, st0, Tryz.ntmps223]
 refine aD ?_
 refine aM (α := Nat) (fun k => [(5, oi k)]) (fun k => []) (fun k => k ≤ l.length ∧ hasS (l.drop k) s = hasS l s) (fun k => l.length - k) 0 (fun _ => ?_) ?_ ?_ (fun k hk => ?_)
 ·simp only [go_sem]; try simp
 ·simp only [go_sem]; try simp
 ·simp
 ·simp only [go_sem]
  obtain ⟨hk, hg⟩ := hk
  refine aD ?_
  refine cnd rfl (fun h1 => ?_) (fun h1 => ?_)
  ·simp only [decide_eq_true_eq, Int.ofNat_lt] at h1
   have hd := b3R l s k h1
   rw [hg] at hd
   have q0 := @h1; refine fD ?_
   refine cnd rfl (fun hv => ?_) (fun hv => ?_)
   ·rw [hv, Bool.true_or] at hd
    refine aD ?_
    exact aA ⟨⟨_, rfl, by simp only [go_sem, hd]⟩, trivial⟩
   ·rw [hv, Bool.false_or] at hd
    refine aD ?_
    refine aC (k + 1) ?_ ?_ ?_
    ·simp only [go_sem]; try simp
    ·exact ⟨by omega, hd.symm⟩
    ·omega
  ·simp only [decide_eq_false_iff_not] at h1
   have e : k = l.length := by omega
   subst e
   have hn : hasS l s = false := by rw [← hg, List.drop_length]; rfl
   refine aD ?_
   exact aA ⟨⟨_, rfl, by simp only [go_sem, hn]⟩, trivial⟩
theorem b3S (l : List ByteArray) (s : ByteArray) (hl : l.length ≤ 4300000) : FnC Tryz.prog 239 [.o (.d (.sl (l.map dD))), os s] (oi (dI (fun x => decide (s = x)) l 0)) := by
 refine ent Tryz.func239 rfl Tryz.call239 rfl (fun C => ?_); simp only [go_sem, st0, Tryz.ntmps239]
 refine aD ?_
 refine aM (α := Nat) (fun k => [(8, oi k)]) (fun _ => []) (fun k => k ≤ l.length ∧ dI (fun x => decide (s = x)) l 0 = dI (fun x => decide (s = x)) (l.drop k) k) (fun k => l.length - k) 0 (fun _ => ?_) ?_ ?_ (fun k hk => ?_)
 ·simp only [go_sem]
 ·simp only [go_sem]; simp
 ·simp
 ·obtain ⟨hk, hq⟩ := hk
  simp only [go_sem]
  refine aD ?_
  refine cnd rfl (fun h => ?_) (fun h => ?_)
  ·simp only [decide_eq_true_eq, Int.ofNat_lt] at h
   have hd := List.drop_eq_getElem_cons h
   rw [hd, dI] at hq
   have q0 := @h; refine fD ?_
   refine cnd rfl (fun h2 => ?_) (fun h2 => ?_)
   ·refine aD ?_
    exact aA ⟨⟨_, rfl, by simp only [go_sem, hq, h2]⟩, trivial⟩
   ·refine aD ?_
    refine aC (k + 1) ?_ ?_ ?_
    ·simp only [go_sem]; simp
    ·rw [hq, h2]; exact ⟨h, by simp⟩
    ·omega
  ·simp only [decide_eq_false_iff_not] at h
   have e : k = l.length := by omega
   subst e
   simp only [List.drop_length, dI] at hq
   refine aD ?_
   exact aA ⟨⟨_, rfl, by simp only [go_sem, hq]⟩, trivial⟩
theorem yF {α : Type} (p : α → Bool) : ∀ (l : List α) (k : Nat), decide (0 ≤ dI p l k) = l.any p
 | [], _ => by simp [dI]
 | x :: xs, k => by
  simp only [dI, List.any_cons]
  by_cases h : p x = true
  ·simp [h]
  ·rw [Bool.not_eq_true] at h
   simpa [h] using yF p xs (k + 1)
theorem b5F (l : List ByteArray) (s : ByteArray) : decide (0 ≤ dI (fun x => decide (s = x)) l 0) = hasS l s := by
 rw [yF]; unfold hasS
 congr 1; funext x; congr 1; exact propext eq_comm
theorem eT (l : List ByteArray) (s : ByteArray) (hl : l.length ≤ 4300000) : FnC Tryz.prog 190 [.o (.d (.sl (l.map dD))), os s] (ob (hasS l s)) := by
 refine ent Tryz.func190 rfl Tryz.call190 rfl (fun C => ?_); simp only [go_sem, st0, Tryz.ntmps190]
 refine fK (b3S l s hl) ?_
 exact aA ⟨⟨_, rfl, by simp only [go_sem, b5F]⟩, trivial⟩
def dirNs (l : List TDir) : List ByteArray := l.map TDir.fName
theorem zM (l : List TDir) : (dirNs l).length = l.length := by simp [dirNs]
theorem yG (l : List TDir) (hl : l.length ≤ 4300000) : FnC Tryz.prog 167 [.o (.d (.sl (l.map aS)))] (.o (.w 9 1 ((dirNs l).map dD))) := by
 refine ent Tryz.func167 rfl Tryz.call167 rfl (fun C => ?_); simp only [go_sem, st0, Tryz.ntmps167]
 refine aD ?_
 refine aM (α := Nat) (fun k => [(3, .o (.s 0)), (6, .o .u), (9, oi k)]) (fun k => [(0, .row 9 1 ((dirNs (l.take k)).map dD) true)]) (fun k => k ≤ l.length) (fun k => l.length - k) 0 (fun _ => ?_) ?_ ?_ (fun k hk => ?_)
 ·simp only [go_sem]
 ·simp only [go_sem]; simp [dirNs]
 ·simp
 ·simp only [go_sem]
  refine aD ?_
  refine cnd rfl (fun h1 => ?_) (fun h1 => ?_)
  ·simp only [decide_eq_true_eq, Int.ofNat_lt] at h1
   have ht : dirNs (l.take (k + 1)) = dirNs (l.take k) ++ [l[k].fName] := by simp only [dirNs, List.take_succ_eq_append_getElem h1, List.map_append, List.map_cons, List.map_nil]
   have hlen : (dirNs (l.take k)).length = k := by rw [zM]; simp; omega
   have q0 := @h1; have q1 := @hlen; refine fI ?_
   refine aC (k + 1) ?_ ?_ ?_
   ·simp only [go_sem, ht, List.map_append]; simp
   ·omega
   ·omega
  ·simp only [decide_eq_false_iff_not] at h1
   have e : k = l.length := by omega
   subst e
   refine aD ?_
   exact aA ⟨⟨_, rfl, by simp only [go_sem, List.take_length]⟩, trivial⟩
def uD (names : List ByteArray) (l : List TDir) : List ByteArray := (dirNs l).filter fun n => !hasS names n
end Go.Proofs.YteaaopodnbjpoaaGreat
end
section
namespace Go.Proofs.YteaaopodnbjpoaaGreat
open Go Go.Sx Go.RowKit Go.Proofs
def dS (name : ByteArray) : List TAttr → TValue
 | [] => ⟨0, 0, ⟨#[]⟩⟩
 | a :: r => if a.fName = name then a.fValue else dS name r
theorem iX (x : TFile) (name : ByteArray) (h : wFile x ≤ 4300000) : FnC Tryz.prog 295 [bC x, os name] (mI (dS name x.fAttrs)) := by
 unfold wFile aV at h
 generalize hg : dS name x.fAttrs = res
 refine ent Tryz.func295 rfl Tryz.call295 rfl (fun C => ?_); simp only [go_sem, st0, Tryz.ntmps295]
 refine aD ?_
 refine aM (α := Nat) (fun k => [(10, oi k)]) (fun _ => []) (fun k => k ≤ x.fAttrs.length ∧ dS name (x.fAttrs.drop k) = res) (fun k => x.fAttrs.length - k) 0 (fun _ => ?_) ?_ ?_ (fun k hk => ?_)
 ·simp only [go_sem]
 ·simp only [go_sem]; simp
 ·simp [hg]
 ·obtain ⟨hk, hq⟩ := hk
  simp only [go_sem]
  refine aD ?_
  refine cnd rfl (fun h => ?_) (fun h => ?_)
  ·simp only [decide_eq_true_eq, Int.ofNat_lt] at h
   have hd := List.drop_eq_getElem_cons h
   rw [hd, dS] at hq
   by_cases h1 : x.fAttrs[k].fName = name
   ·rw [if_pos h1] at hq
    subst hq
    have q0 := @h; have q1 := @h1; refine fI ?_
    exact aA ⟨⟨_, rfl, by simp only [go_sem]⟩, trivial⟩
   ·rw [if_neg h1] at hq
    have q0 := @h; have q1 := @h1; refine fI ?_
    refine aC (k + 1) ?_ ?_ ?_
    ·simp only [go_sem]; simp
    ·exact ⟨h, hq⟩
    ·omega
  ·simp only [decide_eq_false_iff_not] at h
   have e : k = x.fAttrs.length := by omega
   rw [e, List.drop_length, dS] at hq
   subst hq
   refine aD ?_
   exact aA ⟨⟨_, rfl, by simp only [go_sem]⟩, trivial⟩
theorem dL (x : TFile) (name : ByteArray) (h : wFile x ≤ 4300000) : FnC Tryz.prog 291 [bC x, os name] (mI (dS name x.fAttrs)) := by
 unfold wFile aV at h
 generalize hg : dS name x.fAttrs = res
 refine ent Tryz.func291 rfl Tryz.call291 rfl (fun C => ?_); simp only [go_sem, st0, Tryz.ntmps291]
 refine aD ?_
 refine aM (α := Nat) (fun k => [(5, oi k)]) (fun _ => []) (fun k => k ≤ x.fAttrs.length ∧ dS name (x.fAttrs.drop k) = res) (fun k => x.fAttrs.length - k) 0 (fun _ => ?_) ?_ ?_ (fun k hk => ?_)
 ·simp only [go_sem]
 ·simp only [go_sem]; simp
 ·simp [hg]
 ·obtain ⟨hk, hq⟩ := hk
  simp only [go_sem]
  refine aD ?_
  refine cnd rfl (fun h => ?_) (fun h => ?_)
  ·simp only [decide_eq_true_eq, Int.ofNat_lt] at h
   have hd := List.drop_eq_getElem_cons h
   rw [hd, dS] at hq
   by_cases h1 : x.fAttrs[k].fName = name
   ·rw [if_pos h1] at hq
    subst hq
    have q0 := @h; have q1 := @h1; refine fI ?_
    exact aA ⟨⟨_, rfl, by simp only [go_sem]⟩, trivial⟩
   ·rw [if_neg h1] at hq
    have q0 := @h; have q1 := @h1; refine fI ?_
    refine aC (k + 1) ?_ ?_ ?_
    ·simp only [go_sem]; simp
    ·exact ⟨h, hq⟩
    ·omega
  ·simp only [decide_eq_false_iff_not] at h
   have e : k = x.fAttrs.length := by omega
   rw [e, List.drop_length, dS] at hq
   subst hq
   refine aD ?_
   exact aA ⟨⟨_, rfl, by simp only [go_sem]⟩, trivial⟩
end Go.Proofs.YteaaopodnbjpoaaGreat
end
section
set_option maxRecDepth 100000
set_option maxHeartbeats 4000000
namespace Go.Proofs.YteaaopodnbjpoaaGreat
def a1B (x v : TValue) : Bool := decide (x.fKind = v.fKind) && (decide (x.fInt = v.fInt) && decide (x.fStr = v.fStr))
def hasI (l : List Int) (i : Int) : Bool := l.any fun x => decide (x = i)
def aR (s : ByteArray) : List TResult → List Int
 | [] => []
 | x :: r => if x.fName = s then x.fIDs else aR s r
def a5c (v : TValue) (n : Int) : Bool := decide (v.fKind = 1) && decide (v.fInt < n)
def mt (q : List TNode) (f : TFile) (r : List TResult) : Nat → Nat → Bool
 | 0, _ => false
 | k + 1, i => match q[i]? with
  | none => false
  | some n =>
   if n.fOp = 1 then true
   else if n.fOp = 2 then !decide ((dS n.fName f.fAttrs).fKind = 0)
   else if n.fOp = 3 then a1B (dS n.fName f.fAttrs) n.fValue
   else if n.fOp = 4 then a5c (dS n.fName f.fAttrs) n.fValue.fInt
   else if n.fOp = 5 then !mt q f r k n.fLeft.toNat
   else if n.fOp = 6 then mt q f r k n.fLeft.toNat && mt q f r k n.fRight.toNat
   else if n.fOp = 7 then mt q f r k n.fLeft.toNat || mt q f r k n.fRight.toNat
   else if n.fOp = 8 then hasI (aR n.fName r) f.fID
   else !decide (f.fLink = 0) && hasI (aR n.fName r) f.fLink
end Go.Proofs.YteaaopodnbjpoaaGreat
end
section
set_option maxRecDepth 100000
set_option maxHeartbeats 4000000
namespace Go.Proofs.YteaaopodnbjpoaaGreat
open Go Go.Sx Go.RowKit Go.Proofs
theorem b3P (l : List Int) (s : Int) (k : Nat) (h : k < l.length) : hasI (l.drop k) s = (decide (l[k] = s) || hasI (l.drop (k + 1)) s) := by
 rw [List.drop_eq_getElem_cons h]; rfl
theorem b3Q (l : List Int) (s : Int) (hl : l.length ≤ 67108864) : FnC Tryz.prog 288 [.o (.d (.sl (l.map eQ))), oi s] (oi (dI (fun x => decide (s = x)) l 0)) := by
 refine ent Tryz.func288 rfl Tryz.call288 rfl (fun C => ?_); simp only [go_sem, st0, Tryz.ntmps288]
 refine aD ?_
 refine aM (α := Nat) (fun k => [(8, oi k)]) (fun _ => []) (fun k => k ≤ l.length ∧ dI (fun x => decide (s = x)) l 0 = dI (fun x => decide (s = x)) (l.drop k) k) (fun k => l.length - k) 0 (fun _ => ?_) ?_ ?_ (fun k hk => ?_)
 ·simp only [go_sem]
 ·simp only [go_sem]; simp
 ·simp
 ·obtain ⟨hk, hq⟩ := hk
  simp only [go_sem]
  refine aD ?_
  refine cnd rfl (fun h => ?_) (fun h => ?_)
  ·simp only [decide_eq_true_eq, Int.ofNat_lt] at h
   have hd := List.drop_eq_getElem_cons h
   rw [hd, dI] at hq
   have q0 := @h; refine fD ?_
   refine cnd (b := decide (s = l[k])) rfl (fun h2 => ?_) (fun h2 => ?_)
   ·rw [if_pos h2] at hq
    refine aD ?_
    exact aA ⟨⟨_, rfl, by simp only [go_sem, hq]⟩, trivial⟩
   ·rw [if_neg (by simp [h2])] at hq
    refine aD ?_
    refine aC (k + 1) ?_ ?_ ?_
    ·simp only [go_sem]; simp
    ·rw [hq]; exact ⟨h, by simp⟩
    ·omega
  ·simp only [decide_eq_false_iff_not] at h
   have e : k = l.length := by omega
   subst e
   simp only [List.drop_length, dI] at hq
   refine aD ?_
   exact aA ⟨⟨_, rfl, by simp only [go_sem, hq]⟩, trivial⟩
theorem b5E (l : List Int) (s : Int) : decide (0 ≤ dI (fun x => decide (s = x)) l 0) = hasI l s := by
 rw [yF]; unfold hasI
 congr 1; funext x; congr 1; exact propext eq_comm
theorem a1x (l : List Int) (s : Int) (hl : l.length ≤ 67108864) : FnC Tryz.prog 244 [.o (.d (.sl (l.map eQ))), oi s] (ob (hasI l s)) := by
 refine ent Tryz.func244 rfl Tryz.call244 rfl (fun C => ?_); simp only [go_sem, st0, Tryz.ntmps244]
 refine fK (b3Q l s hl) ?_
 exact aA ⟨⟨_, rfl, by simp only [go_sem, b5E]⟩, trivial⟩
theorem jX (l : List Int) (s : Int) (hl : l.length ≤ 67108864) : FnC Tryz.prog 213 [.o (.d (.sl (l.map eQ))), oi s] (ob (hasI l s)) := by
 refine ent Tryz.func213 rfl Tryz.call213 rfl (fun C => ?_); simp only [go_sem, st0, Tryz.ntmps213]
 refine fK (a1x l s hl) ?_
 exact aA ⟨⟨_, rfl, by simp only [go_sem]⟩, trivial⟩
theorem fO (l : List Int) (s : Int) (hl : l.length ≤ 67108864) : FnC Tryz.prog 164 [.o (.d (.sl (l.map eQ))), oi s] (ob (hasI l s)) := by
 refine ent Tryz.func164 rfl Tryz.call164 rfl (fun C => ?_); simp only [go_sem, st0, Tryz.ntmps164]
 refine aD ?_
 refine aM (α := Nat) (fun k => [(5, oi k)]) (fun k => []) (fun k => k ≤ l.length ∧ hasI (l.drop k) s = hasI l s) (fun k => l.length - k) 0 (fun _ => ?_) ?_ ?_ (fun k hk => ?_)
 ·simp only [go_sem]; try simp
 ·simp only [go_sem]; try simp
 ·simp
 ·simp only [go_sem]
  obtain ⟨hk, hg⟩ := hk
  refine aD ?_
  refine cnd rfl (fun h1 => ?_) (fun h1 => ?_)
  ·simp only [decide_eq_true_eq, Int.ofNat_lt] at h1
   have hd := b3P l s k h1
   rw [hg] at hd
   have q0 := @h1; refine fD ?_
   refine cnd rfl (fun hv => ?_) (fun hv => ?_)
   ·rw [hv, Bool.true_or] at hd
    refine aD ?_
    exact aA ⟨⟨_, rfl, by simp only [go_sem, hd]⟩, trivial⟩
   ·rw [hv, Bool.false_or] at hd
    refine aD ?_
    refine aC (k + 1) ?_ ?_ ?_
    ·simp only [go_sem]; try simp
    ·exact ⟨by omega, hd.symm⟩
    ·omega
  ·simp only [decide_eq_false_iff_not] at h1
   have e : k = l.length := by omega
   subst e
   have hn : hasI l s = false := by rw [← hg, List.drop_length]; rfl
   refine aD ?_
   exact aA ⟨⟨_, rfl, by simp only [go_sem, hn]⟩, trivial⟩
theorem a2R (s : ByteArray) (l : List TResult) (k : Nat) (h : k < l.length) : aR s (l.drop k) = if l[k].fName = s then l[k].fIDs else aR s (l.drop (k + 1)) := by
 rw [List.drop_eq_getElem_cons h]; rfl
theorem oC (l : List TResult) (s : ByteArray) (hl : aG l ≤ 67108864) : FnC Tryz.prog 115 [.o (.d (.sl (l.map aH))), os s] (.o (.w 3 1 ((aR s l).map eQ))) := by
 unfold aG at hl
 generalize hg : aR s l = res
 refine ent Tryz.func115 rfl Tryz.call115 rfl (fun C => ?_); simp only [go_sem, st0, Tryz.ntmps115]
 refine aD ?_
 refine aM (α := Nat) (fun k => [(9, oi k)]) (fun k => []) (fun k => k ≤ l.length ∧ aR s (l.drop k) = res) (fun k => l.length - k) 0 (fun _ => ?_) ?_ ?_ (fun k hk => ?_)
 ·simp only [go_sem]; try simp
 ·simp only [go_sem]; try simp
 ·simp [hg]
 ·simp only [go_sem]
  obtain ⟨hk, hq⟩ := hk
  refine aD ?_
  refine cnd rfl (fun h1 => ?_) (fun h1 => ?_)
  ·simp only [decide_eq_true_eq, Int.ofNat_lt] at h1
   rw [a2R s l k h1] at hq
   by_cases hv : l[k].fName = s
   ·rw [if_pos hv] at hq
    have hw := bB wResult l h1
    have hwl : l[k].fIDs.length ≤ wResult l[k] := by unfold wResult; omega
    have q0 := @h1; have q1 := @hv; refine jZ (yB l[k].fIDs (by omega)) ?_
    exact aA ⟨⟨_, rfl, by simp only [go_sem, hq]⟩, trivial⟩
   ·rw [if_neg hv] at hq
    have q0 := @h1; have q1 := @hv; refine fI ?_
    refine aC (k + 1) ?_ ?_ ?_
    ·simp only [go_sem]; try simp
    ·exact ⟨by omega, hq⟩
    ·omega
  ·simp only [decide_eq_false_iff_not] at h1
   have e : k = l.length := by omega
   subst e
   rw [List.drop_length] at hq
   have hn : res = [] := hq.symm
   subst hn
   refine aD ?_
   exact aA ⟨⟨_, rfl, by simp only [go_sem]⟩, trivial⟩
theorem oD (l : List TResult) (s : ByteArray) (hl : aG l ≤ 67108864) : FnC Tryz.prog 93 [.o (.d (.sl (l.map aH))), os s] (.o (.w 3 1 ((aR s l).map eQ))) := by
 unfold aG at hl
 generalize hg : aR s l = res
 refine ent Tryz.func93 rfl Tryz.call93 rfl (fun C => ?_); simp only [go_sem, st0, Tryz.ntmps93]
 refine aD ?_
 refine aM (α := Nat) (fun k => [(5, oi k)]) (fun k => []) (fun k => k ≤ l.length ∧ aR s (l.drop k) = res) (fun k => l.length - k) 0 (fun _ => ?_) ?_ ?_ (fun k hk => ?_)
 ·simp only [go_sem]; try simp
 ·simp only [go_sem]; try simp
 ·simp [hg]
 ·simp only [go_sem]
  obtain ⟨hk, hq⟩ := hk
  refine aD ?_
  refine cnd rfl (fun h1 => ?_) (fun h1 => ?_)
  ·simp only [decide_eq_true_eq, Int.ofNat_lt] at h1
   rw [a2R s l k h1] at hq
   by_cases hv : l[k].fName = s
   ·rw [if_pos hv] at hq
    have hw := bB wResult l h1
    have hwl : l[k].fIDs.length ≤ wResult l[k] := by unfold wResult; omega
    have q0 := @h1; have q1 := @hv; refine fI ?_
    exact aA ⟨⟨_, rfl, by simp only [go_sem, hq]⟩, trivial⟩
   ·rw [if_neg hv] at hq
    have q0 := @h1; have q1 := @hv; refine fI ?_
    refine aC (k + 1) ?_ ?_ ?_
    ·simp only [go_sem]; try simp
    ·exact ⟨by omega, hq⟩
    ·omega
  ·simp only [decide_eq_false_iff_not] at h1
   have e : k = l.length := by omega
   subst e
   rw [List.drop_length] at hq
   have hn : res = [] := hq.symm
   subst hn
   refine aD ?_
   exact aA ⟨⟨_, rfl, by simp only [go_sem]⟩, trivial⟩
end Go.Proofs.YteaaopodnbjpoaaGreat
end
section
namespace Go.Proofs.YteaaopodnbjpoaaGreat
open Go Go.Sx Go.RowKit Go.Proofs
def gH (a b : List Int) : List Int := a.filter fun x => !hasI b x
theorem oN (a b : List Int) : (gH a b).length ≤ a.length := List.length_filter_le _ _
def qU (a : List TResult) (x : TResult) : List TDiff :=
 if 0 < (gH x.fIDs (aR x.fName a)).length + (gH (aR x.fName a) x.fIDs).length then [⟨x.fName, gH x.fIDs (aR x.fName a), gH (aR x.fName a) x.fIDs⟩] else []
def iH (a b : List TResult) : List TDiff := b.flatMap (qU a)
theorem a4U (a b : List TResult) (k : Nat) (h : k < b.length) : iH a (b.take (k + 1)) = iH a (b.take k) ++ qU a b[k] := by
 unfold iH; rw [List.take_succ_eq_append_getElem h, List.flatMap_append]; simp
theorem b3O (a : List TResult) (x : TResult) : (qU a x).length ≤ 1 := by unfold qU; split <;> simp
theorem a6S (a b : List TResult) (k : Nat) : (iH a (b.take k)).length ≤ k := by
 have key : ∀ l : List TResult, (iH a l).length ≤ l.length := by
  intro l
  induction l with
  | nil => simp [iH]
  | cons x l ih => have := b3O a x; simp only [iH, List.flatMap_cons, List.length_append, List.length_cons] at ih ⊢; omega
 exact Nat.le_trans (key _) (by rw [List.length_take]; omega)
theorem a4V (s : ByteArray) (a : List TResult) : (aR s a).length ≤ aG a := by
 induction a with
 | nil => simp [aR]
 | cons x a ih =>
  unfold aG at ih ⊢
  have e : wResult x = x.fName.size + x.fIDs.length := rfl
  simp only [aR, wsum, List.length_cons]
  split <;> omega
theorem b2E (a : List TResult) : ∀ b : List TResult, nK (iH a b) ≤ aG b + b.length * aG a
 | [] => by simp [iH, nK, wsum]
 | x :: b => by
  have ih := b2E a b
  have h1 := oN x.fIDs (aR x.fName a)
  have h2 := oN (aR x.fName a) x.fIDs
  have h3 := a4V x.fName a
  have key : ∀ l m : List TDiff, nK (l ++ m) = nK l + nK m := by
   intro l m
   unfold nK
   have : wsum a9v (l ++ m) = wsum a9v l + wsum a9v m := by
    induction l with
    | nil => simp [wsum]
    | cons y l ih => simp only [List.cons_append, wsum, ih]; omega
   rw [this, List.length_append]; omega
  have e : iH a (x :: b) = qU a x ++ iH a b := by simp [iH]
  have h4 : nK (qU a x) ≤ 1 + wResult x + aG a := by
   unfold qU
   split
   ·have e : wResult x = x.fName.size + x.fIDs.length := rfl
    unfold nK; simp only [wsum, List.length_cons, List.length_nil, a9v]; omega
   ·simp [nK, wsum]
  rw [e, key]
  have h5 : aG (x :: b) = aG b + 1 + wResult x := by unfold aG; simp only [wsum, List.length_cons]; omega
  rw [h5, List.length_cons, Nat.succ_mul]
  omega
end Go.Proofs.YteaaopodnbjpoaaGreat
end
