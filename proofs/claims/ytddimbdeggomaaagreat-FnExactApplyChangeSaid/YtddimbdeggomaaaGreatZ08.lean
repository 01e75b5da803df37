/- Joined texts. -/
import Derived.Test.YtddimbdeggomaaaGreatZ07
import Derived.Test.YtddimbdeggomaaaGreatZ06
set_option linter.all false
section
section
set_option linter.all false
set_option maxRecDepth 100000
set_option maxHeartbeats 4000000
namespace Go.Proofs.YtddimbdeggomaaaGreat
open Go Go.Sx Go.RowKit Go.Proofs
def b0t (k : Nat) (out : ByteArray) : ByteArray :=
 if h : k = 0 then out else b0t (k / 10) (a0A [(48 : Int) + ((k % 10 : Nat) : Int)] ++ out)
decreasing_by omega
def rC (k : Int) : ByteArray := ⟨#[109]⟩ ++ b0t k.toNat ⟨#[]⟩
theorem dP (k : Int) (hk : 1 ≤ k ∧ k ≤ 4611686018427387904) : FnC Tryz.prog 95 [oi k] (os (rC k)) := by
 obtain ⟨n, rfl⟩ : ∃ n : Nat, k = n := ⟨k.toNat, by omega⟩
 have h0 : ¬ ((n : Int) ≤ 0) := by omega
 have hm : rC (n : Int) = ⟨#[109]⟩ ++ b0t n ⟨#[]⟩ := by simp [rC]
 rw [hm]
 generalize hq : b0t n ⟨#[]⟩ = res
 refine ent Tryz.func95 rfl Tryz.call95 rfl (fun C => ?_); simp only [go_sem, st0, Tryz.ntmps95]
 have q0 := @h0; have q1 := @decide_false; refine lL ?_
 refine aN (α := Nat × ByteArray) (fun p => [(0, oi p.1), (3, os p.2)]) (fun _ => []) (fun p => b0t p.1 p.2 = res ∧ p.2.size + p.1 ≤ n) (fun p => p.1) (n, ⟨#[]⟩) (fun _ => ?_) ?_ ?_ (fun p hp => ?_)
 ·simp only [go_sem]
 ·simp only [go_sem]; simp
 ·exact ⟨hq, by show 0 + n ≤ n; omega⟩
 ·obtain ⟨j, out⟩ := p
  obtain ⟨hp, hs⟩ := hp
  simp only at hp hs
  simp only [go_sem]
  refine aD ?_
  refine cnd rfl (fun h => ?_) (fun h => ?_)
  ·simp only [decide_eq_true_eq] at h
   have hj : j ≠ 0 := by omega
   rw [b0t, dif_neg hj] at hp
   have e1 : (j : Int).tmod 10 = ((j % 10 : Nat) : Int) := by rw [Int.tmod_eq_emod_of_nonneg (by omega)]; omega
   have e2 : (j : Int).tdiv 10 = ((j / 10 : Nat) : Int) := by rw [Int.tdiv_eq_ediv_of_nonneg (by omega)]; omega
   have q0 := @e1; have q1 := @e2; refine lL ?_
   refine aF (j / 10, a0A [(48 : Int) + ((j % 10 : Nat) : Int)] ++ out) ?_ ?_ ?_
   ·simp only [go_sem, e1, e2]; simp [a0A]
   ·refine ⟨hp, ?_⟩
    simp only [ByteArray.size_append, a0A, List.map_cons, List.map_nil, b6U, List.length_cons, List.length_nil]
    omega
   ·simp only; omega
  ·simp only [decide_eq_false_iff_not] at h
   have hj : j = 0 := by omega
   subst hj
   rw [b0t, dif_pos rfl] at hp
   subst hp
   refine aD ?_
   exact aA ⟨⟨_, rfl, by simp only [go_sem]⟩, trivial⟩
def cnInt (x : Int) : Nat := 1
theorem a6d : ∀ x, 1 ≤ cnInt x := fun x => by unfold cnInt; omega
def xP (x : Int) (k : Int) : Int := k
theorem xQ (l : List Int) (k : Int) (hk : 1 ≤ k ∧ k + (csum cnInt l : Nat) ≤ 4611686018427387904) : FnM Tryz.prog 97 false [.w 0 1 (l.map fA)] [.w 0 1 ((mkL xP cnInt l k).map fA)] k (k + (csum cnInt l : Nat)) := by
 have hlen := fO cnInt a6d l
 refine entm Tryz.func97 rfl Tryz.call97 rfl (by simp) (by simp only [go_sem]) (fun C tg => ?_); simp only [go_sem, Tryz.ntmps97]
 refine aD ?_
 refine aN (α := Nat) (fun j => [(5, oi j), (1, oi (k + (csum cnInt (l.take j) : Nat)))]) (fun j => [(0, .own (tg 0) 1 (uQ fA xP cnInt l k j))]) (fun j => j ≤ l.length) (fun j => l.length - j) 0 (fun _ => ?_) ?_ ?_ (fun j hj => ?_)
 ·simp only [go_sem]
 ·simp only [go_sem]; simp [lD, csum]
 ·simp
 ·simp only [go_sem]
  refine aD ?_
  refine cnd rfl (fun h => ?_) (fun h => ?_)
  ·simp only [decide_eq_true_eq, Int.ofNat_lt] at h
   have hs := eZ cnInt l h
   have ht := iD cnInt l (j + 1)
   have hc : cnInt l[j] = 1 := rfl
   have hset := nM fA xP cnInt l k j h
   have hkk : k + (csum cnInt (l.take (j + 1)) : Nat) = k + (csum cnInt (l.take j) : Nat) + (cnInt l[j] : Nat) := by omega
   generalize k + (csum cnInt (l.take j) : Nat) = K at hset hkk ⊢
   have hK : 1 ≤ K ∧ K + (cnInt l[j] : Nat) ≤ 4611686018427387904 := by omega
   have q0 := @h; refine gF ?_
   refine aF (j + 1) ?_ ?_ ?_
   ·simp only [go_sem, hkk, ← hset]
    simp [xP, fA, hc]
    try omega
   ·omega
   ·omega
  ·simp only [decide_eq_false_iff_not] at h
   have e : j = l.length := by omega
   subst e
   refine aD ?_
   exact ⟨⟨⟨_, rfl, by simp only [go_sem, fZ, List.take_length]⟩, trivial⟩, by simp only [go_sem, fZ, List.take_length]⟩
theorem xR (l : List Int) (k : Int) (hk : 1 ≤ k ∧ k + (csum cnInt l : Nat) ≤ 4611686018427387904) : FnC Tryz.prog 98 [.o (.d (.sl ((mkL xP cnInt l k).map fA))), oi k] (oi (k + (csum cnInt l : Nat))) := by
 have hlen := fO cnInt a6d l
 refine ent Tryz.func98 rfl Tryz.call98 rfl (fun C => ?_); simp only [go_sem, st0, Tryz.ntmps98]
 refine aD ?_
 refine aN (α := Nat) (fun j => [(5, oi j), (1, oi (k + (csum cnInt (l.take j) : Nat)))]) (fun _ => []) (fun j => j ≤ l.length) (fun j => l.length - j) 0 (fun _ => ?_) ?_ ?_ (fun j hj => ?_)
 ·simp only [go_sem]
 ·simp only [go_sem]; simp [csum]
 ·simp
 ·simp only [go_sem]
  refine aD ?_
  refine cnd rfl (fun h => ?_) (fun h => ?_)
  ·simp only [decide_eq_true_eq, Int.ofNat_lt] at h
   have hs := eZ cnInt l h
   have ht := iD cnInt l (j + 1)
   have hc : cnInt l[j] = 1 := rfl
   have hkk : k + (csum cnInt (l.take (j + 1)) : Nat) = k + (csum cnInt (l.take j) : Nat) + (cnInt l[j] : Nat) := by omega
   have hg := lQ xP cnInt l k j (by rw [eH]; exact h)
   generalize k + (csum cnInt (l.take j) : Nat) = K at hg hkk ⊢
   have hK : 1 ≤ K ∧ K + (cnInt l[j] : Nat) ≤ 4611686018427387904 := by omega
   repeat' (with_reducible first | refine nY ?_ | (refine mX ?_; try simp only [go_sem, h, hg, xP]) | refine kO ?_ (by decide) | refine a3K (by kernel_rfl) ?_ | (refine And.intro ?_ ?_; focus omega))
   refine aF (j + 1) ?_ ?_ ?_
   ·simp only [go_sem, hkk]
    simp [hc]
    try omega
   ·omega
   ·omega
  ·simp only [decide_eq_false_iff_not] at h
   have e : j = l.length := by omega
   subst e
   refine aD ?_
   exact aA ⟨⟨_, rfl, by simp only [go_sem, List.take_length]⟩, trivial⟩
def b9Y (x : ByteArray) : Nat := 1
def b9Z (x : ByteArray) (k : Int) : ByteArray := (rC k)
def b9M (x : Bool) : Nat := 1
def b9N (x : Bool) (k : Int) : Bool := (decide (Int.tmod k 3 = 0))
end Go.Proofs.YtddimbdeggomaaaGreat
end
section
set_option linter.all false
set_option maxRecDepth 100000
set_option maxHeartbeats 4000000
namespace Go.Proofs.YtddimbdeggomaaaGreat
open Go Go.Sx Go.RowKit Go.Proofs
def cnField (x : TField) : Nat := 2
theorem a2v : ∀ x, 1 ≤ cnField x := fun x => by unfold cnField; omega
def lX (x : TField) (k : Int) : TField := ⟨(rC k), (k + 1)⟩
theorem a5n (l : List TField) (k : Int) (hk : 1 ≤ k ∧ k + (csum cnField l : Nat) ≤ 4611686018427387904) : FnM Tryz.prog 93 false [.w 0 2 (l.map bG)] [.w 0 2 ((mkL lX cnField l k).map bG)] k (k + (csum cnField l : Nat)) := by
 have hlen := fO cnField a2v l
 refine entm Tryz.func93 rfl Tryz.call93 rfl (by simp) (by simp only [go_sem]) (fun C tg => ?_); simp only [go_sem, Tryz.ntmps93]
 refine aD ?_
 refine aN (α := Nat) (fun j => [(5, oi j), (1, oi (k + (csum cnField (l.take j) : Nat)))]) (fun j => [(0, .own (tg 0) 2 (uQ bG lX cnField l k j))]) (fun j => j ≤ l.length) (fun j => l.length - j) 0 (fun _ => ?_) ?_ ?_ (fun j hj => ?_)
 ·simp only [go_sem]
 ·simp only [go_sem]; simp [lD, csum]
 ·simp
 ·simp only [go_sem]
  refine aD ?_
  refine cnd rfl (fun h => ?_) (fun h => ?_)
  ·simp only [decide_eq_true_eq, Int.ofNat_lt] at h
   have hs := eZ cnField l h
   have ht := iD cnField l (j + 1)
   have hc : cnField l[j] = 2 := rfl
   have hset := nM bG lX cnField l k j h
   have hkk : k + (csum cnField (l.take (j + 1)) : Nat) = k + (csum cnField (l.take j) : Nat) + (cnField l[j] : Nat) := by omega
   generalize k + (csum cnField (l.take j) : Nat) = K at hset hkk ⊢
   have hK : 1 ≤ K ∧ K + (cnField l[j] : Nat) ≤ 4611686018427387904 := by omega
   have q0 := @h; refine fE (dP K (by omega)) ?_
   refine aF (j + 1) ?_ ?_ ?_
   ·simp only [go_sem, hkk, ← hset]
    simp [lX, bG, hc]
    try omega
   ·omega
   ·omega
  ·simp only [decide_eq_false_iff_not] at h
   have e : j = l.length := by omega
   subst e
   refine aD ?_
   exact ⟨⟨⟨_, rfl, by simp only [go_sem, fZ, List.take_length]⟩, trivial⟩, by simp only [go_sem, fZ, List.take_length]⟩
theorem a5o (l : List TField) (k : Int) (hk : 1 ≤ k ∧ k + (csum cnField l : Nat) ≤ 4611686018427387904) : FnC Tryz.prog 176 [.o (.d (.sl ((mkL lX cnField l k).map bG))), oi k] (oi (k + (csum cnField l : Nat))) := by
 have hlen := fO cnField a2v l
 refine ent Tryz.func176 rfl Tryz.call176 rfl (fun C => ?_); simp only [go_sem, st0, Tryz.ntmps176]
 refine aD ?_
 refine aN (α := Nat) (fun j => [(5, oi j), (1, oi (k + (csum cnField (l.take j) : Nat)))]) (fun _ => []) (fun j => j ≤ l.length) (fun j => l.length - j) 0 (fun _ => ?_) ?_ ?_ (fun j hj => ?_)
 ·simp only [go_sem]
 ·simp only [go_sem]; simp [csum]
 ·simp
 ·simp only [go_sem]
  refine aD ?_
  refine cnd rfl (fun h => ?_) (fun h => ?_)
  ·simp only [decide_eq_true_eq, Int.ofNat_lt] at h
   have hs := eZ cnField l h
   have ht := iD cnField l (j + 1)
   have hc : cnField l[j] = 2 := rfl
   have hkk : k + (csum cnField (l.take (j + 1)) : Nat) = k + (csum cnField (l.take j) : Nat) + (cnField l[j] : Nat) := by omega
   have hg := lQ lX cnField l k j (by rw [eH]; exact h)
   generalize k + (csum cnField (l.take j) : Nat) = K at hg hkk ⊢
   have hK : 1 ≤ K ∧ K + (cnField l[j] : Nat) ≤ 4611686018427387904 := by omega
   repeat' (with_reducible first | refine nY ?_ | (refine mX ?_; try simp only [go_sem, h, hg, lX]) | refine kO ?_ (by decide) | refine a3K (by kernel_rfl) ?_ | (refine cC (dP K (by omega)) ?_ ?_; focus simp only [go_sem, and_self]; done) | (refine And.intro ?_ ?_; focus omega))
   refine aF (j + 1) ?_ ?_ ?_
   ·simp only [go_sem, hkk]
    simp [hc]
    try omega
   ·omega
   ·omega
  ·simp only [decide_eq_false_iff_not] at h
   have e : j = l.length := by omega
   subst e
   refine aD ?_
   exact aA ⟨⟨_, rfl, by simp only [go_sem, List.take_length]⟩, trivial⟩
def cnAttr (x : TAttr) : Nat := 4
theorem a4i : ∀ x, 1 ≤ cnAttr x := fun x => by unfold cnAttr; omega
def pV (x : TAttr) (k : Int) : TAttr := ⟨(rC k), ⟨(k + 1), ((k + 1) + 1), (rC (((k + 1) + 1) + 1))⟩⟩
theorem a1b (l : List TAttr) (k : Int) (hk : 1 ≤ k ∧ k + (csum cnAttr l : Nat) ≤ 4611686018427387904) : FnM Tryz.prog 66 false [.w 0 4 (l.map dM)] [.w 0 4 ((mkL pV cnAttr l k).map dM)] k (k + (csum cnAttr l : Nat)) := by
 have hlen := fO cnAttr a4i l
 refine entm Tryz.func66 rfl Tryz.call66 rfl (by simp) (by simp only [go_sem]) (fun C tg => ?_); simp only [go_sem, Tryz.ntmps66]
 refine aD ?_
 refine aN (α := Nat) (fun j => [(5, oi j), (1, oi (k + (csum cnAttr (l.take j) : Nat)))]) (fun j => [(0, .own (tg 0) 4 (uQ dM pV cnAttr l k j))]) (fun j => j ≤ l.length) (fun j => l.length - j) 0 (fun _ => ?_) ?_ ?_ (fun j hj => ?_)
 ·simp only [go_sem]
 ·simp only [go_sem]; simp [lD, csum]
 ·simp
 ·simp only [go_sem]
  refine aD ?_
  refine cnd rfl (fun h => ?_) (fun h => ?_)
  ·simp only [decide_eq_true_eq, Int.ofNat_lt] at h
   have hs := eZ cnAttr l h
   have ht := iD cnAttr l (j + 1)
   have hc : cnAttr l[j] = 4 := rfl
   have hset := nM dM pV cnAttr l k j h
   have hkk : k + (csum cnAttr (l.take (j + 1)) : Nat) = k + (csum cnAttr (l.take j) : Nat) + (cnAttr l[j] : Nat) := by omega
   generalize k + (csum cnAttr (l.take j) : Nat) = K at hset hkk ⊢
   have hK : 1 ≤ K ∧ K + (cnAttr l[j] : Nat) ≤ 4611686018427387904 := by omega
   have q0 := @h; refine a3Q (dP K (by omega)) (dP (((K + 1) + 1) + 1) (by omega)) ?_
   refine aF (j + 1) ?_ ?_ ?_
   ·simp only [go_sem, hkk, ← hset]
    simp [pV, dM, hc]
    try omega
   ·omega
   ·omega
  ·simp only [decide_eq_false_iff_not] at h
   have e : j = l.length := by omega
   subst e
   refine aD ?_
   exact ⟨⟨⟨_, rfl, by simp only [go_sem, fZ, List.take_length]⟩, trivial⟩, by simp only [go_sem, fZ, List.take_length]⟩
theorem a7b (l : List TAttr) (k : Int) (hk : 1 ≤ k ∧ k + (csum cnAttr l : Nat) ≤ 4611686018427387904) : FnC Tryz.prog 67 [.o (.d (.sl ((mkL pV cnAttr l k).map dM))), oi k] (oi (k + (csum cnAttr l : Nat))) := by
 have hlen := fO cnAttr a4i l
 refine ent Tryz.func67 rfl Tryz.call67 rfl (fun C => ?_); simp only [go_sem, st0, Tryz.ntmps67]
 refine aD ?_
 refine aN (α := Nat) (fun j => [(5, oi j), (1, oi (k + (csum cnAttr (l.take j) : Nat)))]) (fun _ => []) (fun j => j ≤ l.length) (fun j => l.length - j) 0 (fun _ => ?_) ?_ ?_ (fun j hj => ?_)
 ·simp only [go_sem]
 ·simp only [go_sem]; simp [csum]
 ·simp
 ·simp only [go_sem]
  refine aD ?_
  refine cnd rfl (fun h => ?_) (fun h => ?_)
  ·simp only [decide_eq_true_eq, Int.ofNat_lt] at h
   have hs := eZ cnAttr l h
   have ht := iD cnAttr l (j + 1)
   have hc : cnAttr l[j] = 4 := rfl
   have hkk : k + (csum cnAttr (l.take (j + 1)) : Nat) = k + (csum cnAttr (l.take j) : Nat) + (cnAttr l[j] : Nat) := by omega
   have hg := lQ pV cnAttr l k j (by rw [eH]; exact h)
   generalize k + (csum cnAttr (l.take j) : Nat) = K at hg hkk ⊢
   have hK : 1 ≤ K ∧ K + (cnAttr l[j] : Nat) ≤ 4611686018427387904 := by omega
   repeat' (with_reducible first | refine nY ?_ | (refine mX ?_; try simp only [go_sem, h, hg, pV]) | refine kO ?_ (by decide) | refine a3K (by kernel_rfl) ?_ | (refine cC (dP K (by omega)) ?_ ?_; focus simp only [go_sem, and_self]; done) | (refine cC (dP (((K + 1) + 1) + 1) (by omega)) ?_ ?_; focus simp only [go_sem, and_self]; done) | (refine And.intro ?_ ?_; focus omega))
   refine aF (j + 1) ?_ ?_ ?_
   ·simp only [go_sem, hkk]
    simp [hc]
    try omega
   ·omega
   ·omega
  ·simp only [decide_eq_false_iff_not] at h
   have e : j = l.length := by omega
   subst e
   refine aD ?_
   exact aA ⟨⟨_, rfl, by simp only [go_sem, List.take_length]⟩, trivial⟩
def cnNode (x : TNode) : Nat := 7
theorem a4j : ∀ x, 1 ≤ cnNode x := fun x => by unfold cnNode; omega
def pW (x : TNode) (k : Int) : TNode := ⟨k, (k + 1), ((k + 1) + 1), (rC (((k + 1) + 1) + 1)), ⟨((((k + 1) + 1) + 1) + 1), (((((k + 1) + 1) + 1) + 1) + 1), (rC ((((((k + 1) + 1) + 1) + 1) + 1) + 1))⟩⟩
theorem a1c (l : List TNode) (k : Int) (hk : 1 ≤ k ∧ k + (csum cnNode l : Nat) ≤ 4611686018427387904) : FnM Tryz.prog 96 false [.w 0 7 (l.map aW)] [.w 0 7 ((mkL pW cnNode l k).map aW)] k (k + (csum cnNode l : Nat)) := by
 have hlen := fO cnNode a4j l
 refine entm Tryz.func96 rfl Tryz.call96 rfl (by simp) (by simp only [go_sem]) (fun C tg => ?_); simp only [go_sem, Tryz.ntmps96]
 refine aD ?_
 refine aN (α := Nat) (fun j => [(5, oi j), (1, oi (k + (csum cnNode (l.take j) : Nat)))]) (fun j => [(0, .own (tg 0) 7 (uQ aW pW cnNode l k j))]) (fun j => j ≤ l.length) (fun j => l.length - j) 0 (fun _ => ?_) ?_ ?_ (fun j hj => ?_)
 ·simp only [go_sem]
 ·simp only [go_sem]; simp [lD, csum]
 ·simp
 ·simp only [go_sem]
  refine aD ?_
  refine cnd rfl (fun h => ?_) (fun h => ?_)
  ·simp only [decide_eq_true_eq, Int.ofNat_lt] at h
   have hs := eZ cnNode l h
   have ht := iD cnNode l (j + 1)
   have hc : cnNode l[j] = 7 := rfl
   have hset := nM aW pW cnNode l k j h
   have hkk : k + (csum cnNode (l.take (j + 1)) : Nat) = k + (csum cnNode (l.take j) : Nat) + (cnNode l[j] : Nat) := by omega
   generalize k + (csum cnNode (l.take j) : Nat) = K at hset hkk ⊢
   have hK : 1 ≤ K ∧ K + (cnNode l[j] : Nat) ≤ 4611686018427387904 := by omega
   have q0 := @h; refine a3Q (dP (((K + 1) + 1) + 1) (by omega)) (dP ((((((K + 1) + 1) + 1) + 1) + 1) + 1) (by omega)) ?_
   refine aF (j + 1) ?_ ?_ ?_
   ·simp only [go_sem, hkk, ← hset]
    simp [pW, aW, hc]
    try omega
   ·omega
   ·omega
  ·simp only [decide_eq_false_iff_not] at h
   have e : j = l.length := by omega
   subst e
   refine aD ?_
   exact ⟨⟨⟨_, rfl, by simp only [go_sem, fZ, List.take_length]⟩, trivial⟩, by simp only [go_sem, fZ, List.take_length]⟩
theorem a7c (l : List TNode) (k : Int) (hk : 1 ≤ k ∧ k + (csum cnNode l : Nat) ≤ 4611686018427387904) : FnC Tryz.prog 178 [.o (.d (.sl ((mkL pW cnNode l k).map aW))), oi k] (oi (k + (csum cnNode l : Nat))) := by
 have hlen := fO cnNode a4j l
 refine ent Tryz.func178 rfl Tryz.call178 rfl (fun C => ?_); simp only [go_sem, st0, Tryz.ntmps178]
 refine aD ?_
 refine aN (α := Nat) (fun j => [(5, oi j), (1, oi (k + (csum cnNode (l.take j) : Nat)))]) (fun _ => []) (fun j => j ≤ l.length) (fun j => l.length - j) 0 (fun _ => ?_) ?_ ?_ (fun j hj => ?_)
 ·simp only [go_sem]
 ·simp only [go_sem]; simp [csum]
 ·simp
 ·simp only [go_sem]
  refine aD ?_
  refine cnd rfl (fun h => ?_) (fun h => ?_)
  ·simp only [decide_eq_true_eq, Int.ofNat_lt] at h
   have hs := eZ cnNode l h
   have ht := iD cnNode l (j + 1)
   have hc : cnNode l[j] = 7 := rfl
   have hkk : k + (csum cnNode (l.take (j + 1)) : Nat) = k + (csum cnNode (l.take j) : Nat) + (cnNode l[j] : Nat) := by omega
   have hg := lQ pW cnNode l k j (by rw [eH]; exact h)
   generalize k + (csum cnNode (l.take j) : Nat) = K at hg hkk ⊢
   have hK : 1 ≤ K ∧ K + (cnNode l[j] : Nat) ≤ 4611686018427387904 := by omega
   repeat' (with_reducible first | refine nY ?_ | (refine mX ?_; try simp only [go_sem, h, hg, pW]) | refine kO ?_ (by decide) | refine a3K (by kernel_rfl) ?_ | (refine cC (dP (((K + 1) + 1) + 1) (by omega)) ?_ ?_; focus simp only [go_sem, and_self]; done) | (refine cC (dP ((((((K + 1) + 1) + 1) + 1) + 1) + 1) (by omega)) ?_ ?_; focus simp only [go_sem, and_self]; done) | (refine And.intro ?_ ?_; focus omega))
   refine aF (j + 1) ?_ ?_ ?_
   ·simp only [go_sem, hkk]
    simp [hc]
    try omega
   ·omega
   ·omega
  ·simp only [decide_eq_false_iff_not] at h
   have e : j = l.length := by omega
   subst e
   refine aD ?_
   exact aA ⟨⟨_, rfl, by simp only [go_sem, List.take_length]⟩, trivial⟩
end Go.Proofs.YtddimbdeggomaaaGreat
end
section
set_option linter.all false
set_option maxRecDepth 100000
set_option maxHeartbeats 4000000
namespace Go.Proofs.YtddimbdeggomaaaGreat
open Go Go.Sx Go.RowKit Go.Proofs
def cnFile (x : TFile) : Nat := 4 + csum cnAttr x.fAttrs
theorem a4k : ∀ x, 1 ≤ cnFile x := fun x => by unfold cnFile; omega
def pX (x : TFile) (k : Int) : TFile := ⟨k, (k + 1), (decide (Int.tmod ((k + 1) + 1) 3 = 0)), (((k + 1) + 1) + 1), (mkL pV cnAttr x.fAttrs ((((k + 1) + 1) + 1) + 1))⟩
theorem a7d (l : List TFile) (k : Int) (hk : 1 ≤ k ∧ k + (csum cnFile l : Nat) ≤ 4611686018427387904) : FnM Tryz.prog 94 false [.w 0 5 (l.map bB)] [.w 0 5 ((mkL pX cnFile l k).map bB)] k (k + (csum cnFile l : Nat)) := by
 have hlen := fO cnFile a4k l
 refine entm Tryz.func94 rfl Tryz.call94 rfl (by simp) (by simp only [go_sem]) (fun C tg => ?_); simp only [go_sem, Tryz.ntmps94]
 refine aD ?_
 refine aN (α := Nat) (fun j => [(5, oi j), (1, oi (k + (csum cnFile (l.take j) : Nat)))]) (fun j => [(0, .own (tg 0) 5 (uQ bB pX cnFile l k j))]) (fun j => j ≤ l.length) (fun j => l.length - j) 0 (fun _ => ?_) ?_ ?_ (fun j hj => ?_)
 ·simp only [go_sem]
 ·simp only [go_sem]; simp [lD, csum]
 ·simp
 ·simp only [go_sem]
  refine aD ?_
  refine cnd rfl (fun h => ?_) (fun h => ?_)
  ·simp only [decide_eq_true_eq, Int.ofNat_lt] at h
   have hs := eZ cnFile l h
   have ht := iD cnFile l (j + 1)
   have hc : cnFile l[j] = 4 + csum cnAttr l[j].fAttrs := rfl
   have hset := nM bB pX cnFile l k j h
   have hkk : k + (csum cnFile (l.take (j + 1)) : Nat) = k + (csum cnFile (l.take j) : Nat) + (cnFile l[j] : Nat) := by omega
   generalize k + (csum cnFile (l.take j) : Nat) = K at hset hkk ⊢
   have hK : 1 ≤ K ∧ K + (cnFile l[j] : Nat) ≤ 4611686018427387904 := by omega
   have qH := @h; repeat' (with_reducible first | refine nY ?_ | (refine mX ?_; try simp only [go_sem, qH]) | refine kD ?_ | refine rD ?_ | refine vN (a1b l[j].fAttrs _ (by omega)) ?_ | refine aO ?_ | fail)
   refine aF (j + 1) ?_ ?_ ?_
   ·simp only [go_sem, hkk, ← hset]
    simp [pX, bB, hc]
    try omega
   ·omega
   ·omega
  ·simp only [decide_eq_false_iff_not] at h
   have e : j = l.length := by omega
   subst e
   refine aD ?_
   exact ⟨⟨⟨_, rfl, by simp only [go_sem, fZ, List.take_length]⟩, trivial⟩, by simp only [go_sem, fZ, List.take_length]⟩
theorem a7e (l : List TFile) (k : Int) (hk : 1 ≤ k ∧ k + (csum cnFile l : Nat) ≤ 4611686018427387904) : FnC Tryz.prog 177 [.o (.d (.sl ((mkL pX cnFile l k).map bB))), oi k] (oi (k + (csum cnFile l : Nat))) := by
 have hlen := fO cnFile a4k l
 refine ent Tryz.func177 rfl Tryz.call177 rfl (fun C => ?_); simp only [go_sem, st0, Tryz.ntmps177]
 refine aD ?_
 refine aN (α := Nat) (fun j => [(5, oi j), (1, oi (k + (csum cnFile (l.take j) : Nat)))]) (fun _ => []) (fun j => j ≤ l.length) (fun j => l.length - j) 0 (fun _ => ?_) ?_ ?_ (fun j hj => ?_)
 ·simp only [go_sem]
 ·simp only [go_sem]; simp [csum]
 ·simp
 ·simp only [go_sem]
  refine aD ?_
  refine cnd rfl (fun h => ?_) (fun h => ?_)
  ·simp only [decide_eq_true_eq, Int.ofNat_lt] at h
   have hs := eZ cnFile l h
   have ht := iD cnFile l (j + 1)
   have hc : cnFile l[j] = 4 + csum cnAttr l[j].fAttrs := rfl
   have hkk : k + (csum cnFile (l.take (j + 1)) : Nat) = k + (csum cnFile (l.take j) : Nat) + (cnFile l[j] : Nat) := by omega
   have hg := lQ pX cnFile l k j (by rw [eH]; exact h)
   generalize k + (csum cnFile (l.take j) : Nat) = K at hg hkk ⊢
   have hK : 1 ≤ K ∧ K + (cnFile l[j] : Nat) ≤ 4611686018427387904 := by omega
   have hneg0 : ¬ (((((K + 1) + 1) + 1) + 1) + (csum cnAttr l[j].fAttrs : Nat) < 0) := by omega
   repeat' (with_reducible first | refine nY ?_ | (refine mX ?_; try simp only [go_sem, h, hg, pX, hneg0]) | refine kO ?_ (by decide) | refine a3K (by kernel_rfl) ?_ | (refine cC (a7b l[j].fAttrs ((((K + 1) + 1) + 1) + 1) (by omega)) ?_ ?_; focus simp only [go_sem, and_self]; done) | (refine And.intro ?_ ?_; focus omega))
   refine aF (j + 1) ?_ ?_ ?_
   ·simp only [go_sem, hkk]
    simp [hc]
    try omega
   ·omega
   ·omega
  ·simp only [decide_eq_false_iff_not] at h
   have e : j = l.length := by omega
   subst e
   refine aD ?_
   exact aA ⟨⟨_, rfl, by simp only [go_sem, List.take_length]⟩, trivial⟩
def cnDir (x : TDir) : Nat := 1 + csum cnNode x.fQuery
theorem a6e : ∀ x, 1 ≤ cnDir x := fun x => by unfold cnDir; omega
def a1d (x : TDir) (k : Int) : TDir := ⟨(rC k), (mkL pW cnNode x.fQuery (k + 1))⟩
theorem a8I (l : List TDir) (k : Int) (hk : 1 ≤ k ∧ k + (csum cnDir l : Nat) ≤ 4611686018427387904) : FnM Tryz.prog 29 false [.w 0 2 (l.map aM)] [.w 0 2 ((mkL a1d cnDir l k).map aM)] k (k + (csum cnDir l : Nat)) := by
 have hlen := fO cnDir a6e l
 refine entm Tryz.func29 rfl Tryz.call29 rfl (by simp) (by simp only [go_sem]) (fun C tg => ?_); simp only [go_sem, Tryz.ntmps29]
 refine aD ?_
 refine aN (α := Nat) (fun j => [(5, oi j), (1, oi (k + (csum cnDir (l.take j) : Nat)))]) (fun j => [(0, .own (tg 0) 2 (uQ aM a1d cnDir l k j))]) (fun j => j ≤ l.length) (fun j => l.length - j) 0 (fun _ => ?_) ?_ ?_ (fun j hj => ?_)
 ·simp only [go_sem]
 ·simp only [go_sem]; simp [lD, csum]
 ·simp
 ·simp only [go_sem]
  refine aD ?_
  refine cnd rfl (fun h => ?_) (fun h => ?_)
  ·simp only [decide_eq_true_eq, Int.ofNat_lt] at h
   have hs := eZ cnDir l h
   have ht := iD cnDir l (j + 1)
   have hc : cnDir l[j] = 1 + csum cnNode l[j].fQuery := rfl
   have hset := nM aM a1d cnDir l k j h
   have hkk : k + (csum cnDir (l.take (j + 1)) : Nat) = k + (csum cnDir (l.take j) : Nat) + (cnDir l[j] : Nat) := by omega
   generalize k + (csum cnDir (l.take j) : Nat) = K at hset hkk ⊢
   have hK : 1 ≤ K ∧ K + (cnDir l[j] : Nat) ≤ 4611686018427387904 := by omega
   have qH := @h; repeat' (with_reducible first | refine nY ?_ | (refine mX ?_; try simp only [go_sem, qH]) | refine kD ?_ | refine rD ?_ | refine cP (dP K (by omega)) ?_ | refine vN (a1c l[j].fQuery _ (by omega)) ?_ | refine aO ?_ | fail)
   refine aF (j + 1) ?_ ?_ ?_
   ·simp only [go_sem, hkk, ← hset]
    simp [a1d, aM, hc]
    try omega
   ·omega
   ·omega
  ·simp only [decide_eq_false_iff_not] at h
   have e : j = l.length := by omega
   subst e
   refine aD ?_
   exact ⟨⟨⟨_, rfl, by simp only [go_sem, fZ, List.take_length]⟩, trivial⟩, by simp only [go_sem, fZ, List.take_length]⟩
theorem a8J (l : List TDir) (k : Int) (hk : 1 ≤ k ∧ k + (csum cnDir l : Nat) ≤ 4611686018427387904) : FnC Tryz.prog 106 [.o (.d (.sl ((mkL a1d cnDir l k).map aM))), oi k] (oi (k + (csum cnDir l : Nat))) := by
 have hlen := fO cnDir a6e l
 refine ent Tryz.func106 rfl Tryz.call106 rfl (fun C => ?_); simp only [go_sem, st0, Tryz.ntmps106]
 refine aD ?_
 refine aN (α := Nat) (fun j => [(5, oi j), (1, oi (k + (csum cnDir (l.take j) : Nat)))]) (fun _ => []) (fun j => j ≤ l.length) (fun j => l.length - j) 0 (fun _ => ?_) ?_ ?_ (fun j hj => ?_)
 ·simp only [go_sem]
 ·simp only [go_sem]; simp [csum]
 ·simp
 ·simp only [go_sem]
  refine aD ?_
  refine cnd rfl (fun h => ?_) (fun h => ?_)
  ·simp only [decide_eq_true_eq, Int.ofNat_lt] at h
   have hs := eZ cnDir l h
   have ht := iD cnDir l (j + 1)
   have hc : cnDir l[j] = 1 + csum cnNode l[j].fQuery := rfl
   have hkk : k + (csum cnDir (l.take (j + 1)) : Nat) = k + (csum cnDir (l.take j) : Nat) + (cnDir l[j] : Nat) := by omega
   have hg := lQ a1d cnDir l k j (by rw [eH]; exact h)
   generalize k + (csum cnDir (l.take j) : Nat) = K at hg hkk ⊢
   have hK : 1 ≤ K ∧ K + (cnDir l[j] : Nat) ≤ 4611686018427387904 := by omega
   have hneg0 : ¬ ((K + 1) + (csum cnNode l[j].fQuery : Nat) < 0) := by omega
   repeat' (with_reducible first | refine nY ?_ | (refine mX ?_; try simp only [go_sem, h, hg, a1d, hneg0]) | refine kO ?_ (by decide) | refine a3K (by kernel_rfl) ?_ | (refine cC (dP K (by omega)) ?_ ?_; focus simp only [go_sem, and_self]; done) | (refine cC (a7c l[j].fQuery (K + 1) (by omega)) ?_ ?_; focus simp only [go_sem, and_self]; done) | (refine And.intro ?_ ?_; focus omega))
   refine aF (j + 1) ?_ ?_ ?_
   ·simp only [go_sem, hkk]
    simp [hc]
    try omega
   ·omega
   ·omega
  ·simp only [decide_eq_false_iff_not] at h
   have e : j = l.length := by omega
   subst e
   refine aD ?_
   exact aA ⟨⟨_, rfl, by simp only [go_sem, List.take_length]⟩, trivial⟩
def cnResult (x : TResult) : Nat := 1 + csum cnInt x.fIDs
theorem a1e : ∀ x, 1 ≤ cnResult x := fun x => by unfold cnResult; omega
def lY (x : TResult) (k : Int) : TResult := ⟨(rC k), (mkL xP cnInt x.fIDs (k + 1))⟩
theorem a4l (l : List TResult) (k : Int) (hk : 1 ≤ k ∧ k + (csum cnResult l : Nat) ≤ 4611686018427387904) : FnM Tryz.prog 30 false [.w 0 2 (l.map aJ)] [.w 0 2 ((mkL lY cnResult l k).map aJ)] k (k + (csum cnResult l : Nat)) := by
 have hlen := fO cnResult a1e l
 refine entm Tryz.func30 rfl Tryz.call30 rfl (by simp) (by simp only [go_sem]) (fun C tg => ?_); simp only [go_sem, Tryz.ntmps30]
 refine aD ?_
 refine aN (α := Nat) (fun j => [(5, oi j), (1, oi (k + (csum cnResult (l.take j) : Nat)))]) (fun j => [(0, .own (tg 0) 2 (uQ aJ lY cnResult l k j))]) (fun j => j ≤ l.length) (fun j => l.length - j) 0 (fun _ => ?_) ?_ ?_ (fun j hj => ?_)
 ·simp only [go_sem]
 ·simp only [go_sem]; simp [lD, csum]
 ·simp
 ·simp only [go_sem]
  refine aD ?_
  refine cnd rfl (fun h => ?_) (fun h => ?_)
  ·simp only [decide_eq_true_eq, Int.ofNat_lt] at h
   have hs := eZ cnResult l h
   have ht := iD cnResult l (j + 1)
   have hc : cnResult l[j] = 1 + csum cnInt l[j].fIDs := rfl
   have hset := nM aJ lY cnResult l k j h
   have hkk : k + (csum cnResult (l.take (j + 1)) : Nat) = k + (csum cnResult (l.take j) : Nat) + (cnResult l[j] : Nat) := by omega
   generalize k + (csum cnResult (l.take j) : Nat) = K at hset hkk ⊢
   have hK : 1 ≤ K ∧ K + (cnResult l[j] : Nat) ≤ 4611686018427387904 := by omega
   have qH := @h; repeat' (with_reducible first | refine nY ?_ | (refine mX ?_; try simp only [go_sem, qH]) | refine kD ?_ | refine rD ?_ | refine cP (dP K (by omega)) ?_ | refine vN (xQ l[j].fIDs _ (by omega)) ?_ | refine aO ?_ | fail)
   refine aF (j + 1) ?_ ?_ ?_
   ·simp only [go_sem, hkk, ← hset]
    simp [lY, aJ, hc]
    try omega
   ·omega
   ·omega
  ·simp only [decide_eq_false_iff_not] at h
   have e : j = l.length := by omega
   subst e
   refine aD ?_
   exact ⟨⟨⟨_, rfl, by simp only [go_sem, fZ, List.take_length]⟩, trivial⟩, by simp only [go_sem, fZ, List.take_length]⟩
theorem a4m (l : List TResult) (k : Int) (hk : 1 ≤ k ∧ k + (csum cnResult l : Nat) ≤ 4611686018427387904) : FnC Tryz.prog 32 [.o (.d (.sl ((mkL lY cnResult l k).map aJ))), oi k] (oi (k + (csum cnResult l : Nat))) := by
 have hlen := fO cnResult a1e l
 refine ent Tryz.func32 rfl Tryz.call32 rfl (fun C => ?_); simp only [go_sem, st0, Tryz.ntmps32]
 refine aD ?_
 refine aN (α := Nat) (fun j => [(5, oi j), (1, oi (k + (csum cnResult (l.take j) : Nat)))]) (fun _ => []) (fun j => j ≤ l.length) (fun j => l.length - j) 0 (fun _ => ?_) ?_ ?_ (fun j hj => ?_)
 ·simp only [go_sem]
 ·simp only [go_sem]; simp [csum]
 ·simp
 ·simp only [go_sem]
  refine aD ?_
  refine cnd rfl (fun h => ?_) (fun h => ?_)
  ·simp only [decide_eq_true_eq, Int.ofNat_lt] at h
   have hs := eZ cnResult l h
   have ht := iD cnResult l (j + 1)
   have hc : cnResult l[j] = 1 + csum cnInt l[j].fIDs := rfl
   have hkk : k + (csum cnResult (l.take (j + 1)) : Nat) = k + (csum cnResult (l.take j) : Nat) + (cnResult l[j] : Nat) := by omega
   have hg := lQ lY cnResult l k j (by rw [eH]; exact h)
   generalize k + (csum cnResult (l.take j) : Nat) = K at hg hkk ⊢
   have hK : 1 ≤ K ∧ K + (cnResult l[j] : Nat) ≤ 4611686018427387904 := by omega
   have hneg0 : ¬ ((K + 1) + (csum cnInt l[j].fIDs : Nat) < 0) := by omega
   repeat' (with_reducible first | refine nY ?_ | (refine mX ?_; try simp only [go_sem, h, hg, lY, hneg0]) | refine kO ?_ (by decide) | refine a3K (by kernel_rfl) ?_ | (refine cC (dP K (by omega)) ?_ ?_; focus simp only [go_sem, and_self]; done) | (refine cC (xR l[j].fIDs (K + 1) (by omega)) ?_ ?_; focus simp only [go_sem, and_self]; done) | (refine And.intro ?_ ?_; focus omega))
   refine aF (j + 1) ?_ ?_ ?_
   ·simp only [go_sem, hkk]
    simp [hc]
    try omega
   ·omega
   ·omega
  ·simp only [decide_eq_false_iff_not] at h
   have e : j = l.length := by omega
   subst e
   refine aD ?_
   exact aA ⟨⟨_, rfl, by simp only [go_sem, List.take_length]⟩, trivial⟩
def cnDiff (x : TDiff) : Nat := 1 + csum cnInt x.fAdded + csum cnInt x.fRemoved
theorem a4n : ∀ x, 1 ≤ cnDiff x := fun x => by unfold cnDiff; omega
def a0g (x : TDiff) (k : Int) : TDiff := ⟨(rC k), (mkL xP cnInt x.fAdded (k + 1)), (mkL xP cnInt x.fRemoved ((k + 1) + (csum cnInt x.fAdded : Nat)))⟩
theorem a1f (l : List TDiff) (k : Int) (hk : 1 ≤ k ∧ k + (csum cnDiff l : Nat) ≤ 4611686018427387904) : FnM Tryz.prog 47 false [.w 0 3 (l.map dG)] [.w 0 3 ((mkL a0g cnDiff l k).map dG)] k (k + (csum cnDiff l : Nat)) := by
 have hlen := fO cnDiff a4n l
 refine entm Tryz.func47 rfl Tryz.call47 rfl (by simp) (by simp only [go_sem]) (fun C tg => ?_); simp only [go_sem, Tryz.ntmps47]
 refine aD ?_
 refine aN (α := Nat) (fun j => [(5, oi j), (1, oi (k + (csum cnDiff (l.take j) : Nat)))]) (fun j => [(0, .own (tg 0) 3 (uQ dG a0g cnDiff l k j))]) (fun j => j ≤ l.length) (fun j => l.length - j) 0 (fun _ => ?_) ?_ ?_ (fun j hj => ?_)
 ·simp only [go_sem]
 ·simp only [go_sem]; simp [lD, csum]
 ·simp
 ·simp only [go_sem]
  refine aD ?_
  refine cnd rfl (fun h => ?_) (fun h => ?_)
  ·simp only [decide_eq_true_eq, Int.ofNat_lt] at h
   have hs := eZ cnDiff l h
   have ht := iD cnDiff l (j + 1)
   have hc : cnDiff l[j] = 1 + csum cnInt l[j].fAdded + csum cnInt l[j].fRemoved := rfl
   have hset := nM dG a0g cnDiff l k j h
   have hkk : k + (csum cnDiff (l.take (j + 1)) : Nat) = k + (csum cnDiff (l.take j) : Nat) + (cnDiff l[j] : Nat) := by omega
   generalize k + (csum cnDiff (l.take j) : Nat) = K at hset hkk ⊢
   have hK : 1 ≤ K ∧ K + (cnDiff l[j] : Nat) ≤ 4611686018427387904 := by omega
   have qH := @h; repeat' (with_reducible first | refine nY ?_ | (refine mX ?_; try simp only [go_sem, qH]) | refine kD ?_ | refine rD ?_ | refine cP (dP K (by omega)) ?_ | refine vN (xQ l[j].fAdded _ (by omega)) ?_ | refine vN (xQ l[j].fRemoved _ (by omega)) ?_ | refine aO ?_ | fail)
   refine aF (j + 1) ?_ ?_ ?_
   ·simp only [go_sem, hkk, ← hset]
    simp [a0g, dG, hc]
    try omega
   ·omega
   ·omega
  ·simp only [decide_eq_false_iff_not] at h
   have e : j = l.length := by omega
   subst e
   refine aD ?_
   exact ⟨⟨⟨_, rfl, by simp only [go_sem, fZ, List.take_length]⟩, trivial⟩, by simp only [go_sem, fZ, List.take_length]⟩
theorem oK (l : List TDiff) (k : Int) (hk : 1 ≤ k ∧ k + (csum cnDiff l : Nat) ≤ 4611686018427387904) : FnC Tryz.prog 48 [.o (.d (.sl ((mkL a0g cnDiff l k).map dG))), oi k] (oi (k + (csum cnDiff l : Nat))) := by
 have hlen := fO cnDiff a4n l
 refine ent Tryz.func48 rfl Tryz.call48 rfl (fun C => ?_); simp only [go_sem, st0, Tryz.ntmps48]
 refine aD ?_
 refine aN (α := Nat) (fun j => [(5, oi j), (1, oi (k + (csum cnDiff (l.take j) : Nat)))]) (fun _ => []) (fun j => j ≤ l.length) (fun j => l.length - j) 0 (fun _ => ?_) ?_ ?_ (fun j hj => ?_)
 ·simp only [go_sem]
 ·simp only [go_sem]; simp [csum]
 ·simp
 ·simp only [go_sem]
  refine aD ?_
  refine cnd rfl (fun h => ?_) (fun h => ?_)
  ·simp only [decide_eq_true_eq, Int.ofNat_lt] at h
   have hs := eZ cnDiff l h
   have ht := iD cnDiff l (j + 1)
   have hc : cnDiff l[j] = 1 + csum cnInt l[j].fAdded + csum cnInt l[j].fRemoved := rfl
   have hkk : k + (csum cnDiff (l.take (j + 1)) : Nat) = k + (csum cnDiff (l.take j) : Nat) + (cnDiff l[j] : Nat) := by omega
   have hg := lQ a0g cnDiff l k j (by rw [eH]; exact h)
   generalize k + (csum cnDiff (l.take j) : Nat) = K at hg hkk ⊢
   have hK : 1 ≤ K ∧ K + (cnDiff l[j] : Nat) ≤ 4611686018427387904 := by omega
   have hneg0 : ¬ ((K + 1) + (csum cnInt l[j].fAdded : Nat) < 0) := by omega
   have hneg1 : ¬ (((K + 1) + (csum cnInt l[j].fAdded : Nat)) + (csum cnInt l[j].fRemoved : Nat) < 0) := by omega
   repeat' (with_reducible first | refine nY ?_ | (refine mX ?_; try simp only [go_sem, h, hg, a0g, hneg0, hneg1]) | refine kO ?_ (by decide) | refine a3K (by kernel_rfl) ?_ | (refine cC (dP K (by omega)) ?_ ?_; focus simp only [go_sem, and_self]; done) | (refine cC (xR l[j].fAdded (K + 1) (by omega)) ?_ ?_; focus simp only [go_sem, and_self]; done) | (refine cC (xR l[j].fRemoved ((K + 1) + (csum cnInt l[j].fAdded : Nat)) (by omega)) ?_ ?_; focus simp only [go_sem, and_self]; done) | (refine And.intro ?_ ?_; focus omega))
   refine aF (j + 1) ?_ ?_ ?_
   ·simp only [go_sem, hkk]
    simp [hc]
    try omega
   ·omega
   ·omega
  ·simp only [decide_eq_false_iff_not] at h
   have e : j = l.length := by omega
   subst e
   refine aD ?_
   exact aA ⟨⟨_, rfl, by simp only [go_sem, List.take_length]⟩, trivial⟩
def b9o (x : TGroup) : Nat := 3 + csum cnInt x.fIDs
def b9p (x : TGroup) (k : Int) : TGroup := ⟨⟨k, (k + 1), (rC ((k + 1) + 1))⟩, (mkL xP cnInt x.fIDs (((k + 1) + 1) + 1))⟩
def b8W (x : TChange) : Nat := 7 + csum cnAttr x.fFile.fAttrs + csum cnNode x.fDir.fQuery
def b8Y (x : TChange) (k : Int) : TChange := ⟨k, ⟨(k + 1), ((k + 1) + 1), (decide (Int.tmod (((k + 1) + 1) + 1) 3 = 0)), ((((k + 1) + 1) + 1) + 1), (mkL pV cnAttr x.fFile.fAttrs (((((k + 1) + 1) + 1) + 1) + 1))⟩, ((((((k + 1) + 1) + 1) + 1) + 1) + (csum cnAttr x.fFile.fAttrs : Nat)), ⟨(rC (((((((k + 1) + 1) + 1) + 1) + 1) + (csum cnAttr x.fFile.fAttrs : Nat)) + 1)), (mkL pW cnNode x.fDir.fQuery ((((((((k + 1) + 1) + 1) + 1) + 1) + (csum cnAttr x.fFile.fAttrs : Nat)) + 1) + 1))⟩⟩
end Go.Proofs.YtddimbdeggomaaaGreat
end
section
set_option linter.all false
set_option maxRecDepth 100000
set_option maxHeartbeats 4000000
namespace Go.Proofs.YtddimbdeggomaaaGreat
open Go Go.Sx Go.RowKit Go.Proofs
theorem a8K (x : TFile) (k : Int) (hk : 1 ≤ k ∧ k + (csum cnAttr x.fAttrs : Nat) ≤ 4611686018427387904) : FnM Tryz.prog 46 true [.d (iv x.fID), .d (iv x.fOwner), .d (bv x.fShared), .d (iv x.fLink), .w 0 4 (x.fAttrs.map dM)] [.d (iv x.fID), .d (iv x.fOwner), .d (bv x.fShared), .d (iv x.fLink), .w 0 4 ((mkL pV cnAttr x.fAttrs (k)).map dM)] k (k + (csum cnAttr x.fAttrs : Nat)) := by
 refine entm Tryz.func46 rfl Tryz.call46 rfl (by simp) (by simp only [go_sem]) (fun C tg => ?_); simp only [go_sem, Tryz.ntmps46]
 have qH := trivial; repeat' (with_reducible first | refine nY ?_ | (refine mX ?_; try simp only [go_sem]) | refine kD ?_ | refine rD ?_ | refine vM (a1b x.fAttrs _ (by omega)) ?_ | refine aO ?_ | fail)
 exact ⟨⟨⟨_, rfl, by simp only [go_sem]⟩, trivial⟩, by simp only [go_sem]⟩
theorem a7f (x : TStore) (k : Int) (hk : 1 ≤ k ∧ k + (csum cnField x.fSchema : Nat) + (csum cnFile x.fFiles : Nat) ≤ 4611686018427387904) : FnM Tryz.prog 28 true [.w 0 2 (x.fSchema.map bG), .w 0 5 (x.fFiles.map bB), .d (iv x.fNextID)] [.w 0 2 ((mkL lX cnField x.fSchema (k)).map bG), .w 0 5 ((mkL pX cnFile x.fFiles (k + (csum cnField x.fSchema : Nat))).map bB), .d (iv x.fNextID)] k (k + (csum cnField x.fSchema : Nat) + (csum cnFile x.fFiles : Nat)) := by
 refine entm Tryz.func28 rfl Tryz.call28 rfl (by simp) (by simp only [go_sem]) (fun C tg => ?_); simp only [go_sem, Tryz.ntmps28]
 have qH := trivial; repeat' (with_reducible first | refine nY ?_ | (refine mX ?_; try simp only [go_sem]) | refine kD ?_ | refine rD ?_ | refine vM (a5n x.fSchema _ (by omega)) ?_ | refine vM (a7d x.fFiles _ (by omega)) ?_ | refine aO ?_ | fail)
 exact ⟨⟨⟨_, rfl, by simp only [go_sem]⟩, trivial⟩, by simp only [go_sem]⟩
theorem a7g (x : TStore) (k : Int) (hk : 1 ≤ k ∧ k + (csum cnField x.fSchema : Nat) + (csum cnFile x.fFiles : Nat) ≤ 4611686018427387904) : FnC Tryz.prog 105 [.g [.d (.sl ((mkL lX cnField x.fSchema (k)).map bG)), .d (.sl ((mkL pX cnFile x.fFiles (k + (csum cnField x.fSchema : Nat))).map bB)), .d (iv x.fNextID)], oi k] (oi (k + (csum cnField x.fSchema : Nat) + (csum cnFile x.fFiles : Nat))) := by
 have hneg0 : ¬ (k + (csum cnField x.fSchema : Nat) < 0) := by omega
 have hneg1 : ¬ (k + (csum cnField x.fSchema : Nat) + (csum cnFile x.fFiles : Nat) < 0) := by omega
 refine ent Tryz.func105 rfl Tryz.call105 rfl (fun C => ?_); simp only [go_sem, st0, Tryz.ntmps105]
 have q0 := @hneg0; have q1 := @hneg1; refine xG (a5o x.fSchema (k) (by omega)) (a7e x.fFiles (k + (csum cnField x.fSchema : Nat)) (by omega)) ?_
 exact aA ⟨⟨_, rfl, by simp only [go_sem]⟩, trivial⟩
theorem a4o (x : TDir) (k : Int) (hk : 1 ≤ k ∧ k + (csum cnNode x.fQuery : Nat) ≤ 4611686018427387904) : FnM Tryz.prog 60 true [.d (sv x.fName), .w 0 7 (x.fQuery.map aW)] [.d (sv x.fName), .w 0 7 ((mkL pW cnNode x.fQuery (k)).map aW)] k (k + (csum cnNode x.fQuery : Nat)) := by
 refine entm Tryz.func60 rfl Tryz.call60 rfl (by simp) (by simp only [go_sem]) (fun C tg => ?_); simp only [go_sem, Tryz.ntmps60]
 have qH := trivial; repeat' (with_reducible first | refine nY ?_ | (refine mX ?_; try simp only [go_sem]) | refine kD ?_ | refine rD ?_ | refine vM (a1c x.fQuery _ (by omega)) ?_ | refine aO ?_ | fail)
 exact ⟨⟨⟨_, rfl, by simp only [go_sem]⟩, trivial⟩, by simp only [go_sem]⟩
theorem lZ (x : TCatalog) (k : Int) (hk : 1 ≤ k ∧ k + (csum cnField x.fStore.fSchema : Nat) + (csum cnFile x.fStore.fFiles : Nat) + (csum cnDir x.fDirs : Nat) + (csum cnResult x.fResults : Nat) ≤ 4611686018427387904) : FnM Tryz.prog 36 true [.w 0 2 (x.fStore.fSchema.map bG), .w 0 5 (x.fStore.fFiles.map bB), .d (iv x.fStore.fNextID), .w 0 2 (x.fDirs.map aM), .w 0 2 (x.fResults.map aJ)] [.w 0 2 ((mkL lX cnField x.fStore.fSchema (k)).map bG), .w 0 5 ((mkL pX cnFile x.fStore.fFiles (k + (csum cnField x.fStore.fSchema : Nat))).map bB), .d (iv x.fStore.fNextID), .w 0 2 ((mkL a1d cnDir x.fDirs (k + (csum cnField x.fStore.fSchema : Nat) + (csum cnFile x.fStore.fFiles : Nat))).map aM), .w 0 2 ((mkL lY cnResult x.fResults (k + (csum cnField x.fStore.fSchema : Nat) + (csum cnFile x.fStore.fFiles : Nat) + (csum cnDir x.fDirs : Nat))).map aJ)] k (k + (csum cnField x.fStore.fSchema : Nat) + (csum cnFile x.fStore.fFiles : Nat) + (csum cnDir x.fDirs : Nat) + (csum cnResult x.fResults : Nat)) := by
 refine entm Tryz.func36 rfl Tryz.call36 rfl (by simp) (by simp only [go_sem]) (fun C tg => ?_); simp only [go_sem, Tryz.ntmps36]
 have qH := trivial; repeat' (with_reducible first | refine nY ?_ | (refine mX ?_; try simp only [go_sem]) | refine kD ?_ | refine rD ?_ | refine vM (a7f x.fStore _ (by omega)) ?_ | refine vM (a8I x.fDirs _ (by omega)) ?_ | refine vM (a4l x.fResults _ (by omega)) ?_ | refine aO ?_ | fail)
 exact ⟨⟨⟨_, rfl, by simp only [go_sem]⟩, trivial⟩, by simp only [go_sem]⟩
theorem mD (x : TCatalog) (k : Int) (hk : 1 ≤ k ∧ k + (csum cnField x.fStore.fSchema : Nat) + (csum cnFile x.fStore.fFiles : Nat) + (csum cnDir x.fDirs : Nat) + (csum cnResult x.fResults : Nat) ≤ 4611686018427387904) : FnC Tryz.prog 37 [.g [.d (.sl ((mkL lX cnField x.fStore.fSchema (k)).map bG)), .d (.sl ((mkL pX cnFile x.fStore.fFiles (k + (csum cnField x.fStore.fSchema : Nat))).map bB)), .d (iv x.fStore.fNextID), .d (.sl ((mkL a1d cnDir x.fDirs (k + (csum cnField x.fStore.fSchema : Nat) + (csum cnFile x.fStore.fFiles : Nat))).map aM)), .d (.sl ((mkL lY cnResult x.fResults (k + (csum cnField x.fStore.fSchema : Nat) + (csum cnFile x.fStore.fFiles : Nat) + (csum cnDir x.fDirs : Nat))).map aJ))], oi k] (oi (k + (csum cnField x.fStore.fSchema : Nat) + (csum cnFile x.fStore.fFiles : Nat) + (csum cnDir x.fDirs : Nat) + (csum cnResult x.fResults : Nat))) := by
 have hneg0 : ¬ (k + (csum cnField x.fStore.fSchema : Nat) + (csum cnFile x.fStore.fFiles : Nat) < 0) := by omega
 have hneg1 : ¬ (k + (csum cnField x.fStore.fSchema : Nat) + (csum cnFile x.fStore.fFiles : Nat) + (csum cnDir x.fDirs : Nat) < 0) := by omega
 have hneg2 : ¬ (k + (csum cnField x.fStore.fSchema : Nat) + (csum cnFile x.fStore.fFiles : Nat) + (csum cnDir x.fDirs : Nat) + (csum cnResult x.fResults : Nat) < 0) := by omega
 refine ent Tryz.func37 rfl Tryz.call37 rfl (fun C => ?_); simp only [go_sem, st0, Tryz.ntmps37]
 have q0 := @hneg0; have q1 := @hneg1; have q2 := @hneg2; refine a8z (a7g x.fStore (k) (by omega)) (a8J x.fDirs (k + (csum cnField x.fStore.fSchema : Nat) + (csum cnFile x.fStore.fFiles : Nat)) (by omega)) (a4m x.fResults (k + (csum cnField x.fStore.fSchema : Nat) + (csum cnFile x.fStore.fFiles : Nat) + (csum cnDir x.fDirs : Nat)) (by omega)) ?_
 exact aA ⟨⟨_, rfl, by simp only [go_sem]⟩, trivial⟩
theorem a5p (x : TChange) (k : Int) (hk : 1 ≤ k ∧ k + (csum cnAttr x.fFile.fAttrs : Nat) + (csum cnNode x.fDir.fQuery : Nat) ≤ 4611686018427387904) : FnM Tryz.prog 75 true [.d (iv x.fKind), .d (iv x.fFile.fID), .d (iv x.fFile.fOwner), .d (bv x.fFile.fShared), .d (iv x.fFile.fLink), .w 0 4 (x.fFile.fAttrs.map dM), .d (iv x.fID), .d (sv x.fDir.fName), .w 0 7 (x.fDir.fQuery.map aW)] [.d (iv x.fKind), .d (iv x.fFile.fID), .d (iv x.fFile.fOwner), .d (bv x.fFile.fShared), .d (iv x.fFile.fLink), .w 0 4 ((mkL pV cnAttr x.fFile.fAttrs (k)).map dM), .d (iv x.fID), .d (sv x.fDir.fName), .w 0 7 ((mkL pW cnNode x.fDir.fQuery (k + (csum cnAttr x.fFile.fAttrs : Nat))).map aW)] k (k + (csum cnAttr x.fFile.fAttrs : Nat) + (csum cnNode x.fDir.fQuery : Nat)) := by
 refine entm Tryz.func75 rfl Tryz.call75 rfl (by simp) (by simp only [go_sem]) (fun C tg => ?_); simp only [go_sem, Tryz.ntmps75]
 have qH := trivial; repeat' (with_reducible first | refine nY ?_ | (refine mX ?_; try simp only [go_sem]) | refine kD ?_ | refine rD ?_ | refine vM (a8K x.fFile _ (by omega)) ?_ | refine vM (a4o x.fDir _ (by omega)) ?_ | refine aO ?_ | fail)
 exact ⟨⟨⟨_, rfl, by simp only [go_sem]⟩, trivial⟩, by simp only [go_sem]⟩
end Go.Proofs.YtddimbdeggomaaaGreat
end
section
set_option linter.all false
namespace Go.Proofs.YtddimbdeggomaaaGreat
open Go Go.Sx Go.RowKit Go.Proofs
theorem pY {α : Type} (cn w : α → Nat) (c : Nat) (hx : ∀ x, cn x ≤ c * (1 + w x)) : ∀ l : List α, csum cn l ≤ c * (l.length + wsum w l)
 | [] => by simp [csum]
 | x :: l => by
  have h1 := pY cn w c hx l
  have h2 := hx x
  simp only [csum, wsum, List.length_cons]
  have : c * (l.length + 1 + (w x + wsum w l)) = c * (1 + w x) + c * (l.length + wsum w l) := by rw [← Nat.mul_add]; congr 1; omega
  omega
theorem qB {α : Type} (cn : α → Nat) (c : Nat) (hx : ∀ x, cn x = c) : ∀ l : List α, csum cn l = c * l.length
 | [] => by simp [csum]
 | x :: l => by
  have h1 := qB cn c hx l
  simp only [csum, List.length_cons, hx, h1, Nat.mul_add]; omega
theorem a7h (l : List Int) : csum cnInt l = l.length := by rw [qB cnInt 1 (fun _ => rfl)]; omega
theorem yQ (l : List TField) : csum cnField l = 2 * l.length := qB cnField 2 (fun _ => rfl) l
theorem a8L (l : List TAttr) : csum cnAttr l = 4 * l.length := qB cnAttr 4 (fun _ => rfl) l
theorem a4p (l : List TNode) : csum cnNode l = 7 * l.length := qB cnNode 7 (fun _ => rfl) l
theorem a1g (l : List TFile) : csum cnFile l ≤ 4 * (l.length + wsum wFile l) := pY cnFile wFile 4 (fun x => by
 unfold cnFile wFile eB; rw [a8L]; omega) l
theorem a3j (l : List TDir) : csum cnDir l ≤ 7 * (l.length + wsum wDir l) := pY cnDir wDir 7 (fun x => by
 unfold cnDir wDir bQ; rw [a4p]; omega) l
theorem vS (l : List TResult) : csum cnResult l ≤ 1 * (l.length + wsum wResult l) := pY cnResult wResult 1 (fun x => by
 unfold cnResult wResult; rw [a7h]; omega) l
theorem a8M (l : List TDiff) : csum cnDiff l ≤ 1 * (l.length + wsum tL l) := pY cnDiff tL 1 (fun x => by
 unfold cnDiff tL; rw [a7h, a7h]; omega) l
end Go.Proofs.YtddimbdeggomaaaGreat
end
end
section
set_option maxRecDepth 100000
set_option maxHeartbeats 4000000
namespace Go.Proofs.YtddimbdeggomaaaGreat
open Go Go.Sx Go.RowKit Go.Proofs
def hasS (l : List ByteArray) (s : ByteArray) : Bool := l.any fun x => decide (x = s)
theorem b2U (l : List ByteArray) (s : ByteArray) (k : Nat) (h : k < l.length) : hasS (l.drop k) s = (decide (l[k] = s) || hasS (l.drop (k + 1)) s) := by
 rw [List.drop_eq_getElem_cons h]; rfl
theorem iA (l : List ByteArray) (s : ByteArray) (hl : l.length ≤ 4300000) : FnC Tryz.prog 82 [.o (.d (.sl (l.map bW))), os s] (ob (hasS l s)) := by
 refine ent Tryz.func82 rfl Tryz.call82 rfl (fun C => ?_); simp only [go_sem, st0, Tryz.ntmps82]
 refine aD ?_
 refine aN (α := Nat) (fun k => [(5, oi k)]) (fun k => []) (fun k => k ≤ l.length ∧ hasS (l.drop k) s = hasS l s) (fun k => l.length - k) 0 (fun _ => ?_) ?_ ?_ (fun k hk => ?_)
 ·simp only [go_sem]; try simp
 ·simp only [go_sem]; try simp
 ·simp
 ·simp only [go_sem]
  obtain ⟨hk, hg⟩ := hk
  refine aD ?_
  refine cnd rfl (fun h1 => ?_) (fun h1 => ?_)
  ·simp only [decide_eq_true_eq, Int.ofNat_lt] at h1
   have hd := b2U l s k h1
   rw [hg] at hd
   have q0 := @h1; refine gF ?_
   refine cnd rfl (fun hv => ?_) (fun hv => ?_)
   ·rw [hv, Bool.true_or] at hd
    refine aD ?_
    exact aA ⟨⟨_, rfl, by simp only [go_sem, hd]⟩, trivial⟩
   ·rw [hv, Bool.false_or] at hd
    refine aD ?_
    refine aF (k + 1) ?_ ?_ ?_
    ·simp only [go_sem]; try simp
    ·exact ⟨by omega, hd.symm⟩
    ·omega
  ·simp only [decide_eq_false_iff_not] at h1
   have e : k = l.length := by omega
   subst e
   have hn : hasS l s = false := by rw [← hg, List.drop_length]; rfl
   refine aD ?_
   exact aA ⟨⟨_, rfl, by simp only [go_sem, hn]⟩, trivial⟩
theorem b2V (l : List ByteArray) (s : ByteArray) (hl : l.length ≤ 4300000) : FnC Tryz.prog 244 [.o (.d (.sl (l.map bW))), os s] (oi (dV (fun x => decide (s = x)) l 0)) := by
 refine ent Tryz.func244 rfl Tryz.call244 rfl (fun C => ?_); simp only [go_sem, st0, Tryz.ntmps244]
 refine aD ?_
 refine aN (α := Nat) (fun k => [(8, oi k)]) (fun _ => []) (fun k => k ≤ l.length ∧ dV (fun x => decide (s = x)) l 0 = dV (fun x => decide (s = x)) (l.drop k) k) (fun k => l.length - k) 0 (fun _ => ?_) ?_ ?_ (fun k hk => ?_)
 ·simp only [go_sem]
 ·simp only [go_sem]; simp
 ·simp
 ·obtain ⟨hk, hq⟩ := hk
  simp only [go_sem]
  refine aD ?_
  refine cnd rfl (fun h => ?_) (fun h => ?_)
  ·simp only [decide_eq_true_eq, Int.ofNat_lt] at h
   have hd := List.drop_eq_getElem_cons h
   rw [hd, dV] at hq
   have q0 := @h; refine gF ?_
   refine cnd rfl (fun h2 => ?_) (fun h2 => ?_)
   ·refine aD ?_
    exact aA ⟨⟨_, rfl, by simp only [go_sem, hq, h2]⟩, trivial⟩
   ·refine aD ?_
    refine aF (k + 1) ?_ ?_ ?_
    ·simp only [go_sem]; simp
    ·rw [hq, h2]; exact ⟨h, by simp⟩
    ·omega
  ·simp only [decide_eq_false_iff_not] at h
   have e : k = l.length := by omega
   subst e
   simp only [List.drop_length, dV] at hq
   refine aD ?_
   exact aA ⟨⟨_, rfl, by simp only [go_sem, hq]⟩, trivial⟩
theorem xO {α : Type} (p : α → Bool) : ∀ (l : List α) (k : Nat), decide (0 ≤ dV p l k) = l.any p
 | [], _ => by simp [dV]
 | x :: xs, k => by
  simp only [dV, List.any_cons]
  by_cases h : p x = true
  ·simp [h]
  ·rw [Bool.not_eq_true] at h
   simpa [h] using xO p xs (k + 1)
theorem b4J (l : List ByteArray) (s : ByteArray) : decide (0 ≤ dV (fun x => decide (s = x)) l 0) = hasS l s := by
 rw [xO]; unfold hasS
 congr 1; funext x; congr 1; exact propext eq_comm
theorem eU (l : List ByteArray) (s : ByteArray) (hl : l.length ≤ 4300000) : FnC Tryz.prog 164 [.o (.d (.sl (l.map bW))), os s] (ob (hasS l s)) := by
 refine ent Tryz.func164 rfl Tryz.call164 rfl (fun C => ?_); simp only [go_sem, st0, Tryz.ntmps164]
 refine gP (b2V l s hl) ?_
 exact aA ⟨⟨_, rfl, by simp only [go_sem, b4J]⟩, trivial⟩
def dirNs (l : List TDir) : List ByteArray := l.map TDir.fName
theorem lH (l : List TDir) : (dirNs l).length = l.length := by simp [dirNs]
theorem rA (l : List TDir) (hl : l.length ≤ 4300000) : FnC Tryz.prog 118 [.o (.d (.sl (l.map aM)))] (.o (.w 9 1 ((dirNs l).map bW))) := by
 refine ent Tryz.func118 rfl Tryz.call118 rfl (fun C => ?_); simp only [go_sem, st0, Tryz.ntmps118]
 refine aD ?_
 refine aN (α := Nat) (fun k => [(3, .o (.s 0)), (6, .o .u), (9, oi k)]) (fun k => [(0, .row 9 1 ((dirNs (l.take k)).map bW) true)]) (fun k => k ≤ l.length) (fun k => l.length - k) 0 (fun _ => ?_) ?_ ?_ (fun k hk => ?_)
 ·simp only [go_sem]
 ·simp only [go_sem]; simp [dirNs]
 ·simp
 ·simp only [go_sem]
  refine aD ?_
  refine cnd rfl (fun h1 => ?_) (fun h1 => ?_)
  ·simp only [decide_eq_true_eq, Int.ofNat_lt] at h1
   have ht : dirNs (l.take (k + 1)) = dirNs (l.take k) ++ [l[k].fName] := by simp only [dirNs, List.take_succ_eq_append_getElem h1, List.map_append, List.map_cons, List.map_nil]
   have hlen : (dirNs (l.take k)).length = k := by rw [lH]; simp; omega
   have q0 := @h1; have q1 := @hlen; refine lL ?_
   refine aF (k + 1) ?_ ?_ ?_
   ·simp only [go_sem, ht, List.map_append]; simp
   ·omega
   ·omega
  ·simp only [decide_eq_false_iff_not] at h1
   have e : k = l.length := by omega
   subst e
   refine aD ?_
   exact aA ⟨⟨_, rfl, by simp only [go_sem, List.take_length]⟩, trivial⟩
def uD (names : List ByteArray) (l : List TDir) : List ByteArray := (dirNs l).filter fun n => !hasS names n
end Go.Proofs.YtddimbdeggomaaaGreat
end
section
set_option maxRecDepth 100000
namespace Go.Proofs.YtddimbdeggomaaaGreat
open Go Go.Sx Go.RowKit Go.Proofs
theorem b9S {α : Type} (l : List α) : (l.all fun _ => true) = true := by simp
theorem xW (l : List Int) (hl : l.length ≤ 67108864) : FnC Tryz.prog 245 [.o (.d (.sl (l.map fA)))] (.o (.w 3 1 (l.map fA))) := by
 refine ent Tryz.func245 rfl Tryz.call245 rfl (fun C => ?_); simp only [go_sem, st0, Tryz.ntmps245]
 refine aD ?_
 intro b hb
 refine aD ?_
 refine cnd rfl (fun h1 => ?_) (fun h1 => ?_)
 ·have e := hb h1
  simp only [List.map_eq_nil_iff] at e
  subst e
  refine aD ?_
  exact aA ⟨⟨_, rfl, by simp only [go_sem]⟩, trivial⟩
 ·refine aD ?_
  exact aA ⟨⟨_, rfl, by simp only [go_sem, b9S]⟩, trivial⟩
end Go.Proofs.YtddimbdeggomaaaGreat
end
section
set_option maxRecDepth 100000
set_option maxHeartbeats 4000000
namespace Go.Proofs.YtddimbdeggomaaaGreat
open Go Go.Sx Go.RowKit Go.Proofs
def low (s : ByteArray) (k : Nat) : Bool := inB (lT s k) 97 122
def oD (s : ByteArray) : Bool := (List.range s.size).all (low s)
def bX (s : ByteArray) (n : Int) : Bool := oD s && inB s.size 1 n
theorem a4u (s : ByteArray) (n : Int) (hs : s.size ≤ 4300000) : FnC Tryz.prog 283 [os s, oi n] (ob (bX s n)) := by
 refine ent Tryz.func283 rfl Tryz.call283 rfl (fun C => ?_); simp only [go_sem, st0, Tryz.ntmps283]
 refine aD ?_
 refine aN (α := Nat) (fun k => [(5, oi k)]) (fun _ => []) (fun k => k ≤ s.size ∧ oD s = ((List.range s.size).drop k).all (low s)) (fun k => s.size - k) 0 (fun _ => ?_) ?_ ?_ (fun k hk => ?_)
 ·simp only [go_sem]
 ·simp only [go_sem]; simp
 ·simp [oD]
 ·obtain ⟨hk, hq⟩ := hk
  simp only [go_sem]
  refine aD ?_
  refine cnd rfl (fun h => ?_) (fun h => ?_)
  ·simp only [decide_eq_true_eq, Int.ofNat_lt] at h
   have h' : k < (List.range s.size).length := by simpa using h
   have hd := List.drop_eq_getElem_cons h'
   rw [hd, List.all_cons, List.getElem_range] at hq
   have hb := a5N s k
   by_cases h1 : lT s k < 97
   ·have hf : oD s = false := by rw [hq]; simp [low, inB]; omega
    have q0 := @h; have q1 := @h1; refine lL ?_
    exact aA ⟨⟨_, rfl, by simp only [go_sem, bX, hf, Bool.false_and]⟩, trivial⟩
   by_cases h2 : 122 < lT s k
   ·have hf : oD s = false := by rw [hq]; simp [low, inB]; omega
    have q0 := @h; have q1 := @h1; have q2 := @h2; have q3 := @decide_false; refine mR ?_
    exact aA ⟨⟨_, rfl, by simp only [go_sem, bX, hf, Bool.false_and]⟩, trivial⟩
   ·have q0 := @h; have q1 := @h1; have q2 := @h2; have q3 := @decide_false; refine mR ?_
    refine aF (k + 1) ?_ ?_ ?_
    ·simp only [go_sem]; simp
    ·refine ⟨h, ?_⟩
     have hl : low s k = true := by simp [low, inB]; omega
     rw [hq, hl]; simp
    ·omega
  ·simp only [decide_eq_false_iff_not] at h
   have e : k = s.size := by omega
   have hq' : oD s = true := by
    rw [hq, List.drop_of_length_le (by simp [e])]; rfl
   refine gP (bA s.size 1 n) ?_
   refine aA ⟨⟨_, rfl, ?_⟩, ?_⟩
   ·simp only [go_sem, bX, hq']
   ·trivial
theorem aR (s : ByteArray) (hs : s.size ≤ 4300000) : FnC Tryz.prog 238 [os s] (ob (bX s 1)) := by
 refine ent Tryz.func238 rfl Tryz.call238 rfl (fun C => ?_); simp only [go_sem, st0, Tryz.ntmps238]
 refine gP (a4u s 1 hs) ?_
 refine aA ⟨⟨_, rfl, ?_⟩, ?_⟩
 ·simp only [go_sem]
 ·trivial
theorem b6s (s : ByteArray) : bX s 1 = (decide ((s.size : Int) = 1) && low s 0) := by
 unfold bX oD inB
 rcases Nat.lt_trichotomy s.size 1 with h | h | h
 ·have : s.size = 0 := by omega
  simp [this]
 ·simp [h, List.range_succ]
 ·have h1 : ¬ ((s.size : Int) ≤ 1) := by omega
  have h2 : ¬ ((s.size : Int) = 1) := by omega
  simp [h1, h2]
theorem aB (s : ByteArray) : FnC Tryz.prog 291 [os s] (ob (bX s 1)) := by
 rw [b6s]
 refine ent Tryz.func291 rfl Tryz.call291 rfl (fun C => ?_); simp only [go_sem, st0, Tryz.ntmps291]
 by_cases h0 : (s.size : Int) = 1
 ·have h0' : 0 < s.size := by omega
  by_cases h1 : 97 ≤ lT s 0 <;> by_cases h2 : lT s 0 ≤ 122
  all_goals
   have q0 := @h0; have q1 := @h0'; have q2 := @h1; have q3 := @h2; have q4 := @decide_false; have q5 := @Int.toNat_zero; have q6 := @Int.le_refl; refine a6Y ?_
   refine aA ⟨⟨_, rfl, ?_⟩, ?_⟩
   ·simp only [go_sem]; simp [h0, h1, h2, low, inB]
   ·trivial
 ·have q0 := @h0; have q1 := @decide_false; refine lL ?_
  refine aA ⟨⟨_, rfl, ?_⟩, ?_⟩
  ·simp only [go_sem]; simp [h0]
  ·trivial
theorem bM (s : ByteArray) (hs : s.size ≤ 4300000) : FnC Tryz.prog 232 [os s] (ob (bX s 6)) := by
 refine ent Tryz.func232 rfl Tryz.call232 rfl (fun C => ?_); simp only [go_sem, st0, Tryz.ntmps232]
 refine gP (a4u s 6 hs) ?_
 exact aA ⟨⟨_, rfl, by simp only [go_sem]⟩, trivial⟩
theorem bD (s : ByteArray) (hs : s.size ≤ 4300000) : FnC Tryz.prog 270 [os s] (ob (bX s 6)) := by
 refine ent Tryz.func270 rfl Tryz.call270 rfl (fun C => ?_); simp only [go_sem, st0, Tryz.ntmps270]
 refine aD ?_
 refine aN (α := Nat) (fun k => [(6, oi k)]) (fun _ => []) (fun k => k ≤ s.size ∧ oD s = ((List.range s.size).drop k).all (low s)) (fun k => s.size - k) 0 (fun _ => ?_) ?_ ?_ (fun k hk => ?_)
 ·simp only [go_sem]
 ·simp only [go_sem]; simp
 ·simp [oD]
 ·obtain ⟨hk, hq⟩ := hk
  simp only [go_sem]
  refine aD ?_
  refine cnd rfl (fun h => ?_) (fun h => ?_)
  ·simp only [decide_eq_true_eq, Int.ofNat_lt] at h
   have h' : k < (List.range s.size).length := by simpa using h
   have hd := List.drop_eq_getElem_cons h'
   rw [hd, List.all_cons, List.getElem_range] at hq
   have hb := a5N s k
   by_cases h1 : lT s k < 97
   ·have hf : oD s = false := by rw [hq]; simp [low, inB]; omega
    have q0 := @h; have q1 := @h1; refine lL ?_
    exact aA ⟨⟨_, rfl, by simp only [go_sem, bX, hf, Bool.false_and]⟩, trivial⟩
   by_cases h2 : 122 < lT s k
   ·have hf : oD s = false := by rw [hq]; simp [low, inB]; omega
    have q0 := @h; have q1 := @h1; have q2 := @h2; have q3 := @decide_false; refine mR ?_
    exact aA ⟨⟨_, rfl, by simp only [go_sem, bX, hf, Bool.false_and]⟩, trivial⟩
   ·have q0 := @h; have q1 := @h1; have q2 := @h2; have q3 := @decide_false; refine mR ?_
    refine aF (k + 1) ?_ ?_ ?_
    ·simp only [go_sem]; simp
    ·refine ⟨h, ?_⟩
     have hl : low s k = true := by simp [low, inB]; omega
     rw [hq, hl]; simp
    ·omega
  ·simp only [decide_eq_false_iff_not] at h
   have e : k = s.size := by omega
   have hq' : oD s = true := by
    rw [hq, List.drop_of_length_le (by simp [e])]; rfl
   refine gP (aS s.size 1 6) ?_
   refine aA ⟨⟨_, rfl, ?_⟩, ?_⟩
   ·simp only [go_sem, bX, hq']
   ·trivial
def iH (v : TValue) : Bool :=
 if v.fKind = 0 then decide (v.fInt = 0) && decide (v.fStr = ⟨#[]⟩)
 else if v.fKind = 1 then inB v.fInt 0 999 && decide (v.fStr = ⟨#[]⟩)
 else if v.fKind = 2 then bX v.fStr 6 && decide (v.fInt = 0) else false
theorem aG (v : TValue) (hs : v.fStr.size ≤ 4300000) : FnC Tryz.prog 293 [pR v] (ob (iH v)) := by
 refine ent Tryz.func293 rfl Tryz.call293 rfl (fun C => ?_); simp only [go_sem, st0, Tryz.ntmps293]
 by_cases h0 : v.fKind = 0
 ·have q0 := @h0; have q1 := @decide_true; refine lL ?_
  exact aA ⟨⟨_, rfl, by simp only [go_sem, iH, h0, if_true, decide_true, Bool.true_and]⟩, trivial⟩
 by_cases h1 : v.fKind = 1
 ·cases hb : inB v.fInt 0 999
  ·have q0 := @h0; have q1 := @h1; have q2 := @decide_true; have q3 := @decide_false; have q4 := @hb; refine a2P (aS v.fInt 0 999) ?_
   exact aA ⟨⟨_, rfl, by simp only [go_sem, iH, h0, h1, hb, if_true, if_false, Bool.false_and]⟩, trivial⟩
  ·have q0 := @h0; have q1 := @h1; have q2 := @decide_true; have q3 := @decide_false; have q4 := @hb; refine a2P (aS v.fInt 0 999) ?_
   exact aA ⟨⟨_, rfl, by simp only [go_sem, iH, h0, h1, hb, if_true, if_false, Bool.true_and]⟩, trivial⟩
 by_cases h2 : v.fKind = 2
 ·cases hb : bX v.fStr 6
  ·have q0 := @h0; have q1 := @h1; have q2 := @h2; have q3 := @decide_true; have q4 := @decide_false; have q5 := @hb; refine a2Q (bD v.fStr hs) ?_
   exact aA ⟨⟨_, rfl, by simp only [go_sem, iH, h0, h1, h2, hb, if_true, if_false, Bool.false_and]⟩, trivial⟩
  ·have q0 := @h0; have q1 := @h1; have q2 := @h2; have q3 := @decide_true; have q4 := @decide_false; have q5 := @hb; refine a2Q (bD v.fStr hs) ?_
   exact aA ⟨⟨_, rfl, by simp only [go_sem, iH, h0, h1, h2, hb, if_true, if_false, Bool.true_and]⟩, trivial⟩
 ·have q0 := @h0; have q1 := @h1; have q2 := @h2; have q3 := @decide_false; refine mR ?_
  exact aA ⟨⟨_, rfl, by simp only [go_sem, iH, h0, h1, h2, if_false]⟩, trivial⟩
theorem bL (v : TValue) (hs : v.fStr.size ≤ 4300000) : FnC Tryz.prog 287 [pR v] (ob (iH v)) := by
 refine ent Tryz.func287 rfl Tryz.call287 rfl (fun C => ?_); simp only [go_sem, st0, Tryz.ntmps287]
 by_cases h0 : v.fKind = 0
 ·have q0 := @h0; have q1 := @decide_true; refine lL ?_
  exact aA ⟨⟨_, rfl, by simp only [go_sem, iH, h0, if_true, decide_true, Bool.true_and]⟩, trivial⟩
 by_cases h1 : v.fKind = 1
 ·cases hb : inB v.fInt 0 999
  ·have q0 := @h0; have q1 := @h1; have q2 := @decide_true; have q3 := @decide_false; have q4 := @hb; refine a2P (bA v.fInt 0 999) ?_
   exact aA ⟨⟨_, rfl, by simp only [go_sem, iH, h0, h1, hb, if_true, if_false, Bool.false_and]⟩, trivial⟩
  ·have q0 := @h0; have q1 := @h1; have q2 := @decide_true; have q3 := @decide_false; have q4 := @hb; refine a2P (bA v.fInt 0 999) ?_
   exact aA ⟨⟨_, rfl, by simp only [go_sem, iH, h0, h1, hb, if_true, if_false, Bool.true_and]⟩, trivial⟩
 by_cases h2 : v.fKind = 2
 ·cases hb : bX v.fStr 6
  ·have q0 := @h0; have q1 := @h1; have q2 := @h2; have q3 := @decide_true; have q4 := @decide_false; have q5 := @hb; refine a2Q (bM v.fStr hs) ?_
   exact aA ⟨⟨_, rfl, by simp only [go_sem, iH, h0, h1, h2, hb, if_true, if_false, Bool.false_and]⟩, trivial⟩
  ·have q0 := @h0; have q1 := @h1; have q2 := @h2; have q3 := @decide_true; have q4 := @decide_false; have q5 := @hb; refine a2Q (bM v.fStr hs) ?_
   exact aA ⟨⟨_, rfl, by simp only [go_sem, iH, h0, h1, h2, hb, if_true, if_false, Bool.true_and]⟩, trivial⟩
 ·have q0 := @h0; have q1 := @h1; have q2 := @h2; have q3 := @decide_false; refine mR ?_
  exact aA ⟨⟨_, rfl, by simp only [go_sem, iH, h0, h1, h2, if_false]⟩, trivial⟩
end Go.Proofs.YtddimbdeggomaaaGreat
end
section
set_option maxRecDepth 100000
set_option maxHeartbeats 4000000
namespace Go.Proofs.YtddimbdeggomaaaGreat
open Go Go.Sx Go.RowKit Go.Proofs
def two (n : TNode) : Bool := decide (n.fOp = 6) || decide (n.fOp = 7)
def vU (n : TNode) (i : Int) : Nat := (if (two n || decide (n.fOp = 5)) && decide (n.fLeft = i) then 1 else 0) + (if two n && decide (n.fRight = i) then 1 else 0)
def refs (q : List TNode) (i : Int) : Nat := match q with
 | [] => 0
 | n :: q => vU n i + refs q i
theorem b4K (q r : List TNode) (i : Int) : refs (q ++ r) i = refs q i + refs r i := by
 induction q with
 | nil => simp [refs]
 | cons n q ih => simp only [List.cons_append, refs, ih]; omega
theorem a6g (q : List TNode) (i : Int) (k : Nat) (h : k < q.length) : refs (q.take (k + 1)) i = refs (q.take k) i + vU q[k] i := by
 rw [List.take_succ_eq_append_getElem h, b4K]; simp [refs]
theorem b1E (q : List TNode) (i : Int) : refs q i ≤ 2 * q.length := by
 induction q with
 | nil => simp [refs]
 | cons n q ih => simp only [refs, List.length_cons]; unfold vU; split <;> split <;> omega
theorem vW (q : List TNode) (i : Int) (hl : q.length ≤ 4300000) : FnC Tryz.prog 303 [.o (.d (.sl (q.map aW))), oi i] (oi (refs q i)) := by
 refine ent Tryz.func303 rfl Tryz.call303 rfl (fun C => ?_); simp only [go_sem, st0, Tryz.ntmps303]
 refine aD ?_
 refine aN (α := Nat) (fun k => [(5, oi (refs (q.take k) i)), (11, oi k)]) (fun _ => []) (fun k => k ≤ q.length) (fun k => q.length - k) 0 (fun _ => ?_) ?_ ?_ (fun k hk => ?_)
 ·simp only [go_sem]
 ·simp only [go_sem]; simp [refs]
 ·simp
 ·simp only [go_sem]
  refine aD ?_
  refine cnd rfl (fun h1 => ?_) (fun h1 => ?_)
  ·simp only [decide_eq_true_eq, Int.ofNat_lt] at h1
   have ht := a6g q i k h1
   have hle := b1E (q.take k) i
   simp only [List.length_take] at hle
   by_cases c6 : q[k].fOp = 6 <;> by_cases c7 : q[k].fOp = 7 <;> by_cases c5 : q[k].fOp = 5 <;> by_cases cl : q[k].fLeft = i <;> by_cases cr : q[k].fRight = i
   all_goals (try omega)
   all_goals
    simp only [vU, two, c5, c6, c7, cl, cr, decide_true, decide_false, Bool.true_or, Bool.or_true, Bool.false_or, Bool.or_false, Bool.and_true, Bool.and_false, Bool.true_and, Bool.false_and, if_true, if_false, Bool.false_eq_true] at ht
    have d5 : decide (q[k].fOp = 5) = decide (q[k].fOp = 5) := rfl
    have q0 := @h1; have q1 := @c5; have q2 := @c6; have q3 := @c7; have q4 := @cl; have q5 := @cr; have q6 := @decide_true; have q7 := @decide_false; refine a3R ?_
    refine aF (k + 1) ?_ ?_ ?_
    ·simp only [go_sem, ht]; simp <;> omega
    ·omega
    ·omega
  ·simp only [decide_eq_false_iff_not] at h1
   have e : k = q.length := by omega
   subst e
   rw [List.take_length]
   refine aD ?_
   exact aA ⟨⟨_, rfl, by simp only [go_sem, List.take_length]⟩, trivial⟩
theorem vX (q : List TNode) (i : Int) (hl : q.length ≤ 4300000) : FnC Tryz.prog 285 [.o (.d (.sl (q.map aW))), oi i] (oi (refs q i)) := by
 refine ent Tryz.func285 rfl Tryz.call285 rfl (fun C => ?_); simp only [go_sem, st0, Tryz.ntmps285]
 refine aD ?_
 refine aN (α := Nat) (fun k => [(5, oi (refs (q.take k) i)), (6, oi k)]) (fun _ => []) (fun k => k ≤ q.length) (fun k => q.length - k) 0 (fun _ => ?_) ?_ ?_ (fun k hk => ?_)
 ·simp only [go_sem]
 ·simp only [go_sem]; simp [refs]
 ·simp
 ·simp only [go_sem]
  refine aD ?_
  refine cnd rfl (fun h1 => ?_) (fun h1 => ?_)
  ·simp only [decide_eq_true_eq, Int.ofNat_lt] at h1
   have ht := a6g q i k h1
   have hle := b1E (q.take k) i
   simp only [List.length_take] at hle
   by_cases c6 : q[k].fOp = 6 <;> by_cases c7 : q[k].fOp = 7 <;> by_cases c5 : q[k].fOp = 5 <;> by_cases cl : q[k].fLeft = i <;> by_cases cr : q[k].fRight = i
   all_goals (try omega)
   all_goals
    simp only [vU, two, c5, c6, c7, cl, cr, decide_true, decide_false, Bool.true_or, Bool.or_true, Bool.false_or, Bool.or_false, Bool.and_true, Bool.and_false, Bool.true_and, Bool.false_and, if_true, if_false, Bool.false_eq_true] at ht
    have d5 : decide (q[k].fOp = 5) = decide (q[k].fOp = 5) := rfl
    have q0 := @h1; have q1 := @c5; have q2 := @c6; have q3 := @c7; have q4 := @cl; have q5 := @cr; have q6 := @decide_true; have q7 := @decide_false; refine a3R ?_
    refine aF (k + 1) ?_ ?_ ?_
    ·simp only [go_sem, ht]; simp <;> omega
    ·omega
    ·omega
  ·simp only [decide_eq_false_iff_not] at h1
   have e : k = q.length := by omega
   subst e
   rw [List.take_length]
   refine aD ?_
   exact aA ⟨⟨_, rfl, by simp only [go_sem, List.take_length]⟩, trivial⟩
end Go.Proofs.YtddimbdeggomaaaGreat
end
