/- Joined texts. -/
import Derived.Test.YtgpoopjfkplilaaGreatDoorZ07
import Derived.Test.YtgpoopjfkplilaaGreatDoorZ08
import Derived.Test.YtgpoopjfkplilaaGreatDoorZ12
import Derived.Test.YtgpoopjfkplilaaGreatDoorZ09
import Derived.Test.YtgpoopjfkplilaaGreatDoorZ05
set_option linter.all false
section
section
set_option linter.all false
set_option maxRecDepth 100000
set_option maxHeartbeats 4000000
namespace Go.Proofs.YtgpoopjfkplilaaGreatDoor
open Go Go.Sx Go.RowKit Go.Proofs
def a8c (k : Nat) (out : ByteArray) : ByteArray :=
 if h : k = 0 then out else a8c (k / 10) (lY [(48 : Int) + ((k % 10 : Nat) : Int)] ++ out)
decreasing_by omega
def oK (k : Int) : ByteArray := ⟨#[109]⟩ ++ a8c k.toNat ⟨#[]⟩
theorem dX (k : Int) (hk : 1 ≤ k ∧ k ≤ 4611686018427387904) : FnC Tryz.prog 59 [oi k] (os (oK k)) := by
 obtain ⟨n, rfl⟩ : ∃ n : Nat, k = n := ⟨k.toNat, by omega⟩
 have h0 : ¬ ((n : Int) ≤ 0) := by omega
 have hm : oK (n : Int) = ⟨#[109]⟩ ++ a8c n ⟨#[]⟩ := by simp [oK]
 rw [hm]
 generalize hq : a8c n ⟨#[]⟩ = res
 refine ent Tryz.func59 rfl Tryz.call59 rfl (fun C => ?_); simp only [go_sem, st0, Tryz.ntmps59]
 have q0 := @h0; have q1 := @decide_false; refine jN ?_
 refine bE (α := Nat × ByteArray) (fun p => [(0, oi p.1), (3, os p.2)]) (fun _ => []) (fun p => a8c p.1 p.2 = res ∧ p.2.size + p.1 ≤ n) (fun p => p.1) (n, ⟨#[]⟩) (fun _ => ?_) ?_ ?_ (fun p hp => ?_)
 ·simp only [go_sem]
 ·simp only [go_sem]; simp
 ·exact ⟨hq, by show 0 + n ≤ n; omega⟩
 ·obtain ⟨j, out⟩ := p
  obtain ⟨hp, hs⟩ := hp
  simp only at hp hs
  simp only [go_sem]
  refine aJ ?_
  refine cnd rfl (fun h => ?_) (fun h => ?_)
  ·simp only [decide_eq_true_eq] at h
   have hj : j ≠ 0 := by omega
   rw [a8c, dif_neg hj] at hp
   have e1 : (j : Int).tmod 10 = ((j % 10 : Nat) : Int) := by rw [Int.tmod_eq_emod_of_nonneg (by omega)]; omega
   have e2 : (j : Int).tdiv 10 = ((j / 10 : Nat) : Int) := by rw [Int.tdiv_eq_ediv_of_nonneg (by omega)]; omega
   have q0 := @e1; have q1 := @e2; refine jN ?_
   refine aH (j / 10, lY [(48 : Int) + ((j % 10 : Nat) : Int)] ++ out) ?_ ?_ ?_
   ·simp only [go_sem, e1, e2]; simp [lY]
   ·refine ⟨hp, ?_⟩
    simp only [ByteArray.size_append, lY, List.map_cons, List.map_nil, b3V, List.length_cons, List.length_nil]
    omega
   ·simp only; omega
  ·simp only [decide_eq_false_iff_not] at h
   have hj : j = 0 := by omega
   subst hj
   rw [a8c, dif_pos rfl] at hp
   subst hp
   refine aJ ?_
   exact aA ⟨⟨_, rfl, by simp only [go_sem]⟩, trivial⟩
def yT (x : Int) : Nat := 1
def a9c (x : Int) (k : Int) : Int := k
def cnStr (x : ByteArray) : Nat := 1
theorem b0w : ∀ x, 1 ≤ cnStr x := fun x => by unfold cnStr; omega
def a9d (x : ByteArray) (k : Int) : ByteArray := (oK k)
theorem a2l (l : List ByteArray) (k : Int) (hk : 1 ≤ k ∧ k + (csum cnStr l : Nat) ≤ 4611686018427387904) : FnM Tryz.prog 28 false [.w 0 1 (l.map bD)] [.w 0 1 ((mkL a9d cnStr l k).map bD)] k (k + (csum cnStr l : Nat)) := by
 have hlen := iG cnStr b0w l
 refine entm Tryz.func28 rfl Tryz.call28 rfl (by simp) (by simp only [go_sem]) (fun C tg => ?_); simp only [go_sem, Tryz.ntmps28]
 refine aJ ?_
 refine bE (α := Nat) (fun j => [(5, oi j), (1, oi (k + (csum cnStr (l.take j) : Nat)))]) (fun j => [(0, .own (tg 0) 1 (tK bD a9d cnStr l k j))]) (fun j => j ≤ l.length) (fun j => l.length - j) 0 (fun _ => ?_) ?_ ?_ (fun j hj => ?_)
 ·simp only [go_sem]
 ·simp only [go_sem]; simp [mK, csum]
 ·simp
 ·simp only [go_sem]
  refine aJ ?_
  refine cnd rfl (fun h => ?_) (fun h => ?_)
  ·simp only [decide_eq_true_eq, Int.ofNat_lt] at h
   have hs := gB cnStr l h
   have ht := jP cnStr l (j + 1)
   have hc : cnStr l[j] = 1 := rfl
   have hset := pR bD a9d cnStr l k j h
   have hkk : k + (csum cnStr (l.take (j + 1)) : Nat) = k + (csum cnStr (l.take j) : Nat) + (cnStr l[j] : Nat) := by omega
   generalize k + (csum cnStr (l.take j) : Nat) = K at hset hkk ⊢
   have hK : 1 ≤ K ∧ K + (cnStr l[j] : Nat) ≤ 4611686018427387904 := by omega
   have q0 := @h; refine kM (dX K (by omega)) ?_
   refine aH (j + 1) ?_ ?_ ?_
   ·simp only [go_sem, hkk, ← hset]
    simp [a9d, bD, hc]
    try omega
   ·omega
   ·omega
  ·simp only [decide_eq_false_iff_not] at h
   have e : j = l.length := by omega
   subst e
   refine aJ ?_
   exact ⟨⟨⟨_, rfl, by simp only [go_sem, iH, List.take_length]⟩, trivial⟩, by simp only [go_sem, iH, List.take_length]⟩
def b7m (x : Bool) : Nat := 1
def b7n (x : Bool) (k : Int) : Bool := (decide (Int.tmod k 3 = 0))
end Go.Proofs.YtgpoopjfkplilaaGreatDoor
end
section
set_option linter.all false
set_option maxRecDepth 100000
set_option maxHeartbeats 4000000
namespace Go.Proofs.YtgpoopjfkplilaaGreatDoor
open Go Go.Sx Go.RowKit Go.Proofs
def cnField (x : TField) : Nat := 2
theorem a0D : ∀ x, 1 ≤ cnField x := fun x => by unfold cnField; omega
def kP (x : TField) (k : Int) : TField := ⟨(oK k), (k + 1)⟩
theorem a2Q (l : List TField) (k : Int) (hk : 1 ≤ k ∧ k + (csum cnField l : Nat) ≤ 4611686018427387904) : FnM Tryz.prog 68 false [.w 0 2 (l.map bF)] [.w 0 2 ((mkL kP cnField l k).map bF)] k (k + (csum cnField l : Nat)) := by
 have hlen := iG cnField a0D l
 refine entm Tryz.func68 rfl Tryz.call68 rfl (by simp) (by simp only [go_sem]) (fun C tg => ?_); simp only [go_sem, Tryz.ntmps68]
 refine aJ ?_
 refine bE (α := Nat) (fun j => [(5, oi j), (1, oi (k + (csum cnField (l.take j) : Nat)))]) (fun j => [(0, .own (tg 0) 2 (tK bF kP cnField l k j))]) (fun j => j ≤ l.length) (fun j => l.length - j) 0 (fun _ => ?_) ?_ ?_ (fun j hj => ?_)
 ·simp only [go_sem]
 ·simp only [go_sem]; simp [mK, csum]
 ·simp
 ·simp only [go_sem]
  refine aJ ?_
  refine cnd rfl (fun h => ?_) (fun h => ?_)
  ·simp only [decide_eq_true_eq, Int.ofNat_lt] at h
   have hs := gB cnField l h
   have ht := jP cnField l (j + 1)
   have hc : cnField l[j] = 2 := rfl
   have hset := pR bF kP cnField l k j h
   have hkk : k + (csum cnField (l.take (j + 1)) : Nat) = k + (csum cnField (l.take j) : Nat) + (cnField l[j] : Nat) := by omega
   generalize k + (csum cnField (l.take j) : Nat) = K at hset hkk ⊢
   have hK : 1 ≤ K ∧ K + (cnField l[j] : Nat) ≤ 4611686018427387904 := by omega
   have q0 := @h; refine kM (dX K (by omega)) ?_
   refine aH (j + 1) ?_ ?_ ?_
   ·simp only [go_sem, hkk, ← hset]
    simp [kP, bF, hc]
    try omega
   ·omega
   ·omega
  ·simp only [decide_eq_false_iff_not] at h
   have e : j = l.length := by omega
   subst e
   refine aJ ?_
   exact ⟨⟨⟨_, rfl, by simp only [go_sem, iH, List.take_length]⟩, trivial⟩, by simp only [go_sem, iH, List.take_length]⟩
theorem a2R (l : List TField) (k : Int) (hk : 1 ≤ k ∧ k + (csum cnField l : Nat) ≤ 4611686018427387904) : FnC Tryz.prog 71 [.o (.d (.sl ((mkL kP cnField l k).map bF))), oi k] (oi (k + (csum cnField l : Nat))) := by
 have hlen := iG cnField a0D l
 refine ent Tryz.func71 rfl Tryz.call71 rfl (fun C => ?_); simp only [go_sem, st0, Tryz.ntmps71]
 refine aJ ?_
 refine bE (α := Nat) (fun j => [(5, oi j), (1, oi (k + (csum cnField (l.take j) : Nat)))]) (fun _ => []) (fun j => j ≤ l.length) (fun j => l.length - j) 0 (fun _ => ?_) ?_ ?_ (fun j hj => ?_)
 ·simp only [go_sem]
 ·simp only [go_sem]; simp [csum]
 ·simp
 ·simp only [go_sem]
  refine aJ ?_
  refine cnd rfl (fun h => ?_) (fun h => ?_)
  ·simp only [decide_eq_true_eq, Int.ofNat_lt] at h
   have hs := gB cnField l h
   have ht := jP cnField l (j + 1)
   have hc : cnField l[j] = 2 := rfl
   have hkk : k + (csum cnField (l.take (j + 1)) : Nat) = k + (csum cnField (l.take j) : Nat) + (cnField l[j] : Nat) := by omega
   have hg := nZ kP cnField l k j (by rw [eU]; exact h)
   generalize k + (csum cnField (l.take j) : Nat) = K at hg hkk ⊢
   have hK : 1 ≤ K ∧ K + (cnField l[j] : Nat) ≤ 4611686018427387904 := by omega
   repeat' (with_reducible first | refine nY ?_ | (refine mX ?_; try simp only [go_sem, h, hg, kP]) | refine kO ?_ (by decide) | refine a7e (by kernel_rfl) ?_ | (refine cC (dX K (by omega)) ?_ ?_; focus simp only [go_sem, and_self]; done) | (refine And.intro ?_ ?_; focus omega))
   refine aH (j + 1) ?_ ?_ ?_
   ·simp only [go_sem, hkk]
    simp [hc]
    try omega
   ·omega
   ·omega
  ·simp only [decide_eq_false_iff_not] at h
   have e : j = l.length := by omega
   subst e
   refine aJ ?_
   exact aA ⟨⟨_, rfl, by simp only [go_sem, List.take_length]⟩, trivial⟩
def cnAttr (x : TAttr) : Nat := 4
theorem a2m : ∀ x, 1 ≤ cnAttr x := fun x => by unfold cnAttr; omega
def rJ (x : TAttr) (k : Int) : TAttr := ⟨(oK k), ⟨(k + 1), ((k + 1) + 1), (oK (((k + 1) + 1) + 1))⟩⟩
theorem a4Z (l : List TAttr) (k : Int) (hk : 1 ≤ k ∧ k + (csum cnAttr l : Nat) ≤ 4611686018427387904) : FnM Tryz.prog 116 false [.w 0 4 (l.map fE)] [.w 0 4 ((mkL rJ cnAttr l k).map fE)] k (k + (csum cnAttr l : Nat)) := by
 have hlen := iG cnAttr a2m l
 refine entm Tryz.func116 rfl Tryz.call116 rfl (by simp) (by simp only [go_sem]) (fun C tg => ?_); simp only [go_sem, Tryz.ntmps116]
 refine aJ ?_
 refine bE (α := Nat) (fun j => [(5, oi j), (1, oi (k + (csum cnAttr (l.take j) : Nat)))]) (fun j => [(0, .own (tg 0) 4 (tK fE rJ cnAttr l k j))]) (fun j => j ≤ l.length) (fun j => l.length - j) 0 (fun _ => ?_) ?_ ?_ (fun j hj => ?_)
 ·simp only [go_sem]
 ·simp only [go_sem]; simp [mK, csum]
 ·simp
 ·simp only [go_sem]
  refine aJ ?_
  refine cnd rfl (fun h => ?_) (fun h => ?_)
  ·simp only [decide_eq_true_eq, Int.ofNat_lt] at h
   have hs := gB cnAttr l h
   have ht := jP cnAttr l (j + 1)
   have hc : cnAttr l[j] = 4 := rfl
   have hset := pR fE rJ cnAttr l k j h
   have hkk : k + (csum cnAttr (l.take (j + 1)) : Nat) = k + (csum cnAttr (l.take j) : Nat) + (cnAttr l[j] : Nat) := by omega
   generalize k + (csum cnAttr (l.take j) : Nat) = K at hset hkk ⊢
   have hK : 1 ≤ K ∧ K + (cnAttr l[j] : Nat) ≤ 4611686018427387904 := by omega
   have q0 := @h; refine a2H (dX K (by omega)) (dX (((K + 1) + 1) + 1) (by omega)) ?_
   refine aH (j + 1) ?_ ?_ ?_
   ·simp only [go_sem, hkk, ← hset]
    simp [rJ, fE, hc]
    try omega
   ·omega
   ·omega
  ·simp only [decide_eq_false_iff_not] at h
   have e : j = l.length := by omega
   subst e
   refine aJ ?_
   exact ⟨⟨⟨_, rfl, by simp only [go_sem, iH, List.take_length]⟩, trivial⟩, by simp only [go_sem, iH, List.take_length]⟩
theorem a5a (l : List TAttr) (k : Int) (hk : 1 ≤ k ∧ k + (csum cnAttr l : Nat) ≤ 4611686018427387904) : FnC Tryz.prog 117 [.o (.d (.sl ((mkL rJ cnAttr l k).map fE))), oi k] (oi (k + (csum cnAttr l : Nat))) := by
 have hlen := iG cnAttr a2m l
 refine ent Tryz.func117 rfl Tryz.call117 rfl (fun C => ?_); simp only [go_sem, st0, Tryz.ntmps117]
 refine aJ ?_
 refine bE (α := Nat) (fun j => [(5, oi j), (1, oi (k + (csum cnAttr (l.take j) : Nat)))]) (fun _ => []) (fun j => j ≤ l.length) (fun j => l.length - j) 0 (fun _ => ?_) ?_ ?_ (fun j hj => ?_)
 ·simp only [go_sem]
 ·simp only [go_sem]; simp [csum]
 ·simp
 ·simp only [go_sem]
  refine aJ ?_
  refine cnd rfl (fun h => ?_) (fun h => ?_)
  ·simp only [decide_eq_true_eq, Int.ofNat_lt] at h
   have hs := gB cnAttr l h
   have ht := jP cnAttr l (j + 1)
   have hc : cnAttr l[j] = 4 := rfl
   have hkk : k + (csum cnAttr (l.take (j + 1)) : Nat) = k + (csum cnAttr (l.take j) : Nat) + (cnAttr l[j] : Nat) := by omega
   have hg := nZ rJ cnAttr l k j (by rw [eU]; exact h)
   generalize k + (csum cnAttr (l.take j) : Nat) = K at hg hkk ⊢
   have hK : 1 ≤ K ∧ K + (cnAttr l[j] : Nat) ≤ 4611686018427387904 := by omega
   repeat' (with_reducible first | refine nY ?_ | (refine mX ?_; try simp only [go_sem, h, hg, rJ]) | refine kO ?_ (by decide) | refine a7e (by kernel_rfl) ?_ | (refine cC (dX K (by omega)) ?_ ?_; focus simp only [go_sem, and_self]; done) | (refine cC (dX (((K + 1) + 1) + 1) (by omega)) ?_ ?_; focus simp only [go_sem, and_self]; done) | (refine And.intro ?_ ?_; focus omega))
   refine aH (j + 1) ?_ ?_ ?_
   ·simp only [go_sem, hkk]
    simp [hc]
    try omega
   ·omega
   ·omega
  ·simp only [decide_eq_false_iff_not] at h
   have e : j = l.length := by omega
   subst e
   refine aJ ?_
   exact aA ⟨⟨_, rfl, by simp only [go_sem, List.take_length]⟩, trivial⟩
def cnNode (x : TNode) : Nat := 7
theorem a2n : ∀ x, 1 ≤ cnNode x := fun x => by unfold cnNode; omega
def rM (x : TNode) (k : Int) : TNode := ⟨k, (k + 1), ((k + 1) + 1), (oK (((k + 1) + 1) + 1)), ⟨((((k + 1) + 1) + 1) + 1), (((((k + 1) + 1) + 1) + 1) + 1), (oK ((((((k + 1) + 1) + 1) + 1) + 1) + 1))⟩⟩
theorem a5b (l : List TNode) (k : Int) (hk : 1 ≤ k ∧ k + (csum cnNode l : Nat) ≤ 4611686018427387904) : FnM Tryz.prog 70 false [.w 0 7 (l.map bG)] [.w 0 7 ((mkL rM cnNode l k).map bG)] k (k + (csum cnNode l : Nat)) := by
 have hlen := iG cnNode a2n l
 refine entm Tryz.func70 rfl Tryz.call70 rfl (by simp) (by simp only [go_sem]) (fun C tg => ?_); simp only [go_sem, Tryz.ntmps70]
 refine aJ ?_
 refine bE (α := Nat) (fun j => [(5, oi j), (1, oi (k + (csum cnNode (l.take j) : Nat)))]) (fun j => [(0, .own (tg 0) 7 (tK bG rM cnNode l k j))]) (fun j => j ≤ l.length) (fun j => l.length - j) 0 (fun _ => ?_) ?_ ?_ (fun j hj => ?_)
 ·simp only [go_sem]
 ·simp only [go_sem]; simp [mK, csum]
 ·simp
 ·simp only [go_sem]
  refine aJ ?_
  refine cnd rfl (fun h => ?_) (fun h => ?_)
  ·simp only [decide_eq_true_eq, Int.ofNat_lt] at h
   have hs := gB cnNode l h
   have ht := jP cnNode l (j + 1)
   have hc : cnNode l[j] = 7 := rfl
   have hset := pR bG rM cnNode l k j h
   have hkk : k + (csum cnNode (l.take (j + 1)) : Nat) = k + (csum cnNode (l.take j) : Nat) + (cnNode l[j] : Nat) := by omega
   generalize k + (csum cnNode (l.take j) : Nat) = K at hset hkk ⊢
   have hK : 1 ≤ K ∧ K + (cnNode l[j] : Nat) ≤ 4611686018427387904 := by omega
   have q0 := @h; refine a2H (dX (((K + 1) + 1) + 1) (by omega)) (dX ((((((K + 1) + 1) + 1) + 1) + 1) + 1) (by omega)) ?_
   refine aH (j + 1) ?_ ?_ ?_
   ·simp only [go_sem, hkk, ← hset]
    simp [rM, bG, hc]
    try omega
   ·omega
   ·omega
  ·simp only [decide_eq_false_iff_not] at h
   have e : j = l.length := by omega
   subst e
   refine aJ ?_
   exact ⟨⟨⟨_, rfl, by simp only [go_sem, iH, List.take_length]⟩, trivial⟩, by simp only [go_sem, iH, List.take_length]⟩
theorem a5c (l : List TNode) (k : Int) (hk : 1 ≤ k ∧ k + (csum cnNode l : Nat) ≤ 4611686018427387904) : FnC Tryz.prog 73 [.o (.d (.sl ((mkL rM cnNode l k).map bG))), oi k] (oi (k + (csum cnNode l : Nat))) := by
 have hlen := iG cnNode a2n l
 refine ent Tryz.func73 rfl Tryz.call73 rfl (fun C => ?_); simp only [go_sem, st0, Tryz.ntmps73]
 refine aJ ?_
 refine bE (α := Nat) (fun j => [(5, oi j), (1, oi (k + (csum cnNode (l.take j) : Nat)))]) (fun _ => []) (fun j => j ≤ l.length) (fun j => l.length - j) 0 (fun _ => ?_) ?_ ?_ (fun j hj => ?_)
 ·simp only [go_sem]
 ·simp only [go_sem]; simp [csum]
 ·simp
 ·simp only [go_sem]
  refine aJ ?_
  refine cnd rfl (fun h => ?_) (fun h => ?_)
  ·simp only [decide_eq_true_eq, Int.ofNat_lt] at h
   have hs := gB cnNode l h
   have ht := jP cnNode l (j + 1)
   have hc : cnNode l[j] = 7 := rfl
   have hkk : k + (csum cnNode (l.take (j + 1)) : Nat) = k + (csum cnNode (l.take j) : Nat) + (cnNode l[j] : Nat) := by omega
   have hg := nZ rM cnNode l k j (by rw [eU]; exact h)
   generalize k + (csum cnNode (l.take j) : Nat) = K at hg hkk ⊢
   have hK : 1 ≤ K ∧ K + (cnNode l[j] : Nat) ≤ 4611686018427387904 := by omega
   repeat' (with_reducible first | refine nY ?_ | (refine mX ?_; try simp only [go_sem, h, hg, rM]) | refine kO ?_ (by decide) | refine a7e (by kernel_rfl) ?_ | (refine cC (dX (((K + 1) + 1) + 1) (by omega)) ?_ ?_; focus simp only [go_sem, and_self]; done) | (refine cC (dX ((((((K + 1) + 1) + 1) + 1) + 1) + 1) (by omega)) ?_ ?_; focus simp only [go_sem, and_self]; done) | (refine And.intro ?_ ?_; focus omega))
   refine aH (j + 1) ?_ ?_ ?_
   ·simp only [go_sem, hkk]
    simp [hc]
    try omega
   ·omega
   ·omega
  ·simp only [decide_eq_false_iff_not] at h
   have e : j = l.length := by omega
   subst e
   refine aJ ?_
   exact aA ⟨⟨_, rfl, by simp only [go_sem, List.take_length]⟩, trivial⟩
end Go.Proofs.YtgpoopjfkplilaaGreatDoor
end
section
set_option linter.all false
set_option maxRecDepth 100000
set_option maxHeartbeats 4000000
namespace Go.Proofs.YtgpoopjfkplilaaGreatDoor
open Go Go.Sx Go.RowKit Go.Proofs
def cnFile (x : TFile) : Nat := 4 + csum cnAttr x.fAttrs
theorem a2o : ∀ x, 1 ≤ cnFile x := fun x => by unfold cnFile; omega
def nQ (x : TFile) (k : Int) : TFile := ⟨k, (k + 1), (decide (Int.tmod ((k + 1) + 1) 3 = 0)), (((k + 1) + 1) + 1), (mkL rJ cnAttr x.fAttrs ((((k + 1) + 1) + 1) + 1))⟩
theorem a5d (l : List TFile) (k : Int) (hk : 1 ≤ k ∧ k + (csum cnFile l : Nat) ≤ 4611686018427387904) : FnM Tryz.prog 69 false [.w 0 5 (l.map dE)] [.w 0 5 ((mkL nQ cnFile l k).map dE)] k (k + (csum cnFile l : Nat)) := by
 have hlen := iG cnFile a2o l
 refine entm Tryz.func69 rfl Tryz.call69 rfl (by simp) (by simp only [go_sem]) (fun C tg => ?_); simp only [go_sem, Tryz.ntmps69]
 refine aJ ?_
 refine bE (α := Nat) (fun j => [(5, oi j), (1, oi (k + (csum cnFile (l.take j) : Nat)))]) (fun j => [(0, .own (tg 0) 5 (tK dE nQ cnFile l k j))]) (fun j => j ≤ l.length) (fun j => l.length - j) 0 (fun _ => ?_) ?_ ?_ (fun j hj => ?_)
 ·simp only [go_sem]
 ·simp only [go_sem]; simp [mK, csum]
 ·simp
 ·simp only [go_sem]
  refine aJ ?_
  refine cnd rfl (fun h => ?_) (fun h => ?_)
  ·simp only [decide_eq_true_eq, Int.ofNat_lt] at h
   have hs := gB cnFile l h
   have ht := jP cnFile l (j + 1)
   have hc : cnFile l[j] = 4 + csum cnAttr l[j].fAttrs := rfl
   have hset := pR dE nQ cnFile l k j h
   have hkk : k + (csum cnFile (l.take (j + 1)) : Nat) = k + (csum cnFile (l.take j) : Nat) + (cnFile l[j] : Nat) := by omega
   generalize k + (csum cnFile (l.take j) : Nat) = K at hset hkk ⊢
   have hK : 1 ≤ K ∧ K + (cnFile l[j] : Nat) ≤ 4611686018427387904 := by omega
   have qH := @h; repeat' (with_reducible first | refine nY ?_ | (refine mX ?_; try simp only [go_sem, qH]) | refine kD ?_ | refine rD ?_ | refine vN (a4Z l[j].fAttrs _ (by omega)) ?_ | refine aO ?_ | fail)
   refine aH (j + 1) ?_ ?_ ?_
   ·simp only [go_sem, hkk, ← hset]
    simp [nQ, dE, hc]
    try omega
   ·omega
   ·omega
  ·simp only [decide_eq_false_iff_not] at h
   have e : j = l.length := by omega
   subst e
   refine aJ ?_
   exact ⟨⟨⟨_, rfl, by simp only [go_sem, iH, List.take_length]⟩, trivial⟩, by simp only [go_sem, iH, List.take_length]⟩
theorem a5e (l : List TFile) (k : Int) (hk : 1 ≤ k ∧ k + (csum cnFile l : Nat) ≤ 4611686018427387904) : FnC Tryz.prog 72 [.o (.d (.sl ((mkL nQ cnFile l k).map dE))), oi k] (oi (k + (csum cnFile l : Nat))) := by
 have hlen := iG cnFile a2o l
 refine ent Tryz.func72 rfl Tryz.call72 rfl (fun C => ?_); simp only [go_sem, st0, Tryz.ntmps72]
 refine aJ ?_
 refine bE (α := Nat) (fun j => [(5, oi j), (1, oi (k + (csum cnFile (l.take j) : Nat)))]) (fun _ => []) (fun j => j ≤ l.length) (fun j => l.length - j) 0 (fun _ => ?_) ?_ ?_ (fun j hj => ?_)
 ·simp only [go_sem]
 ·simp only [go_sem]; simp [csum]
 ·simp
 ·simp only [go_sem]
  refine aJ ?_
  refine cnd rfl (fun h => ?_) (fun h => ?_)
  ·simp only [decide_eq_true_eq, Int.ofNat_lt] at h
   have hs := gB cnFile l h
   have ht := jP cnFile l (j + 1)
   have hc : cnFile l[j] = 4 + csum cnAttr l[j].fAttrs := rfl
   have hkk : k + (csum cnFile (l.take (j + 1)) : Nat) = k + (csum cnFile (l.take j) : Nat) + (cnFile l[j] : Nat) := by omega
   have hg := nZ nQ cnFile l k j (by rw [eU]; exact h)
   generalize k + (csum cnFile (l.take j) : Nat) = K at hg hkk ⊢
   have hK : 1 ≤ K ∧ K + (cnFile l[j] : Nat) ≤ 4611686018427387904 := by omega
   have hneg0 : ¬ (((((K + 1) + 1) + 1) + 1) + (csum cnAttr l[j].fAttrs : Nat) < 0) := by omega
   repeat' (with_reducible first | refine nY ?_ | (refine mX ?_; try simp only [go_sem, h, hg, nQ, hneg0]) | refine kO ?_ (by decide) | refine a7e (by kernel_rfl) ?_ | (refine cC (a5a l[j].fAttrs ((((K + 1) + 1) + 1) + 1) (by omega)) ?_ ?_; focus simp only [go_sem, and_self]; done) | (refine And.intro ?_ ?_; focus omega))
   refine aH (j + 1) ?_ ?_ ?_
   ·simp only [go_sem, hkk]
    simp [hc]
    try omega
   ·omega
   ·omega
  ·simp only [decide_eq_false_iff_not] at h
   have e : j = l.length := by omega
   subst e
   refine aJ ?_
   exact aA ⟨⟨_, rfl, by simp only [go_sem, List.take_length]⟩, trivial⟩
def cnDir (x : TDir) : Nat := 1 + csum cnNode x.fQuery
theorem a3M : ∀ x, 1 ≤ cnDir x := fun x => by unfold cnDir; omega
def yU (x : TDir) (k : Int) : TDir := ⟨(oK k), (mkL rM cnNode x.fQuery (k + 1))⟩
theorem a6D (l : List TDir) (k : Int) (hk : 1 ≤ k ∧ k + (csum cnDir l : Nat) ≤ 4611686018427387904) : FnM Tryz.prog 36 false [.w 0 2 (l.map dG)] [.w 0 2 ((mkL yU cnDir l k).map dG)] k (k + (csum cnDir l : Nat)) := by
 have hlen := iG cnDir a3M l
 refine entm Tryz.func36 rfl Tryz.call36 rfl (by simp) (by simp only [go_sem]) (fun C tg => ?_); simp only [go_sem, Tryz.ntmps36]
 refine aJ ?_
 refine bE (α := Nat) (fun j => [(5, oi j), (1, oi (k + (csum cnDir (l.take j) : Nat)))]) (fun j => [(0, .own (tg 0) 2 (tK dG yU cnDir l k j))]) (fun j => j ≤ l.length) (fun j => l.length - j) 0 (fun _ => ?_) ?_ ?_ (fun j hj => ?_)
 ·simp only [go_sem]
 ·simp only [go_sem]; simp [mK, csum]
 ·simp
 ·simp only [go_sem]
  refine aJ ?_
  refine cnd rfl (fun h => ?_) (fun h => ?_)
  ·simp only [decide_eq_true_eq, Int.ofNat_lt] at h
   have hs := gB cnDir l h
   have ht := jP cnDir l (j + 1)
   have hc : cnDir l[j] = 1 + csum cnNode l[j].fQuery := rfl
   have hset := pR dG yU cnDir l k j h
   have hkk : k + (csum cnDir (l.take (j + 1)) : Nat) = k + (csum cnDir (l.take j) : Nat) + (cnDir l[j] : Nat) := by omega
   generalize k + (csum cnDir (l.take j) : Nat) = K at hset hkk ⊢
   have hK : 1 ≤ K ∧ K + (cnDir l[j] : Nat) ≤ 4611686018427387904 := by omega
   have qH := @h; repeat' (with_reducible first | refine nY ?_ | (refine mX ?_; try simp only [go_sem, qH]) | refine kD ?_ | refine rD ?_ | refine cP (dX K (by omega)) ?_ | refine vN (a5b l[j].fQuery _ (by omega)) ?_ | refine aO ?_ | fail)
   refine aH (j + 1) ?_ ?_ ?_
   ·simp only [go_sem, hkk, ← hset]
    simp [yU, dG, hc]
    try omega
   ·omega
   ·omega
  ·simp only [decide_eq_false_iff_not] at h
   have e : j = l.length := by omega
   subst e
   refine aJ ?_
   exact ⟨⟨⟨_, rfl, by simp only [go_sem, iH, List.take_length]⟩, trivial⟩, by simp only [go_sem, iH, List.take_length]⟩
theorem a6E (l : List TDir) (k : Int) (hk : 1 ≤ k ∧ k + (csum cnDir l : Nat) ≤ 4611686018427387904) : FnC Tryz.prog 38 [.o (.d (.sl ((mkL yU cnDir l k).map dG))), oi k] (oi (k + (csum cnDir l : Nat))) := by
 have hlen := iG cnDir a3M l
 refine ent Tryz.func38 rfl Tryz.call38 rfl (fun C => ?_); simp only [go_sem, st0, Tryz.ntmps38]
 refine aJ ?_
 refine bE (α := Nat) (fun j => [(5, oi j), (1, oi (k + (csum cnDir (l.take j) : Nat)))]) (fun _ => []) (fun j => j ≤ l.length) (fun j => l.length - j) 0 (fun _ => ?_) ?_ ?_ (fun j hj => ?_)
 ·simp only [go_sem]
 ·simp only [go_sem]; simp [csum]
 ·simp
 ·simp only [go_sem]
  refine aJ ?_
  refine cnd rfl (fun h => ?_) (fun h => ?_)
  ·simp only [decide_eq_true_eq, Int.ofNat_lt] at h
   have hs := gB cnDir l h
   have ht := jP cnDir l (j + 1)
   have hc : cnDir l[j] = 1 + csum cnNode l[j].fQuery := rfl
   have hkk : k + (csum cnDir (l.take (j + 1)) : Nat) = k + (csum cnDir (l.take j) : Nat) + (cnDir l[j] : Nat) := by omega
   have hg := nZ yU cnDir l k j (by rw [eU]; exact h)
   generalize k + (csum cnDir (l.take j) : Nat) = K at hg hkk ⊢
   have hK : 1 ≤ K ∧ K + (cnDir l[j] : Nat) ≤ 4611686018427387904 := by omega
   have hneg0 : ¬ ((K + 1) + (csum cnNode l[j].fQuery : Nat) < 0) := by omega
   repeat' (with_reducible first | refine nY ?_ | (refine mX ?_; try simp only [go_sem, h, hg, yU, hneg0]) | refine kO ?_ (by decide) | refine a7e (by kernel_rfl) ?_ | (refine cC (dX K (by omega)) ?_ ?_; focus simp only [go_sem, and_self]; done) | (refine cC (a5c l[j].fQuery (K + 1) (by omega)) ?_ ?_; focus simp only [go_sem, and_self]; done) | (refine And.intro ?_ ?_; focus omega))
   refine aH (j + 1) ?_ ?_ ?_
   ·simp only [go_sem, hkk]
    simp [hc]
    try omega
   ·omega
   ·omega
  ·simp only [decide_eq_false_iff_not] at h
   have e : j = l.length := by omega
   subst e
   refine aJ ?_
   exact aA ⟨⟨_, rfl, by simp only [go_sem, List.take_length]⟩, trivial⟩
def b6i (x : TResult) : Nat := 1 + csum yT x.fIDs
def b6j (x : TResult) (k : Int) : TResult := ⟨(oK k), (mkL a9c yT x.fIDs (k + 1))⟩
def b7o (x : TDiff) : Nat := 1 + csum yT x.fAdded + csum yT x.fRemoved
def b7p (x : TDiff) (k : Int) : TDiff := ⟨(oK k), (mkL a9c yT x.fAdded (k + 1)), (mkL a9c yT x.fRemoved ((k + 1) + (csum yT x.fAdded : Nat)))⟩
def b6F (x : TGroup) : Nat := 3 + csum yT x.fIDs
def b6G (x : TGroup) (k : Int) : TGroup := ⟨⟨k, (k + 1), (oK ((k + 1) + 1))⟩, (mkL a9c yT x.fIDs (((k + 1) + 1) + 1))⟩
def b6k (x : TChange) : Nat := 7 + csum cnAttr x.fFile.fAttrs + csum cnNode x.fDir.fQuery
def b6l (x : TChange) (k : Int) : TChange := ⟨k, ⟨(k + 1), ((k + 1) + 1), (decide (Int.tmod (((k + 1) + 1) + 1) 3 = 0)), ((((k + 1) + 1) + 1) + 1), (mkL rJ cnAttr x.fFile.fAttrs (((((k + 1) + 1) + 1) + 1) + 1))⟩, ((((((k + 1) + 1) + 1) + 1) + 1) + (csum cnAttr x.fFile.fAttrs : Nat)), ⟨(oK (((((((k + 1) + 1) + 1) + 1) + 1) + (csum cnAttr x.fFile.fAttrs : Nat)) + 1)), (mkL rM cnNode x.fDir.fQuery ((((((((k + 1) + 1) + 1) + 1) + 1) + (csum cnAttr x.fFile.fAttrs : Nat)) + 1) + 1))⟩⟩
end Go.Proofs.YtgpoopjfkplilaaGreatDoor
end
section
set_option linter.all false
set_option maxRecDepth 100000
set_option maxHeartbeats 4000000
namespace Go.Proofs.YtgpoopjfkplilaaGreatDoor
open Go Go.Sx Go.RowKit Go.Proofs
theorem a5f (x : TStore) (k : Int) (hk : 1 ≤ k ∧ k + (csum cnField x.fSchema : Nat) + (csum cnFile x.fFiles : Nat) ≤ 4611686018427387904) : FnM Tryz.prog 35 true [.w 0 2 (x.fSchema.map bF), .w 0 5 (x.fFiles.map dE), .d (iv x.fNextID)] [.w 0 2 ((mkL kP cnField x.fSchema (k)).map bF), .w 0 5 ((mkL nQ cnFile x.fFiles (k + (csum cnField x.fSchema : Nat))).map dE), .d (iv x.fNextID)] k (k + (csum cnField x.fSchema : Nat) + (csum cnFile x.fFiles : Nat)) := by
 refine entm Tryz.func35 rfl Tryz.call35 rfl (by simp) (by simp only [go_sem]) (fun C tg => ?_); simp only [go_sem, Tryz.ntmps35]
 have qH := trivial; repeat' (with_reducible first | refine nY ?_ | (refine mX ?_; try simp only [go_sem]) | refine kD ?_ | refine rD ?_ | refine vM (a2Q x.fSchema _ (by omega)) ?_ | refine vM (a5d x.fFiles _ (by omega)) ?_ | refine aO ?_ | fail)
 exact ⟨⟨⟨_, rfl, by simp only [go_sem]⟩, trivial⟩, by simp only [go_sem]⟩
theorem a5g (x : TStore) (k : Int) (hk : 1 ≤ k ∧ k + (csum cnField x.fSchema : Nat) + (csum cnFile x.fFiles : Nat) ≤ 4611686018427387904) : FnC Tryz.prog 37 [.g [.d (.sl ((mkL kP cnField x.fSchema (k)).map bF)), .d (.sl ((mkL nQ cnFile x.fFiles (k + (csum cnField x.fSchema : Nat))).map dE)), .d (iv x.fNextID)], oi k] (oi (k + (csum cnField x.fSchema : Nat) + (csum cnFile x.fFiles : Nat))) := by
 have hneg0 : ¬ (k + (csum cnField x.fSchema : Nat) < 0) := by omega
 have hneg1 : ¬ (k + (csum cnField x.fSchema : Nat) + (csum cnFile x.fFiles : Nat) < 0) := by omega
 refine ent Tryz.func37 rfl Tryz.call37 rfl (fun C => ?_); simp only [go_sem, st0, Tryz.ntmps37]
 have q0 := @hneg0; have q1 := @hneg1; refine a2I (a2R x.fSchema (k) (by omega)) (a5e x.fFiles (k + (csum cnField x.fSchema : Nat)) (by omega)) ?_
 exact aA ⟨⟨_, rfl, by simp only [go_sem]⟩, trivial⟩
theorem a0J (x : TSnapshot) (k : Int) (hk : 1 ≤ k ∧ k + (csum cnField x.fStore.fSchema : Nat) + (csum cnFile x.fStore.fFiles : Nat) + (csum cnDir x.fDirs : Nat) ≤ 4611686018427387904) : FnM Tryz.prog 13 true [.w 0 2 (x.fStore.fSchema.map bF), .w 0 5 (x.fStore.fFiles.map dE), .d (iv x.fStore.fNextID), .w 0 2 (x.fDirs.map dG)] [.w 0 2 ((mkL kP cnField x.fStore.fSchema (k)).map bF), .w 0 5 ((mkL nQ cnFile x.fStore.fFiles (k + (csum cnField x.fStore.fSchema : Nat))).map dE), .d (iv x.fStore.fNextID), .w 0 2 ((mkL yU cnDir x.fDirs (k + (csum cnField x.fStore.fSchema : Nat) + (csum cnFile x.fStore.fFiles : Nat))).map dG)] k (k + (csum cnField x.fStore.fSchema : Nat) + (csum cnFile x.fStore.fFiles : Nat) + (csum cnDir x.fDirs : Nat)) := by
 refine entm Tryz.func13 rfl Tryz.call13 rfl (by simp) (by simp only [go_sem]) (fun C tg => ?_); simp only [go_sem, Tryz.ntmps13]
 have qH := trivial; repeat' (with_reducible first | refine nY ?_ | (refine mX ?_; try simp only [go_sem]) | refine kD ?_ | refine rD ?_ | refine vM (a5f x.fStore _ (by omega)) ?_ | refine vM (a6D x.fDirs _ (by omega)) ?_ | refine aO ?_ | fail)
 exact ⟨⟨⟨_, rfl, by simp only [go_sem]⟩, trivial⟩, by simp only [go_sem]⟩
theorem sG (x : TSnapshot) (k : Int) (hk : 1 ≤ k ∧ k + (csum cnField x.fStore.fSchema : Nat) + (csum cnFile x.fStore.fFiles : Nat) + (csum cnDir x.fDirs : Nat) ≤ 4611686018427387904) : FnC Tryz.prog 14 [.g [.d (.sl ((mkL kP cnField x.fStore.fSchema (k)).map bF)), .d (.sl ((mkL nQ cnFile x.fStore.fFiles (k + (csum cnField x.fStore.fSchema : Nat))).map dE)), .d (iv x.fStore.fNextID), .d (.sl ((mkL yU cnDir x.fDirs (k + (csum cnField x.fStore.fSchema : Nat) + (csum cnFile x.fStore.fFiles : Nat))).map dG))], oi k] (oi (k + (csum cnField x.fStore.fSchema : Nat) + (csum cnFile x.fStore.fFiles : Nat) + (csum cnDir x.fDirs : Nat))) := by
 have hneg0 : ¬ (k + (csum cnField x.fStore.fSchema : Nat) + (csum cnFile x.fStore.fFiles : Nat) < 0) := by omega
 have hneg1 : ¬ (k + (csum cnField x.fStore.fSchema : Nat) + (csum cnFile x.fStore.fFiles : Nat) + (csum cnDir x.fDirs : Nat) < 0) := by omega
 refine ent Tryz.func14 rfl Tryz.call14 rfl (fun C => ?_); simp only [go_sem, st0, Tryz.ntmps14]
 have q0 := @hneg0; have q1 := @hneg1; refine a2I (a5g x.fStore (k) (by omega)) (a6E x.fDirs (k + (csum cnField x.fStore.fSchema : Nat) + (csum cnFile x.fStore.fFiles : Nat)) (by omega)) ?_
 exact aA ⟨⟨_, rfl, by simp only [go_sem]⟩, trivial⟩
end Go.Proofs.YtgpoopjfkplilaaGreatDoor
end
section
set_option linter.all false
namespace Go.Proofs.YtgpoopjfkplilaaGreatDoor
open Go Go.Sx Go.RowKit Go.Proofs
theorem wW {α : Type} (cn w : α → Nat) (c : Nat) (hx : ∀ x, cn x ≤ c * (1 + w x)) : ∀ l : List α, csum cn l ≤ c * (l.length + eQ w l)
 | [] => by simp [csum]
 | x :: l => by
  have h1 := wW cn w c hx l
  have h2 := hx x
  simp only [csum, eQ, List.length_cons]
  have : c * (l.length + 1 + (w x + eQ w l)) = c * (1 + w x) + c * (l.length + eQ w l) := by rw [← Nat.mul_add]; congr 1; omega
  omega
theorem nR {α : Type} (cn : α → Nat) (c : Nat) (hx : ∀ x, cn x = c) : ∀ l : List α, csum cn l = c * l.length
 | [] => by simp [csum]
 | x :: l => by
  have h1 := nR cn c hx l
  simp only [csum, List.length_cons, hx, h1, Nat.mul_add]; omega
theorem b3F (l : List ByteArray) : csum cnStr l = l.length := by rw [nR cnStr 1 (fun _ => rfl)]; omega
theorem b0x (l : List TField) : csum cnField l = 2 * l.length := nR cnField 2 (fun _ => rfl) l
theorem b2f (l : List TAttr) : csum cnAttr l = 4 * l.length := nR cnAttr 4 (fun _ => rfl) l
theorem b2g (l : List TNode) : csum cnNode l = 7 * l.length := nR cnNode 7 (fun _ => rfl) l
theorem b2h (l : List TFile) : csum cnFile l ≤ 4 * (l.length + eQ gY l) := wW cnFile gY 4 (fun x => by
 unfold cnFile gY iB; rw [b2f]; omega) l
theorem b3G (l : List TDir) : csum cnDir l ≤ 7 * (l.length + eQ lS l) := wW cnDir lS 7 (fun x => by
 unfold cnDir lS wNodeS; rw [b2g]; omega) l
end Go.Proofs.YtgpoopjfkplilaaGreatDoor
end
end
section
set_option maxRecDepth 100000
set_option maxHeartbeats 4000000
namespace Go.Proofs.YtgpoopjfkplilaaGreatDoor
open Go Go.Sx Go.RowKit Go.Proofs
def b7l (l : List ByteArray) (s : ByteArray) : Bool := l.any fun x => decide (x = s)
def b6h (l : List TDir) : List ByteArray := l.map TDir.fName
def uD (names : List ByteArray) (l : List TDir) : List ByteArray := (b6h l).filter fun n => !b7l names n
end Go.Proofs.YtgpoopjfkplilaaGreatDoor
end
section
set_option maxRecDepth 100000
set_option maxHeartbeats 4000000
namespace Go.Sx
theorem b3E {P : Program} {C : Ctx} {F : Ex → St → Prop} {st : St} {code : Code} (i id : Nat) {ty sz : Nat} {rows : List (List D)} {lin : Bool} (hi : nth st.t i = .o (.s id)) (hb : dO st.h id = .row ty sz rows lin) (h : WP P C code F ⟨a5S st.t i (.o (.d (.sl rows))), setH st.h id (.frz rows lin)⟩) : WP P C code F st := by
 intro g V a w hr
 obtain ⟨g', V', h1, h2, h3, h4, h5⟩ := hr.hp.frz hr.mod hr.fr.size (aG hb (by simp))
 have hr1 : Rel C g' V' ⟨st.t, setH st.h id (.frz rows lin)⟩ a w := ⟨hr.sl.mono h1 h2, by rw [bQ]; exact h4, h3, hr.fr, hr.vw.grow h2 h5⟩
 refine h g' V' a w ⟨⟨by rw [lJ]; simpa using hr1.sl.size, fun n s y e1 e2 => ?_, hr1.sl.defers⟩, hr1.hp, hr1.mod, hr1.fr, hr1.vw⟩
 rw [lJ, List.getElem?_set] at e1
 by_cases e : i = n
 ·subst e
  rw [if_pos rfl] at e1
  split at e1
  ·rename_i hlt
   cases e1
   have hs : st.t[i]? = some (.o (.s id)) := by
    rw [oP, List.getD_eq_getElem?_getD, List.getElem?_eq_getElem hlt] at hi
    rw [List.getElem?_eq_getElem hlt]
    exact congrArg some hi
   obtain ⟨gh, hgh, hy, _⟩ := hr1.sl.slot i _ y hs e2
   have hf : (setH st.h id (.frz rows lin))[id]? = some (.frz rows lin) := by
    have := aG hb (by simp)
    rw [bQ, List.getElem?_set]; simp [(List.getElem?_eq_some_iff.1 this).1]
   obtain ⟨_, S, q1, _⟩ := hr1.hp.hb id _ gh hf hgh
   exact ⟨S, by rw [hy]; exact q1⟩
  ·cases e1
 ·rw [if_neg e] at e1
  exact hr1.sl.slot n s y e1 e2
end Go.Sx
namespace Go.Proofs.YtgpoopjfkplilaaGreatDoor
open Go Go.Sx Go.RowKit Go.Proofs
theorem wV {α : Type} [Inhabited α] [DecidableEq α] (d : Array α) : ∀ (m i : Nat), i < m → d[i]! ∈ Lib.compactUpTo d m
 | 0, i, h => by omega
 | m + 1, i, h => by
  rw [Lib.compactUpTo_succ]
  by_cases hi : i < m
  ·exact List.mem_append_left _ (wV d m i hi)
  ·have e : i = m := by omega
   subst e
   cases hk : Lib.keeps d i with
   | true => exact List.mem_append_right _ (by simp)
   | false =>
    have h0 : 0 < i := by
     rcases Nat.eq_zero_or_pos i with h | h
     ·subst h; rw [Lib.keeps_lt_one d 0 (by omega)] at hk; cases hk
     ·exact h
    have he : d[i]! = d[i - 1]! := Classical.byContradiction fun hn => by rw [Lib.keeps_pos hn] at hk; cases hk
    rw [he]
    exact List.mem_append_left _ (wV d i (i - 1) (by omega))
theorem a6A {α : Type} [Inhabited α] [DecidableEq α] (zs : List α) (x : α) : x ∈ Lib.compact zs ↔ x ∈ zs := by
 refine ⟨fun h => ?_, fun h => ?_⟩
 ·unfold Lib.compact Lib.compactUpTo at h
  obtain ⟨i, hi, rfl⟩ := List.mem_map.1 h
  have hi' : i < zs.length := List.mem_range.1 (List.mem_filter.1 hi).1
  simp [getElem!_pos, hi']
 ·obtain ⟨i, hi, rfl⟩ := List.mem_iff_getElem.1 h
  have := wV zs.toArray zs.length i hi
  have e : zs.toArray[i]! = zs[i] := by simp [getElem!_pos, hi]
  rw [e] at this
  exact this
def gU (l : List ByteArray) : List ByteArray := a6C (uF l)
theorem a3L (l : List ByteArray) : (gU l).length ≤ l.length := by
 have := lX ((uF l).map bl).toArray ((uF l).map bl).length
 simp only [gU, a6C, Lib.compact, List.length_map, a0d] at this ⊢
 exact this
theorem uR (l : List ByteArray) (s : ByteArray) : s ∈ gU l ↔ s ∈ l := by
 have e : (uF l).map bl = vT (l.map bl) := by
  unfold uF
  rw [List.map_map]
  have : (bl ∘ lb) = id := by funext x; exact b4b x
  rw [this, List.map_id]
 unfold gU a6C
 rw [e]
 constructor
 ·intro h
  obtain ⟨y, hy, rfl⟩ := List.mem_map.1 h
  rw [a6A, vT, List.mem_mergeSort] at hy
  obtain ⟨z, hz, rfl⟩ := List.mem_map.1 hy
  rw [b2e]; exact hz
 ·intro h
  refine List.mem_map.2 ⟨bl s, ?_, b2e s⟩
  rw [a6A, vT, List.mem_mergeSort]
  exact List.mem_map.2 ⟨s, h, rfl⟩
theorem a2P (l : List ByteArray) (hl : l.length ≤ 4300000) : FnC Tryz.prog 250 [.o (.d (.sl (l.map bD)))] (.o (.w 9 1 ((gU l).map bD))) := by
 refine ent Tryz.func250 rfl Tryz.call250 rfl (fun C => ?_); simp only [go_sem, st0, Tryz.ntmps250]
 have qH := trivial; repeat' (with_reducible first | refine nY ?_ | (refine mX ?_; try simp only [go_sem]) | refine kD ?_ | refine rD ?_ | refine cP (a6i l hl) ?_ | refine vI (a2k l (by omega)) ?_ | refine vJ (a2k l (by omega)) ?_ | refine vI (vV (uF l) (by rw [a0d]; omega)) ?_ | refine vJ (vV (uF l) (by rw [a0d]; omega)) ?_ | refine aO ?_ | fail)
 exact aA ⟨⟨_, rfl, by simp only [go_sem, gU]⟩, trivial⟩
def geS (s : ByteArray) (y : ByteArray) : Bool := !jM y s
def vE (l : List ByteArray) (s : ByteArray) : List ByteArray := if (l.drop (iU (geS s) l)).head? = some s then l else a0y (iU (geS s) l) s l
def putL (l : List ByteArray) : List ByteArray := l.foldl vE []
theorem b2b (l : List ByteArray) (s x : ByteArray) : x ∈ vE l s ↔ x = s ∨ x ∈ l := by
 unfold vE
 split
 ·rename_i h
  have : s ∈ l.drop (iU (geS s) l) := by
   cases hd : l.drop (iU (geS s) l) with
   | nil => rw [hd] at h; cases h
   | cons y r => rw [hd] at h; simp at h; simp [h]
  have hs := List.mem_of_mem_drop this
  constructor
  ·exact .inr
  ·rintro (rfl | h) <;> first | exact hs | exact h
 ·unfold a0y
  conv => rhs; rw [← List.take_append_drop (iU (geS s) l) l]
  simp only [List.mem_append, List.mem_cons]
  constructor
  ·rintro (h | h | h) <;> first | exact .inr (.inl h) | exact .inl h | exact .inr (.inr h)
  ·rintro (h | h | h) <;> first | exact .inr (.inl h) | exact .inl h | exact .inr (.inr h)
theorem b2c (l : List ByteArray) (s : ByteArray) : (vE l s).length ≤ l.length + 1 := by
 unfold vE
 split
 ·omega
 ·rw [b0p _ _ _ (a1Z _ l)]; omega
theorem b2d (l : List ByteArray) (s : ByteArray) : putL (l ++ [s]) = vE (putL l) s := by simp [putL]
theorem b0t (l : List ByteArray) : ∀ (a : List ByteArray) (x : ByteArray), x ∈ l.foldl vE a ↔ x ∈ a ∨ x ∈ l := by
 induction l with
 | nil => simp
 | cons y l ih =>
  intro a x
  rw [List.foldl_cons, ih, b2b]
  simp only [List.mem_cons]
  constructor
  ·rintro ((h | h) | h) <;> first | exact .inr (.inl h) | exact .inl h | exact .inr (.inr h)
  ·rintro (h | h | h) <;> first | exact .inl (.inr h) | exact .inl (.inl h) | exact .inr h
theorem a6B (l : List ByteArray) (x : ByteArray) : x ∈ putL l ↔ x ∈ l := by rw [putL, b0t]; simp
theorem b0u (l : List ByteArray) : ∀ a : List ByteArray, (l.foldl vE a).length ≤ a.length + l.length := by
 induction l with
 | nil => simp
 | cons y l ih =>
  intro a
  have h1 := ih (vE a y)
  have h2 := b2c a y
  simp only [List.foldl_cons, List.length_cons]; omega
theorem uE (l : List ByteArray) : (putL l).length ≤ l.length := by have := b0u l []; simpa [putL] using this
theorem b0v {α : Type} (p : α → Bool) (l : List α) (k : Nat) (h : k < l.length) (hk : iU p l = k + iU p (l.drop k)) : iU p l = if p l[k] then k else k + 1 + iU p (l.drop (k + 1)) := by
 rw [hk, a7T p l k h]
 split <;> omega
theorem mQ {α β : Type} (f : α → β) (l : List α) (n : Nat) : (l.map f).take n = (l.take n).map f := List.map_take.symm
theorem mR {α β : Type} (f : α → β) (l : List α) (n : Nat) : (l.map f).drop n = (l.drop n).map f := List.map_drop.symm
end Go.Proofs.YtgpoopjfkplilaaGreatDoor
end
section
namespace Go.Proofs.YtgpoopjfkplilaaGreatDoor
open Go Go.Sx Go.RowKit Go.Proofs
def a5h (name : ByteArray) : List TAttr → TValue
 | [] => ⟨0, 0, ⟨#[]⟩⟩
 | a :: r => if a.fName = name then a.fValue else a5h name r
end Go.Proofs.YtgpoopjfkplilaaGreatDoor
end
section
set_option maxRecDepth 100000
set_option maxHeartbeats 4000000
namespace Go.Proofs.YtgpoopjfkplilaaGreatDoor
open Go Go.Sx Go.RowKit Go.Proofs
theorem b3C (l : List ByteArray) : ∀ r ∈ l.map bD, r.length = 1 := by intro r hr; obtain ⟨x, _, rfl⟩ := List.mem_map.1 hr; rfl
theorem b0s (l : List ByteArray) (s : ByteArray) (hl : l.length ≤ 4300000) : FnC Tryz.prog 258 [.o (.d (.sl (l.map bD))), os s] (.o (.d (.sl ((vE l s).map bD)))) := by
 have hle := a1Z (geS s) l
 refine ent Tryz.func258 rfl Tryz.call258 rfl (fun C => ?_); simp only [go_sem, st0, Tryz.ntmps258]
 refine aJ ?_
 refine bE (α := Nat) (fun k => [(5, oi k)]) (fun _ => []) (fun k => k ≤ l.length ∧ iU (geS s) l = k + iU (geS s) (l.drop k)) (fun k => l.length - k) 0 (fun _ => ?_) ?_ ?_ (fun k hk => ?_)
 ·simp only [go_sem]
 ·simp only [go_sem]; simp
 ·simp
 ·obtain ⟨hk, hf⟩ := hk
  simp only [go_sem]
  by_cases h1 : k < l.length
  ·have hfx := b0v (geS s) l k h1 hf
   have h1' : ((k : Int) < (l.length : Int)) = True := by simp [h1]
   have q0 := @h1; have q1 := @h1'; have q2 := @decide_true; refine kZ ?_
   refine cnd (b := jM l[k] s) rfl (fun h2 => ?_) (fun h2 => ?_)
   ·rw [if_neg (by simp [geS, h2])] at hfx
    refine aJ ?_
    refine aH (k + 1) ?_ ?_ ?_
    ·simp only [go_sem]; simp
    ·exact ⟨by omega, hfx⟩
    ·omega
   ·rw [if_pos (by simp [geS, h2])] at hfx
    have hd := List.drop_eq_getElem_cons h1
    by_cases h3 : l[k] = s
    ·have hput : vE l s = l := by unfold vE; rw [hfx, hd]; simp [h3]
     have q0 := @h1; have q1 := @h1'; have q2 := @h3; have q3 := @decide_true; refine jJ ?_
     exact aA ⟨⟨_, rfl, by simp only [go_sem, hput]⟩, trivial⟩
    ·have hput : vE l s = a0y k s l := by unfold vE; rw [hfx, hd]; exact if_neg (fun h => h3 (Option.some.inj h))
     have hn1 : ((0 : Int) ≤ (k : Int)) := by omega
     have qH := aI @h1 (aI @h1' (aI @h3 (aI @hn1 (aI @decide_true (aI @decide_false (aI @mQ (aI @mR (aI @a3v (aI @a3w @b0e))))))))); repeat' (with_reducible first | refine nY ?_ | (refine mX ?_; try simp only [go_sem, qH]) | refine kD ?_ | refine rD ?_ | refine aO ?_ | fail)
     refine ⟨b3C l, by omega, by omega, by omega, ?_⟩
     have q0 := @mQ; have q1 := @mR; have q2 := @a3v; have q3 := @a3w; have q4 := @b0e; refine sJ ?_
     refine ⟨b3C l, by omega, by omega, by omega, ?_⟩
     have q0 := @mQ; have q1 := @mR; have q2 := @a3v; have q3 := @a3w; have q4 := @b0e; refine sJ ?_
     refine uL (Sees.frz 0 rfl) ?_
     simp only [go_sem]
     exact aA ⟨⟨_, rfl, by simp only [go_sem, hput, a0y, List.take_length, List.map_append, List.map_cons, List.append_assoc, List.cons_append, List.nil_append]⟩, trivial⟩
  ·have e : k = l.length := by omega
   have hfx : iU (geS s) l = k := by rw [hf, e, List.drop_length]; rfl
   have hput : vE l s = a0y k s l := by unfold vE; rw [hfx, e, List.drop_length]; simp
   have h1' : ((k : Int) < (l.length : Int)) = False := by simp [h1]
   have q0 := @h1; have q1 := @h1'; have q2 := @decide_false; have q3 := @mQ; have q4 := @mR; have q5 := @a3v; have q6 := @a3w; have q7 := @b0e; refine a0H ?_
   refine ⟨b3C l, by omega, by omega, by omega, ?_⟩
   have q0 := @mQ; have q1 := @mR; have q2 := @a3v; have q3 := @a3w; have q4 := @b0e; refine sJ ?_
   refine ⟨b3C l, by omega, by omega, by omega, ?_⟩
   have q0 := @mQ; have q1 := @mR; have q2 := @a3v; have q3 := @a3w; have q4 := @b0e; refine sJ ?_
   refine uL (Sees.frz 0 rfl) ?_
   simp only [go_sem]
   exact aA ⟨⟨_, rfl, by simp only [go_sem, hput, a0y, List.take_length, List.map_append, List.map_cons, List.append_assoc, List.cons_append, List.nil_append]⟩, trivial⟩
def b2a (l : List TAttr) : List ByteArray := l.map TAttr.fName
def eqV (x v : TValue) : Bool := decide (x.fKind = v.fKind) && (decide (x.fInt = v.fInt) && decide (x.fStr = v.fStr))
def b3D (a b : TFile) (n : ByteArray) : Bool := !(eqV (a5h n a.fAttrs) (a5h n b.fAttrs))
def chL (a b : TFile) (l : List ByteArray) : List ByteArray := l.filter (b3D a b)
def chg (a b : TFile) : List ByteArray := chL a b (b2a a.fAttrs ++ b2a b.fAttrs)
@[go_sem] def sN (b : Bool) : List D := [bv b]
def b7D (n : TNode) : Bool := decide (n.fOp = 5)
def isTwo (n : TNode) : Bool := decide (n.fOp = 6) || decide (n.fOp = 7)
def lL (q : List TNode) (i : Nat) (L : List Bool) : List Bool := match q[i]? with
 | none => L
 | some n => if n.fOp = 5 then L.set n.fLeft.toNat true else if isTwo n then (L.set n.fLeft.toNat (L.getD i false)).set n.fRight.toNat (L.getD i false) else L
def negJ (q : List TNode) : Nat → List Bool
 | 0 => List.replicate q.length false
 | j + 1 => lL q (q.length - 1 - j) (negJ q j)
theorem a6w (q : List TNode) (i : Nat) (L : List Bool) : (lL q i L).length = L.length := by
 unfold lL
 split
 ·rfl
 ·split
  ·simp
  ·split <;> simp
theorem a2j (q : List TNode) (j : Nat) : (negJ q j).length = q.length := by
 induction j with
 | zero => simp [negJ]
 | succ j ih => simp only [negJ, a6w, ih]
def a0I (q : List TNode) : List Bool := negJ q q.length
theorem a6x (q : List TNode) : (a0I q).length = q.length := a2j q q.length
theorem a3I (q : List TNode) (i : Nat) (h : i < q.length) : negJ q (q.length - i) = lL q i (negJ q (q.length - (i + 1))) := by
 have e : q.length - i = (q.length - (i + 1)) + 1 := by omega
 have e2 : q.length - 1 - (q.length - (i + 1)) = i := by omega
 rw [e, negJ, e2]
def jB (n : TNode) : Bool := inB n.fOp 8 9
def sel (q : List TNode) (b : Bool) (k : Nat) : List ByteArray := match q[k]?, (a0I q)[k]? with
 | some n, some x => if jB n && (x == b) then [n.fName] else []
 | _, _ => []
def lZ (q : List TNode) (b : Bool) (k : Nat) : List ByteArray := (List.range k).flatMap (sel q b)
def bY (q : List TNode) (b : Bool) : List ByteArray := lZ q b q.length
theorem wU (q : List TNode) (b : Bool) (k : Nat) : lZ q b (k + 1) = lZ q b k ++ sel q b k := by
 simp [lZ, List.range_succ, List.flatMap_append]
theorem b3B (q : List TNode) (b : Bool) (k : Nat) : (sel q b k).length ≤ 1 := by
 unfold sel
 split
 ·split <;> simp
 ·simp
theorem jC (q : List TNode) (b : Bool) (k : Nat) : (lZ q b k).length ≤ k := by
 induction k with
 | zero => simp [lZ]
 | succ k ih => rw [wU, List.length_append]; have := b3B q b k; omega
theorem b7k (L : List Bool) (i : Nat) (h : i < L.length) : L.getD i false = L[i] := by simp [List.getD_eq_getElem?_getD, h]
theorem a8Y (L : List Bool) (l : Nat) : (L.map sN).set l [D.v (Value.bool false)] = (L.set l false).map sN := by rw [List.map_set]; rfl
theorem a8Z (L : List Bool) (l : Nat) : (L.map sN).set l [D.v (Value.bool true)] = (L.set l true).map sN := by rw [List.map_set]; rfl
theorem a7Y {L : List Bool} {i : Nat} {b : Bool} (h : i < L.length) (hb : L[i] = b) (l : Nat) (h' : i < (L.set l b).length) : (L.set l b)[i] = b := by
 rw [List.getElem_set]; split
 ·rfl
 ·exact hb
theorem a9a {L : List Bool} {i : Nat} {b : Bool} (h : i < L.length) (hb : L[i] = b) (l r : Nat) (h' : i < ((L.set l b).set r b).length) : ((L.set l b).set r b)[i] = b := by
 rw [List.getElem_set]; split
 ·rfl
 ·exact a7Y h hb l _
theorem a6y {q : List TNode} {i : Nat} (h : i < q.length) (L : List Bool) {l : Nat} (h5 : q[i].fOp = 5) (hl : q[i].fLeft = (l : Int)) : lL q i L = L.set l true := by
 simp [lL, List.getElem?_eq_getElem h, h5, hl]
theorem a3J {q : List TNode} {i : Nat} (h : i < q.length) (L : List Bool) (hi : i < L.length) {l m : Nat} (h5 : ¬ q[i].fOp = 5) (h67 : q[i].fOp = 6 ∨ q[i].fOp = 7) (hl : q[i].fLeft = (l : Int)) (hm : q[i].fRight = (m : Int)) : lL q i L = (L.set l L[i]).set m L[i] := by
 have h2 : isTwo q[i] = true := by unfold isTwo; rcases h67 with h | h <;> simp [h]
 simp only [lL, List.getElem?_eq_getElem h, h5, if_false, h2, if_true, hl, hm, Int.toNat_natCast, b7k L i hi]
theorem a3K {q : List TNode} {i : Nat} (h : i < q.length) (L : List Bool) (h5 : ¬ q[i].fOp = 5) (h67 : ¬ (q[i].fOp = 6 ∨ q[i].fOp = 7)) : lL q i L = L := by
 have h2 : isTwo q[i] = false := by
  unfold isTwo
  have h6 : ¬ q[i].fOp = 6 := fun h => h67 (.inl h)
  have h7 : ¬ q[i].fOp = 7 := fun h => h67 (.inr h)
  simp [h6, h7]
 simp only [lL, List.getElem?_eq_getElem h, h5, if_false, h2, Bool.false_eq_true]
theorem a7Z (q : List TNode) (hq : okQ q = true) (hw : wNodeS q ≤ 4300000) : FnC Tryz.prog 248 [.o (.d (.sl (q.map bG)))] (.o (.w 4 1 ((a0I q).map sN))) := by
 have hl9 := fJ hq
 refine ent Tryz.func248 rfl Tryz.call248 rfl (fun C => ?_); simp only [go_sem, st0, Tryz.ntmps248]
 have q0 := @hq; refine kM (bH q hw) ?_
 refine bE (α := Nat) (fun m => [(4, oi ((m : Int) - 1))]) (fun m => [(0, .row 4 1 ((negJ q (q.length - m)).map sN) true)]) (fun m => m ≤ q.length) (fun m => m) q.length (fun _ => ?_) ?_ ?_ (fun m hm => ?_)
 ·simp only [go_sem]
 ·simp only [go_sem]; simp [negJ, sN]
 ·simp
 ·simp only [go_sem]
  refine aJ ?_
  refine cnd rfl (fun h => ?_) (fun h => ?_)
  ·simp only [decide_eq_true_eq] at h
   obtain ⟨i, rfl⟩ : ∃ i, m = i + 1 := ⟨m - 1, by omega⟩
   have hx : ((i + 1 : Nat) : Int) - 1 = (i : Int) := by omega
   have hi : i < q.length := by omega
   have hst := a3I q i hi
   have hLl := a2j q (q.length - (i + 1))
   generalize negJ q (q.length - (i + 1)) = L at *
   have hiL : i < L.length := by omega
   have hok := nM hq (List.getElem?_eq_getElem hi)
   have hop := mP hok
   by_cases h5 : q[i].fOp = 5
   ·obtain ⟨l, hl, hli⟩ := dW hok (.inl h5)
    have hlL : l < L.length := by omega
    rw [a6y hi L h5 hl] at hst
    cases hb : L[i]
    all_goals
     have q0 := @hx; have q1 := @hi; have q2 := @hiL; have q3 := @hb; have q4 := @h5; have q5 := @hl; have q6 := @hlL; have q7 := @decide_true; have q8 := @decide_false; have q9 := @Int.toNat_natCast; refine nK ?_
     refine aH i ?_ ?_ ?_
     ·simp only [go_sem, hst]; simp [sN]
     ·omega
     ·omega
   by_cases h67 : q[i].fOp = 6 ∨ q[i].fOp = 7
   ·obtain ⟨l, hl, hli⟩ := dW hok (.inr h67)
    obtain ⟨r, hr, hri⟩ := gH hok h67
    have hlL : l < L.length := by omega
    have hrL : r < L.length := by omega
    rw [a3J hi L hiL h5 h67 hl hr] at hst
    by_cases h6 : q[i].fOp = 6
    ·cases hb : L[i]
     all_goals
      rw [hb] at hst
      have hrL1 : r < (L.set l false).length := by simpa using hrL
      have hrL2 : r < (L.set l true).length := by simpa using hrL
      have qH := aI @hx (aI @hi (aI @hiL (aI @hb (aI @h5 (aI @h6 (aI @hl (aI @hr (aI @hlL (aI @hrL (aI @a8Y (aI @a8Z (aI @hrL1 (aI @hrL2 (aI @decide_true (aI @decide_false @Int.toNat_natCast))))))))))))))); repeat' (with_reducible first | refine nY ?_ | (refine mX ?_; try simp only [go_sem, qH]) | refine kD ?_ | refine rT [15, 17] [] ?_ | refine dL (aX ?_) (uX ?_) | refine fA (aX ?_) ?_ | exact uB | refine rD ?_ | refine aO ?_ | fail)
      refine aH i ?_ ?_ ?_
      ·simp only [go_sem, hst]; simp [sN]
      ·omega
      ·omega
    ·have h7 : q[i].fOp = 7 := by omega
     cases hb : L[i]
     all_goals
      rw [hb] at hst
      have hrL1 : r < (L.set l false).length := by simpa using hrL
      have hrL2 : r < (L.set l true).length := by simpa using hrL
      have qH := aI @hx (aI @hi (aI @hiL (aI @hb (aI @h5 (aI @h6 (aI @h7 (aI @hl (aI @hr (aI @hlL (aI @hrL (aI @a8Y (aI @a8Z (aI @hrL1 (aI @hrL2 (aI @decide_true (aI @decide_false @Int.toNat_natCast)))))))))))))))); repeat' (with_reducible first | refine nY ?_ | (refine mX ?_; try simp only [go_sem, qH]) | refine kD ?_ | refine rT [15, 17] [] ?_ | refine dL (aX ?_) (uX ?_) | refine fA (aX ?_) ?_ | exact uB | refine rD ?_ | refine aO ?_ | fail)
      refine aH i ?_ ?_ ?_
      ·simp only [go_sem, hst]; simp [sN]
      ·omega
      ·omega
   ·have h6 : ¬ q[i].fOp = 6 := fun h => h67 (.inl h)
    have h7 : ¬ q[i].fOp = 7 := fun h => h67 (.inr h)
    rw [a3K hi L h5 h67] at hst
    cases hb : L[i]
    all_goals
     have q0 := @hx; have q1 := @hi; have q2 := @hiL; have q3 := @hb; have q4 := @h5; have q5 := @h6; have q6 := @h7; have q7 := @decide_true; have q8 := @decide_false; have q9 := @Int.toNat_natCast; refine nK ?_
     refine aH i ?_ ?_ ?_
     ·simp only [go_sem, hst]; simp [sN]
     ·omega
     ·omega
  ·simp only [decide_eq_false_iff_not] at h
   have e : m = 0 := by omega
   subst e
   refine aJ ?_
   exact aA ⟨⟨_, rfl, by simp only [go_sem, a0I, Nat.sub_zero]⟩, trivial⟩
theorem a8a (q : List TNode) (hq : okQ q = true) (hw : wNodeS q ≤ 4300000) : FnC Tryz.prog 257 [.o (.d (.sl (q.map bG)))] (.o (.w 4 1 ((a0I q).map sN))) := by
 have hl9 := fJ hq
 refine ent Tryz.func257 rfl Tryz.call257 rfl (fun C => ?_); simp only [go_sem, st0, Tryz.ntmps257]
 have q0 := @hq; refine kM (bS q hw) ?_
 refine bE (α := Nat) (fun m => [(4, oi ((m : Int) - 1))]) (fun m => [(0, .row 4 1 ((negJ q (q.length - m)).map sN) true)]) (fun m => m ≤ q.length) (fun m => m) q.length (fun _ => ?_) ?_ ?_ (fun m hm => ?_)
 ·simp only [go_sem]
 ·simp only [go_sem]; simp [negJ, sN]
 ·simp
 ·simp only [go_sem]
  refine aJ ?_
  refine cnd rfl (fun h => ?_) (fun h => ?_)
  ·simp only [decide_eq_true_eq] at h
   obtain ⟨i, rfl⟩ : ∃ i, m = i + 1 := ⟨m - 1, by omega⟩
   have hx : ((i + 1 : Nat) : Int) - 1 = (i : Int) := by omega
   have hi : i < q.length := by omega
   have hst := a3I q i hi
   have hLl := a2j q (q.length - (i + 1))
   generalize negJ q (q.length - (i + 1)) = L at *
   have hiL : i < L.length := by omega
   have hok := nM hq (List.getElem?_eq_getElem hi)
   have hop := mP hok
   by_cases h5 : q[i].fOp = 5
   ·obtain ⟨l, hl, hli⟩ := dW hok (.inl h5)
    have hlL : l < L.length := by omega
    rw [a6y hi L h5 hl] at hst
    cases hb : L[i]
    all_goals
     have q0 := @hx; have q1 := @hi; have q2 := @hiL; have q3 := @hb; have q4 := @h5; have q5 := @hl; have q6 := @hlL; have q7 := @decide_true; have q8 := @decide_false; have q9 := @Int.toNat_natCast; refine nK ?_
     refine aH i ?_ ?_ ?_
     ·simp only [go_sem, hst]; simp [sN]
     ·omega
     ·omega
   by_cases h67 : q[i].fOp = 6 ∨ q[i].fOp = 7
   ·obtain ⟨l, hl, hli⟩ := dW hok (.inr h67)
    obtain ⟨r, hr, hri⟩ := gH hok h67
    have hlL : l < L.length := by omega
    have hrL : r < L.length := by omega
    rw [a3J hi L hiL h5 h67 hl hr] at hst
    by_cases h6 : q[i].fOp = 6
    ·cases hb : L[i]
     all_goals
      rw [hb] at hst
      have hs1 := a7Y hiL hb l
      have hs2 := a9a hiL hb l r
      have hrL1 : r < (L.set l false).length := by simpa using hrL
      have hrL2 : r < (L.set l true).length := by simpa using hrL
      have qH := aI @hx (aI @hi (aI @hiL (aI @hb (aI @h5 (aI @h6 (aI @hl (aI @hr (aI @hlL (aI @hrL (aI @a8Y (aI @a8Z (aI @hrL1 (aI @hrL2 (aI @hs1 (aI @hs2 (aI @decide_true (aI @decide_false @Int.toNat_natCast))))))))))))))))); repeat' (with_reducible first | refine nY ?_ | (refine mX ?_; try simp only [go_sem, qH]) | refine kD ?_ | refine rT [8] [] ?_ | refine dL (aX ?_) (uX ?_) | refine fA (aX ?_) ?_ | exact uB | refine rD ?_ | refine aO ?_ | fail)
      refine aH i ?_ ?_ ?_
      ·simp only [go_sem, hst]; simp [sN]
      ·omega
      ·omega
    ·have h7 : q[i].fOp = 7 := by omega
     cases hb : L[i]
     all_goals
      rw [hb] at hst
      have hs1 := a7Y hiL hb l
      have hs2 := a9a hiL hb l r
      have hrL1 : r < (L.set l false).length := by simpa using hrL
      have hrL2 : r < (L.set l true).length := by simpa using hrL
      have qH := aI @hx (aI @hi (aI @hiL (aI @hb (aI @h5 (aI @h6 (aI @h7 (aI @hl (aI @hr (aI @hlL (aI @hrL (aI @a8Y (aI @a8Z (aI @hrL1 (aI @hrL2 (aI @hs1 (aI @hs2 (aI @decide_true (aI @decide_false @Int.toNat_natCast)))))))))))))))))); repeat' (with_reducible first | refine nY ?_ | (refine mX ?_; try simp only [go_sem, qH]) | refine kD ?_ | refine rT [8] [] ?_ | refine dL (aX ?_) (uX ?_) | refine fA (aX ?_) ?_ | exact uB | refine rD ?_ | refine aO ?_ | fail)
      refine aH i ?_ ?_ ?_
      ·simp only [go_sem, hst]; simp [sN]
      ·omega
      ·omega
   ·have h6 : ¬ q[i].fOp = 6 := fun h => h67 (.inl h)
    have h7 : ¬ q[i].fOp = 7 := fun h => h67 (.inr h)
    rw [a3K hi L h5 h67] at hst
    cases hb : L[i]
    all_goals
     have q0 := @hx; have q1 := @hi; have q2 := @hiL; have q3 := @hb; have q4 := @h5; have q5 := @h6; have q6 := @h7; have q7 := @decide_true; have q8 := @decide_false; have q9 := @Int.toNat_natCast; refine nK ?_
     refine aH i ?_ ?_ ?_
     ·simp only [go_sem, hst]; simp [sN]
     ·omega
     ·omega
  ·simp only [decide_eq_false_iff_not] at h
   have e : m = 0 := by omega
   subst e
   refine aJ ?_
   exact aA ⟨⟨_, rfl, by simp only [go_sem, a0I, Nat.sub_zero]⟩, trivial⟩
theorem b1Y (q : List TNode) (b : Bool) (k : Nat) (h : k < q.length) (h2 : k < (a0I q).length) : sel q b k = if jB q[k] && ((a0I q)[k] == b) then [q[k].fName] else [] := by
 unfold sel; rw [List.getElem?_eq_getElem h, List.getElem?_eq_getElem h2]
theorem a6t (n : TNode) : FnC Tryz.prog 249 [a6f n] (ob (jB n)) := by
 refine ent Tryz.func249 rfl Tryz.call249 rfl (fun C => ?_); simp only [go_sem, st0, Tryz.ntmps249]
 by_cases c8 : n.fOp = 8
 ·have hd : jB n = true := by simp [jB, inB, c8]
  have q0 := @c8; have q1 := @decide_true; refine jN ?_
  exact aA ⟨⟨_, rfl, by simp only [go_sem, hd]⟩, trivial⟩
 by_cases c9 : n.fOp = 9
 ·have hd : jB n = true := by simp [jB, inB, c9]
  have q0 := @c8; have q1 := @c9; have q2 := @decide_true; have q3 := @decide_false; refine jJ ?_
  exact aA ⟨⟨_, rfl, by simp only [go_sem, hd]⟩, trivial⟩
 ·have hd : jB n = false := by
   rw [← Bool.not_eq_true]
   simp only [jB, inB, Bool.and_eq_true, decide_eq_true_eq]; omega
  have q0 := @c8; have q1 := @c9; have q2 := @decide_true; have q3 := @decide_false; refine jJ ?_
  exact aA ⟨⟨_, rfl, by simp only [go_sem, hd]⟩, trivial⟩
theorem a0B (q : List TNode) (b : Bool) (hq : okQ q = true) (hw : wNodeS q ≤ 4300000) : FnC Tryz.prog 228 [.o (.d (.sl (q.map bG))), ob b] (.o (.w 9 1 ((gU (bY q b)).map bD))) := by
 have hl9 := fJ hq
 have hnl := a6x q
 refine ent Tryz.func228 rfl Tryz.call228 rfl (fun C => ?_); simp only [go_sem, st0, Tryz.ntmps228]
 refine mH (a7Z q hq hw) ?_
 refine bE (α := Nat) (fun k => [(5, .o (.s 0)), (8, .o .u), (12, oi k)]) (fun k => [(0, .row 9 1 ((lZ q b k).map bD) true)]) (fun k => k ≤ q.length) (fun k => q.length - k) 0 (fun _ => ?_) ?_ ?_ (fun k hk => ?_)
 ·simp only [go_sem]
 ·simp only [go_sem]; simp [lZ]
 ·simp
 ·simp only [go_sem]
  refine aJ ?_
  refine cnd rfl (fun h1 => ?_) (fun h1 => ?_)
  ·simp only [decide_eq_true_eq, Int.ofNat_lt] at h1
   have h2 : k < (a0I q).length := h1
   have h1 : k < q.length := by omega
   have hdl := jC q b k
   have hs := b1Y q b k h1 h2
   have ht := wU q b k
   rw [hs] at ht
   have hl1 : (lZ q b k).length + 1 ≤ 140737488355328 := by omega
   have hl2 : ((lZ q b k).length + 1) * 16 ≤ 140737488355328 := by omega
   cases hd : jB q[k]
   ·simp only [hd, Bool.false_and, Bool.false_eq_true, if_false, List.append_nil] at ht
    have q0 := @h1; have q1 := @h2; have q2 := @hd; refine jT (a6t q[k]) ?_
    refine aH (k + 1) ?_ ?_ ?_
    ·simp only [go_sem, ht]; simp
    ·omega
    ·omega
   ·cases hx : (a0I q)[k] <;> cases b
    all_goals
     simp only [hd, hx, Bool.true_and, Bool.true_beq, Bool.false_beq, Bool.not_true, Bool.not_false, Bool.false_eq_true, if_false, if_true, List.append_nil] at ht
     have q0 := @h1; have q1 := @h2; have q2 := @hd; have q3 := @hx; have q4 := @Bool.true_beq; have q5 := @Bool.false_beq; refine sK (a6t q[k]) ?_
     refine aH (k + 1) ?_ ?_ ?_
     ·simp only [go_sem, ht, List.map_append]; simp
     ·omega
     ·omega
  ·simp only [decide_eq_false_iff_not] at h1
   have e : k = q.length := by omega
   subst e
   have hdl := jC q b q.length
   refine mH (a2P (lZ q b q.length) (by omega)) ?_
   exact aA ⟨⟨_, rfl, by simp only [go_sem, bY]⟩, trivial⟩
theorem a0C (q : List TNode) (b : Bool) (hq : okQ q = true) (hw : wNodeS q ≤ 4300000) : FnC Tryz.prog 237 [.o (.d (.sl (q.map bG))), ob b] (.o (.w 9 1 ((putL (bY q b)).map bD))) := by
 have hl9 := fJ hq
 have hnl := a6x q
 refine ent Tryz.func237 rfl Tryz.call237 rfl (fun C => ?_); simp only [go_sem, st0, Tryz.ntmps237]
 refine mH (a8a q hq hw) ?_
 refine b3E 5 0 rfl rfl ?_
 simp only [go_sem]
 refine bE (α := Nat) (fun k => [(5, .o (.d (.sl ((putL (lZ q b k)).map bD)))), (7, oi k), (8, .o .u)]) (fun _ => []) (fun k => k ≤ q.length) (fun k => q.length - k) 0 (fun _ => ?_) ?_ ?_ (fun k hk => ?_)
 ·simp only [go_sem]
 ·simp only [go_sem]; simp [lZ, putL]
 ·simp
 ·simp only [go_sem]
  have hdl := jC q b k
  have hlen : (putL (lZ q b k)).length ≤ 4300000 := by have h1 := uE (lZ q b k); omega
  refine aJ ?_
  refine cnd rfl (fun h1 => ?_) (fun h1 => ?_)
  ·simp only [decide_eq_true_eq, Int.ofNat_lt] at h1
   have h2 : k < (a0I q).length := h1
   have h1 : k < q.length := by omega
   have hs := b1Y q b k h1 h2
   have ht := wU q b k
   rw [hs] at ht
   cases hd : jB q[k]
   ·simp only [hd, Bool.false_and, Bool.false_eq_true, if_false, List.append_nil] at ht
    have q0 := @h1; have q1 := @h2; have q2 := @hd; refine jT (show FnC Tryz.prog _ _ (ob (jB q[k])) from aZ q[k].fOp 8 9) ?_
    refine aH (k + 1) ?_ ?_ ?_
    ·simp only [go_sem, ht]; simp
    ·omega
    ·omega
   ·cases hx : (a0I q)[k] <;> cases b
    all_goals
     simp only [hd, hx, Bool.true_and, Bool.true_beq, Bool.false_beq, Bool.not_true, Bool.not_false, Bool.false_eq_true, if_false, if_true, List.append_nil] at ht
     have q0 := @h1; have q1 := @h2; have q2 := @hd; have q3 := @hx; have q4 := @Bool.true_beq; have q5 := @Bool.false_beq; refine a1V (show FnC Tryz.prog _ _ (ob (jB q[k])) from aZ q[k].fOp 8 9) (b0s (putL (lZ q _ k)) q[k].fName hlen) ?_
     refine aH (k + 1) ?_ ?_ ?_
     ·simp only [go_sem, ht, b2d]; simp
     ·omega
     ·omega
  ·simp only [decide_eq_false_iff_not] at h1
   have e : k = q.length := by omega
   subst e
   refine aJ ?_
   exact aA ⟨⟨_, rfl, by simp only [go_sem, bY]⟩, trivial⟩
theorem a7W (q : List TNode) (hq : okQ q = true) (hw : wNodeS q ≤ 4300000) : FnC Tryz.prog 189 [.o (.d (.sl (q.map bG)))] (.o (.w 9 1 ((gU (bY q false)).map bD))) := by
 refine ent Tryz.func189 rfl Tryz.call189 rfl (fun C => ?_); simp only [go_sem, st0, Tryz.ntmps189]
 refine mH (a0B q false hq hw) ?_
 exact aA ⟨⟨_, rfl, by simp only [go_sem]⟩, trivial⟩
theorem a6u (q : List TNode) (hq : okQ q = true) (hw : wNodeS q ≤ 4300000) : FnC Tryz.prog 190 [.o (.d (.sl (q.map bG)))] (.o (.w 9 1 ((gU (bY q true)).map bD))) := by
 refine ent Tryz.func190 rfl Tryz.call190 rfl (fun C => ?_); simp only [go_sem, st0, Tryz.ntmps190]
 refine mH (a0B q true hq hw) ?_
 exact aA ⟨⟨_, rfl, by simp only [go_sem]⟩, trivial⟩
theorem a7X (q : List TNode) (hq : okQ q = true) (hw : wNodeS q ≤ 4300000) : FnC Tryz.prog 202 [.o (.d (.sl (q.map bG)))] (.o (.w 9 1 ((putL (bY q false)).map bD))) := by
 refine ent Tryz.func202 rfl Tryz.call202 rfl (fun C => ?_); simp only [go_sem, st0, Tryz.ntmps202]
 refine mH (a0C q false hq hw) ?_
 exact aA ⟨⟨_, rfl, by simp only [go_sem]⟩, trivial⟩
theorem a6v (q : List TNode) (hq : okQ q = true) (hw : wNodeS q ≤ 4300000) : FnC Tryz.prog 204 [.o (.d (.sl (q.map bG)))] (.o (.w 9 1 ((putL (bY q true)).map bD))) := by
 refine ent Tryz.func204 rfl Tryz.call204 rfl (fun C => ?_); simp only [go_sem, st0, Tryz.ntmps204]
 refine mH (a0C q true hq hw) ?_
 exact aA ⟨⟨_, rfl, by simp only [go_sem]⟩, trivial⟩
end Go.Proofs.YtgpoopjfkplilaaGreatDoor
end
