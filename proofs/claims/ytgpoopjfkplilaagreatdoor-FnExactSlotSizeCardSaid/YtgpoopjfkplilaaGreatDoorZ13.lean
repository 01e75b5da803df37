/- Joined texts. -/
import Derived.Test.YtgpoopjfkplilaaGreatDoorZ08
import Derived.Test.YtgpoopjfkplilaaGreatDoorZ12
import Derived.Test.YtgpoopjfkplilaaGreatDoorZ07
import Derived.Test.YtgpoopjfkplilaaGreatDoorZ09
import Derived.Test.YtgpoopjfkplilaaGreatDoorZ05
set_option linter.all false
section
section
set_option linter.all false
set_option maxRecDepth 100000
set_option maxHeartbeats 4000000
namespace Go.Proofs.YtgpoopjfkplilaaGreatDoor
open Go Go.Sx Go.RowKit Go.Proofs
def a9y (k : Nat) (out : ByteArray) : ByteArray :=
 if h : k = 0 then out else a9y (k / 10) (mU [(48 : Int) + ((k % 10 : Nat) : Int)] ++ out)
decreasing_by omega
def pQ (k : Int) : ByteArray := ⟨#[109]⟩ ++ a9y k.toNat ⟨#[]⟩
theorem fE (k : Int) (hk : 1 ≤ k ∧ k ≤ 4611686018427387904) : FnC Tryz.prog 59 [oi k] (os (pQ k)) := by
 obtain ⟨n, rfl⟩ : ∃ n : Nat, k = n := ⟨k.toNat, by omega⟩
 have h0 : ¬ ((n : Int) ≤ 0) := by omega
 have hm : pQ (n : Int) = ⟨#[109]⟩ ++ a9y n ⟨#[]⟩ := by simp [pQ]
 rw [hm]
 generalize hq : a9y n ⟨#[]⟩ = res
 refine ent Tryz.func59 rfl Tryz.call59 rfl (fun C => ?_); simp only [go_sem, st0, Tryz.ntmps59]
 have q0 := @h0; have q1 := @decide_false; refine kC ?_
 refine bD (α := Nat × ByteArray) (fun p => [(0, oi p.1), (3, os p.2)]) (fun _ => []) (fun p => a9y p.1 p.2 = res ∧ p.2.size + p.1 ≤ n) (fun p => p.1) (n, ⟨#[]⟩) (fun _ => ?_) ?_ ?_ (fun p hp => ?_)
 ·simp only [go_sem]
 ·simp only [go_sem]; simp
 ·exact ⟨hq, by show 0 + n ≤ n; omega⟩
 ·obtain ⟨j, out⟩ := p
  obtain ⟨hp, hs⟩ := hp
  simp only at hp hs
  simp only [go_sem]
  refine aH ?_
  refine cnd rfl (fun h => ?_) (fun h => ?_)
  ·simp only [decide_eq_true_eq] at h
   have hj : j ≠ 0 := by omega
   rw [a9y, dif_neg hj] at hp
   have e1 : (j : Int).tmod 10 = ((j % 10 : Nat) : Int) := by rw [Int.tmod_eq_emod_of_nonneg (by omega)]; omega
   have e2 : (j : Int).tdiv 10 = ((j / 10 : Nat) : Int) := by rw [Int.tdiv_eq_ediv_of_nonneg (by omega)]; omega
   have q0 := @e1; have q1 := @e2; refine kC ?_
   refine aD (j / 10, mU [(48 : Int) + ((j % 10 : Nat) : Int)] ++ out) ?_ ?_ ?_
   ·simp only [go_sem, e1, e2]; simp [mU]
   ·refine ⟨hp, ?_⟩
    simp only [ByteArray.size_append, mU, List.map_cons, List.map_nil, b5D, List.length_cons, List.length_nil]
    omega
   ·simp only; omega
  ·simp only [decide_eq_false_iff_not] at h
   have hj : j = 0 := by omega
   subst hj
   rw [a9y, dif_pos rfl] at hp
   subst hp
   refine aH ?_
   exact aA ⟨⟨_, rfl, by simp only [go_sem]⟩, trivial⟩
def zY (x : Int) : Nat := 1
def b0H (x : Int) (k : Int) : Int := k
def b9e (x : ByteArray) : Nat := 1
def b9f (x : ByteArray) (k : Int) : ByteArray := (pQ k)
def b8M (x : Bool) : Nat := 1
def b8N (x : Bool) (k : Int) : Bool := (decide (Int.tmod k 3 = 0))
end Go.Proofs.YtgpoopjfkplilaaGreatDoor
end
section
set_option linter.all false
set_option maxRecDepth 100000
set_option maxHeartbeats 4000000
namespace Go.Proofs.YtgpoopjfkplilaaGreatDoor
open Go Go.Sx Go.RowKit Go.Proofs
def cnField (x : TField) : Nat := 2
theorem a1l : ∀ x, 1 ≤ cnField x := fun x => by unfold cnField; omega
def lD (x : TField) (k : Int) : TField := ⟨(pQ k), (k + 1)⟩
theorem a3K (l : List TField) (k : Int) (hk : 1 ≤ k ∧ k + (csum cnField l : Nat) ≤ 4611686018427387904) : FnM Tryz.prog 68 false [.w 0 2 (l.map aY)] [.w 0 2 ((mkL lD cnField l k).map aY)] k (k + (csum cnField l : Nat)) := by
 have hlen := jA cnField a1l l
 refine entm Tryz.func68 rfl Tryz.call68 rfl (by simp) (by simp only [go_sem]) (fun C tg => ?_); simp only [go_sem, Tryz.ntmps68]
 refine aH ?_
 refine bD (α := Nat) (fun j => [(5, oi j), (1, oi (k + (csum cnField (l.take j) : Nat)))]) (fun j => [(0, .own (tg 0) 2 (wE aY lD cnField l k j))]) (fun j => j ≤ l.length) (fun j => l.length - j) 0 (fun _ => ?_) ?_ ?_ (fun j hj => ?_)
 ·simp only [go_sem]
 ·simp only [go_sem]; simp [qR, csum]
 ·simp
 ·simp only [go_sem]
  refine aH ?_
  refine cnd rfl (fun h => ?_) (fun h => ?_)
  ·simp only [decide_eq_true_eq, Int.ofNat_lt] at h
   have hs := iA cnField l h
   have ht := kV cnField l (j + 1)
   have hc : cnField l[j] = 2 := rfl
   have hset := uM aY lD cnField l k j h
   have hkk : k + (csum cnField (l.take (j + 1)) : Nat) = k + (csum cnField (l.take j) : Nat) + (cnField l[j] : Nat) := by omega
   generalize k + (csum cnField (l.take j) : Nat) = K at hset hkk ⊢
   have hK : 1 ≤ K ∧ K + (cnField l[j] : Nat) ≤ 4611686018427387904 := by omega
   have q0 := @h; refine iX (fE K (by omega)) ?_
   refine aD (j + 1) ?_ ?_ ?_
   ·simp only [go_sem, hkk, ← hset]
    simp [lD, aY, hc]
    try omega
   ·omega
   ·omega
  ·simp only [decide_eq_false_iff_not] at h
   have e : j = l.length := by omega
   subst e
   refine aH ?_
   exact ⟨⟨⟨_, rfl, by simp only [go_sem, jY, List.take_length]⟩, trivial⟩, by simp only [go_sem, jY, List.take_length]⟩
theorem a3L (l : List TField) (k : Int) (hk : 1 ≤ k ∧ k + (csum cnField l : Nat) ≤ 4611686018427387904) : FnC Tryz.prog 71 [.o (.d (.sl ((mkL lD cnField l k).map aY))), oi k] (oi (k + (csum cnField l : Nat))) := by
 have hlen := jA cnField a1l l
 refine ent Tryz.func71 rfl Tryz.call71 rfl (fun C => ?_); simp only [go_sem, st0, Tryz.ntmps71]
 refine aH ?_
 refine bD (α := Nat) (fun j => [(5, oi j), (1, oi (k + (csum cnField (l.take j) : Nat)))]) (fun _ => []) (fun j => j ≤ l.length) (fun j => l.length - j) 0 (fun _ => ?_) ?_ ?_ (fun j hj => ?_)
 ·simp only [go_sem]
 ·simp only [go_sem]; simp [csum]
 ·simp
 ·simp only [go_sem]
  refine aH ?_
  refine cnd rfl (fun h => ?_) (fun h => ?_)
  ·simp only [decide_eq_true_eq, Int.ofNat_lt] at h
   have hs := iA cnField l h
   have ht := kV cnField l (j + 1)
   have hc : cnField l[j] = 2 := rfl
   have hkk : k + (csum cnField (l.take (j + 1)) : Nat) = k + (csum cnField (l.take j) : Nat) + (cnField l[j] : Nat) := by omega
   have hg := pF lD cnField l k j (by rw [fI]; exact h)
   generalize k + (csum cnField (l.take j) : Nat) = K at hg hkk ⊢
   have hK : 1 ≤ K ∧ K + (cnField l[j] : Nat) ≤ 4611686018427387904 := by omega
   repeat' (with_reducible first | refine nY ?_ | (refine mX ?_; try simp only [go_sem, h, hg, lD]) | refine kO ?_ (by decide) | refine a8w (by kernel_rfl) ?_ | (refine cC (fE K (by omega)) ?_ ?_; focus simp only [go_sem, and_self]; done) | (refine And.intro ?_ ?_; focus omega))
   refine aD (j + 1) ?_ ?_ ?_
   ·simp only [go_sem, hkk]
    simp [hc]
    try omega
   ·omega
   ·omega
  ·simp only [decide_eq_false_iff_not] at h
   have e : j = l.length := by omega
   subst e
   refine aH ?_
   exact aA ⟨⟨_, rfl, by simp only [go_sem, List.take_length]⟩, trivial⟩
def cnAttr (x : TAttr) : Nat := 4
theorem a3f : ∀ x, 1 ≤ cnAttr x := fun x => by unfold cnAttr; omega
def sO (x : TAttr) (k : Int) : TAttr := ⟨(pQ k), ⟨(k + 1), ((k + 1) + 1), (pQ (((k + 1) + 1) + 1))⟩⟩
theorem a6f (l : List TAttr) (k : Int) (hk : 1 ≤ k ∧ k + (csum cnAttr l : Nat) ≤ 4611686018427387904) : FnM Tryz.prog 116 false [.w 0 4 (l.map dL)] [.w 0 4 ((mkL sO cnAttr l k).map dL)] k (k + (csum cnAttr l : Nat)) := by
 have hlen := jA cnAttr a3f l
 refine entm Tryz.func116 rfl Tryz.call116 rfl (by simp) (by simp only [go_sem]) (fun C tg => ?_); simp only [go_sem, Tryz.ntmps116]
 refine aH ?_
 refine bD (α := Nat) (fun j => [(5, oi j), (1, oi (k + (csum cnAttr (l.take j) : Nat)))]) (fun j => [(0, .own (tg 0) 4 (wE dL sO cnAttr l k j))]) (fun j => j ≤ l.length) (fun j => l.length - j) 0 (fun _ => ?_) ?_ ?_ (fun j hj => ?_)
 ·simp only [go_sem]
 ·simp only [go_sem]; simp [qR, csum]
 ·simp
 ·simp only [go_sem]
  refine aH ?_
  refine cnd rfl (fun h => ?_) (fun h => ?_)
  ·simp only [decide_eq_true_eq, Int.ofNat_lt] at h
   have hs := iA cnAttr l h
   have ht := kV cnAttr l (j + 1)
   have hc : cnAttr l[j] = 4 := rfl
   have hset := uM dL sO cnAttr l k j h
   have hkk : k + (csum cnAttr (l.take (j + 1)) : Nat) = k + (csum cnAttr (l.take j) : Nat) + (cnAttr l[j] : Nat) := by omega
   generalize k + (csum cnAttr (l.take j) : Nat) = K at hset hkk ⊢
   have hK : 1 ≤ K ∧ K + (cnAttr l[j] : Nat) ≤ 4611686018427387904 := by omega
   have q0 := @h; refine a3A (fE K (by omega)) (fE (((K + 1) + 1) + 1) (by omega)) ?_
   refine aD (j + 1) ?_ ?_ ?_
   ·simp only [go_sem, hkk, ← hset]
    simp [sO, dL, hc]
    try omega
   ·omega
   ·omega
  ·simp only [decide_eq_false_iff_not] at h
   have e : j = l.length := by omega
   subst e
   refine aH ?_
   exact ⟨⟨⟨_, rfl, by simp only [go_sem, jY, List.take_length]⟩, trivial⟩, by simp only [go_sem, jY, List.take_length]⟩
theorem a6g (l : List TAttr) (k : Int) (hk : 1 ≤ k ∧ k + (csum cnAttr l : Nat) ≤ 4611686018427387904) : FnC Tryz.prog 117 [.o (.d (.sl ((mkL sO cnAttr l k).map dL))), oi k] (oi (k + (csum cnAttr l : Nat))) := by
 have hlen := jA cnAttr a3f l
 refine ent Tryz.func117 rfl Tryz.call117 rfl (fun C => ?_); simp only [go_sem, st0, Tryz.ntmps117]
 refine aH ?_
 refine bD (α := Nat) (fun j => [(5, oi j), (1, oi (k + (csum cnAttr (l.take j) : Nat)))]) (fun _ => []) (fun j => j ≤ l.length) (fun j => l.length - j) 0 (fun _ => ?_) ?_ ?_ (fun j hj => ?_)
 ·simp only [go_sem]
 ·simp only [go_sem]; simp [csum]
 ·simp
 ·simp only [go_sem]
  refine aH ?_
  refine cnd rfl (fun h => ?_) (fun h => ?_)
  ·simp only [decide_eq_true_eq, Int.ofNat_lt] at h
   have hs := iA cnAttr l h
   have ht := kV cnAttr l (j + 1)
   have hc : cnAttr l[j] = 4 := rfl
   have hkk : k + (csum cnAttr (l.take (j + 1)) : Nat) = k + (csum cnAttr (l.take j) : Nat) + (cnAttr l[j] : Nat) := by omega
   have hg := pF sO cnAttr l k j (by rw [fI]; exact h)
   generalize k + (csum cnAttr (l.take j) : Nat) = K at hg hkk ⊢
   have hK : 1 ≤ K ∧ K + (cnAttr l[j] : Nat) ≤ 4611686018427387904 := by omega
   repeat' (with_reducible first | refine nY ?_ | (refine mX ?_; try simp only [go_sem, h, hg, sO]) | refine kO ?_ (by decide) | refine a8w (by kernel_rfl) ?_ | (refine cC (fE K (by omega)) ?_ ?_; focus simp only [go_sem, and_self]; done) | (refine cC (fE (((K + 1) + 1) + 1) (by omega)) ?_ ?_; focus simp only [go_sem, and_self]; done) | (refine And.intro ?_ ?_; focus omega))
   refine aD (j + 1) ?_ ?_ ?_
   ·simp only [go_sem, hkk]
    simp [hc]
    try omega
   ·omega
   ·omega
  ·simp only [decide_eq_false_iff_not] at h
   have e : j = l.length := by omega
   subst e
   refine aH ?_
   exact aA ⟨⟨_, rfl, by simp only [go_sem, List.take_length]⟩, trivial⟩
def cnNode (x : TNode) : Nat := 7
theorem a3g : ∀ x, 1 ≤ cnNode x := fun x => by unfold cnNode; omega
def sP (x : TNode) (k : Int) : TNode := ⟨k, (k + 1), ((k + 1) + 1), (pQ (((k + 1) + 1) + 1)), ⟨((((k + 1) + 1) + 1) + 1), (((((k + 1) + 1) + 1) + 1) + 1), (pQ ((((((k + 1) + 1) + 1) + 1) + 1) + 1))⟩⟩
theorem a6h (l : List TNode) (k : Int) (hk : 1 ≤ k ∧ k + (csum cnNode l : Nat) ≤ 4611686018427387904) : FnM Tryz.prog 70 false [.w 0 7 (l.map bE)] [.w 0 7 ((mkL sP cnNode l k).map bE)] k (k + (csum cnNode l : Nat)) := by
 have hlen := jA cnNode a3g l
 refine entm Tryz.func70 rfl Tryz.call70 rfl (by simp) (by simp only [go_sem]) (fun C tg => ?_); simp only [go_sem, Tryz.ntmps70]
 refine aH ?_
 refine bD (α := Nat) (fun j => [(5, oi j), (1, oi (k + (csum cnNode (l.take j) : Nat)))]) (fun j => [(0, .own (tg 0) 7 (wE bE sP cnNode l k j))]) (fun j => j ≤ l.length) (fun j => l.length - j) 0 (fun _ => ?_) ?_ ?_ (fun j hj => ?_)
 ·simp only [go_sem]
 ·simp only [go_sem]; simp [qR, csum]
 ·simp
 ·simp only [go_sem]
  refine aH ?_
  refine cnd rfl (fun h => ?_) (fun h => ?_)
  ·simp only [decide_eq_true_eq, Int.ofNat_lt] at h
   have hs := iA cnNode l h
   have ht := kV cnNode l (j + 1)
   have hc : cnNode l[j] = 7 := rfl
   have hset := uM bE sP cnNode l k j h
   have hkk : k + (csum cnNode (l.take (j + 1)) : Nat) = k + (csum cnNode (l.take j) : Nat) + (cnNode l[j] : Nat) := by omega
   generalize k + (csum cnNode (l.take j) : Nat) = K at hset hkk ⊢
   have hK : 1 ≤ K ∧ K + (cnNode l[j] : Nat) ≤ 4611686018427387904 := by omega
   have q0 := @h; refine a3A (fE (((K + 1) + 1) + 1) (by omega)) (fE ((((((K + 1) + 1) + 1) + 1) + 1) + 1) (by omega)) ?_
   refine aD (j + 1) ?_ ?_ ?_
   ·simp only [go_sem, hkk, ← hset]
    simp [sP, bE, hc]
    try omega
   ·omega
   ·omega
  ·simp only [decide_eq_false_iff_not] at h
   have e : j = l.length := by omega
   subst e
   refine aH ?_
   exact ⟨⟨⟨_, rfl, by simp only [go_sem, jY, List.take_length]⟩, trivial⟩, by simp only [go_sem, jY, List.take_length]⟩
theorem a6i (l : List TNode) (k : Int) (hk : 1 ≤ k ∧ k + (csum cnNode l : Nat) ≤ 4611686018427387904) : FnC Tryz.prog 73 [.o (.d (.sl ((mkL sP cnNode l k).map bE))), oi k] (oi (k + (csum cnNode l : Nat))) := by
 have hlen := jA cnNode a3g l
 refine ent Tryz.func73 rfl Tryz.call73 rfl (fun C => ?_); simp only [go_sem, st0, Tryz.ntmps73]
 refine aH ?_
 refine bD (α := Nat) (fun j => [(5, oi j), (1, oi (k + (csum cnNode (l.take j) : Nat)))]) (fun _ => []) (fun j => j ≤ l.length) (fun j => l.length - j) 0 (fun _ => ?_) ?_ ?_ (fun j hj => ?_)
 ·simp only [go_sem]
 ·simp only [go_sem]; simp [csum]
 ·simp
 ·simp only [go_sem]
  refine aH ?_
  refine cnd rfl (fun h => ?_) (fun h => ?_)
  ·simp only [decide_eq_true_eq, Int.ofNat_lt] at h
   have hs := iA cnNode l h
   have ht := kV cnNode l (j + 1)
   have hc : cnNode l[j] = 7 := rfl
   have hkk : k + (csum cnNode (l.take (j + 1)) : Nat) = k + (csum cnNode (l.take j) : Nat) + (cnNode l[j] : Nat) := by omega
   have hg := pF sP cnNode l k j (by rw [fI]; exact h)
   generalize k + (csum cnNode (l.take j) : Nat) = K at hg hkk ⊢
   have hK : 1 ≤ K ∧ K + (cnNode l[j] : Nat) ≤ 4611686018427387904 := by omega
   repeat' (with_reducible first | refine nY ?_ | (refine mX ?_; try simp only [go_sem, h, hg, sP]) | refine kO ?_ (by decide) | refine a8w (by kernel_rfl) ?_ | (refine cC (fE (((K + 1) + 1) + 1) (by omega)) ?_ ?_; focus simp only [go_sem, and_self]; done) | (refine cC (fE ((((((K + 1) + 1) + 1) + 1) + 1) + 1) (by omega)) ?_ ?_; focus simp only [go_sem, and_self]; done) | (refine And.intro ?_ ?_; focus omega))
   refine aD (j + 1) ?_ ?_ ?_
   ·simp only [go_sem, hkk]
    simp [hc]
    try omega
   ·omega
   ·omega
  ·simp only [decide_eq_false_iff_not] at h
   have e : j = l.length := by omega
   subst e
   refine aH ?_
   exact aA ⟨⟨_, rfl, by simp only [go_sem, List.take_length]⟩, trivial⟩
end Go.Proofs.YtgpoopjfkplilaaGreatDoor
end
section
set_option linter.all false
set_option maxRecDepth 100000
set_option maxHeartbeats 4000000
namespace Go.Proofs.YtgpoopjfkplilaaGreatDoor
open Go Go.Sx Go.RowKit Go.Proofs
def cnFile (x : TFile) : Nat := 4 + csum cnAttr x.fAttrs
theorem a3h : ∀ x, 1 ≤ cnFile x := fun x => by unfold cnFile; omega
def oO (x : TFile) (k : Int) : TFile := ⟨k, (k + 1), (decide (Int.tmod ((k + 1) + 1) 3 = 0)), (((k + 1) + 1) + 1), (mkL sO cnAttr x.fAttrs ((((k + 1) + 1) + 1) + 1))⟩
theorem a6j (l : List TFile) (k : Int) (hk : 1 ≤ k ∧ k + (csum cnFile l : Nat) ≤ 4611686018427387904) : FnM Tryz.prog 69 false [.w 0 5 (l.map bR)] [.w 0 5 ((mkL oO cnFile l k).map bR)] k (k + (csum cnFile l : Nat)) := by
 have hlen := jA cnFile a3h l
 refine entm Tryz.func69 rfl Tryz.call69 rfl (by simp) (by simp only [go_sem]) (fun C tg => ?_); simp only [go_sem, Tryz.ntmps69]
 refine aH ?_
 refine bD (α := Nat) (fun j => [(5, oi j), (1, oi (k + (csum cnFile (l.take j) : Nat)))]) (fun j => [(0, .own (tg 0) 5 (wE bR oO cnFile l k j))]) (fun j => j ≤ l.length) (fun j => l.length - j) 0 (fun _ => ?_) ?_ ?_ (fun j hj => ?_)
 ·simp only [go_sem]
 ·simp only [go_sem]; simp [qR, csum]
 ·simp
 ·simp only [go_sem]
  refine aH ?_
  refine cnd rfl (fun h => ?_) (fun h => ?_)
  ·simp only [decide_eq_true_eq, Int.ofNat_lt] at h
   have hs := iA cnFile l h
   have ht := kV cnFile l (j + 1)
   have hc : cnFile l[j] = 4 + csum cnAttr l[j].fAttrs := rfl
   have hset := uM bR oO cnFile l k j h
   have hkk : k + (csum cnFile (l.take (j + 1)) : Nat) = k + (csum cnFile (l.take j) : Nat) + (cnFile l[j] : Nat) := by omega
   generalize k + (csum cnFile (l.take j) : Nat) = K at hset hkk ⊢
   have hK : 1 ≤ K ∧ K + (cnFile l[j] : Nat) ≤ 4611686018427387904 := by omega
   have qH := @h; repeat' (with_reducible first | refine nY ?_ | (refine mX ?_; try simp only [go_sem, qH]) | refine kD ?_ | refine rD ?_ | refine vN (a6f l[j].fAttrs _ (by omega)) ?_ | refine aO ?_ | fail)
   refine aD (j + 1) ?_ ?_ ?_
   ·simp only [go_sem, hkk, ← hset]
    simp [oO, bR, hc]
    try omega
   ·omega
   ·omega
  ·simp only [decide_eq_false_iff_not] at h
   have e : j = l.length := by omega
   subst e
   refine aH ?_
   exact ⟨⟨⟨_, rfl, by simp only [go_sem, jY, List.take_length]⟩, trivial⟩, by simp only [go_sem, jY, List.take_length]⟩
theorem a6k (l : List TFile) (k : Int) (hk : 1 ≤ k ∧ k + (csum cnFile l : Nat) ≤ 4611686018427387904) : FnC Tryz.prog 72 [.o (.d (.sl ((mkL oO cnFile l k).map bR))), oi k] (oi (k + (csum cnFile l : Nat))) := by
 have hlen := jA cnFile a3h l
 refine ent Tryz.func72 rfl Tryz.call72 rfl (fun C => ?_); simp only [go_sem, st0, Tryz.ntmps72]
 refine aH ?_
 refine bD (α := Nat) (fun j => [(5, oi j), (1, oi (k + (csum cnFile (l.take j) : Nat)))]) (fun _ => []) (fun j => j ≤ l.length) (fun j => l.length - j) 0 (fun _ => ?_) ?_ ?_ (fun j hj => ?_)
 ·simp only [go_sem]
 ·simp only [go_sem]; simp [csum]
 ·simp
 ·simp only [go_sem]
  refine aH ?_
  refine cnd rfl (fun h => ?_) (fun h => ?_)
  ·simp only [decide_eq_true_eq, Int.ofNat_lt] at h
   have hs := iA cnFile l h
   have ht := kV cnFile l (j + 1)
   have hc : cnFile l[j] = 4 + csum cnAttr l[j].fAttrs := rfl
   have hkk : k + (csum cnFile (l.take (j + 1)) : Nat) = k + (csum cnFile (l.take j) : Nat) + (cnFile l[j] : Nat) := by omega
   have hg := pF oO cnFile l k j (by rw [fI]; exact h)
   generalize k + (csum cnFile (l.take j) : Nat) = K at hg hkk ⊢
   have hK : 1 ≤ K ∧ K + (cnFile l[j] : Nat) ≤ 4611686018427387904 := by omega
   have hneg0 : ¬ (((((K + 1) + 1) + 1) + 1) + (csum cnAttr l[j].fAttrs : Nat) < 0) := by omega
   repeat' (with_reducible first | refine nY ?_ | (refine mX ?_; try simp only [go_sem, h, hg, oO, hneg0]) | refine kO ?_ (by decide) | refine a8w (by kernel_rfl) ?_ | (refine cC (a6g l[j].fAttrs ((((K + 1) + 1) + 1) + 1) (by omega)) ?_ ?_; focus simp only [go_sem, and_self]; done) | (refine And.intro ?_ ?_; focus omega))
   refine aD (j + 1) ?_ ?_ ?_
   ·simp only [go_sem, hkk]
    simp [hc]
    try omega
   ·omega
   ·omega
  ·simp only [decide_eq_false_iff_not] at h
   have e : j = l.length := by omega
   subst e
   refine aH ?_
   exact aA ⟨⟨_, rfl, by simp only [go_sem, List.take_length]⟩, trivial⟩
def cnDir (x : TDir) : Nat := 1 + csum cnNode x.fQuery
theorem a4M : ∀ x, 1 ≤ cnDir x := fun x => by unfold cnDir; omega
def zZ (x : TDir) (k : Int) : TDir := ⟨(pQ k), (mkL sP cnNode x.fQuery (k + 1))⟩
theorem a7T (l : List TDir) (k : Int) (hk : 1 ≤ k ∧ k + (csum cnDir l : Nat) ≤ 4611686018427387904) : FnM Tryz.prog 36 false [.w 0 2 (l.map bX)] [.w 0 2 ((mkL zZ cnDir l k).map bX)] k (k + (csum cnDir l : Nat)) := by
 have hlen := jA cnDir a4M l
 refine entm Tryz.func36 rfl Tryz.call36 rfl (by simp) (by simp only [go_sem]) (fun C tg => ?_); simp only [go_sem, Tryz.ntmps36]
 refine aH ?_
 refine bD (α := Nat) (fun j => [(5, oi j), (1, oi (k + (csum cnDir (l.take j) : Nat)))]) (fun j => [(0, .own (tg 0) 2 (wE bX zZ cnDir l k j))]) (fun j => j ≤ l.length) (fun j => l.length - j) 0 (fun _ => ?_) ?_ ?_ (fun j hj => ?_)
 ·simp only [go_sem]
 ·simp only [go_sem]; simp [qR, csum]
 ·simp
 ·simp only [go_sem]
  refine aH ?_
  refine cnd rfl (fun h => ?_) (fun h => ?_)
  ·simp only [decide_eq_true_eq, Int.ofNat_lt] at h
   have hs := iA cnDir l h
   have ht := kV cnDir l (j + 1)
   have hc : cnDir l[j] = 1 + csum cnNode l[j].fQuery := rfl
   have hset := uM bX zZ cnDir l k j h
   have hkk : k + (csum cnDir (l.take (j + 1)) : Nat) = k + (csum cnDir (l.take j) : Nat) + (cnDir l[j] : Nat) := by omega
   generalize k + (csum cnDir (l.take j) : Nat) = K at hset hkk ⊢
   have hK : 1 ≤ K ∧ K + (cnDir l[j] : Nat) ≤ 4611686018427387904 := by omega
   have qH := @h; repeat' (with_reducible first | refine nY ?_ | (refine mX ?_; try simp only [go_sem, qH]) | refine kD ?_ | refine rD ?_ | refine cP (fE K (by omega)) ?_ | refine vN (a6h l[j].fQuery _ (by omega)) ?_ | refine aO ?_ | fail)
   refine aD (j + 1) ?_ ?_ ?_
   ·simp only [go_sem, hkk, ← hset]
    simp [zZ, bX, hc]
    try omega
   ·omega
   ·omega
  ·simp only [decide_eq_false_iff_not] at h
   have e : j = l.length := by omega
   subst e
   refine aH ?_
   exact ⟨⟨⟨_, rfl, by simp only [go_sem, jY, List.take_length]⟩, trivial⟩, by simp only [go_sem, jY, List.take_length]⟩
theorem a7U (l : List TDir) (k : Int) (hk : 1 ≤ k ∧ k + (csum cnDir l : Nat) ≤ 4611686018427387904) : FnC Tryz.prog 38 [.o (.d (.sl ((mkL zZ cnDir l k).map bX))), oi k] (oi (k + (csum cnDir l : Nat))) := by
 have hlen := jA cnDir a4M l
 refine ent Tryz.func38 rfl Tryz.call38 rfl (fun C => ?_); simp only [go_sem, st0, Tryz.ntmps38]
 refine aH ?_
 refine bD (α := Nat) (fun j => [(5, oi j), (1, oi (k + (csum cnDir (l.take j) : Nat)))]) (fun _ => []) (fun j => j ≤ l.length) (fun j => l.length - j) 0 (fun _ => ?_) ?_ ?_ (fun j hj => ?_)
 ·simp only [go_sem]
 ·simp only [go_sem]; simp [csum]
 ·simp
 ·simp only [go_sem]
  refine aH ?_
  refine cnd rfl (fun h => ?_) (fun h => ?_)
  ·simp only [decide_eq_true_eq, Int.ofNat_lt] at h
   have hs := iA cnDir l h
   have ht := kV cnDir l (j + 1)
   have hc : cnDir l[j] = 1 + csum cnNode l[j].fQuery := rfl
   have hkk : k + (csum cnDir (l.take (j + 1)) : Nat) = k + (csum cnDir (l.take j) : Nat) + (cnDir l[j] : Nat) := by omega
   have hg := pF zZ cnDir l k j (by rw [fI]; exact h)
   generalize k + (csum cnDir (l.take j) : Nat) = K at hg hkk ⊢
   have hK : 1 ≤ K ∧ K + (cnDir l[j] : Nat) ≤ 4611686018427387904 := by omega
   have hneg0 : ¬ ((K + 1) + (csum cnNode l[j].fQuery : Nat) < 0) := by omega
   repeat' (with_reducible first | refine nY ?_ | (refine mX ?_; try simp only [go_sem, h, hg, zZ, hneg0]) | refine kO ?_ (by decide) | refine a8w (by kernel_rfl) ?_ | (refine cC (fE K (by omega)) ?_ ?_; focus simp only [go_sem, and_self]; done) | (refine cC (a6i l[j].fQuery (K + 1) (by omega)) ?_ ?_; focus simp only [go_sem, and_self]; done) | (refine And.intro ?_ ?_; focus omega))
   refine aD (j + 1) ?_ ?_ ?_
   ·simp only [go_sem, hkk]
    simp [hc]
    try omega
   ·omega
   ·omega
  ·simp only [decide_eq_false_iff_not] at h
   have e : j = l.length := by omega
   subst e
   refine aH ?_
   exact aA ⟨⟨_, rfl, by simp only [go_sem, List.take_length]⟩, trivial⟩
def b7L (x : TResult) : Nat := 1 + csum zY x.fIDs
def b7M (x : TResult) (k : Int) : TResult := ⟨(pQ k), (mkL b0H zY x.fIDs (k + 1))⟩
def b8O (x : TDiff) : Nat := 1 + csum zY x.fAdded + csum zY x.fRemoved
def b8P (x : TDiff) (k : Int) : TDiff := ⟨(pQ k), (mkL b0H zY x.fAdded (k + 1)), (mkL b0H zY x.fRemoved ((k + 1) + (csum zY x.fAdded : Nat)))⟩
def b8g (x : TGroup) : Nat := 3 + csum zY x.fIDs
def b8h (x : TGroup) (k : Int) : TGroup := ⟨⟨k, (k + 1), (pQ ((k + 1) + 1))⟩, (mkL b0H zY x.fIDs (((k + 1) + 1) + 1))⟩
def b7N (x : TChange) : Nat := 7 + csum cnAttr x.fFile.fAttrs + csum cnNode x.fDir.fQuery
def b7O (x : TChange) (k : Int) : TChange := ⟨k, ⟨(k + 1), ((k + 1) + 1), (decide (Int.tmod (((k + 1) + 1) + 1) 3 = 0)), ((((k + 1) + 1) + 1) + 1), (mkL sO cnAttr x.fFile.fAttrs (((((k + 1) + 1) + 1) + 1) + 1))⟩, ((((((k + 1) + 1) + 1) + 1) + 1) + (csum cnAttr x.fFile.fAttrs : Nat)), ⟨(pQ (((((((k + 1) + 1) + 1) + 1) + 1) + (csum cnAttr x.fFile.fAttrs : Nat)) + 1)), (mkL sP cnNode x.fDir.fQuery ((((((((k + 1) + 1) + 1) + 1) + 1) + (csum cnAttr x.fFile.fAttrs : Nat)) + 1) + 1))⟩⟩
end Go.Proofs.YtgpoopjfkplilaaGreatDoor
end
section
set_option linter.all false
set_option maxRecDepth 100000
set_option maxHeartbeats 4000000
namespace Go.Proofs.YtgpoopjfkplilaaGreatDoor
open Go Go.Sx Go.RowKit Go.Proofs
theorem a6l (x : TStore) (k : Int) (hk : 1 ≤ k ∧ k + (csum cnField x.fSchema : Nat) + (csum cnFile x.fFiles : Nat) ≤ 4611686018427387904) : FnM Tryz.prog 35 true [.w 0 2 (x.fSchema.map aY), .w 0 5 (x.fFiles.map bR), .d (iv x.fNextID)] [.w 0 2 ((mkL lD cnField x.fSchema (k)).map aY), .w 0 5 ((mkL oO cnFile x.fFiles (k + (csum cnField x.fSchema : Nat))).map bR), .d (iv x.fNextID)] k (k + (csum cnField x.fSchema : Nat) + (csum cnFile x.fFiles : Nat)) := by
 refine entm Tryz.func35 rfl Tryz.call35 rfl (by simp) (by simp only [go_sem]) (fun C tg => ?_); simp only [go_sem, Tryz.ntmps35]
 have qH := trivial; repeat' (with_reducible first | refine nY ?_ | (refine mX ?_; try simp only [go_sem]) | refine kD ?_ | refine rD ?_ | refine vM (a3K x.fSchema _ (by omega)) ?_ | refine vM (a6j x.fFiles _ (by omega)) ?_ | refine aO ?_ | fail)
 exact ⟨⟨⟨_, rfl, by simp only [go_sem]⟩, trivial⟩, by simp only [go_sem]⟩
theorem a6m (x : TStore) (k : Int) (hk : 1 ≤ k ∧ k + (csum cnField x.fSchema : Nat) + (csum cnFile x.fFiles : Nat) ≤ 4611686018427387904) : FnC Tryz.prog 37 [.g [.d (.sl ((mkL lD cnField x.fSchema (k)).map aY)), .d (.sl ((mkL oO cnFile x.fFiles (k + (csum cnField x.fSchema : Nat))).map bR)), .d (iv x.fNextID)], oi k] (oi (k + (csum cnField x.fSchema : Nat) + (csum cnFile x.fFiles : Nat))) := by
 have hneg0 : ¬ (k + (csum cnField x.fSchema : Nat) < 0) := by omega
 have hneg1 : ¬ (k + (csum cnField x.fSchema : Nat) + (csum cnFile x.fFiles : Nat) < 0) := by omega
 refine ent Tryz.func37 rfl Tryz.call37 rfl (fun C => ?_); simp only [go_sem, st0, Tryz.ntmps37]
 have q0 := @hneg0; have q1 := @hneg1; refine uS (a3L x.fSchema (k) (by omega)) (a6k x.fFiles (k + (csum cnField x.fSchema : Nat)) (by omega)) ?_
 exact aA ⟨⟨_, rfl, by simp only [go_sem]⟩, trivial⟩
theorem tL (x : TSnapshot) (k : Int) (hk : 1 ≤ k ∧ k + (csum cnField x.fStore.fSchema : Nat) + (csum cnFile x.fStore.fFiles : Nat) + (csum cnDir x.fDirs : Nat) ≤ 4611686018427387904) : FnM Tryz.prog 13 true [.w 0 2 (x.fStore.fSchema.map aY), .w 0 5 (x.fStore.fFiles.map bR), .d (iv x.fStore.fNextID), .w 0 2 (x.fDirs.map bX)] [.w 0 2 ((mkL lD cnField x.fStore.fSchema (k)).map aY), .w 0 5 ((mkL oO cnFile x.fStore.fFiles (k + (csum cnField x.fStore.fSchema : Nat))).map bR), .d (iv x.fStore.fNextID), .w 0 2 ((mkL zZ cnDir x.fDirs (k + (csum cnField x.fStore.fSchema : Nat) + (csum cnFile x.fStore.fFiles : Nat))).map bX)] k (k + (csum cnField x.fStore.fSchema : Nat) + (csum cnFile x.fStore.fFiles : Nat) + (csum cnDir x.fDirs : Nat)) := by
 refine entm Tryz.func13 rfl Tryz.call13 rfl (by simp) (by simp only [go_sem]) (fun C tg => ?_); simp only [go_sem, Tryz.ntmps13]
 have qH := trivial; repeat' (with_reducible first | refine nY ?_ | (refine mX ?_; try simp only [go_sem]) | refine kD ?_ | refine rD ?_ | refine vM (a6l x.fStore _ (by omega)) ?_ | refine vM (a7T x.fDirs _ (by omega)) ?_ | refine aO ?_ | fail)
 exact ⟨⟨⟨_, rfl, by simp only [go_sem]⟩, trivial⟩, by simp only [go_sem]⟩
theorem kE (x : TSnapshot) (k : Int) (hk : 1 ≤ k ∧ k + (csum cnField x.fStore.fSchema : Nat) + (csum cnFile x.fStore.fFiles : Nat) + (csum cnDir x.fDirs : Nat) ≤ 4611686018427387904) : FnC Tryz.prog 14 [.g [.d (.sl ((mkL lD cnField x.fStore.fSchema (k)).map aY)), .d (.sl ((mkL oO cnFile x.fStore.fFiles (k + (csum cnField x.fStore.fSchema : Nat))).map bR)), .d (iv x.fStore.fNextID), .d (.sl ((mkL zZ cnDir x.fDirs (k + (csum cnField x.fStore.fSchema : Nat) + (csum cnFile x.fStore.fFiles : Nat))).map bX))], oi k] (oi (k + (csum cnField x.fStore.fSchema : Nat) + (csum cnFile x.fStore.fFiles : Nat) + (csum cnDir x.fDirs : Nat))) := by
 have hneg0 : ¬ (k + (csum cnField x.fStore.fSchema : Nat) + (csum cnFile x.fStore.fFiles : Nat) < 0) := by omega
 have hneg1 : ¬ (k + (csum cnField x.fStore.fSchema : Nat) + (csum cnFile x.fStore.fFiles : Nat) + (csum cnDir x.fDirs : Nat) < 0) := by omega
 refine ent Tryz.func14 rfl Tryz.call14 rfl (fun C => ?_); simp only [go_sem, st0, Tryz.ntmps14]
 have q0 := @hneg0; have q1 := @hneg1; refine uS (a6m x.fStore (k) (by omega)) (a7U x.fDirs (k + (csum cnField x.fStore.fSchema : Nat) + (csum cnFile x.fStore.fFiles : Nat)) (by omega)) ?_
 exact aA ⟨⟨_, rfl, by simp only [go_sem]⟩, trivial⟩
end Go.Proofs.YtgpoopjfkplilaaGreatDoor
end
section
set_option linter.all false
namespace Go.Proofs.YtgpoopjfkplilaaGreatDoor
open Go Go.Sx Go.RowKit Go.Proofs
theorem xU {α : Type} (cn w : α → Nat) (c : Nat) (hx : ∀ x, cn x ≤ c * (1 + w x)) : ∀ l : List α, csum cn l ≤ c * (l.length + wsum w l)
 | [] => by simp [csum]
 | x :: l => by
  have h1 := xU cn w c hx l
  have h2 := hx x
  simp only [csum, wsum, List.length_cons]
  have : c * (l.length + 1 + (w x + wsum w l)) = c * (1 + w x) + c * (l.length + wsum w l) := by rw [← Nat.mul_add]; congr 1; omega
  omega
theorem sQ {α : Type} (cn : α → Nat) (c : Nat) (hx : ∀ x, cn x = c) : ∀ l : List α, csum cn l = c * l.length
 | [] => by simp [csum]
 | x :: l => by
  have h1 := sQ cn c hx l
  simp only [csum, List.length_cons, hx, h1, Nat.mul_add]; omega
theorem a4N (l : List TField) : csum cnField l = 2 * l.length := sQ cnField 2 (fun _ => rfl) l
theorem b3N (l : List TAttr) : csum cnAttr l = 4 * l.length := sQ cnAttr 4 (fun _ => rfl) l
theorem b3O (l : List TNode) : csum cnNode l = 7 * l.length := sQ cnNode 7 (fun _ => rfl) l
theorem a7V (l : List TFile) : csum cnFile l ≤ 4 * (l.length + wsum wFile l) := xU cnFile wFile 4 (fun x => by
 unfold cnFile wFile eF; rw [b3N]; omega) l
theorem b0I (l : List TDir) : csum cnDir l ≤ 7 * (l.length + wsum wDir l) := xU cnDir wDir 7 (fun x => by
 unfold cnDir wDir wNodeS; rw [b3O]; omega) l
end Go.Proofs.YtgpoopjfkplilaaGreatDoor
end
end
section
set_option maxRecDepth 100000
set_option maxHeartbeats 4000000
namespace Go.Proofs.YtgpoopjfkplilaaGreatDoor
open Go Go.Sx Go.RowKit Go.Proofs
def b8L (l : List ByteArray) (s : ByteArray) : Bool := l.any fun x => decide (x = s)
def b7K (l : List TDir) : List ByteArray := l.map TDir.fName
def uD (names : List ByteArray) (l : List TDir) : List ByteArray := (b7K l).filter fun n => !b8L names n
end Go.Proofs.YtgpoopjfkplilaaGreatDoor
end
section
set_option maxRecDepth 100000
set_option maxHeartbeats 4000000
namespace Go.Sx
theorem b5l {P : Program} {C : Ctx} {F : Ex → St → Prop} {st : St} {code : Code} (i id : Nat) {ty sz : Nat} {rows : List (List D)} {lin : Bool} (hi : nth st.t i = .o (.s id)) (hb : dX st.h id = .row ty sz rows lin) (h : WP P C code F ⟨a7d st.t i (.o (.d (.sl rows))), setH st.h id (.frz rows lin)⟩) : WP P C code F st := by
 intro g V a w hr
 obtain ⟨g', V', h1, h2, h3, h4, h5⟩ := hr.hp.frz hr.mod hr.fr.size (aJ hb (by simp))
 have hr1 : Rel C g' V' ⟨st.t, setH st.h id (.frz rows lin)⟩ a w := ⟨hr.sl.mono h1 h2, by rw [cK]; exact h4, h3, hr.fr, hr.vw.grow h2 h5⟩
 refine h g' V' a w ⟨⟨by rw [mD]; simpa using hr1.sl.size, fun n s y e1 e2 => ?_, hr1.sl.defers⟩, hr1.hp, hr1.mod, hr1.fr, hr1.vw⟩
 rw [mD, List.getElem?_set] at e1
 by_cases e : i = n
 ·subst e
  rw [if_pos rfl] at e1
  split at e1
  ·rename_i hlt
   cases e1
   have hs : st.t[i]? = some (.o (.s id)) := by
    rw [qA, List.getD_eq_getElem?_getD, List.getElem?_eq_getElem hlt] at hi
    rw [List.getElem?_eq_getElem hlt]
    exact congrArg some hi
   obtain ⟨gh, hgh, hy, _⟩ := hr1.sl.slot i _ y hs e2
   have hf : (setH st.h id (.frz rows lin))[id]? = some (.frz rows lin) := by
    have := aJ hb (by simp)
    rw [cK, List.getElem?_set]; simp [(List.getElem?_eq_some_iff.1 this).1]
   obtain ⟨_, S, q1, _⟩ := hr1.hp.hb id _ gh hf hgh
   exact ⟨S, by rw [hy]; exact q1⟩
  ·cases e1
 ·rw [if_neg e] at e1
  exact hr1.sl.slot n s y e1 e2
end Go.Sx
namespace Go.Proofs.YtgpoopjfkplilaaGreatDoor
open Go Go.Sx Go.RowKit Go.Proofs
theorem xS {α : Type} [Inhabited α] [DecidableEq α] (d : Array α) : ∀ (m i : Nat), i < m → d[i]! ∈ Lib.compactUpTo d m
 | 0, i, h => by omega
 | m + 1, i, h => by
  rw [Lib.compactUpTo_succ]
  by_cases hi : i < m
  ·exact List.mem_append_left _ (xS d m i hi)
  ·have e : i = m := by omega
   subst e
   cases hk : Lib.keeps d i with
   | true => exact List.mem_append_right _ (by simp)
   | false =>
    have h0 : 0 < i := by
     rcases Nat.eq_zero_or_pos i with h | h
     ·subst h; rw [Lib.keeps_lt_one d 0 (by omega)] at hk; cases hk
     ·exact h
    have he : d[i]! = d[i - 1]! := Classical.byContradiction fun hn => by rw [Lib.keeps_pos hn] at hk; cases hk
    rw [he]
    exact List.mem_append_left _ (xS d i (i - 1) (by omega))
theorem a7Q {α : Type} [Inhabited α] [DecidableEq α] (zs : List α) (x : α) : x ∈ Lib.compact zs ↔ x ∈ zs := by
 refine ⟨fun h => ?_, fun h => ?_⟩
 ·unfold Lib.compact Lib.compactUpTo at h
  obtain ⟨i, hi, rfl⟩ := List.mem_map.1 h
  have hi' : i < zs.length := List.mem_range.1 (List.mem_filter.1 hi).1
  simp [getElem!_pos, hi']
 ·obtain ⟨i, hi, rfl⟩ := List.mem_iff_getElem.1 h
  have := xS zs.toArray zs.length i hi
  have e : zs.toArray[i]! = zs[i] := by simp [getElem!_pos, hi]
  rw [e] at this
  exact this
def iE (l : List ByteArray) : List ByteArray := a7S (uY l)
theorem a4L (l : List ByteArray) : (iE l).length ≤ l.length := by
 have := mQ ((uY l).map bl).toArray ((uY l).map bl).length
 simp only [iE, a7S, Lib.compact, List.length_map, a0K] at this ⊢
 exact this
theorem vW (l : List ByteArray) (s : ByteArray) : s ∈ iE l ↔ s ∈ l := by
 have e : (uY l).map bl = wO (l.map bl) := by
  unfold uY
  rw [List.map_map]
  have : (bl ∘ lb) = id := by funext x; exact b5G x
  rw [this, List.map_id]
 unfold iE a7S
 rw [e]
 constructor
 ·intro h
  obtain ⟨y, hy, rfl⟩ := List.mem_map.1 h
  rw [a7Q, wO, List.mem_mergeSort] at hy
  obtain ⟨z, hz, rfl⟩ := List.mem_map.1 hy
  rw [b3M]; exact hz
 ·intro h
  refine List.mem_map.2 ⟨bl s, ?_, b3M s⟩
  rw [a7Q, wO, List.mem_mergeSort]
  exact List.mem_map.2 ⟨s, h, rfl⟩
theorem a3J (l : List ByteArray) (hl : l.length ≤ 4300000) : FnC Tryz.prog 250 [.o (.d (.sl (l.map bN)))] (.o (.w 9 1 ((iE l).map bN))) := by
 refine ent Tryz.func250 rfl Tryz.call250 rfl (fun C => ?_); simp only [go_sem, st0, Tryz.ntmps250]
 have qH := trivial; repeat' (with_reducible first | refine nY ?_ | (refine mX ?_; try simp only [go_sem]) | refine kD ?_ | refine rD ?_ | refine cP (a7y l hl) ?_ | refine vI (a3e l (by omega)) ?_ | refine vJ (a3e l (by omega)) ?_ | refine vI (wQ (uY l) (by rw [a0K]; omega)) ?_ | refine vJ (wQ (uY l) (by rw [a0K]; omega)) ?_ | refine aO ?_ | fail)
 exact aA ⟨⟨_, rfl, by simp only [go_sem, iE]⟩, trivial⟩
def geS (s : ByteArray) (y : ByteArray) : Bool := !jZ y s
def wI (l : List ByteArray) (s : ByteArray) : List ByteArray := if (l.drop (jE (geS s) l)).head? = some s then l else a1g (jE (geS s) l) s l
def putL (l : List ByteArray) : List ByteArray := l.foldl wI []
theorem b3J (l : List ByteArray) (s x : ByteArray) : x ∈ wI l s ↔ x = s ∨ x ∈ l := by
 unfold wI
 split
 ·rename_i h
  have : s ∈ l.drop (jE (geS s) l) := by
   cases hd : l.drop (jE (geS s) l) with
   | nil => rw [hd] at h; cases h
   | cons y r => rw [hd] at h; simp at h; simp [h]
  have hs := List.mem_of_mem_drop this
  constructor
  ·exact .inr
  ·rintro (rfl | h) <;> first | exact hs | exact h
 ·unfold a1g
  conv => rhs; rw [← List.take_append_drop (jE (geS s) l) l]
  simp only [List.mem_append, List.mem_cons]
  constructor
  ·rintro (h | h | h) <;> first | exact .inr (.inl h) | exact .inl h | exact .inr (.inr h)
  ·rintro (h | h | h) <;> first | exact .inr (.inl h) | exact .inl h | exact .inr (.inr h)
theorem b3K (l : List ByteArray) (s : ByteArray) : (wI l s).length ≤ l.length + 1 := by
 unfold wI
 split
 ·omega
 ·rw [b1W _ _ _ (a2T _ l)]; omega
theorem b3L (l : List ByteArray) (s : ByteArray) : putL (l ++ [s]) = wI (putL l) s := by simp [putL]
theorem b2a (l : List ByteArray) : ∀ (a : List ByteArray) (x : ByteArray), x ∈ l.foldl wI a ↔ x ∈ a ∨ x ∈ l := by
 induction l with
 | nil => simp
 | cons y l ih =>
  intro a x
  rw [List.foldl_cons, ih, b3J]
  simp only [List.mem_cons]
  constructor
  ·rintro ((h | h) | h) <;> first | exact .inr (.inl h) | exact .inl h | exact .inr (.inr h)
  ·rintro (h | h | h) <;> first | exact .inl (.inr h) | exact .inl (.inl h) | exact .inr h
theorem a7R (l : List ByteArray) (x : ByteArray) : x ∈ putL l ↔ x ∈ l := by rw [putL, b2a]; simp
theorem b2b (l : List ByteArray) : ∀ a : List ByteArray, (l.foldl wI a).length ≤ a.length + l.length := by
 induction l with
 | nil => simp
 | cons y l ih =>
  intro a
  have h1 := ih (wI a y)
  have h2 := b3K a y
  simp only [List.foldl_cons, List.length_cons]; omega
theorem uW (l : List ByteArray) : (putL l).length ≤ l.length := by have := b2b l []; simpa [putL] using this
theorem b2c {α : Type} (p : α → Bool) (l : List α) (k : Nat) (h : k < l.length) (hk : jE p l = k + jE p (l.drop k)) : jE p l = if p l[k] then k else k + 1 + jE p (l.drop (k + 1)) := by
 rw [hk, a9p p l k h]
 split <;> omega
theorem nM {α β : Type} (f : α → β) (l : List α) (n : Nat) : (l.map f).take n = (l.take n).map f := List.map_take.symm
theorem nO {α β : Type} (f : α → β) (l : List α) (n : Nat) : (l.map f).drop n = (l.drop n).map f := List.map_drop.symm
end Go.Proofs.YtgpoopjfkplilaaGreatDoor
end
section
namespace Go.Proofs.YtgpoopjfkplilaaGreatDoor
open Go Go.Sx Go.RowKit Go.Proofs
def a6n (name : ByteArray) : List TAttr → TValue
 | [] => ⟨0, 0, ⟨#[]⟩⟩
 | a :: r => if a.fName = name then a.fValue else a6n name r
end Go.Proofs.YtgpoopjfkplilaaGreatDoor
end
section
set_option maxRecDepth 100000
set_option maxHeartbeats 4000000
namespace Go.Proofs.YtgpoopjfkplilaaGreatDoor
open Go Go.Sx Go.RowKit Go.Proofs
theorem b5j (l : List ByteArray) : ∀ r ∈ l.map bN, r.length = 1 := by intro r hr; obtain ⟨x, _, rfl⟩ := List.mem_map.1 hr; rfl
theorem b1Z (l : List ByteArray) (s : ByteArray) (hl : l.length ≤ 4300000) : FnC Tryz.prog 258 [.o (.d (.sl (l.map bN))), os s] (.o (.d (.sl ((wI l s).map bN)))) := by
 have hle := a2T (geS s) l
 refine ent Tryz.func258 rfl Tryz.call258 rfl (fun C => ?_); simp only [go_sem, st0, Tryz.ntmps258]
 refine aH ?_
 refine bD (α := Nat) (fun k => [(5, oi k)]) (fun _ => []) (fun k => k ≤ l.length ∧ jE (geS s) l = k + jE (geS s) (l.drop k)) (fun k => l.length - k) 0 (fun _ => ?_) ?_ ?_ (fun k hk => ?_)
 ·simp only [go_sem]
 ·simp only [go_sem]; simp
 ·simp
 ·obtain ⟨hk, hf⟩ := hk
  simp only [go_sem]
  by_cases h1 : k < l.length
  ·have hfx := b2c (geS s) l k h1 hf
   have h1' : ((k : Int) < (l.length : Int)) = True := by simp [h1]
   have q0 := @h1; have q1 := @h1'; have q2 := @decide_true; refine lQ ?_
   refine cnd (b := jZ l[k] s) rfl (fun h2 => ?_) (fun h2 => ?_)
   ·rw [if_neg (by simp [geS, h2])] at hfx
    refine aH ?_
    refine aD (k + 1) ?_ ?_ ?_
    ·simp only [go_sem]; simp
    ·exact ⟨by omega, hfx⟩
    ·omega
   ·rw [if_pos (by simp [geS, h2])] at hfx
    have hd := List.drop_eq_getElem_cons h1
    by_cases h3 : l[k] = s
    ·have hput : wI l s = l := by unfold wI; rw [hfx, hd]; simp [h3]
     have q0 := @h1; have q1 := @h1'; have q2 := @h3; have q3 := @decide_true; refine iW ?_
     exact aA ⟨⟨_, rfl, by simp only [go_sem, hput]⟩, trivial⟩
    ·have hput : wI l s = a1g k s l := by unfold wI; rw [hfx, hd]; exact if_neg (fun h => h3 (Option.some.inj h))
     have hn1 : ((0 : Int) ≤ (k : Int)) := by omega
     have qH := aI @h1 (aI @h1' (aI @h3 (aI @hn1 (aI @decide_true (aI @decide_false (aI @nM (aI @nO (aI @a4r (aI @a4s @b1H))))))))); repeat' (with_reducible first | refine nY ?_ | (refine mX ?_; try simp only [go_sem, qH]) | refine kD ?_ | refine rD ?_ | refine aO ?_ | fail)
     refine ⟨b5j l, by omega, by omega, by omega, ?_⟩
     have q0 := @nM; have q1 := @nO; have q2 := @a4r; have q3 := @a4s; have q4 := @b1H; refine tT ?_
     refine ⟨b5j l, by omega, by omega, by omega, ?_⟩
     have q0 := @nM; have q1 := @nO; have q2 := @a4r; have q3 := @a4s; have q4 := @b1H; refine tT ?_
     refine vK (Sees.frz 0 rfl) ?_
     simp only [go_sem]
     exact aA ⟨⟨_, rfl, by simp only [go_sem, hput, a1g, List.take_length, List.map_append, List.map_cons, List.append_assoc, List.cons_append, List.nil_append]⟩, trivial⟩
  ·have e : k = l.length := by omega
   have hfx : jE (geS s) l = k := by rw [hf, e, List.drop_length]; rfl
   have hput : wI l s = a1g k s l := by unfold wI; rw [hfx, e, List.drop_length]; simp
   have h1' : ((k : Int) < (l.length : Int)) = False := by simp [h1]
   have q0 := @h1; have q1 := @h1'; have q2 := @decide_false; have q3 := @nM; have q4 := @nO; have q5 := @a4r; have q6 := @a4s; have q7 := @b1H; refine a0z ?_
   refine ⟨b5j l, by omega, by omega, by omega, ?_⟩
   have q0 := @nM; have q1 := @nO; have q2 := @a4r; have q3 := @a4s; have q4 := @b1H; refine tT ?_
   refine ⟨b5j l, by omega, by omega, by omega, ?_⟩
   have q0 := @nM; have q1 := @nO; have q2 := @a4r; have q3 := @a4s; have q4 := @b1H; refine tT ?_
   refine vK (Sees.frz 0 rfl) ?_
   simp only [go_sem]
   exact aA ⟨⟨_, rfl, by simp only [go_sem, hput, a1g, List.take_length, List.map_append, List.map_cons, List.append_assoc, List.cons_append, List.nil_append]⟩, trivial⟩
def b3I (l : List TAttr) : List ByteArray := l.map TAttr.fName
def eqV (x v : TValue) : Bool := decide (x.fKind = v.fKind) && (decide (x.fInt = v.fInt) && decide (x.fStr = v.fStr))
def b5k (a b : TFile) (n : ByteArray) : Bool := !(eqV (a6n n a.fAttrs) (a6n n b.fAttrs))
def chL (a b : TFile) (l : List ByteArray) : List ByteArray := l.filter (b5k a b)
def chg (a b : TFile) : List ByteArray := chL a b (b3I a.fAttrs ++ b3I b.fAttrs)
@[go_sem] def tY (b : Bool) : List D := [bv b]
def b9b (n : TNode) : Bool := decide (n.fOp = 5)
def isTwo (n : TNode) : Bool := decide (n.fOp = 6) || decide (n.fOp = 7)
def mF (q : List TNode) (i : Nat) (L : List Bool) : List Bool := match q[i]? with
 | none => L
 | some n => if n.fOp = 5 then L.set n.fLeft.toNat true else if isTwo n then (L.set n.fLeft.toNat (L.getD i false)).set n.fRight.toNat (L.getD i false) else L
def negJ (q : List TNode) : Nat → List Bool
 | 0 => List.replicate q.length false
 | j + 1 => mF q (q.length - 1 - j) (negJ q j)
theorem a7M (q : List TNode) (i : Nat) (L : List Bool) : (mF q i L).length = L.length := by
 unfold mF
 split
 ·rfl
 ·split
  ·simp
  ·split <;> simp
theorem a3d (q : List TNode) (j : Nat) : (negJ q j).length = q.length := by
 induction j with
 | zero => simp [negJ]
 | succ j ih => simp only [negJ, a7M, ih]
def a1r (q : List TNode) : List Bool := negJ q q.length
theorem a7N (q : List TNode) : (a1r q).length = q.length := a3d q q.length
theorem a4I (q : List TNode) (i : Nat) (h : i < q.length) : negJ q (q.length - i) = mF q i (negJ q (q.length - (i + 1))) := by
 have e : q.length - i = (q.length - (i + 1)) + 1 := by omega
 have e2 : q.length - 1 - (q.length - (i + 1)) = i := by omega
 rw [e, negJ, e2]
def jM (n : TNode) : Bool := inB n.fOp 8 9
def sel (q : List TNode) (b : Bool) (k : Nat) : List ByteArray := match q[k]?, (a1r q)[k]? with
 | some n, some x => if jM n && (x == b) then [n.fName] else []
 | _, _ => []
def mV (q : List TNode) (b : Bool) (k : Nat) : List ByteArray := (List.range k).flatMap (sel q b)
def dE (q : List TNode) (b : Bool) : List ByteArray := mV q b q.length
theorem xR (q : List TNode) (b : Bool) (k : Nat) : mV q b (k + 1) = mV q b k ++ sel q b k := by
 simp [mV, List.range_succ, List.flatMap_append]
theorem b5i (q : List TNode) (b : Bool) (k : Nat) : (sel q b k).length ≤ 1 := by
 unfold sel
 split
 ·split <;> simp
 ·simp
theorem jN (q : List TNode) (b : Bool) (k : Nat) : (mV q b k).length ≤ k := by
 induction k with
 | zero => simp [mV]
 | succ k ih => rw [xR, List.length_append]; have := b5i q b k; omega
theorem b8K (L : List Bool) (i : Nat) (h : i < L.length) : L.getD i false = L[i] := by simp [List.getD_eq_getElem?_getD, h]
theorem b0D (L : List Bool) (l : Nat) : (L.map tY).set l [D.v (Value.bool false)] = (L.set l false).map tY := by rw [List.map_set]; rfl
theorem b0E (L : List Bool) (l : Nat) : (L.map tY).set l [D.v (Value.bool true)] = (L.set l true).map tY := by rw [List.map_set]; rfl
theorem a9u {L : List Bool} {i : Nat} {b : Bool} (h : i < L.length) (hb : L[i] = b) (l : Nat) (h' : i < (L.set l b).length) : (L.set l b)[i] = b := by
 rw [List.getElem_set]; split
 ·rfl
 ·exact hb
theorem b0F {L : List Bool} {i : Nat} {b : Bool} (h : i < L.length) (hb : L[i] = b) (l r : Nat) (h' : i < ((L.set l b).set r b).length) : ((L.set l b).set r b)[i] = b := by
 rw [List.getElem_set]; split
 ·rfl
 ·exact a9u h hb l _
theorem a7O {q : List TNode} {i : Nat} (h : i < q.length) (L : List Bool) {l : Nat} (h5 : q[i].fOp = 5) (hl : q[i].fLeft = (l : Int)) : mF q i L = L.set l true := by
 simp [mF, List.getElem?_eq_getElem h, h5, hl]
theorem a4J {q : List TNode} {i : Nat} (h : i < q.length) (L : List Bool) (hi : i < L.length) {l m : Nat} (h5 : ¬ q[i].fOp = 5) (h67 : q[i].fOp = 6 ∨ q[i].fOp = 7) (hl : q[i].fLeft = (l : Int)) (hm : q[i].fRight = (m : Int)) : mF q i L = (L.set l L[i]).set m L[i] := by
 have h2 : isTwo q[i] = true := by unfold isTwo; rcases h67 with h | h <;> simp [h]
 simp only [mF, List.getElem?_eq_getElem h, h5, if_false, h2, if_true, hl, hm, Int.toNat_natCast, b8K L i hi]
theorem a4K {q : List TNode} {i : Nat} (h : i < q.length) (L : List Bool) (h5 : ¬ q[i].fOp = 5) (h67 : ¬ (q[i].fOp = 6 ∨ q[i].fOp = 7)) : mF q i L = L := by
 have h2 : isTwo q[i] = false := by
  unfold isTwo
  have h6 : ¬ q[i].fOp = 6 := fun h => h67 (.inl h)
  have h7 : ¬ q[i].fOp = 7 := fun h => h67 (.inr h)
  simp [h6, h7]
 simp only [mF, List.getElem?_eq_getElem h, h5, if_false, h2, Bool.false_eq_true]
theorem a9v (q : List TNode) (hq : okQ q = true) (hw : wNodeS q ≤ 4300000) : FnC Tryz.prog 248 [.o (.d (.sl (q.map bE)))] (.o (.w 4 1 ((a1r q).map tY))) := by
 have hl9 := gD hq
 refine ent Tryz.func248 rfl Tryz.call248 rfl (fun C => ?_); simp only [go_sem, st0, Tryz.ntmps248]
 have q0 := @hq; refine iX (bO q hw) ?_
 refine bD (α := Nat) (fun m => [(4, oi ((m : Int) - 1))]) (fun m => [(0, .row 4 1 ((negJ q (q.length - m)).map tY) true)]) (fun m => m ≤ q.length) (fun m => m) q.length (fun _ => ?_) ?_ ?_ (fun m hm => ?_)
 ·simp only [go_sem]
 ·simp only [go_sem]; simp [negJ, tY]
 ·simp
 ·simp only [go_sem]
  refine aH ?_
  refine cnd rfl (fun h => ?_) (fun h => ?_)
  ·simp only [decide_eq_true_eq] at h
   obtain ⟨i, rfl⟩ : ∃ i, m = i + 1 := ⟨m - 1, by omega⟩
   have hx : ((i + 1 : Nat) : Int) - 1 = (i : Int) := by omega
   have hi : i < q.length := by omega
   have hst := a4I q i hi
   have hLl := a3d q (q.length - (i + 1))
   generalize negJ q (q.length - (i + 1)) = L at *
   have hiL : i < L.length := by omega
   have hok := oK hq (List.getElem?_eq_getElem hi)
   have hop := nL hok
   by_cases h5 : q[i].fOp = 5
   ·obtain ⟨l, hl, hli⟩ := eT hok (.inl h5)
    have hlL : l < L.length := by omega
    rw [a7O hi L h5 hl] at hst
    cases hb : L[i]
    all_goals
     have q0 := @hx; have q1 := @hi; have q2 := @hiL; have q3 := @hb; have q4 := @h5; have q5 := @hl; have q6 := @hlL; have q7 := @decide_true; have q8 := @decide_false; have q9 := @Int.toNat_natCast; refine oI ?_
     refine aD i ?_ ?_ ?_
     ·simp only [go_sem, hst]; simp [tY]
     ·omega
     ·omega
   by_cases h67 : q[i].fOp = 6 ∨ q[i].fOp = 7
   ·obtain ⟨l, hl, hli⟩ := eT hok (.inr h67)
    obtain ⟨r, hr, hri⟩ := gP hok h67
    have hlL : l < L.length := by omega
    have hrL : r < L.length := by omega
    rw [a4J hi L hiL h5 h67 hl hr] at hst
    by_cases h6 : q[i].fOp = 6
    ·cases hb : L[i]
     all_goals
      rw [hb] at hst
      have hrL1 : r < (L.set l false).length := by simpa using hrL
      have hrL2 : r < (L.set l true).length := by simpa using hrL
      have qH := aI @hx (aI @hi (aI @hiL (aI @hb (aI @h5 (aI @h6 (aI @hl (aI @hr (aI @hlL (aI @hrL (aI @b0D (aI @b0E (aI @hrL1 (aI @hrL2 (aI @decide_true (aI @decide_false @Int.toNat_natCast))))))))))))))); repeat' (with_reducible first | refine nY ?_ | (refine mX ?_; try simp only [go_sem, qH]) | refine kD ?_ | refine rT [15, 17] [] ?_ | refine dV (aX ?_) (uX ?_) | refine fO (aX ?_) ?_ | exact uB | refine rD ?_ | refine aO ?_ | fail)
      refine aD i ?_ ?_ ?_
      ·simp only [go_sem, hst]; simp [tY]
      ·omega
      ·omega
    ·have h7 : q[i].fOp = 7 := by omega
     cases hb : L[i]
     all_goals
      rw [hb] at hst
      have hrL1 : r < (L.set l false).length := by simpa using hrL
      have hrL2 : r < (L.set l true).length := by simpa using hrL
      have qH := aI @hx (aI @hi (aI @hiL (aI @hb (aI @h5 (aI @h6 (aI @h7 (aI @hl (aI @hr (aI @hlL (aI @hrL (aI @b0D (aI @b0E (aI @hrL1 (aI @hrL2 (aI @decide_true (aI @decide_false @Int.toNat_natCast)))))))))))))))); repeat' (with_reducible first | refine nY ?_ | (refine mX ?_; try simp only [go_sem, qH]) | refine kD ?_ | refine rT [15, 17] [] ?_ | refine dV (aX ?_) (uX ?_) | refine fO (aX ?_) ?_ | exact uB | refine rD ?_ | refine aO ?_ | fail)
      refine aD i ?_ ?_ ?_
      ·simp only [go_sem, hst]; simp [tY]
      ·omega
      ·omega
   ·have h6 : ¬ q[i].fOp = 6 := fun h => h67 (.inl h)
    have h7 : ¬ q[i].fOp = 7 := fun h => h67 (.inr h)
    rw [a4K hi L h5 h67] at hst
    cases hb : L[i]
    all_goals
     have q0 := @hx; have q1 := @hi; have q2 := @hiL; have q3 := @hb; have q4 := @h5; have q5 := @h6; have q6 := @h7; have q7 := @decide_true; have q8 := @decide_false; have q9 := @Int.toNat_natCast; refine oI ?_
     refine aD i ?_ ?_ ?_
     ·simp only [go_sem, hst]; simp [tY]
     ·omega
     ·omega
  ·simp only [decide_eq_false_iff_not] at h
   have e : m = 0 := by omega
   subst e
   refine aH ?_
   exact aA ⟨⟨_, rfl, by simp only [go_sem, a1r, Nat.sub_zero]⟩, trivial⟩
theorem a9w (q : List TNode) (hq : okQ q = true) (hw : wNodeS q ≤ 4300000) : FnC Tryz.prog 257 [.o (.d (.sl (q.map bE)))] (.o (.w 4 1 ((a1r q).map tY))) := by
 have hl9 := gD hq
 refine ent Tryz.func257 rfl Tryz.call257 rfl (fun C => ?_); simp only [go_sem, st0, Tryz.ntmps257]
 have q0 := @hq; refine iX (cZ q hw) ?_
 refine bD (α := Nat) (fun m => [(4, oi ((m : Int) - 1))]) (fun m => [(0, .row 4 1 ((negJ q (q.length - m)).map tY) true)]) (fun m => m ≤ q.length) (fun m => m) q.length (fun _ => ?_) ?_ ?_ (fun m hm => ?_)
 ·simp only [go_sem]
 ·simp only [go_sem]; simp [negJ, tY]
 ·simp
 ·simp only [go_sem]
  refine aH ?_
  refine cnd rfl (fun h => ?_) (fun h => ?_)
  ·simp only [decide_eq_true_eq] at h
   obtain ⟨i, rfl⟩ : ∃ i, m = i + 1 := ⟨m - 1, by omega⟩
   have hx : ((i + 1 : Nat) : Int) - 1 = (i : Int) := by omega
   have hi : i < q.length := by omega
   have hst := a4I q i hi
   have hLl := a3d q (q.length - (i + 1))
   generalize negJ q (q.length - (i + 1)) = L at *
   have hiL : i < L.length := by omega
   have hok := oK hq (List.getElem?_eq_getElem hi)
   have hop := nL hok
   by_cases h5 : q[i].fOp = 5
   ·obtain ⟨l, hl, hli⟩ := eT hok (.inl h5)
    have hlL : l < L.length := by omega
    rw [a7O hi L h5 hl] at hst
    cases hb : L[i]
    all_goals
     have q0 := @hx; have q1 := @hi; have q2 := @hiL; have q3 := @hb; have q4 := @h5; have q5 := @hl; have q6 := @hlL; have q7 := @decide_true; have q8 := @decide_false; have q9 := @Int.toNat_natCast; refine oI ?_
     refine aD i ?_ ?_ ?_
     ·simp only [go_sem, hst]; simp [tY]
     ·omega
     ·omega
   by_cases h67 : q[i].fOp = 6 ∨ q[i].fOp = 7
   ·obtain ⟨l, hl, hli⟩ := eT hok (.inr h67)
    obtain ⟨r, hr, hri⟩ := gP hok h67
    have hlL : l < L.length := by omega
    have hrL : r < L.length := by omega
    rw [a4J hi L hiL h5 h67 hl hr] at hst
    by_cases h6 : q[i].fOp = 6
    ·cases hb : L[i]
     all_goals
      rw [hb] at hst
      have hs1 := a9u hiL hb l
      have hs2 := b0F hiL hb l r
      have hrL1 : r < (L.set l false).length := by simpa using hrL
      have hrL2 : r < (L.set l true).length := by simpa using hrL
      have qH := aI @hx (aI @hi (aI @hiL (aI @hb (aI @h5 (aI @h6 (aI @hl (aI @hr (aI @hlL (aI @hrL (aI @b0D (aI @b0E (aI @hrL1 (aI @hrL2 (aI @hs1 (aI @hs2 (aI @decide_true (aI @decide_false @Int.toNat_natCast))))))))))))))))); repeat' (with_reducible first | refine nY ?_ | (refine mX ?_; try simp only [go_sem, qH]) | refine kD ?_ | refine rT [8] [] ?_ | refine dV (aX ?_) (uX ?_) | refine fO (aX ?_) ?_ | exact uB | refine rD ?_ | refine aO ?_ | fail)
      refine aD i ?_ ?_ ?_
      ·simp only [go_sem, hst]; simp [tY]
      ·omega
      ·omega
    ·have h7 : q[i].fOp = 7 := by omega
     cases hb : L[i]
     all_goals
      rw [hb] at hst
      have hs1 := a9u hiL hb l
      have hs2 := b0F hiL hb l r
      have hrL1 : r < (L.set l false).length := by simpa using hrL
      have hrL2 : r < (L.set l true).length := by simpa using hrL
      have qH := aI @hx (aI @hi (aI @hiL (aI @hb (aI @h5 (aI @h6 (aI @h7 (aI @hl (aI @hr (aI @hlL (aI @hrL (aI @b0D (aI @b0E (aI @hrL1 (aI @hrL2 (aI @hs1 (aI @hs2 (aI @decide_true (aI @decide_false @Int.toNat_natCast)))))))))))))))))); repeat' (with_reducible first | refine nY ?_ | (refine mX ?_; try simp only [go_sem, qH]) | refine kD ?_ | refine rT [8] [] ?_ | refine dV (aX ?_) (uX ?_) | refine fO (aX ?_) ?_ | exact uB | refine rD ?_ | refine aO ?_ | fail)
      refine aD i ?_ ?_ ?_
      ·simp only [go_sem, hst]; simp [tY]
      ·omega
      ·omega
   ·have h6 : ¬ q[i].fOp = 6 := fun h => h67 (.inl h)
    have h7 : ¬ q[i].fOp = 7 := fun h => h67 (.inr h)
    rw [a4K hi L h5 h67] at hst
    cases hb : L[i]
    all_goals
     have q0 := @hx; have q1 := @hi; have q2 := @hiL; have q3 := @hb; have q4 := @h5; have q5 := @h6; have q6 := @h7; have q7 := @decide_true; have q8 := @decide_false; have q9 := @Int.toNat_natCast; refine oI ?_
     refine aD i ?_ ?_ ?_
     ·simp only [go_sem, hst]; simp [tY]
     ·omega
     ·omega
  ·simp only [decide_eq_false_iff_not] at h
   have e : m = 0 := by omega
   subst e
   refine aH ?_
   exact aA ⟨⟨_, rfl, by simp only [go_sem, a1r, Nat.sub_zero]⟩, trivial⟩
theorem b3G (q : List TNode) (b : Bool) (k : Nat) (h : k < q.length) (h2 : k < (a1r q).length) : sel q b k = if jM q[k] && ((a1r q)[k] == b) then [q[k].fName] else [] := by
 unfold sel; rw [List.getElem?_eq_getElem h, List.getElem?_eq_getElem h2]
theorem a7J (n : TNode) : FnC Tryz.prog 249 [a1e n] (ob (jM n)) := by
 refine ent Tryz.func249 rfl Tryz.call249 rfl (fun C => ?_); simp only [go_sem, st0, Tryz.ntmps249]
 by_cases c8 : n.fOp = 8
 ·have hd : jM n = true := by simp [jM, inB, c8]
  have q0 := @c8; have q1 := @decide_true; refine kC ?_
  exact aA ⟨⟨_, rfl, by simp only [go_sem, hd]⟩, trivial⟩
 by_cases c9 : n.fOp = 9
 ·have hd : jM n = true := by simp [jM, inB, c9]
  have q0 := @c8; have q1 := @c9; have q2 := @decide_true; have q3 := @decide_false; refine iW ?_
  exact aA ⟨⟨_, rfl, by simp only [go_sem, hd]⟩, trivial⟩
 ·have hd : jM n = false := by
   rw [← Bool.not_eq_true]
   simp only [jM, inB, Bool.and_eq_true, decide_eq_true_eq]; omega
  have q0 := @c8; have q1 := @c9; have q2 := @decide_true; have q3 := @decide_false; refine iW ?_
  exact aA ⟨⟨_, rfl, by simp only [go_sem, hd]⟩, trivial⟩
theorem a1j (q : List TNode) (b : Bool) (hq : okQ q = true) (hw : wNodeS q ≤ 4300000) : FnC Tryz.prog 228 [.o (.d (.sl (q.map bE))), ob b] (.o (.w 9 1 ((iE (dE q b)).map bN))) := by
 have hl9 := gD hq
 have hnl := a7N q
 refine ent Tryz.func228 rfl Tryz.call228 rfl (fun C => ?_); simp only [go_sem, st0, Tryz.ntmps228]
 refine lC (a9v q hq hw) ?_
 refine bD (α := Nat) (fun k => [(5, .o (.s 0)), (8, .o .u), (12, oi k)]) (fun k => [(0, .row 9 1 ((mV q b k).map bN) true)]) (fun k => k ≤ q.length) (fun k => q.length - k) 0 (fun _ => ?_) ?_ ?_ (fun k hk => ?_)
 ·simp only [go_sem]
 ·simp only [go_sem]; simp [mV]
 ·simp
 ·simp only [go_sem]
  refine aH ?_
  refine cnd rfl (fun h1 => ?_) (fun h1 => ?_)
  ·simp only [decide_eq_true_eq, Int.ofNat_lt] at h1
   have h2 : k < (a1r q).length := h1
   have h1 : k < q.length := by omega
   have hdl := jN q b k
   have hs := b3G q b k h1 h2
   have ht := xR q b k
   rw [hs] at ht
   have hl1 : (mV q b k).length + 1 ≤ 140737488355328 := by omega
   have hl2 : ((mV q b k).length + 1) * 16 ≤ 140737488355328 := by omega
   cases hd : jM q[k]
   ·simp only [hd, Bool.false_and, Bool.false_eq_true, if_false, List.append_nil] at ht
    have q0 := @h1; have q1 := @h2; have q2 := @hd; refine gX (a7J q[k]) ?_
    refine aD (k + 1) ?_ ?_ ?_
    ·simp only [go_sem, ht]; simp
    ·omega
    ·omega
   ·cases hx : (a1r q)[k] <;> cases b
    all_goals
     simp only [hd, hx, Bool.true_and, Bool.true_beq, Bool.false_beq, Bool.not_true, Bool.not_false, Bool.false_eq_true, if_false, if_true, List.append_nil] at ht
     have q0 := @h1; have q1 := @h2; have q2 := @hd; have q3 := @hx; have q4 := @Bool.true_beq; have q5 := @Bool.false_beq; refine tV (a7J q[k]) ?_
     refine aD (k + 1) ?_ ?_ ?_
     ·simp only [go_sem, ht, List.map_append]; simp
     ·omega
     ·omega
  ·simp only [decide_eq_false_iff_not] at h1
   have e : k = q.length := by omega
   subst e
   have hdl := jN q b q.length
   refine lC (a3J (mV q b q.length) (by omega)) ?_
   exact aA ⟨⟨_, rfl, by simp only [go_sem, dE]⟩, trivial⟩
theorem a1k (q : List TNode) (b : Bool) (hq : okQ q = true) (hw : wNodeS q ≤ 4300000) : FnC Tryz.prog 237 [.o (.d (.sl (q.map bE))), ob b] (.o (.w 9 1 ((putL (dE q b)).map bN))) := by
 have hl9 := gD hq
 have hnl := a7N q
 refine ent Tryz.func237 rfl Tryz.call237 rfl (fun C => ?_); simp only [go_sem, st0, Tryz.ntmps237]
 refine lC (a9w q hq hw) ?_
 refine b5l 5 0 rfl rfl ?_
 simp only [go_sem]
 refine bD (α := Nat) (fun k => [(5, .o (.d (.sl ((putL (mV q b k)).map bN)))), (7, oi k), (8, .o .u)]) (fun _ => []) (fun k => k ≤ q.length) (fun k => q.length - k) 0 (fun _ => ?_) ?_ ?_ (fun k hk => ?_)
 ·simp only [go_sem]
 ·simp only [go_sem]; simp [mV, putL]
 ·simp
 ·simp only [go_sem]
  have hdl := jN q b k
  have hlen : (putL (mV q b k)).length ≤ 4300000 := by have h1 := uW (mV q b k); omega
  refine aH ?_
  refine cnd rfl (fun h1 => ?_) (fun h1 => ?_)
  ·simp only [decide_eq_true_eq, Int.ofNat_lt] at h1
   have h2 : k < (a1r q).length := h1
   have h1 : k < q.length := by omega
   have hs := b3G q b k h1 h2
   have ht := xR q b k
   rw [hs] at ht
   cases hd : jM q[k]
   ·simp only [hd, Bool.false_and, Bool.false_eq_true, if_false, List.append_nil] at ht
    have q0 := @h1; have q1 := @h2; have q2 := @hd; refine gX (show FnC Tryz.prog _ _ (ob (jM q[k])) from bA q[k].fOp 8 9) ?_
    refine aD (k + 1) ?_ ?_ ?_
    ·simp only [go_sem, ht]; simp
    ·omega
    ·omega
   ·cases hx : (a1r q)[k] <;> cases b
    all_goals
     simp only [hd, hx, Bool.true_and, Bool.true_beq, Bool.false_beq, Bool.not_true, Bool.not_false, Bool.false_eq_true, if_false, if_true, List.append_nil] at ht
     have q0 := @h1; have q1 := @h2; have q2 := @hd; have q3 := @hx; have q4 := @Bool.true_beq; have q5 := @Bool.false_beq; refine a2H (show FnC Tryz.prog _ _ (ob (jM q[k])) from bA q[k].fOp 8 9) (b1Z (putL (mV q _ k)) q[k].fName hlen) ?_
     refine aD (k + 1) ?_ ?_ ?_
     ·simp only [go_sem, ht, b3L]; simp
     ·omega
     ·omega
  ·simp only [decide_eq_false_iff_not] at h1
   have e : k = q.length := by omega
   subst e
   refine aH ?_
   exact aA ⟨⟨_, rfl, by simp only [go_sem, dE]⟩, trivial⟩
theorem a9s (q : List TNode) (hq : okQ q = true) (hw : wNodeS q ≤ 4300000) : FnC Tryz.prog 189 [.o (.d (.sl (q.map bE)))] (.o (.w 9 1 ((iE (dE q false)).map bN))) := by
 refine ent Tryz.func189 rfl Tryz.call189 rfl (fun C => ?_); simp only [go_sem, st0, Tryz.ntmps189]
 refine lC (a1j q false hq hw) ?_
 exact aA ⟨⟨_, rfl, by simp only [go_sem]⟩, trivial⟩
theorem a7K (q : List TNode) (hq : okQ q = true) (hw : wNodeS q ≤ 4300000) : FnC Tryz.prog 190 [.o (.d (.sl (q.map bE)))] (.o (.w 9 1 ((iE (dE q true)).map bN))) := by
 refine ent Tryz.func190 rfl Tryz.call190 rfl (fun C => ?_); simp only [go_sem, st0, Tryz.ntmps190]
 refine lC (a1j q true hq hw) ?_
 exact aA ⟨⟨_, rfl, by simp only [go_sem]⟩, trivial⟩
theorem a9t (q : List TNode) (hq : okQ q = true) (hw : wNodeS q ≤ 4300000) : FnC Tryz.prog 202 [.o (.d (.sl (q.map bE)))] (.o (.w 9 1 ((putL (dE q false)).map bN))) := by
 refine ent Tryz.func202 rfl Tryz.call202 rfl (fun C => ?_); simp only [go_sem, st0, Tryz.ntmps202]
 refine lC (a1k q false hq hw) ?_
 exact aA ⟨⟨_, rfl, by simp only [go_sem]⟩, trivial⟩
theorem a7L (q : List TNode) (hq : okQ q = true) (hw : wNodeS q ≤ 4300000) : FnC Tryz.prog 204 [.o (.d (.sl (q.map bE)))] (.o (.w 9 1 ((putL (dE q true)).map bN))) := by
 refine ent Tryz.func204 rfl Tryz.call204 rfl (fun C => ?_); simp only [go_sem, st0, Tryz.ntmps204]
 refine lC (a1k q true hq hw) ?_
 exact aA ⟨⟨_, rfl, by simp only [go_sem]⟩, trivial⟩
end Go.Proofs.YtgpoopjfkplilaaGreatDoor
end
