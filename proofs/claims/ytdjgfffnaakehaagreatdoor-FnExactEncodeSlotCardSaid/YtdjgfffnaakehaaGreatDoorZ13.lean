/- Joined texts. -/
import Derived.Test.YtdjgfffnaakehaaGreatDoorZ07
import Derived.Test.YtdjgfffnaakehaaGreatDoorZ08
import Derived.Test.YtdjgfffnaakehaaGreatDoorZ12
import Derived.Test.YtdjgfffnaakehaaGreatDoorZ09
import Derived.Test.YtdjgfffnaakehaaGreatDoorZ05
set_option linter.all false
section
section
set_option linter.all false
set_option maxRecDepth 100000
set_option maxHeartbeats 4000000
namespace Go.Proofs.YtdjgfffnaakehaaGreatDoor
open Go Go.Sx Go.RowKit Go.Proofs
def a4r (k : Nat) (out : ByteArray) : ByteArray :=
 if h : k = 0 then out else a4r (k / 10) (kE [(48 : Int) + ((k % 10 : Nat) : Int)] ++ out)
decreasing_by omega
def lM (k : Int) : ByteArray := ⟨#[109]⟩ ++ a4r k.toNat ⟨#[]⟩
theorem fI (k : Int) (hk : 1 ≤ k ∧ k ≤ 4611686018427387904) : FnC Tryz.prog 38 [oi k] (os (lM k)) := by
 obtain ⟨n, rfl⟩ : ∃ n : Nat, k = n := ⟨k.toNat, by omega⟩
 have h0 : ¬ ((n : Int) ≤ 0) := by omega
 have hm : lM (n : Int) = ⟨#[109]⟩ ++ a4r n ⟨#[]⟩ := by simp [lM]
 rw [hm]
 generalize hq : a4r n ⟨#[]⟩ = res
 refine ent Tryz.func38 rfl Tryz.call38 rfl (fun C => ?_); simp only [go_sem, st0, Tryz.ntmps38]
 have q0 := @h0; have q1 := @decide_false; refine tV ?_
 refine bC (α := Nat × ByteArray) (fun p => [(0, oi p.1), (3, os p.2)]) (fun _ => []) (fun p => a4r p.1 p.2 = res ∧ p.2.size + p.1 ≤ n) (fun p => p.1) (n, ⟨#[]⟩) (fun _ => ?_) ?_ ?_ (fun p hp => ?_)
 ·simp only [go_sem]
 ·simp only [go_sem]; simp
 ·exact ⟨hq, by show 0 + n ≤ n; omega⟩
 ·obtain ⟨j, out⟩ := p
  obtain ⟨hp, hs⟩ := hp
  simp only at hp hs
  simp only [go_sem]
  refine aK ?_
  refine cnd rfl (fun h => ?_) (fun h => ?_)
  ·simp only [decide_eq_true_eq] at h
   have hj : j ≠ 0 := by omega
   rw [a4r, dif_neg hj] at hp
   have e1 : (j : Int).tmod 10 = ((j % 10 : Nat) : Int) := by rw [Int.tmod_eq_emod_of_nonneg (by omega)]; omega
   have e2 : (j : Int).tdiv 10 = ((j / 10 : Nat) : Int) := by rw [Int.tdiv_eq_ediv_of_nonneg (by omega)]; omega
   have q0 := @e1; have q1 := @e2; refine tV ?_
   refine aG (j / 10, kE [(48 : Int) + ((j % 10 : Nat) : Int)] ++ out) ?_ ?_ ?_
   ·simp only [go_sem, e1, e2]; simp [kE]
   ·refine ⟨hp, ?_⟩
    simp only [ByteArray.size_append, kE, List.map_cons, List.map_nil, a8F, List.length_cons, List.length_nil]
    omega
   ·simp only; omega
  ·simp only [decide_eq_false_iff_not] at h
   have hj : j = 0 := by omega
   subst hj
   rw [a4r, dif_pos rfl] at hp
   subst hp
   refine aK ?_
   exact aA ⟨⟨_, rfl, by simp only [go_sem]⟩, trivial⟩
def uR (x : Int) : Nat := 1
def a5c (x : Int) (k : Int) : Int := k
def cnStr (x : ByteArray) : Nat := 1
theorem a1b : ∀ x, 1 ≤ cnStr x := fun x => by unfold cnStr; omega
def zW (x : ByteArray) (k : Int) : ByteArray := (lM k)
theorem zX (l : List ByteArray) (k : Int) (hk : 1 ≤ k ∧ k + (csum cnStr l : Nat) ≤ 4611686018427387904) : FnM Tryz.prog 14 false [.w 0 1 (l.map dA)] [.w 0 1 ((mkL zW cnStr l k).map dA)] k (k + (csum cnStr l : Nat)) := by
 have hlen := jO cnStr a1b l
 refine entm Tryz.func14 rfl Tryz.call14 rfl (by simp) (by simp only [go_sem]) (fun C tg => ?_); simp only [go_sem, Tryz.ntmps14]
 refine aK ?_
 refine bC (α := Nat) (fun j => [(5, oi j), (1, oi (k + (csum cnStr (l.take j) : Nat)))]) (fun j => [(0, .own (tg 0) 1 (oW dA zW cnStr l k j))]) (fun j => j ≤ l.length) (fun j => l.length - j) 0 (fun _ => ?_) ?_ ?_ (fun j hj => ?_)
 ·simp only [go_sem]
 ·simp only [go_sem]; simp [kH, csum]
 ·simp
 ·simp only [go_sem]
  refine aK ?_
  refine cnd rfl (fun h => ?_) (fun h => ?_)
  ·simp only [decide_eq_true_eq, Int.ofNat_lt] at h
   have hs := iM cnStr l h
   have ht := lD cnStr l (j + 1)
   have hc : cnStr l[j] = 1 := rfl
   have hset := mH dA zW cnStr l k j h
   have hkk : k + (csum cnStr (l.take (j + 1)) : Nat) = k + (csum cnStr (l.take j) : Nat) + (cnStr l[j] : Nat) := by omega
   generalize k + (csum cnStr (l.take j) : Nat) = K at hset hkk ⊢
   have hK : 1 ≤ K ∧ K + (cnStr l[j] : Nat) ≤ 4611686018427387904 := by omega
   have q0 := @h; refine gG (fI K (by omega)) ?_
   refine aG (j + 1) ?_ ?_ ?_
   ·simp only [go_sem, hkk, ← hset]
    simp [zW, dA, hc]
    try omega
   ·omega
   ·omega
  ·simp only [decide_eq_false_iff_not] at h
   have e : j = l.length := by omega
   subst e
   refine aK ?_
   exact ⟨⟨⟨_, rfl, by simp only [go_sem, fP, List.take_length]⟩, trivial⟩, by simp only [go_sem, fP, List.take_length]⟩
theorem pU (l : List ByteArray) (k : Int) (hk : 1 ≤ k ∧ k + (csum cnStr l : Nat) ≤ 4611686018427387904) : FnC Tryz.prog 15 [.o (.d (.sl ((mkL zW cnStr l k).map dA))), oi k] (oi (k + (csum cnStr l : Nat))) := by
 have hlen := jO cnStr a1b l
 refine ent Tryz.func15 rfl Tryz.call15 rfl (fun C => ?_); simp only [go_sem, st0, Tryz.ntmps15]
 refine aK ?_
 refine bC (α := Nat) (fun j => [(5, oi j), (1, oi (k + (csum cnStr (l.take j) : Nat)))]) (fun _ => []) (fun j => j ≤ l.length) (fun j => l.length - j) 0 (fun _ => ?_) ?_ ?_ (fun j hj => ?_)
 ·simp only [go_sem]
 ·simp only [go_sem]; simp [csum]
 ·simp
 ·simp only [go_sem]
  refine aK ?_
  refine cnd rfl (fun h => ?_) (fun h => ?_)
  ·simp only [decide_eq_true_eq, Int.ofNat_lt] at h
   have hs := iM cnStr l h
   have ht := lD cnStr l (j + 1)
   have hc : cnStr l[j] = 1 := rfl
   have hkk : k + (csum cnStr (l.take (j + 1)) : Nat) = k + (csum cnStr (l.take j) : Nat) + (cnStr l[j] : Nat) := by omega
   have hg := xG zW cnStr l k j (by rw [fJ]; exact h)
   generalize k + (csum cnStr (l.take j) : Nat) = K at hg hkk ⊢
   have hK : 1 ≤ K ∧ K + (cnStr l[j] : Nat) ≤ 4611686018427387904 := by omega
   repeat' (with_reducible first | refine nY ?_ | (refine mX ?_; try simp only [go_sem, h, hg, zW]) | refine kO ?_ (by decide) | refine a9E (by kernel_rfl) ?_ | (refine cC (fI K (by omega)) ?_ ?_; focus simp only [go_sem, and_self]; done) | (refine And.intro ?_ ?_; focus omega))
   refine aG (j + 1) ?_ ?_ ?_
   ·simp only [go_sem, hkk]
    simp [hc]
    try omega
   ·omega
   ·omega
  ·simp only [decide_eq_false_iff_not] at h
   have e : j = l.length := by omega
   subst e
   refine aK ?_
   exact aA ⟨⟨_, rfl, by simp only [go_sem, List.take_length]⟩, trivial⟩
def b0Z (x : Bool) : Nat := 1
def b1a (x : Bool) (k : Int) : Bool := (decide (Int.tmod k 3 = 0))
end Go.Proofs.YtdjgfffnaakehaaGreatDoor
end
section
set_option linter.all false
set_option maxRecDepth 100000
set_option maxHeartbeats 4000000
namespace Go.Proofs.YtdjgfffnaakehaaGreatDoor
open Go Go.Sx Go.RowKit Go.Proofs
def cnField (x : TField) : Nat := 2
theorem a3k : ∀ x, 1 ≤ cnField x := fun x => by unfold cnField; omega
def qK (x : TField) (k : Int) : TField := ⟨(lM k), (k + 1)⟩
theorem a0n (l : List TField) (k : Int) (hk : 1 ≤ k ∧ k + (csum cnField l : Nat) ≤ 4611686018427387904) : FnM Tryz.prog 63 false [.w 0 2 (l.map aZ)] [.w 0 2 ((mkL qK cnField l k).map aZ)] k (k + (csum cnField l : Nat)) := by
 have hlen := jO cnField a3k l
 refine entm Tryz.func63 rfl Tryz.call63 rfl (by simp) (by simp only [go_sem]) (fun C tg => ?_); simp only [go_sem, Tryz.ntmps63]
 refine aK ?_
 refine bC (α := Nat) (fun j => [(5, oi j), (1, oi (k + (csum cnField (l.take j) : Nat)))]) (fun j => [(0, .own (tg 0) 2 (oW aZ qK cnField l k j))]) (fun j => j ≤ l.length) (fun j => l.length - j) 0 (fun _ => ?_) ?_ ?_ (fun j hj => ?_)
 ·simp only [go_sem]
 ·simp only [go_sem]; simp [kH, csum]
 ·simp
 ·simp only [go_sem]
  refine aK ?_
  refine cnd rfl (fun h => ?_) (fun h => ?_)
  ·simp only [decide_eq_true_eq, Int.ofNat_lt] at h
   have hs := iM cnField l h
   have ht := lD cnField l (j + 1)
   have hc : cnField l[j] = 2 := rfl
   have hset := mH aZ qK cnField l k j h
   have hkk : k + (csum cnField (l.take (j + 1)) : Nat) = k + (csum cnField (l.take j) : Nat) + (cnField l[j] : Nat) := by omega
   generalize k + (csum cnField (l.take j) : Nat) = K at hset hkk ⊢
   have hK : 1 ≤ K ∧ K + (cnField l[j] : Nat) ≤ 4611686018427387904 := by omega
   have q0 := @h; refine gG (fI K (by omega)) ?_
   refine aG (j + 1) ?_ ?_ ?_
   ·simp only [go_sem, hkk, ← hset]
    simp [qK, aZ, hc]
    try omega
   ·omega
   ·omega
  ·simp only [decide_eq_false_iff_not] at h
   have e : j = l.length := by omega
   subst e
   refine aK ?_
   exact ⟨⟨⟨_, rfl, by simp only [go_sem, fP, List.take_length]⟩, trivial⟩, by simp only [go_sem, fP, List.take_length]⟩
def cnAttr (x : TAttr) : Nat := 4
theorem a4s : ∀ x, 1 ≤ cnAttr x := fun x => by unfold cnAttr; omega
def vS (x : TAttr) (k : Int) : TAttr := ⟨(lM k), ⟨(k + 1), ((k + 1) + 1), (lM (((k + 1) + 1) + 1))⟩⟩
theorem a1O (l : List TAttr) (k : Int) (hk : 1 ≤ k ∧ k + (csum cnAttr l : Nat) ≤ 4611686018427387904) : FnM Tryz.prog 94 false [.w 0 4 (l.map dC)] [.w 0 4 ((mkL vS cnAttr l k).map dC)] k (k + (csum cnAttr l : Nat)) := by
 have hlen := jO cnAttr a4s l
 refine entm Tryz.func94 rfl Tryz.call94 rfl (by simp) (by simp only [go_sem]) (fun C tg => ?_); simp only [go_sem, Tryz.ntmps94]
 refine aK ?_
 refine bC (α := Nat) (fun j => [(5, oi j), (1, oi (k + (csum cnAttr (l.take j) : Nat)))]) (fun j => [(0, .own (tg 0) 4 (oW dC vS cnAttr l k j))]) (fun j => j ≤ l.length) (fun j => l.length - j) 0 (fun _ => ?_) ?_ ?_ (fun j hj => ?_)
 ·simp only [go_sem]
 ·simp only [go_sem]; simp [kH, csum]
 ·simp
 ·simp only [go_sem]
  refine aK ?_
  refine cnd rfl (fun h => ?_) (fun h => ?_)
  ·simp only [decide_eq_true_eq, Int.ofNat_lt] at h
   have hs := iM cnAttr l h
   have ht := lD cnAttr l (j + 1)
   have hc : cnAttr l[j] = 4 := rfl
   have hset := mH dC vS cnAttr l k j h
   have hkk : k + (csum cnAttr (l.take (j + 1)) : Nat) = k + (csum cnAttr (l.take j) : Nat) + (cnAttr l[j] : Nat) := by omega
   generalize k + (csum cnAttr (l.take j) : Nat) = K at hset hkk ⊢
   have hK : 1 ≤ K ∧ K + (cnAttr l[j] : Nat) ≤ 4611686018427387904 := by omega
   have q0 := @h; refine a2C (fI K (by omega)) (fI (((K + 1) + 1) + 1) (by omega)) ?_
   refine aG (j + 1) ?_ ?_ ?_
   ·simp only [go_sem, hkk, ← hset]
    simp [vS, dC, hc]
    try omega
   ·omega
   ·omega
  ·simp only [decide_eq_false_iff_not] at h
   have e : j = l.length := by omega
   subst e
   refine aK ?_
   exact ⟨⟨⟨_, rfl, by simp only [go_sem, fP, List.take_length]⟩, trivial⟩, by simp only [go_sem, fP, List.take_length]⟩
def cnNode (x : TNode) : Nat := 7
theorem a4t : ∀ x, 1 ≤ cnNode x := fun x => by unfold cnNode; omega
def vT (x : TNode) (k : Int) : TNode := ⟨k, (k + 1), ((k + 1) + 1), (lM (((k + 1) + 1) + 1)), ⟨((((k + 1) + 1) + 1) + 1), (((((k + 1) + 1) + 1) + 1) + 1), (lM ((((((k + 1) + 1) + 1) + 1) + 1) + 1))⟩⟩
theorem a1P (l : List TNode) (k : Int) (hk : 1 ≤ k ∧ k + (csum cnNode l : Nat) ≤ 4611686018427387904) : FnM Tryz.prog 65 false [.w 0 7 (l.map aV)] [.w 0 7 ((mkL vT cnNode l k).map aV)] k (k + (csum cnNode l : Nat)) := by
 have hlen := jO cnNode a4t l
 refine entm Tryz.func65 rfl Tryz.call65 rfl (by simp) (by simp only [go_sem]) (fun C tg => ?_); simp only [go_sem, Tryz.ntmps65]
 refine aK ?_
 refine bC (α := Nat) (fun j => [(5, oi j), (1, oi (k + (csum cnNode (l.take j) : Nat)))]) (fun j => [(0, .own (tg 0) 7 (oW aV vT cnNode l k j))]) (fun j => j ≤ l.length) (fun j => l.length - j) 0 (fun _ => ?_) ?_ ?_ (fun j hj => ?_)
 ·simp only [go_sem]
 ·simp only [go_sem]; simp [kH, csum]
 ·simp
 ·simp only [go_sem]
  refine aK ?_
  refine cnd rfl (fun h => ?_) (fun h => ?_)
  ·simp only [decide_eq_true_eq, Int.ofNat_lt] at h
   have hs := iM cnNode l h
   have ht := lD cnNode l (j + 1)
   have hc : cnNode l[j] = 7 := rfl
   have hset := mH aV vT cnNode l k j h
   have hkk : k + (csum cnNode (l.take (j + 1)) : Nat) = k + (csum cnNode (l.take j) : Nat) + (cnNode l[j] : Nat) := by omega
   generalize k + (csum cnNode (l.take j) : Nat) = K at hset hkk ⊢
   have hK : 1 ≤ K ∧ K + (cnNode l[j] : Nat) ≤ 4611686018427387904 := by omega
   have q0 := @h; refine a2C (fI (((K + 1) + 1) + 1) (by omega)) (fI ((((((K + 1) + 1) + 1) + 1) + 1) + 1) (by omega)) ?_
   refine aG (j + 1) ?_ ?_ ?_
   ·simp only [go_sem, hkk, ← hset]
    simp [vT, aV, hc]
    try omega
   ·omega
   ·omega
  ·simp only [decide_eq_false_iff_not] at h
   have e : j = l.length := by omega
   subst e
   refine aK ?_
   exact ⟨⟨⟨_, rfl, by simp only [go_sem, fP, List.take_length]⟩, trivial⟩, by simp only [go_sem, fP, List.take_length]⟩
end Go.Proofs.YtdjgfffnaakehaaGreatDoor
end
section
set_option linter.all false
set_option maxRecDepth 100000
set_option maxHeartbeats 4000000
namespace Go.Proofs.YtdjgfffnaakehaaGreatDoor
open Go Go.Sx Go.RowKit Go.Proofs
def cnFile (x : TFile) : Nat := 4 + csum cnAttr x.fAttrs
theorem a4u : ∀ x, 1 ≤ cnFile x := fun x => by unfold cnFile; omega
def vU (x : TFile) (k : Int) : TFile := ⟨k, (k + 1), (decide (Int.tmod ((k + 1) + 1) 3 = 0)), (((k + 1) + 1) + 1), (mkL vS cnAttr x.fAttrs ((((k + 1) + 1) + 1) + 1))⟩
theorem a1Q (l : List TFile) (k : Int) (hk : 1 ≤ k ∧ k + (csum cnFile l : Nat) ≤ 4611686018427387904) : FnM Tryz.prog 64 false [.w 0 5 (l.map cB)] [.w 0 5 ((mkL vU cnFile l k).map cB)] k (k + (csum cnFile l : Nat)) := by
 have hlen := jO cnFile a4u l
 refine entm Tryz.func64 rfl Tryz.call64 rfl (by simp) (by simp only [go_sem]) (fun C tg => ?_); simp only [go_sem, Tryz.ntmps64]
 refine aK ?_
 refine bC (α := Nat) (fun j => [(5, oi j), (1, oi (k + (csum cnFile (l.take j) : Nat)))]) (fun j => [(0, .own (tg 0) 5 (oW cB vU cnFile l k j))]) (fun j => j ≤ l.length) (fun j => l.length - j) 0 (fun _ => ?_) ?_ ?_ (fun j hj => ?_)
 ·simp only [go_sem]
 ·simp only [go_sem]; simp [kH, csum]
 ·simp
 ·simp only [go_sem]
  refine aK ?_
  refine cnd rfl (fun h => ?_) (fun h => ?_)
  ·simp only [decide_eq_true_eq, Int.ofNat_lt] at h
   have hs := iM cnFile l h
   have ht := lD cnFile l (j + 1)
   have hc : cnFile l[j] = 4 + csum cnAttr l[j].fAttrs := rfl
   have hset := mH cB vU cnFile l k j h
   have hkk : k + (csum cnFile (l.take (j + 1)) : Nat) = k + (csum cnFile (l.take j) : Nat) + (cnFile l[j] : Nat) := by omega
   generalize k + (csum cnFile (l.take j) : Nat) = K at hset hkk ⊢
   have hK : 1 ≤ K ∧ K + (cnFile l[j] : Nat) ≤ 4611686018427387904 := by omega
   have qH := @h; repeat' (with_reducible first | refine nY ?_ | (refine mX ?_; try simp only [go_sem, qH]) | refine kD ?_ | refine rD ?_ | refine vN (a1O l[j].fAttrs _ (by omega)) ?_ | refine aO ?_ | fail)
   refine aG (j + 1) ?_ ?_ ?_
   ·simp only [go_sem, hkk, ← hset]
    simp [vU, cB, hc]
    try omega
   ·omega
   ·omega
  ·simp only [decide_eq_false_iff_not] at h
   have e : j = l.length := by omega
   subst e
   refine aK ?_
   exact ⟨⟨⟨_, rfl, by simp only [go_sem, fP, List.take_length]⟩, trivial⟩, by simp only [go_sem, fP, List.take_length]⟩
def cnDir (x : TDir) : Nat := 1 + csum cnNode x.fQuery
theorem a6f : ∀ x, 1 ≤ cnDir x := fun x => by unfold cnDir; omega
def a3l (x : TDir) (k : Int) : TDir := ⟨(lM k), (mkL vT cnNode x.fQuery (k + 1))⟩
theorem a3m (l : List TDir) (k : Int) (hk : 1 ≤ k ∧ k + (csum cnDir l : Nat) ≤ 4611686018427387904) : FnM Tryz.prog 37 false [.w 0 2 (l.map bW)] [.w 0 2 ((mkL a3l cnDir l k).map bW)] k (k + (csum cnDir l : Nat)) := by
 have hlen := jO cnDir a6f l
 refine entm Tryz.func37 rfl Tryz.call37 rfl (by simp) (by simp only [go_sem]) (fun C tg => ?_); simp only [go_sem, Tryz.ntmps37]
 refine aK ?_
 refine bC (α := Nat) (fun j => [(5, oi j), (1, oi (k + (csum cnDir (l.take j) : Nat)))]) (fun j => [(0, .own (tg 0) 2 (oW bW a3l cnDir l k j))]) (fun j => j ≤ l.length) (fun j => l.length - j) 0 (fun _ => ?_) ?_ ?_ (fun j hj => ?_)
 ·simp only [go_sem]
 ·simp only [go_sem]; simp [kH, csum]
 ·simp
 ·simp only [go_sem]
  refine aK ?_
  refine cnd rfl (fun h => ?_) (fun h => ?_)
  ·simp only [decide_eq_true_eq, Int.ofNat_lt] at h
   have hs := iM cnDir l h
   have ht := lD cnDir l (j + 1)
   have hc : cnDir l[j] = 1 + csum cnNode l[j].fQuery := rfl
   have hset := mH bW a3l cnDir l k j h
   have hkk : k + (csum cnDir (l.take (j + 1)) : Nat) = k + (csum cnDir (l.take j) : Nat) + (cnDir l[j] : Nat) := by omega
   generalize k + (csum cnDir (l.take j) : Nat) = K at hset hkk ⊢
   have hK : 1 ≤ K ∧ K + (cnDir l[j] : Nat) ≤ 4611686018427387904 := by omega
   have qH := @h; repeat' (with_reducible first | refine nY ?_ | (refine mX ?_; try simp only [go_sem, qH]) | refine kD ?_ | refine rD ?_ | refine cP (fI K (by omega)) ?_ | refine vN (a1P l[j].fQuery _ (by omega)) ?_ | refine aO ?_ | fail)
   refine aG (j + 1) ?_ ?_ ?_
   ·simp only [go_sem, hkk, ← hset]
    simp [a3l, bW, hc]
    try omega
   ·omega
   ·omega
  ·simp only [decide_eq_false_iff_not] at h
   have e : j = l.length := by omega
   subst e
   refine aK ?_
   exact ⟨⟨⟨_, rfl, by simp only [go_sem, fP, List.take_length]⟩, trivial⟩, by simp only [go_sem, fP, List.take_length]⟩
def b0k (x : TResult) : Nat := 1 + csum uR x.fIDs
def b0l (x : TResult) (k : Int) : TResult := ⟨(lM k), (mkL a5c uR x.fIDs (k + 1))⟩
def b1b (x : TDiff) : Nat := 1 + csum uR x.fAdded + csum uR x.fRemoved
def b1c (x : TDiff) (k : Int) : TDiff := ⟨(lM k), (mkL a5c uR x.fAdded (k + 1)), (mkL a5c uR x.fRemoved ((k + 1) + (csum uR x.fAdded : Nat)))⟩
def b0B (x : TGroup) : Nat := 3 + csum uR x.fIDs
def b0C (x : TGroup) (k : Int) : TGroup := ⟨⟨k, (k + 1), (lM ((k + 1) + 1))⟩, (mkL a5c uR x.fIDs (((k + 1) + 1) + 1))⟩
def b0m (x : TChange) : Nat := 7 + csum cnAttr x.fFile.fAttrs + csum cnNode x.fDir.fQuery
def b0n (x : TChange) (k : Int) : TChange := ⟨k, ⟨(k + 1), ((k + 1) + 1), (decide (Int.tmod (((k + 1) + 1) + 1) 3 = 0)), ((((k + 1) + 1) + 1) + 1), (mkL vS cnAttr x.fFile.fAttrs (((((k + 1) + 1) + 1) + 1) + 1))⟩, ((((((k + 1) + 1) + 1) + 1) + 1) + (csum cnAttr x.fFile.fAttrs : Nat)), ⟨(lM (((((((k + 1) + 1) + 1) + 1) + 1) + (csum cnAttr x.fFile.fAttrs : Nat)) + 1)), (mkL vT cnNode x.fDir.fQuery ((((((((k + 1) + 1) + 1) + 1) + 1) + (csum cnAttr x.fFile.fAttrs : Nat)) + 1) + 1))⟩⟩
end Go.Proofs.YtdjgfffnaakehaaGreatDoor
end
section
set_option linter.all false
set_option maxRecDepth 100000
set_option maxHeartbeats 4000000
namespace Go.Proofs.YtdjgfffnaakehaaGreatDoor
open Go Go.Sx Go.RowKit Go.Proofs
theorem a1R (x : TStore) (k : Int) (hk : 1 ≤ k ∧ k + (csum cnField x.fSchema : Nat) + (csum cnFile x.fFiles : Nat) ≤ 4611686018427387904) : FnM Tryz.prog 36 true [.w 0 2 (x.fSchema.map aZ), .w 0 5 (x.fFiles.map cB), .d (iv x.fNextID)] [.w 0 2 ((mkL qK cnField x.fSchema (k)).map aZ), .w 0 5 ((mkL vU cnFile x.fFiles (k + (csum cnField x.fSchema : Nat))).map cB), .d (iv x.fNextID)] k (k + (csum cnField x.fSchema : Nat) + (csum cnFile x.fFiles : Nat)) := by
 refine entm Tryz.func36 rfl Tryz.call36 rfl (by simp) (by simp only [go_sem]) (fun C tg => ?_); simp only [go_sem, Tryz.ntmps36]
 have qH := trivial; repeat' (with_reducible first | refine nY ?_ | (refine mX ?_; try simp only [go_sem]) | refine kD ?_ | refine rD ?_ | refine vM (a0n x.fSchema _ (by omega)) ?_ | refine vM (a1Q x.fFiles _ (by omega)) ?_ | refine aO ?_ | fail)
 exact ⟨⟨⟨_, rfl, by simp only [go_sem]⟩, trivial⟩, by simp only [go_sem]⟩
theorem wU (x : TSnapshot) (k : Int) (hk : 1 ≤ k ∧ k + (csum cnField x.fStore.fSchema : Nat) + (csum cnFile x.fStore.fFiles : Nat) + (csum cnDir x.fDirs : Nat) ≤ 4611686018427387904) : FnM Tryz.prog 13 true [.w 0 2 (x.fStore.fSchema.map aZ), .w 0 5 (x.fStore.fFiles.map cB), .d (iv x.fStore.fNextID), .w 0 2 (x.fDirs.map bW)] [.w 0 2 ((mkL qK cnField x.fStore.fSchema (k)).map aZ), .w 0 5 ((mkL vU cnFile x.fStore.fFiles (k + (csum cnField x.fStore.fSchema : Nat))).map cB), .d (iv x.fStore.fNextID), .w 0 2 ((mkL a3l cnDir x.fDirs (k + (csum cnField x.fStore.fSchema : Nat) + (csum cnFile x.fStore.fFiles : Nat))).map bW)] k (k + (csum cnField x.fStore.fSchema : Nat) + (csum cnFile x.fStore.fFiles : Nat) + (csum cnDir x.fDirs : Nat)) := by
 refine entm Tryz.func13 rfl Tryz.call13 rfl (by simp) (by simp only [go_sem]) (fun C tg => ?_); simp only [go_sem, Tryz.ntmps13]
 have qH := trivial; repeat' (with_reducible first | refine nY ?_ | (refine mX ?_; try simp only [go_sem]) | refine kD ?_ | refine rD ?_ | refine vM (a1R x.fStore _ (by omega)) ?_ | refine vM (a3m x.fDirs _ (by omega)) ?_ | refine aO ?_ | fail)
 exact ⟨⟨⟨_, rfl, by simp only [go_sem]⟩, trivial⟩, by simp only [go_sem]⟩
end Go.Proofs.YtdjgfffnaakehaaGreatDoor
end
section
set_option linter.all false
namespace Go.Proofs.YtdjgfffnaakehaaGreatDoor
open Go Go.Sx Go.RowKit Go.Proofs
theorem sN {α : Type} (cn w : α → Nat) (c : Nat) (hx : ∀ x, cn x ≤ c * (1 + w x)) : ∀ l : List α, csum cn l ≤ c * (l.length + wsum w l)
 | [] => by simp [csum]
 | x :: l => by
  have h1 := sN cn w c hx l
  have h2 := hx x
  simp only [csum, wsum, List.length_cons]
  have : c * (l.length + 1 + (w x + wsum w l)) = c * (1 + w x) + c * (l.length + wsum w l) := by rw [← Nat.mul_add]; congr 1; omega
  omega
theorem kX {α : Type} (cn : α → Nat) (c : Nat) (hx : ∀ x, cn x = c) : ∀ l : List α, csum cn l = c * l.length
 | [] => by simp [csum]
 | x :: l => by
  have h1 := kX cn c hx l
  simp only [csum, List.length_cons, hx, h1, Nat.mul_add]; omega
theorem a8C (l : List ByteArray) : csum cnStr l = l.length := by rw [kX cnStr 1 (fun _ => rfl)]; omega
theorem a6g (l : List TField) : csum cnField l = 2 * l.length := kX cnField 2 (fun _ => rfl) l
theorem a7C (l : List TAttr) : csum cnAttr l = 4 * l.length := kX cnAttr 4 (fun _ => rfl) l
theorem a7D (l : List TNode) : csum cnNode l = 7 * l.length := kX cnNode 7 (fun _ => rfl) l
theorem a7E (l : List TFile) : csum cnFile l ≤ 4 * (l.length + wsum wFile l) := sN cnFile wFile 4 (fun x => by
 unfold cnFile wFile dV; rw [a7C]; omega) l
theorem a8D (l : List TDir) : csum cnDir l ≤ 7 * (l.length + wsum wDir l) := sN cnDir wDir 7 (fun x => by
 unfold cnDir wDir bN; rw [a7D]; omega) l
end Go.Proofs.YtdjgfffnaakehaaGreatDoor
end
end
section
set_option maxRecDepth 100000
set_option maxHeartbeats 4000000
namespace Go.Proofs.YtdjgfffnaakehaaGreatDoor
open Go Go.Sx Go.RowKit Go.Proofs
def b0Y (l : List ByteArray) (s : ByteArray) : Bool := l.any fun x => decide (x = s)
def b0j (l : List TDir) : List ByteArray := l.map TDir.fName
def uD (names : List ByteArray) (l : List TDir) : List ByteArray := (b0j l).filter fun n => !b0Y names n
end Go.Proofs.YtdjgfffnaakehaaGreatDoor
end
section
set_option maxRecDepth 100000
set_option maxHeartbeats 4000000
namespace Go.Sx
theorem a8B {P : Program} {C : Ctx} {F : Ex → St → Prop} {st : St} {code : Code} (i id : Nat) {ty sz : Nat} {rows : List (List D)} {lin : Bool} (hi : nth st.t i = .o (.s id)) (hb : dX st.h id = .row ty sz rows lin) (h : WP P C code F ⟨a2s st.t i (.o (.d (.sl rows))), gX st.h id (.frz rows lin)⟩) : WP P C code F st := by
 intro g V a w hr
 obtain ⟨g', V', h1, h2, h3, h4, h5⟩ := hr.hp.frz hr.mod hr.fr.size (aH hb (by simp))
 have hr1 : Rel C g' V' ⟨st.t, gX st.h id (.frz rows lin)⟩ a w := ⟨hr.sl.mono h1 h2, by rw [bQ]; exact h4, h3, hr.fr, hr.vw.grow h2 h5⟩
 refine h g' V' a w ⟨⟨by rw [jK]; simpa using hr1.sl.size, fun n s y e1 e2 => ?_, hr1.sl.defers⟩, hr1.hp, hr1.mod, hr1.fr, hr1.vw⟩
 rw [jK, List.getElem?_set] at e1
 by_cases e : i = n
 ·subst e
  rw [if_pos rfl] at e1
  split at e1
  ·rename_i hlt
   cases e1
   have hs : st.t[i]? = some (.o (.s id)) := by
    rw [lQ, List.getD_eq_getElem?_getD, List.getElem?_eq_getElem hlt] at hi
    rw [List.getElem?_eq_getElem hlt]
    exact congrArg some hi
   obtain ⟨gh, hgh, hy, _⟩ := hr1.sl.slot i _ y hs e2
   have hf : (gX st.h id (.frz rows lin))[id]? = some (.frz rows lin) := by
    have := aH hb (by simp)
    rw [bQ, List.getElem?_set]; simp [(List.getElem?_eq_some_iff.1 this).1]
   obtain ⟨_, S, q1, _⟩ := hr1.hp.hb id _ gh hf hgh
   exact ⟨S, by rw [hy]; exact q1⟩
  ·cases e1
 ·rw [if_neg e] at e1
  exact hr1.sl.slot n s y e1 e2
end Go.Sx
namespace Go.Proofs.YtdjgfffnaakehaaGreatDoor
open Go Go.Sx Go.RowKit Go.Proofs
theorem sM {α : Type} [Inhabited α] [DecidableEq α] (d : Array α) : ∀ (m i : Nat), i < m → d[i]! ∈ Lib.compactUpTo d m
 | 0, i, h => by omega
 | m + 1, i, h => by
  rw [Lib.compactUpTo_succ]
  by_cases hi : i < m
  ·exact List.mem_append_left _ (sM d m i hi)
  ·have e : i = m := by omega
   subst e
   cases hk : Lib.keeps d i with
   | true => exact List.mem_append_right _ (by simp)
   | false =>
    have h0 : 0 < i := by
     rcases Nat.eq_zero_or_pos i with h | h
     ·subst h; rw [Lib.keeps_lt_one d 0 (by omega)] at hk; cases hk
     ·exact h
    have he : d[i]! = d[i - 1]! := Classical.byContradiction fun hn => by rw [Lib.keeps_pos hn] at hk; cases hk
    rw [he]
    exact List.mem_append_left _ (sM d i (i - 1) (by omega))
theorem a3h {α : Type} [Inhabited α] [DecidableEq α] (zs : List α) (x : α) : x ∈ Lib.compact zs ↔ x ∈ zs := by
 refine ⟨fun h => ?_, fun h => ?_⟩
 ·unfold Lib.compact Lib.compactUpTo at h
  obtain ⟨i, hi, rfl⟩ := List.mem_map.1 h
  have hi' : i < zs.length := List.mem_range.1 (List.mem_filter.1 hi).1
  simp [getElem!_pos, hi']
 ·obtain ⟨i, hi, rfl⟩ := List.mem_iff_getElem.1 h
  have := sM zs.toArray zs.length i hi
  have e : zs.toArray[i]! = zs[i] := by simp [getElem!_pos, hi]
  rw [e] at this
  exact this
def fE (l : List ByteArray) : List ByteArray := a3j (pR l)
theorem a1a (l : List ByteArray) : (fE l).length ≤ l.length := by
 have := jZ ((pR l).map bl).toArray ((pR l).map bl).length
 simp only [fE, a3j, Lib.compact, List.length_map, vR] at this ⊢
 exact this
theorem qJ (l : List ByteArray) (s : ByteArray) : s ∈ fE l ↔ s ∈ l := by
 have e : (pR l).map bl = rC (l.map bl) := by
  unfold pR
  rw [List.map_map]
  have : (bl ∘ lb) = id := by funext x; exact a8H x
  rw [this, List.map_id]
 unfold fE a3j
 rw [e]
 constructor
 ·intro h
  obtain ⟨y, hy, rfl⟩ := List.mem_map.1 h
  rw [a3h, rC, List.mem_mergeSort] at hy
  obtain ⟨z, hz, rfl⟩ := List.mem_map.1 hy
  rw [a7B]; exact hz
 ·intro h
  refine List.mem_map.2 ⟨bl s, ?_, a7B s⟩
  rw [a3h, rC, List.mem_mergeSort]
  exact List.mem_map.2 ⟨s, h, rfl⟩
theorem a0m (l : List ByteArray) (hl : l.length ≤ 4300000) : FnC Tryz.prog 140 [.o (.d (.sl (l.map dA)))] (.o (.w 9 1 ((fE l).map dA))) := by
 refine ent Tryz.func140 rfl Tryz.call140 rfl (fun C => ?_); simp only [go_sem, st0, Tryz.ntmps140]
 have qH := trivial; repeat' (with_reducible first | refine nY ?_ | (refine mX ?_; try simp only [go_sem]) | refine kD ?_ | refine rD ?_ | refine cP (a2O l hl) ?_ | refine vI (zV l (by omega)) ?_ | refine vJ (zV l (by omega)) ?_ | refine vI (rG (pR l) (by rw [vR]; omega)) ?_ | refine vJ (rG (pR l) (by rw [vR]; omega)) ?_ | refine aO ?_ | fail)
 exact aA ⟨⟨_, rfl, by simp only [go_sem, fE]⟩, trivial⟩
def geS (s : ByteArray) (y : ByteArray) : Bool := !iW y s
def qV (l : List ByteArray) (s : ByteArray) : List ByteArray := if (l.drop (gH (geS s) l)).head? = some s then l else wK (gH (geS s) l) s l
def putL (l : List ByteArray) : List ByteArray := l.foldl qV []
theorem a7y (l : List ByteArray) (s x : ByteArray) : x ∈ qV l s ↔ x = s ∨ x ∈ l := by
 unfold qV
 split
 ·rename_i h
  have : s ∈ l.drop (gH (geS s) l) := by
   cases hd : l.drop (gH (geS s) l) with
   | nil => rw [hd] at h; cases h
   | cons y r => rw [hd] at h; simp at h; simp [h]
  have hs := List.mem_of_mem_drop this
  constructor
  ·exact .inr
  ·rintro (rfl | h) <;> first | exact hs | exact h
 ·unfold wK
  conv => rhs; rw [← List.take_append_drop (gH (geS s) l) l]
  simp only [List.mem_append, List.mem_cons]
  constructor
  ·rintro (h | h | h) <;> first | exact .inr (.inl h) | exact .inl h | exact .inr (.inr h)
  ·rintro (h | h | h) <;> first | exact .inr (.inl h) | exact .inl h | exact .inr (.inr h)
theorem a7z (l : List ByteArray) (s : ByteArray) : (qV l s).length ≤ l.length + 1 := by
 unfold qV
 split
 ·omega
 ·rw [a5Y _ _ _ (zL _ l)]; omega
theorem a7A (l : List ByteArray) (s : ByteArray) : putL (l ++ [s]) = qV (putL l) s := by simp [putL]
theorem a6c (l : List ByteArray) : ∀ (a : List ByteArray) (x : ByteArray), x ∈ l.foldl qV a ↔ x ∈ a ∨ x ∈ l := by
 induction l with
 | nil => simp
 | cons y l ih =>
  intro a x
  rw [List.foldl_cons, ih, a7y]
  simp only [List.mem_cons]
  constructor
  ·rintro ((h | h) | h) <;> first | exact .inr (.inl h) | exact .inl h | exact .inr (.inr h)
  ·rintro (h | h | h) <;> first | exact .inl (.inr h) | exact .inl (.inl h) | exact .inr h
theorem a3i (l : List ByteArray) (x : ByteArray) : x ∈ putL l ↔ x ∈ l := by rw [putL, a6c]; simp
theorem a6d (l : List ByteArray) : ∀ a : List ByteArray, (l.foldl qV a).length ≤ a.length + l.length := by
 induction l with
 | nil => simp
 | cons y l ih =>
  intro a
  have h1 := ih (qV a y)
  have h2 := a7z a y
  simp only [List.foldl_cons, List.length_cons]; omega
theorem pQ (l : List ByteArray) : (putL l).length ≤ l.length := by have := a6d l []; simpa [putL] using this
theorem a6e {α : Type} (p : α → Bool) (l : List α) (k : Nat) (h : k < l.length) (hk : gH p l = k + gH p (l.drop k)) : gH p l = if p l[k] then k else k + 1 + gH p (l.drop (k + 1)) := by
 rw [hk, a4i p l k h]
 split <;> omega
theorem kL {α β : Type} (f : α → β) (l : List α) (n : Nat) : (l.map f).take n = (l.take n).map f := List.map_take.symm
theorem kM {α β : Type} (f : α → β) (l : List α) (n : Nat) : (l.map f).drop n = (l.drop n).map f := List.map_drop.symm
end Go.Proofs.YtdjgfffnaakehaaGreatDoor
end
section
namespace Go.Proofs.YtdjgfffnaakehaaGreatDoor
open Go Go.Sx Go.RowKit Go.Proofs
def a1S (name : ByteArray) : List TAttr → TValue
 | [] => ⟨0, 0, ⟨#[]⟩⟩
 | a :: r => if a.fName = name then a.fValue else a1S name r
end Go.Proofs.YtdjgfffnaakehaaGreatDoor
end
section
set_option maxRecDepth 100000
set_option maxHeartbeats 4000000
namespace Go.Proofs.YtdjgfffnaakehaaGreatDoor
open Go Go.Sx Go.RowKit Go.Proofs
theorem a8z (l : List ByteArray) : ∀ r ∈ l.map dA, r.length = 1 := by intro r hr; obtain ⟨x, _, rfl⟩ := List.mem_map.1 hr; rfl
theorem a6b (l : List ByteArray) (s : ByteArray) (hl : l.length ≤ 4300000) : FnC Tryz.prog 147 [.o (.d (.sl (l.map dA))), os s] (.o (.d (.sl ((qV l s).map dA)))) := by
 have hle := zL (geS s) l
 refine ent Tryz.func147 rfl Tryz.call147 rfl (fun C => ?_); simp only [go_sem, st0, Tryz.ntmps147]
 refine aK ?_
 refine bC (α := Nat) (fun k => [(5, oi k)]) (fun _ => []) (fun k => k ≤ l.length ∧ gH (geS s) l = k + gH (geS s) (l.drop k)) (fun k => l.length - k) 0 (fun _ => ?_) ?_ ?_ (fun k hk => ?_)
 ·simp only [go_sem]
 ·simp only [go_sem]; simp
 ·simp
 ·obtain ⟨hk, hf⟩ := hk
  simp only [go_sem]
  by_cases h1 : k < l.length
  ·have hfx := a6e (geS s) l k h1 hf
   have h1' : ((k : Int) < (l.length : Int)) = True := by simp [h1]
   have q0 := @h1; have q1 := @h1'; have q2 := @decide_true; refine kZ ?_
   refine cnd (b := iW l[k] s) rfl (fun h2 => ?_) (fun h2 => ?_)
   ·rw [if_neg (by simp [geS, h2])] at hfx
    refine aK ?_
    refine aG (k + 1) ?_ ?_ ?_
    ·simp only [go_sem]; simp
    ·exact ⟨by omega, hfx⟩
    ·omega
   ·rw [if_pos (by simp [geS, h2])] at hfx
    have hd := List.drop_eq_getElem_cons h1
    by_cases h3 : l[k] = s
    ·have hput : qV l s = l := by unfold qV; rw [hfx, hd]; simp [h3]
     have q0 := @h1; have q1 := @h1'; have q2 := @h3; have q3 := @decide_true; refine jE ?_
     exact aA ⟨⟨_, rfl, by simp only [go_sem, hput]⟩, trivial⟩
    ·have hput : qV l s = wK k s l := by unfold qV; rw [hfx, hd]; exact if_neg (fun h => h3 (Option.some.inj h))
     have hn1 : ((0 : Int) ≤ (k : Int)) := by omega
     have qH := aI @h1 (aI @h1' (aI @h3 (aI @hn1 (aI @decide_true (aI @decide_false (aI @kL (aI @kM (aI @a0E (aI @a0F @a5E))))))))); repeat' (with_reducible first | refine nY ?_ | (refine mX ?_; try simp only [go_sem, qH]) | refine kD ?_ | refine rD ?_ | refine aO ?_ | fail)
     refine ⟨a8z l, by omega, by omega, by omega, ?_⟩
     have q0 := @kL; have q1 := @kM; have q2 := @a0E; have q3 := @a0F; have q4 := @a5E; refine wS ?_
     refine ⟨a8z l, by omega, by omega, by omega, ?_⟩
     have q0 := @kL; have q1 := @kM; have q2 := @a0E; have q3 := @a0F; have q4 := @a5E; refine wS ?_
     refine pY (Sees.frz 0 rfl) ?_
     simp only [go_sem]
     exact aA ⟨⟨_, rfl, by simp only [go_sem, hput, wK, List.take_length, List.map_append, List.map_cons, List.append_assoc, List.cons_append, List.nil_append]⟩, trivial⟩
  ·have e : k = l.length := by omega
   have hfx : gH (geS s) l = k := by rw [hf, e, List.drop_length]; rfl
   have hput : qV l s = wK k s l := by unfold qV; rw [hfx, e, List.drop_length]; simp
   have h1' : ((k : Int) < (l.length : Int)) = False := by simp [h1]
   have q0 := @h1; have q1 := @h1'; have q2 := @decide_false; have q3 := @kL; have q4 := @kM; have q5 := @a0E; have q6 := @a0F; have q7 := @a5E; refine yS ?_
   refine ⟨a8z l, by omega, by omega, by omega, ?_⟩
   have q0 := @kL; have q1 := @kM; have q2 := @a0E; have q3 := @a0F; have q4 := @a5E; refine wS ?_
   refine ⟨a8z l, by omega, by omega, by omega, ?_⟩
   have q0 := @kL; have q1 := @kM; have q2 := @a0E; have q3 := @a0F; have q4 := @a5E; refine wS ?_
   refine pY (Sees.frz 0 rfl) ?_
   simp only [go_sem]
   exact aA ⟨⟨_, rfl, by simp only [go_sem, hput, wK, List.take_length, List.map_append, List.map_cons, List.append_assoc, List.cons_append, List.nil_append]⟩, trivial⟩
def a7x (l : List TAttr) : List ByteArray := l.map TAttr.fName
def eqV (x v : TValue) : Bool := decide (x.fKind = v.fKind) && (decide (x.fInt = v.fInt) && decide (x.fStr = v.fStr))
def a8A (a b : TFile) (n : ByteArray) : Bool := !(eqV (a1S n a.fAttrs) (a1S n b.fAttrs))
def chL (a b : TFile) (l : List ByteArray) : List ByteArray := l.filter (a8A a b)
def chg (a b : TFile) : List ByteArray := chL a b (a7x a.fAttrs ++ a7x b.fAttrs)
@[go_sem] def oK (b : Bool) : List D := [bv b]
def b1k (n : TNode) : Bool := decide (n.fOp = 5)
def isTwo (n : TNode) : Bool := decide (n.fOp = 6) || decide (n.fOp = 7)
def jN (q : List TNode) (i : Nat) (L : List Bool) : List Bool := match q[i]? with
 | none => L
 | some n => if n.fOp = 5 then L.set n.fLeft.toNat true else if isTwo n then (L.set n.fLeft.toNat (L.getD i false)).set n.fRight.toNat (L.getD i false) else L
def negJ (q : List TNode) : Nat → List Bool
 | 0 => List.replicate q.length false
 | j + 1 => jN q (q.length - 1 - j) (negJ q j)
theorem a3d (q : List TNode) (i : Nat) (L : List Bool) : (jN q i L).length = L.length := by
 unfold jN
 split
 ·rfl
 ·split
  ·simp
  ·split <;> simp
theorem zU (q : List TNode) (j : Nat) : (negJ q j).length = q.length := by
 induction j with
 | zero => simp [negJ]
 | succ j ih => simp only [negJ, a3d, ih]
def wT (q : List TNode) : List Bool := negJ q q.length
theorem a3e (q : List TNode) : (wT q).length = q.length := zU q q.length
theorem a0X (q : List TNode) (i : Nat) (h : i < q.length) : negJ q (q.length - i) = jN q i (negJ q (q.length - (i + 1))) := by
 have e : q.length - i = (q.length - (i + 1)) + 1 := by omega
 have e2 : q.length - 1 - (q.length - (i + 1)) = i := by omega
 rw [e, negJ, e2]
def gU (n : TNode) : Bool := inB n.fOp 8 9
def sel (q : List TNode) (b : Bool) (k : Nat) : List ByteArray := match q[k]?, (wT q)[k]? with
 | some n, some x => if gU n && (x == b) then [n.fName] else []
 | _, _ => []
def kF (q : List TNode) (b : Bool) (k : Nat) : List ByteArray := (List.range k).flatMap (sel q b)
def bP (q : List TNode) (b : Bool) : List ByteArray := kF q b q.length
theorem sK (q : List TNode) (b : Bool) (k : Nat) : kF q b (k + 1) = kF q b k ++ sel q b k := by
 simp [kF, List.range_succ, List.flatMap_append]
theorem a8y (q : List TNode) (b : Bool) (k : Nat) : (sel q b k).length ≤ 1 := by
 unfold sel
 split
 ·split <;> simp
 ·simp
theorem gV (q : List TNode) (b : Bool) (k : Nat) : (kF q b k).length ≤ k := by
 induction k with
 | zero => simp [kF]
 | succ k ih => rw [sK, List.length_append]; have := a8y q b k; omega
theorem b0X (L : List Bool) (i : Nat) (h : i < L.length) : L.getD i false = L[i] := by simp [List.getD_eq_getElem?_getD, h]
theorem a4Y (L : List Bool) (l : Nat) : (L.map oK).set l [D.v (Value.bool false)] = (L.set l false).map oK := by rw [List.map_set]; rfl
theorem a4Z (L : List Bool) (l : Nat) : (L.map oK).set l [D.v (Value.bool true)] = (L.set l true).map oK := by rw [List.map_set]; rfl
theorem a4n {L : List Bool} {i : Nat} {b : Bool} (h : i < L.length) (hb : L[i] = b) (l : Nat) (h' : i < (L.set l b).length) : (L.set l b)[i] = b := by
 rw [List.getElem_set]; split
 ·rfl
 ·exact hb
theorem a5a {L : List Bool} {i : Nat} {b : Bool} (h : i < L.length) (hb : L[i] = b) (l r : Nat) (h' : i < ((L.set l b).set r b).length) : ((L.set l b).set r b)[i] = b := by
 rw [List.getElem_set]; split
 ·rfl
 ·exact a4n h hb l _
theorem a3f {q : List TNode} {i : Nat} (h : i < q.length) (L : List Bool) {l : Nat} (h5 : q[i].fOp = 5) (hl : q[i].fLeft = (l : Int)) : jN q i L = L.set l true := by
 simp [jN, List.getElem?_eq_getElem h, h5, hl]
theorem a0Y {q : List TNode} {i : Nat} (h : i < q.length) (L : List Bool) (hi : i < L.length) {l m : Nat} (h5 : ¬ q[i].fOp = 5) (h67 : q[i].fOp = 6 ∨ q[i].fOp = 7) (hl : q[i].fLeft = (l : Int)) (hm : q[i].fRight = (m : Int)) : jN q i L = (L.set l L[i]).set m L[i] := by
 have h2 : isTwo q[i] = true := by unfold isTwo; rcases h67 with h | h <;> simp [h]
 simp only [jN, List.getElem?_eq_getElem h, h5, if_false, h2, if_true, hl, hm, Int.toNat_natCast, b0X L i hi]
theorem a0Z {q : List TNode} {i : Nat} (h : i < q.length) (L : List Bool) (h5 : ¬ q[i].fOp = 5) (h67 : ¬ (q[i].fOp = 6 ∨ q[i].fOp = 7)) : jN q i L = L := by
 have h2 : isTwo q[i] = false := by
  unfold isTwo
  have h6 : ¬ q[i].fOp = 6 := fun h => h67 (.inl h)
  have h7 : ¬ q[i].fOp = 7 := fun h => h67 (.inr h)
  simp [h6, h7]
 simp only [jN, List.getElem?_eq_getElem h, h5, if_false, h2, Bool.false_eq_true]
theorem a4o (q : List TNode) (hq : okQ q = true) (hw : bN q ≤ 4300000) : FnC Tryz.prog 138 [.o (.d (.sl (q.map aV)))] (.o (.w 4 1 ((wT q).map oK))) := by
 have hl9 := iC hq
 refine ent Tryz.func138 rfl Tryz.call138 rfl (fun C => ?_); simp only [go_sem, st0, Tryz.ntmps138]
 have q0 := @hq; refine gG (bF q hw) ?_
 refine bC (α := Nat) (fun m => [(4, oi ((m : Int) - 1))]) (fun m => [(0, .row 4 1 ((negJ q (q.length - m)).map oK) true)]) (fun m => m ≤ q.length) (fun m => m) q.length (fun _ => ?_) ?_ ?_ (fun m hm => ?_)
 ·simp only [go_sem]
 ·simp only [go_sem]; simp [negJ, oK]
 ·simp
 ·simp only [go_sem]
  refine aK ?_
  refine cnd rfl (fun h => ?_) (fun h => ?_)
  ·simp only [decide_eq_true_eq] at h
   obtain ⟨i, rfl⟩ : ∃ i, m = i + 1 := ⟨m - 1, by omega⟩
   have hx : ((i + 1 : Nat) : Int) - 1 = (i : Int) := by omega
   have hi : i < q.length := by omega
   have hst := a0X q i hi
   have hLl := zU q (q.length - (i + 1))
   generalize negJ q (q.length - (i + 1)) = L at *
   have hiL : i < L.length := by omega
   have hok := vH hq (List.getElem?_eq_getElem hi)
   have hop := mV hok
   by_cases h5 : q[i].fOp = 5
   ·obtain ⟨l, hl, hli⟩ := dR hok (.inl h5)
    have hlL : l < L.length := by omega
    rw [a3f hi L h5 hl] at hst
    cases hb : L[i]
    all_goals
     have q0 := @hx; have q1 := @hi; have q2 := @hiL; have q3 := @hb; have q4 := @h5; have q5 := @hl; have q6 := @hlL; have q7 := @decide_true; have q8 := @decide_false; have q9 := @Int.toNat_natCast; refine mP ?_
     refine aG i ?_ ?_ ?_
     ·simp only [go_sem, hst]; simp [oK]
     ·omega
     ·omega
   by_cases h67 : q[i].fOp = 6 ∨ q[i].fOp = 7
   ·obtain ⟨l, hl, hli⟩ := dR hok (.inr h67)
    obtain ⟨r, hr, hri⟩ := gT hok h67
    have hlL : l < L.length := by omega
    have hrL : r < L.length := by omega
    rw [a0Y hi L hiL h5 h67 hl hr] at hst
    by_cases h6 : q[i].fOp = 6
    ·cases hb : L[i]
     all_goals
      rw [hb] at hst
      have hrL1 : r < (L.set l false).length := by simpa using hrL
      have hrL2 : r < (L.set l true).length := by simpa using hrL
      have qH := aI @hx (aI @hi (aI @hiL (aI @hb (aI @h5 (aI @h6 (aI @hl (aI @hr (aI @hlL (aI @hrL (aI @a4Y (aI @a4Z (aI @hrL1 (aI @hrL2 (aI @decide_true (aI @decide_false @Int.toNat_natCast))))))))))))))); repeat' (with_reducible first | refine nY ?_ | (refine mX ?_; try simp only [go_sem, qH]) | refine kD ?_ | refine rT [15, 17] [] ?_ | refine cO (aX ?_) (uX ?_) | refine dL (aX ?_) ?_ | exact uB | refine rD ?_ | refine aO ?_ | fail)
      refine aG i ?_ ?_ ?_
      ·simp only [go_sem, hst]; simp [oK]
      ·omega
      ·omega
    ·have h7 : q[i].fOp = 7 := by omega
     cases hb : L[i]
     all_goals
      rw [hb] at hst
      have hrL1 : r < (L.set l false).length := by simpa using hrL
      have hrL2 : r < (L.set l true).length := by simpa using hrL
      have qH := aI @hx (aI @hi (aI @hiL (aI @hb (aI @h5 (aI @h6 (aI @h7 (aI @hl (aI @hr (aI @hlL (aI @hrL (aI @a4Y (aI @a4Z (aI @hrL1 (aI @hrL2 (aI @decide_true (aI @decide_false @Int.toNat_natCast)))))))))))))))); repeat' (with_reducible first | refine nY ?_ | (refine mX ?_; try simp only [go_sem, qH]) | refine kD ?_ | refine rT [15, 17] [] ?_ | refine cO (aX ?_) (uX ?_) | refine dL (aX ?_) ?_ | exact uB | refine rD ?_ | refine aO ?_ | fail)
      refine aG i ?_ ?_ ?_
      ·simp only [go_sem, hst]; simp [oK]
      ·omega
      ·omega
   ·have h6 : ¬ q[i].fOp = 6 := fun h => h67 (.inl h)
    have h7 : ¬ q[i].fOp = 7 := fun h => h67 (.inr h)
    rw [a0Z hi L h5 h67] at hst
    cases hb : L[i]
    all_goals
     have q0 := @hx; have q1 := @hi; have q2 := @hiL; have q3 := @hb; have q4 := @h5; have q5 := @h6; have q6 := @h7; have q7 := @decide_true; have q8 := @decide_false; have q9 := @Int.toNat_natCast; refine mP ?_
     refine aG i ?_ ?_ ?_
     ·simp only [go_sem, hst]; simp [oK]
     ·omega
     ·omega
  ·simp only [decide_eq_false_iff_not] at h
   have e : m = 0 := by omega
   subst e
   refine aK ?_
   exact aA ⟨⟨_, rfl, by simp only [go_sem, wT, Nat.sub_zero]⟩, trivial⟩
theorem a4p (q : List TNode) (hq : okQ q = true) (hw : bN q ≤ 4300000) : FnC Tryz.prog 146 [.o (.d (.sl (q.map aV)))] (.o (.w 4 1 ((wT q).map oK))) := by
 have hl9 := iC hq
 refine ent Tryz.func146 rfl Tryz.call146 rfl (fun C => ?_); simp only [go_sem, st0, Tryz.ntmps146]
 have q0 := @hq; refine gG (bJ q hw) ?_
 refine bC (α := Nat) (fun m => [(4, oi ((m : Int) - 1))]) (fun m => [(0, .row 4 1 ((negJ q (q.length - m)).map oK) true)]) (fun m => m ≤ q.length) (fun m => m) q.length (fun _ => ?_) ?_ ?_ (fun m hm => ?_)
 ·simp only [go_sem]
 ·simp only [go_sem]; simp [negJ, oK]
 ·simp
 ·simp only [go_sem]
  refine aK ?_
  refine cnd rfl (fun h => ?_) (fun h => ?_)
  ·simp only [decide_eq_true_eq] at h
   obtain ⟨i, rfl⟩ : ∃ i, m = i + 1 := ⟨m - 1, by omega⟩
   have hx : ((i + 1 : Nat) : Int) - 1 = (i : Int) := by omega
   have hi : i < q.length := by omega
   have hst := a0X q i hi
   have hLl := zU q (q.length - (i + 1))
   generalize negJ q (q.length - (i + 1)) = L at *
   have hiL : i < L.length := by omega
   have hok := vH hq (List.getElem?_eq_getElem hi)
   have hop := mV hok
   by_cases h5 : q[i].fOp = 5
   ·obtain ⟨l, hl, hli⟩ := dR hok (.inl h5)
    have hlL : l < L.length := by omega
    rw [a3f hi L h5 hl] at hst
    cases hb : L[i]
    all_goals
     have q0 := @hx; have q1 := @hi; have q2 := @hiL; have q3 := @hb; have q4 := @h5; have q5 := @hl; have q6 := @hlL; have q7 := @decide_true; have q8 := @decide_false; have q9 := @Int.toNat_natCast; refine mP ?_
     refine aG i ?_ ?_ ?_
     ·simp only [go_sem, hst]; simp [oK]
     ·omega
     ·omega
   by_cases h67 : q[i].fOp = 6 ∨ q[i].fOp = 7
   ·obtain ⟨l, hl, hli⟩ := dR hok (.inr h67)
    obtain ⟨r, hr, hri⟩ := gT hok h67
    have hlL : l < L.length := by omega
    have hrL : r < L.length := by omega
    rw [a0Y hi L hiL h5 h67 hl hr] at hst
    by_cases h6 : q[i].fOp = 6
    ·cases hb : L[i]
     all_goals
      rw [hb] at hst
      have hs1 := a4n hiL hb l
      have hs2 := a5a hiL hb l r
      have hrL1 : r < (L.set l false).length := by simpa using hrL
      have hrL2 : r < (L.set l true).length := by simpa using hrL
      have qH := aI @hx (aI @hi (aI @hiL (aI @hb (aI @h5 (aI @h6 (aI @hl (aI @hr (aI @hlL (aI @hrL (aI @a4Y (aI @a4Z (aI @hrL1 (aI @hrL2 (aI @hs1 (aI @hs2 (aI @decide_true (aI @decide_false @Int.toNat_natCast))))))))))))))))); repeat' (with_reducible first | refine nY ?_ | (refine mX ?_; try simp only [go_sem, qH]) | refine kD ?_ | refine rT [8] [] ?_ | refine cO (aX ?_) (uX ?_) | refine dL (aX ?_) ?_ | exact uB | refine rD ?_ | refine aO ?_ | fail)
      refine aG i ?_ ?_ ?_
      ·simp only [go_sem, hst]; simp [oK]
      ·omega
      ·omega
    ·have h7 : q[i].fOp = 7 := by omega
     cases hb : L[i]
     all_goals
      rw [hb] at hst
      have hs1 := a4n hiL hb l
      have hs2 := a5a hiL hb l r
      have hrL1 : r < (L.set l false).length := by simpa using hrL
      have hrL2 : r < (L.set l true).length := by simpa using hrL
      have qH := aI @hx (aI @hi (aI @hiL (aI @hb (aI @h5 (aI @h6 (aI @h7 (aI @hl (aI @hr (aI @hlL (aI @hrL (aI @a4Y (aI @a4Z (aI @hrL1 (aI @hrL2 (aI @hs1 (aI @hs2 (aI @decide_true (aI @decide_false @Int.toNat_natCast)))))))))))))))))); repeat' (with_reducible first | refine nY ?_ | (refine mX ?_; try simp only [go_sem, qH]) | refine kD ?_ | refine rT [8] [] ?_ | refine cO (aX ?_) (uX ?_) | refine dL (aX ?_) ?_ | exact uB | refine rD ?_ | refine aO ?_ | fail)
      refine aG i ?_ ?_ ?_
      ·simp only [go_sem, hst]; simp [oK]
      ·omega
      ·omega
   ·have h6 : ¬ q[i].fOp = 6 := fun h => h67 (.inl h)
    have h7 : ¬ q[i].fOp = 7 := fun h => h67 (.inr h)
    rw [a0Z hi L h5 h67] at hst
    cases hb : L[i]
    all_goals
     have q0 := @hx; have q1 := @hi; have q2 := @hiL; have q3 := @hb; have q4 := @h5; have q5 := @h6; have q6 := @h7; have q7 := @decide_true; have q8 := @decide_false; have q9 := @Int.toNat_natCast; refine mP ?_
     refine aG i ?_ ?_ ?_
     ·simp only [go_sem, hst]; simp [oK]
     ·omega
     ·omega
  ·simp only [decide_eq_false_iff_not] at h
   have e : m = 0 := by omega
   subst e
   refine aK ?_
   exact aA ⟨⟨_, rfl, by simp only [go_sem, wT, Nat.sub_zero]⟩, trivial⟩
theorem a7v (q : List TNode) (b : Bool) (k : Nat) (h : k < q.length) (h2 : k < (wT q).length) : sel q b k = if gU q[k] && ((wT q)[k] == b) then [q[k].fName] else [] := by
 unfold sel; rw [List.getElem?_eq_getElem h, List.getElem?_eq_getElem h2]
theorem a3a (n : TNode) : FnC Tryz.prog 139 [wG n] (ob (gU n)) := by
 refine ent Tryz.func139 rfl Tryz.call139 rfl (fun C => ?_); simp only [go_sem, st0, Tryz.ntmps139]
 by_cases c8 : n.fOp = 8
 ·have hd : gU n = true := by simp [gU, inB, c8]
  have q0 := @c8; have q1 := @decide_true; refine tV ?_
  exact aA ⟨⟨_, rfl, by simp only [go_sem, hd]⟩, trivial⟩
 by_cases c9 : n.fOp = 9
 ·have hd : gU n = true := by simp [gU, inB, c9]
  have q0 := @c8; have q1 := @c9; have q2 := @decide_true; have q3 := @decide_false; refine jE ?_
  exact aA ⟨⟨_, rfl, by simp only [go_sem, hd]⟩, trivial⟩
 ·have hd : gU n = false := by
   rw [← Bool.not_eq_true]
   simp only [gU, inB, Bool.and_eq_true, decide_eq_true_eq]; omega
  have q0 := @c8; have q1 := @c9; have q2 := @decide_true; have q3 := @decide_false; refine jE ?_
  exact aA ⟨⟨_, rfl, by simp only [go_sem, hd]⟩, trivial⟩
theorem wN (q : List TNode) (b : Bool) (hq : okQ q = true) (hw : bN q ≤ 4300000) : FnC Tryz.prog 126 [.o (.d (.sl (q.map aV))), ob b] (.o (.w 9 1 ((fE (bP q b)).map dA))) := by
 have hl9 := iC hq
 have hnl := a3e q
 refine ent Tryz.func126 rfl Tryz.call126 rfl (fun C => ?_); simp only [go_sem, st0, Tryz.ntmps126]
 refine jA (a4o q hq hw) ?_
 refine bC (α := Nat) (fun k => [(5, .o (.s 0)), (8, .o .u), (12, oi k)]) (fun k => [(0, .row 9 1 ((kF q b k).map dA) true)]) (fun k => k ≤ q.length) (fun k => q.length - k) 0 (fun _ => ?_) ?_ ?_ (fun k hk => ?_)
 ·simp only [go_sem]
 ·simp only [go_sem]; simp [kF]
 ·simp
 ·simp only [go_sem]
  refine aK ?_
  refine cnd rfl (fun h1 => ?_) (fun h1 => ?_)
  ·simp only [decide_eq_true_eq, Int.ofNat_lt] at h1
   have h2 : k < (wT q).length := h1
   have h1 : k < q.length := by omega
   have hdl := gV q b k
   have hs := a7v q b k h1 h2
   have ht := sK q b k
   rw [hs] at ht
   have hl1 : (kF q b k).length + 1 ≤ 140737488355328 := by omega
   have hl2 : ((kF q b k).length + 1) * 16 ≤ 140737488355328 := by omega
   cases hd : gU q[k]
   ·simp only [hd, Bool.false_and, Bool.false_eq_true, if_false, List.append_nil] at ht
    have q0 := @h1; have q1 := @h2; have q2 := @hd; refine fG (a3a q[k]) ?_
    refine aG (k + 1) ?_ ?_ ?_
    ·simp only [go_sem, ht]; simp
    ·omega
    ·omega
   ·cases hx : (wT q)[k] <;> cases b
    all_goals
     simp only [hd, hx, Bool.true_and, Bool.true_beq, Bool.false_beq, Bool.not_true, Bool.not_false, Bool.false_eq_true, if_false, if_true, List.append_nil] at ht
     have q0 := @h1; have q1 := @h2; have q2 := @hd; have q3 := @hx; have q4 := @Bool.true_beq; have q5 := @Bool.false_beq; refine qQ (a3a q[k]) ?_
     refine aG (k + 1) ?_ ?_ ?_
     ·simp only [go_sem, ht, List.map_append]; simp
     ·omega
     ·omega
  ·simp only [decide_eq_false_iff_not] at h1
   have e : k = q.length := by omega
   subst e
   have hdl := gV q b q.length
   refine jA (a0m (kF q b q.length) (by omega)) ?_
   exact aA ⟨⟨_, rfl, by simp only [go_sem, bP]⟩, trivial⟩
theorem wO (q : List TNode) (b : Bool) (hq : okQ q = true) (hw : bN q ≤ 4300000) : FnC Tryz.prog 135 [.o (.d (.sl (q.map aV))), ob b] (.o (.w 9 1 ((putL (bP q b)).map dA))) := by
 have hl9 := iC hq
 have hnl := a3e q
 refine ent Tryz.func135 rfl Tryz.call135 rfl (fun C => ?_); simp only [go_sem, st0, Tryz.ntmps135]
 refine jA (a4p q hq hw) ?_
 refine a8B 5 0 rfl rfl ?_
 simp only [go_sem]
 refine bC (α := Nat) (fun k => [(5, .o (.d (.sl ((putL (kF q b k)).map dA)))), (7, oi k), (8, .o .u)]) (fun _ => []) (fun k => k ≤ q.length) (fun k => q.length - k) 0 (fun _ => ?_) ?_ ?_ (fun k hk => ?_)
 ·simp only [go_sem]
 ·simp only [go_sem]; simp [kF, putL]
 ·simp
 ·simp only [go_sem]
  have hdl := gV q b k
  have hlen : (putL (kF q b k)).length ≤ 4300000 := by have h1 := pQ (kF q b k); omega
  refine aK ?_
  refine cnd rfl (fun h1 => ?_) (fun h1 => ?_)
  ·simp only [decide_eq_true_eq, Int.ofNat_lt] at h1
   have h2 : k < (wT q).length := h1
   have h1 : k < q.length := by omega
   have hs := a7v q b k h1 h2
   have ht := sK q b k
   rw [hs] at ht
   cases hd : gU q[k]
   ·simp only [hd, Bool.false_and, Bool.false_eq_true, if_false, List.append_nil] at ht
    have q0 := @h1; have q1 := @h2; have q2 := @hd; refine fG (show FnC Tryz.prog _ _ (ob (gU q[k])) from aR q[k].fOp 8 9) ?_
    refine aG (k + 1) ?_ ?_ ?_
    ·simp only [go_sem, ht]; simp
    ·omega
    ·omega
   ·cases hx : (wT q)[k] <;> cases b
    all_goals
     simp only [hd, hx, Bool.true_and, Bool.true_beq, Bool.false_beq, Bool.not_true, Bool.not_false, Bool.false_eq_true, if_false, if_true, List.append_nil] at ht
     have q0 := @h1; have q1 := @h2; have q2 := @hd; have q3 := @hx; have q4 := @Bool.true_beq; have q5 := @Bool.false_beq; refine a0f (show FnC Tryz.prog _ _ (ob (gU q[k])) from aR q[k].fOp 8 9) (a6b (putL (kF q _ k)) q[k].fName hlen) ?_
     refine aG (k + 1) ?_ ?_ ?_
     ·simp only [go_sem, ht, a7A]; simp
     ·omega
     ·omega
  ·simp only [decide_eq_false_iff_not] at h1
   have e : k = q.length := by omega
   subst e
   refine aK ?_
   exact aA ⟨⟨_, rfl, by simp only [go_sem, bP]⟩, trivial⟩
theorem a4l (q : List TNode) (hq : okQ q = true) (hw : bN q ≤ 4300000) : FnC Tryz.prog 107 [.o (.d (.sl (q.map aV)))] (.o (.w 9 1 ((fE (bP q false)).map dA))) := by
 refine ent Tryz.func107 rfl Tryz.call107 rfl (fun C => ?_); simp only [go_sem, st0, Tryz.ntmps107]
 refine jA (wN q false hq hw) ?_
 exact aA ⟨⟨_, rfl, by simp only [go_sem]⟩, trivial⟩
theorem a3b (q : List TNode) (hq : okQ q = true) (hw : bN q ≤ 4300000) : FnC Tryz.prog 108 [.o (.d (.sl (q.map aV)))] (.o (.w 9 1 ((fE (bP q true)).map dA))) := by
 refine ent Tryz.func108 rfl Tryz.call108 rfl (fun C => ?_); simp only [go_sem, st0, Tryz.ntmps108]
 refine jA (wN q true hq hw) ?_
 exact aA ⟨⟨_, rfl, by simp only [go_sem]⟩, trivial⟩
theorem a4m (q : List TNode) (hq : okQ q = true) (hw : bN q ≤ 4300000) : FnC Tryz.prog 119 [.o (.d (.sl (q.map aV)))] (.o (.w 9 1 ((putL (bP q false)).map dA))) := by
 refine ent Tryz.func119 rfl Tryz.call119 rfl (fun C => ?_); simp only [go_sem, st0, Tryz.ntmps119]
 refine jA (wO q false hq hw) ?_
 exact aA ⟨⟨_, rfl, by simp only [go_sem]⟩, trivial⟩
theorem a3c (q : List TNode) (hq : okQ q = true) (hw : bN q ≤ 4300000) : FnC Tryz.prog 121 [.o (.d (.sl (q.map aV)))] (.o (.w 9 1 ((putL (bP q true)).map dA))) := by
 refine ent Tryz.func121 rfl Tryz.call121 rfl (fun C => ?_); simp only [go_sem, st0, Tryz.ntmps121]
 refine jA (wO q true hq hw) ?_
 exact aA ⟨⟨_, rfl, by simp only [go_sem]⟩, trivial⟩
end Go.Proofs.YtdjgfffnaakehaaGreatDoor
end
section
set_option maxRecDepth 100000
set_option maxHeartbeats 4000000
namespace Go.Proofs.YtdjgfffnaakehaaGreatDoor
def lv (L : List Nat) (i : Nat) : Nat := L.getD i 0
structure Clo (n : Nat) (E : Nat → Nat → Nat → Prop) (F : List Nat) : Prop where
 len : F.length = n
 le : ∀ i k w, E i k w → lv F k + w ≤ lv F i
structure Edges (n : Nat) (E : Nat → Nat → Nat → Prop) : Prop where
 ok : ∀ i k w, E i k w → i < n ∧ k < n ∧ w ≤ 1
structure Least (n : Nat) (E : Nat → Nat → Nat → Prop) (L : List Nat) : Prop where
 clo : Clo n E L
 le : ∀ F, Clo n E F → ∀ i, lv L i ≤ lv F i
theorem a9v {L M : List Nat} (h : L.length = M.length) (hi : ∀ i, lv L i = lv M i) : L = M := by
 apply List.ext_getElem h
 intro i h1 h2
 have := hi i
 simpa [lv, List.getD_eq_getElem?_getD, h1, h2] using this
theorem a1T {n : Nat} {E : Nat → Nat → Nat → Prop} {L M : List Nat} (h : Least n E L) (k : Least n E M) : L = M :=
 a9v (by rw [h.clo.len, k.clo.len]) fun i => Nat.le_antisymm (h.le M k.clo i) (k.le L h.clo i)
open Classical in
noncomputable def a4v (n : Nat) (E : Nat → Nat → Nat → Prop) : List Nat := if h : ∃ L, Least n E L then h.choose else []
theorem a5d {n : Nat} {E : Nat → Nat → Nat → Prop} {L : List Nat} (h : Least n E L) : a4v n E = L := by
 have he : ∃ L, Least n E L := ⟨L, h⟩
 unfold a4v
 rw [dif_pos he]
 exact a1T he.choose_spec h
theorem a5e {n : Nat} {E : Nat → Nat → Nat → Prop} (h : ¬ ∃ F, Clo n E F) : a4v n E = [] := by
 unfold a4v
 rw [dif_neg (fun ⟨L, hL⟩ => h ⟨L, hL.clo⟩)]
open Classical in
noncomputable def zY (n : Nat) (E : Nat → Nat → Nat → Prop) : Bool := if ∃ F, Clo n E F then true else false
theorem a1c {n : Nat} {E : Nat → Nat → Nat → Prop} {L : List Nat} (h : Clo n E L) : zY n E = true := by
 unfold zY; rw [if_pos ⟨L, h⟩]
theorem a3n {n : Nat} {E : Nat → Nat → Nat → Prop} (h : ¬ ∃ F, Clo n E F) : zY n E = false := by
 unfold zY; rw [if_neg h]
theorem a1d {n : Nat} {E : Nat → Nat → Nat → Prop} (hE : Edges n E) {F : List Nat} (h : Clo n E F) : ∃ G, Clo n E G ∧ ∀ i, i < n → lv G i < n := by
 let r (i : Nat) : Nat := ((List.range n).filter fun j => decide (lv F j < lv F i)).length
 have hr : ∀ i, i < n → lv ((List.range n).map r) i = r i := fun i hi => by simp [lv, List.getD_eq_getElem?_getD, hi]
 have sub : ∀ (p q : Nat → Bool) (l : List Nat), (∀ j, p j = true → q j = true) → (l.filter p).length ≤ (l.filter q).length := by
  intro p q l hpq
  induction l with
  | nil => simp
  | cons x l ih =>
   simp only [List.filter_cons]
   cases hp : p x
   ·cases hq : q x <;> simp <;> omega
   ·rw [hpq x hp]; simpa using ih
 have sub1 : ∀ (p q : Nat → Bool) (l : List Nat) (x : Nat), x ∈ l → (∀ j, p j = true → q j = true) → p x = false → q x = true → (l.filter p).length < (l.filter q).length := by
  intro p q l x hx hpq hp hq
  induction l with
  | nil => simp at hx
  | cons y l ih =>
   simp only [List.filter_cons]
   rcases List.mem_cons.1 hx with rfl | hx
   ·rw [hp, hq]
    have := sub p q l hpq
    simp
    omega
   ·have := ih hx
    cases hp' : p y
    ·cases hq' : q y <;> simp <;> omega
    ·rw [hpq y hp']; simpa using this
 refine ⟨(List.range n).map r, ⟨by simp, fun i k w he => ?_⟩, fun i hi => ?_⟩
 ·obtain ⟨hi, hk, hw⟩ := hE.ok i k w he
  rw [hr i hi, hr k hk]
  have hle := h.le i k w he
  rcases Nat.lt_or_ge w 1 with hw0 | hw1
  ·have hw' : w = 0 := by omega
   subst hw'
   exact sub _ _ _ fun j hj => by simp only [decide_eq_true_eq] at hj ⊢; omega
  ·have hw' : w = 1 := by omega
   subst hw'
   exact sub1 _ _ _ k (List.mem_range.2 hk) (fun j hj => by simp only [decide_eq_true_eq] at hj ⊢; omega) (by simp) (by simp only [decide_eq_true_eq]; omega)
 ·rw [hr i hi]
  have := sub1 (fun j => decide (lv F j < lv F i)) (fun _ => true) (List.range n) i (List.mem_range.2 hi) (fun _ _ => rfl) (by simp) rfl
  rw [List.filter_eq_self.2 (fun _ _ => rfl), List.length_range] at this
  exact this
theorem zZ (L : List Nat) (i v j : Nat) (h : i < L.length) : lv (L.set i v) j = if j = i then v else lv L j := by
 unfold lv
 simp only [List.getD_eq_getElem?_getD, List.getElem?_set]
 by_cases e : i = j
 ·subst e; simp [h]
 ·rw [if_neg e, if_neg (fun e' => e e'.symm)]
def nW : List Nat → Nat
 | [] => 0
 | x :: l => x + nW l
theorem a3o (L : List Nat) (i v : Nat) (h : i < L.length) : nW (L.set i v) + lv L i = nW L + v := by
 induction L generalizing i with
 | nil => simp at h
 | cons x l ih =>
  cases i with
  | zero => simp [nW, lv]; omega
  | succ i =>
   have := ih i (by simpa using h)
   simp only [List.set_cons_succ, nW, lv, List.getD_cons_succ] at this ⊢
   omega
theorem a5f (L : List Nat) (c : Nat) (h : ∀ i, i < L.length → lv L i ≤ c) : nW L ≤ L.length * c := by
 induction L with
 | nil => simp [nW]
 | cons x l ih =>
  have h0 : x ≤ c := by simpa [lv] using h 0 (by simp)
  have h1 := ih fun i hi => by simpa [lv] using h (i + 1) (by simpa using hi)
  simp only [nW, List.length_cons, Nat.succ_mul]
  omega
theorem a1U (n i : Nat) : lv (List.replicate n 0) i = 0 := by
 simp only [lv, List.getD_eq_getElem?_getD, List.getElem?_replicate]
 split <;> rfl
def up1 (i k w : Nat) (L : List Nat) : List Nat := if lv L k + w > lv L i then L.set i (lv L k + w) else L
theorem xP (i k w : Nat) (L : List Nat) : (up1 i k w L).length = L.length := by unfold up1; split <;> simp
theorem up1_grow (i k w : Nat) (L : List Nat) (h : i < L.length) : up1 i k w L = L ∨ nW L < nW (up1 i k w L) := by
 unfold up1
 split
 ·rename_i hc
  have := a3o L i (lv L k + w) h
  right; omega
 ·exact .inl rfl
theorem a7F {i k w : Nat} {L : List Nat} (hl : i < L.length) (h : up1 i k w L = L) : lv L k + w ≤ lv L i := by
 apply Classical.byContradiction
 intro hn
 have hc : lv L k + w > lv L i := by omega
 unfold up1 at h
 rw [if_pos hc] at h
 have := zZ L i (lv L k + w) i hl
 rw [h, if_pos rfl] at this
 omega
theorem a6h {n : Nat} {E : Nat → Nat → Nat → Prop} {F : List Nat} (hF : Clo n E F) {i k w : Nat} (he : E i k w) {L : List Nat} (hl : i < L.length) (h : ∀ j, lv L j ≤ lv F j) : ∀ j, lv (up1 i k w L) j ≤ lv F j := by
 intro j
 unfold up1
 split
 ·rw [zZ L i _ j hl]
  split
  ·rename_i e; subst e
   have := hF.le j k w he
   have := h k
   omega
  ·exact h j
 ·exact h j
theorem a6i {i k w : Nat} {L : List Nat} {B : Nat} (hl : i < L.length) (hw : w ≤ 1) (h : ∀ j, lv L j ≤ B) : ∀ j, lv (up1 i k w L) j ≤ B + 1 := by
 intro j
 unfold up1
 split
 ·rw [zZ L i _ j hl]
  split
  ·have := h k; omega
  ·have := h j; omega
 ·have := h j; omega
def ups : List (Nat × Nat × Nat) → List Nat → List Nat
 | [], L => L
 | (i, k, w) :: l, L => ups l (up1 i k w L)
theorem xQ (l m : List (Nat × Nat × Nat)) (L : List Nat) : ups (l ++ m) L = ups m (ups l L) := by
 induction l generalizing L with
 | nil => rfl
 | cons x l ih => obtain ⟨i, k, w⟩ := x; simp only [List.cons_append, ups, ih]
theorem qL (l : List (Nat × Nat × Nat)) (L : List Nat) : (ups l L).length = L.length := by
 induction l generalizing L with
 | nil => rfl
 | cons x l ih => obtain ⟨i, k, w⟩ := x; simp only [ups, ih, xP]
theorem ups_grow : ∀ (l : List (Nat × Nat × Nat)) (L : List Nat), (∀ x ∈ l, x.1 < L.length) → (ups l L = L ∧ ∀ x ∈ l, up1 x.1 x.2.1 x.2.2 L = L) ∨ nW L < nW (ups l L)
 | [], L, _ => .inl ⟨rfl, fun x h => by simp at h⟩
 | (i, k, w) :: l, L, h => by
  have hi := h (i, k, w) (by simp)
  have hl := ups_grow l (up1 i k w L) fun x hx => by rw [xP]; exact h x (by simp [hx])
  simp only [ups]
  rcases up1_grow i k w L hi with e | g
  ·rw [e] at hl ⊢
   rcases hl with ⟨h1, h2⟩ | h1
   ·refine .inl ⟨h1, fun x hx => ?_⟩
    rcases List.mem_cons.1 hx with rfl | hx
    ·exact e
    ·exact h2 x hx
   ·exact .inr h1
  ·rcases hl with ⟨h1, _⟩ | h1
   ·rw [h1]; exact .inr g
   ·exact .inr (by omega)
theorem a1e {n : Nat} {E : Nat → Nat → Nat → Prop} {F : List Nat} (hE : Edges n E) (hF : Clo n E F) : ∀ (l : List (Nat × Nat × Nat)) (L : List Nat), L.length = n → (∀ x ∈ l, E x.1 x.2.1 x.2.2) → (∀ j, lv L j ≤ lv F j) → ∀ j, lv (ups l L) j ≤ lv F j
 | [], L, _, _, h => h
 | (i, k, w) :: l, L, hl, he, h => by
  have e := he (i, k, w) (by simp)
  exact a1e hE hF l _ (by rw [xP]; exact hl) (fun x hx => he x (by simp [hx])) (a6h hF e (by rw [hl]; exact (hE.ok _ _ _ e).1) h)
theorem kN : ∀ (l : List (Nat × Nat × Nat)) (L : List Nat) (B : Nat), (∀ x ∈ l, x.1 < L.length ∧ x.2.2 ≤ 1) → (∀ j, lv L j ≤ B) → ∀ j, lv (ups l L) j ≤ B + l.length
 | [], L, B, _, h => h
 | (i, k, w) :: l, L, B, hx, h => by
  have e := hx (i, k, w) (by simp)
  have := kN l (up1 i k w L) (B + 1) (fun x hx' => by rw [xP]; exact hx x (by simp [hx'])) (a6i e.1 e.2 h)
  intro j
  have := this j
  simp only [ups, List.length_cons]
  omega
def upsN (l : List (Nat × Nat × Nat)) : Nat → List Nat → List Nat
 | 0, L => L
 | r + 1, L => ups l (upsN l r L)
theorem a0a (l : List (Nat × Nat × Nat)) (r : Nat) (L : List Nat) : (upsN l r L).length = L.length := by
 induction r with
 | zero => rfl
 | succ r ih => simp only [upsN, qL, ih]
theorem a0b (l : List (Nat × Nat × Nat)) (L : List Nat) (hx : ∀ x ∈ l, x.1 < L.length ∧ x.2.2 ≤ 1) (h : ∀ j, lv L j = 0) : ∀ r j, lv (upsN l r L) j ≤ r * l.length
 | 0, j => by simp [upsN, h j]
 | r + 1, j => by
  have := kN l (upsN l r L) (r * l.length) (fun x hx' => by rw [a0a]; exact hx x hx') (a0b l L hx h r) j
  simp only [upsN, Nat.succ_mul]
  omega
theorem a6j {n : Nat} {E : Nat → Nat → Nat → Prop} (hE : Edges n E) (l : List (Nat × Nat × Nat)) (hl : ∀ x, x ∈ l ↔ E x.1 x.2.1 x.2.2) (R : Nat) (hR : n * n < R) :
    let L := upsN l R (List.replicate n 0)
    if ups l L = L then Least n E L else ¬ ∃ F, Clo n E F := by
 intro L
 have hlen : ∀ r, (upsN l r (List.replicate n 0)).length = n := fun r => by rw [a0a]; simp
 have hbel : ∀ F, Clo n E F → ∀ r j, lv (upsN l r (List.replicate n 0)) j ≤ lv F j := fun F hF r => by
  induction r with
  | zero => intro j; simp only [upsN, a1U]; omega
  | succ r ih => exact a1e hE hF l _ (hlen r) (fun x hx => (hl x).1 hx) ih
 have hix : ∀ r, ∀ x ∈ l, x.1 < (upsN l r (List.replicate n 0)).length := fun r x hx => by rw [hlen]; exact (hE.ok _ _ _ ((hl x).1 hx)).1
 have hgrow : ∀ r, ups l (upsN l r (List.replicate n 0)) = upsN l r (List.replicate n 0) ∨ r ≤ nW (upsN l r (List.replicate n 0)) := fun r => by
  induction r with
  | zero => exact .inr (by omega)
  | succ r ih =>
   rcases ih with e | h
   ·left; simp only [upsN]; rw [e, e]
   ·rcases ups_grow l _ (hix r) with ⟨e, _⟩ | g
    ·left; simp only [upsN]; rw [e, e]
    ·right; simp only [upsN]; omega
 by_cases hs : ups l L = L
 ·rw [if_pos hs]
  refine ⟨⟨hlen R, fun i k w he => ?_⟩, fun F hF => hbel F hF R⟩
  rcases ups_grow l L (hix R) with ⟨_, h⟩ | g
  ·exact a7F (by rw [hlen]; exact (hE.ok _ _ _ he).1) (h (i, k, w) ((hl (i, k, w)).2 he))
  ·rw [hs] at g; omega
 ·rw [if_neg hs]
  rintro ⟨F, hF⟩
  obtain ⟨G, hG, hsm⟩ := a1d hE hF
  rcases hgrow R with e | h
  ·exact hs e
  ·have h1 := a5f L n fun i hi => by
    have h2 := hbel G hG R i
    have h3 := hsm i (by rw [← hlen R]; exact hi)
    show lv (upsN l R (List.replicate n 0)) i ≤ n
    omega
   rw [hlen R] at h1
   show False
   have : nW L = nW (upsN l R (List.replicate n 0)) := rfl
   omega
end Go.Proofs.YtdjgfffnaakehaaGreatDoor
end
