/- Joined texts. -/
import Derived.Test.YteaaopodnbjpoaaZ05
import Derived.Test.YteaaopodnbjpoaaZ04
set_option linter.all false
section
section
set_option linter.all false
set_option maxRecDepth 100000
set_option maxHeartbeats 4000000
namespace Go.Proofs.Yteaaopodnbjpoaa
open Go Go.Sx Go.RowKit Go.Proofs
def xK (k : Nat) (out : ByteArray) : ByteArray :=
 if h : k = 0 then out else xK (k / 10) (kW [(48 : Int) + ((k % 10 : Nat) : Int)] ++ out)
decreasing_by omega
def eU (k : Int) : ByteArray := ⟨#[109]⟩ ++ xK k.toNat ⟨#[]⟩
theorem iN (k : Int) (hk : 1 ≤ k ∧ k ≤ 4611686018427387904) : FnC Try.prog 24 [oi k] (os (eU k)) := by
 obtain ⟨n, rfl⟩ : ∃ n : Nat, k = n := ⟨k.toNat, by omega⟩
 have h0 : ¬ ((n : Int) ≤ 0) := by omega
 have hm : eU (n : Int) = ⟨#[109]⟩ ++ xK n ⟨#[]⟩ := by simp [eU]
 rw [hm]
 generalize hq : xK n ⟨#[]⟩ = res
 refine ent Try.func24 rfl Try.call24 rfl (fun C => ?_); simp only [go_sem, st0, Try.ntmps24]
 have q0 := @h0; have q1 := @decide_false; refine a2R ?_
 refine bP (α := Nat × ByteArray) (fun p => [(0, oi p.1), (3, os p.2)]) (fun _ => []) (fun p => xK p.1 p.2 = res ∧ p.2.size + p.1 ≤ n) (fun p => p.1) (n, ⟨#[]⟩) (fun _ => ?_) ?_ ?_ (fun p hp => ?_)
 ·simp only [go_sem]
 ·simp only [go_sem]; simp
 ·exact ⟨hq, by show 0 + n ≤ n; omega⟩
 ·obtain ⟨j, out⟩ := p
  obtain ⟨hp, hs⟩ := hp
  simp only at hp hs
  simp only [go_sem]
  refine aN ?_
  refine cnd rfl (fun h => ?_) (fun h => ?_)
  ·simp only [decide_eq_true_eq] at h
   have hj : j ≠ 0 := by omega
   rw [xK, dif_neg hj] at hp
   have e1 : (j : Int).tmod 10 = ((j % 10 : Nat) : Int) := by rw [Int.tmod_eq_emod_of_nonneg (by omega)]; omega
   have e2 : (j : Int).tdiv 10 = ((j / 10 : Nat) : Int) := by rw [Int.tdiv_eq_ediv_of_nonneg (by omega)]; omega
   have q0 := @e1; have q1 := @e2; refine a2R ?_
   refine aY (j / 10, kW [(48 : Int) + ((j % 10 : Nat) : Int)] ++ out) ?_ ?_ ?_
   ·simp only [go_sem, e1, e2]; simp [kW]
   ·refine ⟨hp, ?_⟩
    simp only [ByteArray.size_append, kW, List.map_cons, List.map_nil, a2k, List.length_cons, List.length_nil]
    omega
   ·simp only; omega
  ·simp only [decide_eq_false_iff_not] at h
   have hj : j = 0 := by omega
   subst hj
   rw [xK, dif_pos rfl] at hp
   subst hp
   refine aN ?_
   exact aA ⟨⟨_, rfl, by simp only [go_sem]⟩, trivial⟩
def cnInt (x : Int) : Nat := 1
theorem rO : ∀ x, 1 ≤ cnInt x := fun x => by unfold cnInt; omega
def iO (x : Int) (k : Int) : Int := k
theorem iP (l : List Int) (k : Int) (hk : 1 ≤ k ∧ k + (csum cnInt l : Nat) ≤ 4611686018427387904) : FnM Try.prog 25 false [.w 0 1 (l.map aU)] [.w 0 1 ((mkL iO cnInt l k).map aU)] k (k + (csum cnInt l : Nat)) := by
 have hlen := fJ cnInt rO l
 refine entm Try.func25 rfl Try.call25 rfl (by simp) (by simp only [go_sem]) (fun C tg => ?_); simp only [go_sem, Try.ntmps25]
 refine aN ?_
 refine bP (α := Nat) (fun j => [(5, oi j), (1, oi (k + (csum cnInt (l.take j) : Nat)))]) (fun j => [(0, .own (tg 0) 1 (kN aU iO cnInt l k j))]) (fun j => j ≤ l.length) (fun j => l.length - j) 0 (fun _ => ?_) ?_ ?_ (fun j hj => ?_)
 ·simp only [go_sem]
 ·simp only [go_sem]; simp [lU, csum]
 ·simp
 ·simp only [go_sem]
  refine aN ?_
  refine cnd rfl (fun h => ?_) (fun h => ?_)
  ·simp only [decide_eq_true_eq, Int.ofNat_lt] at h
   have hs := dR cnInt l h
   have ht := iX cnInt l (j + 1)
   have hc : cnInt l[j] = 1 := rfl
   have hset := oQ aU iO cnInt l k j h
   have hkk : k + (csum cnInt (l.take (j + 1)) : Nat) = k + (csum cnInt (l.take j) : Nat) + (cnInt l[j] : Nat) := by omega
   generalize k + (csum cnInt (l.take j) : Nat) = K at hset hkk ⊢
   have hK : 1 ≤ K ∧ K + (cnInt l[j] : Nat) ≤ 4611686018427387904 := by omega
   have q0 := @h; refine lX ?_
   refine aY (j + 1) ?_ ?_ ?_
   ·simp only [go_sem, hkk, ← hset]
    simp [iO, aU, hc]
    try omega
   ·omega
   ·omega
  ·simp only [decide_eq_false_iff_not] at h
   have e : j = l.length := by omega
   subst e
   refine aN ?_
   exact ⟨⟨⟨_, rfl, by simp only [go_sem, fK, List.take_length]⟩, trivial⟩, by simp only [go_sem, fK, List.take_length]⟩
theorem wE (l : List Int) (k : Int) (hk : 1 ≤ k ∧ k + (csum cnInt l : Nat) ≤ 4611686018427387904) : FnC Try.prog 26 [.o (.d (.sl ((mkL iO cnInt l k).map aU))), oi k] (oi (k + (csum cnInt l : Nat))) := by
 have hlen := fJ cnInt rO l
 refine ent Try.func26 rfl Try.call26 rfl (fun C => ?_); simp only [go_sem, st0, Try.ntmps26]
 refine aN ?_
 refine bP (α := Nat) (fun j => [(5, oi j), (1, oi (k + (csum cnInt (l.take j) : Nat)))]) (fun _ => []) (fun j => j ≤ l.length) (fun j => l.length - j) 0 (fun _ => ?_) ?_ ?_ (fun j hj => ?_)
 ·simp only [go_sem]
 ·simp only [go_sem]; simp [csum]
 ·simp
 ·simp only [go_sem]
  refine aN ?_
  refine cnd rfl (fun h => ?_) (fun h => ?_)
  ·simp only [decide_eq_true_eq, Int.ofNat_lt] at h
   have hs := dR cnInt l h
   have ht := iX cnInt l (j + 1)
   have hc : cnInt l[j] = 1 := rfl
   have hkk : k + (csum cnInt (l.take (j + 1)) : Nat) = k + (csum cnInt (l.take j) : Nat) + (cnInt l[j] : Nat) := by omega
   have hg := kM iO cnInt l k j (by rw [bN]; exact h)
   generalize k + (csum cnInt (l.take j) : Nat) = K at hg hkk ⊢
   have hK : 1 ≤ K ∧ K + (cnInt l[j] : Nat) ≤ 4611686018427387904 := by omega
   repeat' (with_reducible first | refine nY ?_ | (refine mX ?_; try simp only [go_sem, h, hg, iO]) | refine kO ?_ (by decide) | refine a2K (by kernel_rfl) ?_ | (refine And.intro ?_ ?_; focus omega))
   refine aY (j + 1) ?_ ?_ ?_
   ·simp only [go_sem, hkk]
    simp [hc]
    try omega
   ·omega
   ·omega
  ·simp only [decide_eq_false_iff_not] at h
   have e : j = l.length := by omega
   subst e
   refine aN ?_
   exact aA ⟨⟨_, rfl, by simp only [go_sem, List.take_length]⟩, trivial⟩
def a5q (x : ByteArray) : Nat := 1
def a5r (x : ByteArray) (k : Int) : ByteArray := (eU k)
def a4V (x : Bool) : Nat := 1
def a4W (x : Bool) (k : Int) : Bool := (decide (Int.tmod k 3 = 0))
end Go.Proofs.Yteaaopodnbjpoaa
end
section
set_option linter.all false
set_option maxRecDepth 100000
set_option maxHeartbeats 4000000
namespace Go.Proofs.Yteaaopodnbjpoaa
open Go Go.Sx Go.RowKit Go.Proofs
def a4o (x : TField) : Nat := 2
def a4p (x : TField) (k : Int) : TField := ⟨(eU k), (k + 1)⟩
def jZ (x : TAttr) : Nat := 4
def a1d (x : TAttr) (k : Int) : TAttr := ⟨(eU k), ⟨(k + 1), ((k + 1) + 1), (eU (((k + 1) + 1) + 1))⟩⟩
def tX (x : TNode) : Nat := 7
def a1e (x : TNode) (k : Int) : TNode := ⟨k, (k + 1), ((k + 1) + 1), (eU (((k + 1) + 1) + 1)), ⟨((((k + 1) + 1) + 1) + 1), (((((k + 1) + 1) + 1) + 1) + 1), (eU ((((((k + 1) + 1) + 1) + 1) + 1) + 1))⟩⟩
end Go.Proofs.Yteaaopodnbjpoaa
end
section
set_option linter.all false
set_option maxRecDepth 100000
set_option maxHeartbeats 4000000
namespace Go.Proofs.Yteaaopodnbjpoaa
open Go Go.Sx Go.RowKit Go.Proofs
def a4X (x : TFile) : Nat := 4 + csum jZ x.fAttrs
def a4Y (x : TFile) (k : Int) : TFile := ⟨k, (k + 1), (decide (Int.tmod ((k + 1) + 1) 3 = 0)), (((k + 1) + 1) + 1), (mkL a1d jZ x.fAttrs ((((k + 1) + 1) + 1) + 1))⟩
def a5s (x : TDir) : Nat := 1 + csum tX x.fQuery
def a5t (x : TDir) (k : Int) : TDir := ⟨(eU k), (mkL a1e tX x.fQuery (k + 1))⟩
def cnResult (x : TResult) : Nat := 1 + csum cnInt x.fIDs
theorem lF : ∀ x, 1 ≤ cnResult x := fun x => by unfold cnResult; omega
def eH (x : TResult) (k : Int) : TResult := ⟨(eU k), (mkL iO cnInt x.fIDs (k + 1))⟩
theorem iQ (l : List TResult) (k : Int) (hk : 1 ≤ k ∧ k + (csum cnResult l : Nat) ≤ 4611686018427387904) : FnM Try.prog 12 false [.w 0 2 (l.map aF)] [.w 0 2 ((mkL eH cnResult l k).map aF)] k (k + (csum cnResult l : Nat)) := by
 have hlen := fJ cnResult lF l
 refine entm Try.func12 rfl Try.call12 rfl (by simp) (by simp only [go_sem]) (fun C tg => ?_); simp only [go_sem, Try.ntmps12]
 refine aN ?_
 refine bP (α := Nat) (fun j => [(5, oi j), (1, oi (k + (csum cnResult (l.take j) : Nat)))]) (fun j => [(0, .own (tg 0) 2 (kN aF eH cnResult l k j))]) (fun j => j ≤ l.length) (fun j => l.length - j) 0 (fun _ => ?_) ?_ ?_ (fun j hj => ?_)
 ·simp only [go_sem]
 ·simp only [go_sem]; simp [lU, csum]
 ·simp
 ·simp only [go_sem]
  refine aN ?_
  refine cnd rfl (fun h => ?_) (fun h => ?_)
  ·simp only [decide_eq_true_eq, Int.ofNat_lt] at h
   have hs := dR cnResult l h
   have ht := iX cnResult l (j + 1)
   have hc : cnResult l[j] = 1 + csum cnInt l[j].fIDs := rfl
   have hset := oQ aF eH cnResult l k j h
   have hkk : k + (csum cnResult (l.take (j + 1)) : Nat) = k + (csum cnResult (l.take j) : Nat) + (cnResult l[j] : Nat) := by omega
   generalize k + (csum cnResult (l.take j) : Nat) = K at hset hkk ⊢
   have hK : 1 ≤ K ∧ K + (cnResult l[j] : Nat) ≤ 4611686018427387904 := by omega
   have qH := @h; repeat' (with_reducible first | refine nY ?_ | (refine mX ?_; try simp only [go_sem, qH]) | refine kD ?_ | refine rD ?_ | refine cP (iN K (by omega)) ?_ | refine vN (iP l[j].fIDs _ (by omega)) ?_ | refine aO ?_ | fail)
   refine aY (j + 1) ?_ ?_ ?_
   ·simp only [go_sem, hkk, ← hset]
    simp [eH, aF, hc]
    try omega
   ·omega
   ·omega
  ·simp only [decide_eq_false_iff_not] at h
   have e : j = l.length := by omega
   subst e
   refine aN ?_
   exact ⟨⟨⟨_, rfl, by simp only [go_sem, fK, List.take_length]⟩, trivial⟩, by simp only [go_sem, fK, List.take_length]⟩
theorem iR (l : List TResult) (k : Int) (hk : 1 ≤ k ∧ k + (csum cnResult l : Nat) ≤ 4611686018427387904) : FnC Try.prog 14 [.o (.d (.sl ((mkL eH cnResult l k).map aF))), oi k] (oi (k + (csum cnResult l : Nat))) := by
 have hlen := fJ cnResult lF l
 refine ent Try.func14 rfl Try.call14 rfl (fun C => ?_); simp only [go_sem, st0, Try.ntmps14]
 refine aN ?_
 refine bP (α := Nat) (fun j => [(5, oi j), (1, oi (k + (csum cnResult (l.take j) : Nat)))]) (fun _ => []) (fun j => j ≤ l.length) (fun j => l.length - j) 0 (fun _ => ?_) ?_ ?_ (fun j hj => ?_)
 ·simp only [go_sem]
 ·simp only [go_sem]; simp [csum]
 ·simp
 ·simp only [go_sem]
  refine aN ?_
  refine cnd rfl (fun h => ?_) (fun h => ?_)
  ·simp only [decide_eq_true_eq, Int.ofNat_lt] at h
   have hs := dR cnResult l h
   have ht := iX cnResult l (j + 1)
   have hc : cnResult l[j] = 1 + csum cnInt l[j].fIDs := rfl
   have hkk : k + (csum cnResult (l.take (j + 1)) : Nat) = k + (csum cnResult (l.take j) : Nat) + (cnResult l[j] : Nat) := by omega
   have hg := kM eH cnResult l k j (by rw [bN]; exact h)
   generalize k + (csum cnResult (l.take j) : Nat) = K at hg hkk ⊢
   have hK : 1 ≤ K ∧ K + (cnResult l[j] : Nat) ≤ 4611686018427387904 := by omega
   have hneg0 : ¬ ((K + 1) + (csum cnInt l[j].fIDs : Nat) < 0) := by omega
   repeat' (with_reducible first | refine nY ?_ | (refine mX ?_; try simp only [go_sem, h, hg, eH, hneg0]) | refine kO ?_ (by decide) | refine a2K (by kernel_rfl) ?_ | (refine cC (iN K (by omega)) ?_ ?_; focus simp only [go_sem, and_self]; done) | (refine cC (wE l[j].fIDs (K + 1) (by omega)) ?_ ?_; focus simp only [go_sem, and_self]; done) | (refine And.intro ?_ ?_; focus omega))
   refine aY (j + 1) ?_ ?_ ?_
   ·simp only [go_sem, hkk]
    simp [hc]
    try omega
   ·omega
   ·omega
  ·simp only [decide_eq_false_iff_not] at h
   have e : j = l.length := by omega
   subst e
   refine aN ?_
   exact aA ⟨⟨_, rfl, by simp only [go_sem, List.take_length]⟩, trivial⟩
def cnDiff (x : TDiff) : Nat := 1 + csum cnInt x.fAdded + csum cnInt x.fRemoved
theorem xL : ∀ x, 1 ≤ cnDiff x := fun x => by unfold cnDiff; omega
def tY (x : TDiff) (k : Int) : TDiff := ⟨(eU k), (mkL iO cnInt x.fAdded (k + 1)), (mkL iO cnInt x.fRemoved ((k + 1) + (csum cnInt x.fAdded : Nat)))⟩
theorem tZ (l : List TDiff) (k : Int) (hk : 1 ≤ k ∧ k + (csum cnDiff l : Nat) ≤ 4611686018427387904) : FnM Try.prog 13 false [.w 0 3 (l.map bD)] [.w 0 3 ((mkL tY cnDiff l k).map bD)] k (k + (csum cnDiff l : Nat)) := by
 have hlen := fJ cnDiff xL l
 refine entm Try.func13 rfl Try.call13 rfl (by simp) (by simp only [go_sem]) (fun C tg => ?_); simp only [go_sem, Try.ntmps13]
 refine aN ?_
 refine bP (α := Nat) (fun j => [(5, oi j), (1, oi (k + (csum cnDiff (l.take j) : Nat)))]) (fun j => [(0, .own (tg 0) 3 (kN bD tY cnDiff l k j))]) (fun j => j ≤ l.length) (fun j => l.length - j) 0 (fun _ => ?_) ?_ ?_ (fun j hj => ?_)
 ·simp only [go_sem]
 ·simp only [go_sem]; simp [lU, csum]
 ·simp
 ·simp only [go_sem]
  refine aN ?_
  refine cnd rfl (fun h => ?_) (fun h => ?_)
  ·simp only [decide_eq_true_eq, Int.ofNat_lt] at h
   have hs := dR cnDiff l h
   have ht := iX cnDiff l (j + 1)
   have hc : cnDiff l[j] = 1 + csum cnInt l[j].fAdded + csum cnInt l[j].fRemoved := rfl
   have hset := oQ bD tY cnDiff l k j h
   have hkk : k + (csum cnDiff (l.take (j + 1)) : Nat) = k + (csum cnDiff (l.take j) : Nat) + (cnDiff l[j] : Nat) := by omega
   generalize k + (csum cnDiff (l.take j) : Nat) = K at hset hkk ⊢
   have hK : 1 ≤ K ∧ K + (cnDiff l[j] : Nat) ≤ 4611686018427387904 := by omega
   have qH := @h; repeat' (with_reducible first | refine nY ?_ | (refine mX ?_; try simp only [go_sem, qH]) | refine kD ?_ | refine rD ?_ | refine cP (iN K (by omega)) ?_ | refine vN (iP l[j].fAdded _ (by omega)) ?_ | refine vN (iP l[j].fRemoved _ (by omega)) ?_ | refine aO ?_ | fail)
   refine aY (j + 1) ?_ ?_ ?_
   ·simp only [go_sem, hkk, ← hset]
    simp [tY, bD, hc]
    try omega
   ·omega
   ·omega
  ·simp only [decide_eq_false_iff_not] at h
   have e : j = l.length := by omega
   subst e
   refine aN ?_
   exact ⟨⟨⟨_, rfl, by simp only [go_sem, fK, List.take_length]⟩, trivial⟩, by simp only [go_sem, fK, List.take_length]⟩
def a4q (x : TGroup) : Nat := 3 + csum cnInt x.fIDs
def a4r (x : TGroup) (k : Int) : TGroup := ⟨⟨k, (k + 1), (eU ((k + 1) + 1))⟩, (mkL iO cnInt x.fIDs (((k + 1) + 1) + 1))⟩
def a3V (x : TChange) : Nat := 7 + csum jZ x.fFile.fAttrs + csum tX x.fDir.fQuery
def a3W (x : TChange) (k : Int) : TChange := ⟨k, ⟨(k + 1), ((k + 1) + 1), (decide (Int.tmod (((k + 1) + 1) + 1) 3 = 0)), ((((k + 1) + 1) + 1) + 1), (mkL a1d jZ x.fFile.fAttrs (((((k + 1) + 1) + 1) + 1) + 1))⟩, ((((((k + 1) + 1) + 1) + 1) + 1) + (csum jZ x.fFile.fAttrs : Nat)), ⟨(eU (((((((k + 1) + 1) + 1) + 1) + 1) + (csum jZ x.fFile.fAttrs : Nat)) + 1)), (mkL a1e tX x.fDir.fQuery ((((((((k + 1) + 1) + 1) + 1) + 1) + (csum jZ x.fFile.fAttrs : Nat)) + 1) + 1))⟩⟩
end Go.Proofs.Yteaaopodnbjpoaa
end
section
set_option linter.all false
set_option maxRecDepth 100000
set_option maxHeartbeats 4000000
namespace Go.Proofs.Yteaaopodnbjpoaa
open Go Go.Sx Go.RowKit Go.Proofs
end Go.Proofs.Yteaaopodnbjpoaa
end
section
set_option linter.all false
namespace Go.Proofs.Yteaaopodnbjpoaa
open Go Go.Sx Go.RowKit Go.Proofs
theorem kC {α : Type} (cn w : α → Nat) (c : Nat) (hx : ∀ x, cn x ≤ c * (1 + w x)) : ∀ l : List α, csum cn l ≤ c * (l.length + wsum w l)
 | [] => by simp [csum]
 | x :: l => by
  have h1 := kC cn w c hx l
  have h2 := hx x
  simp only [csum, wsum, List.length_cons]
  have : c * (l.length + 1 + (w x + wsum w l)) = c * (1 + w x) + c * (l.length + wsum w l) := by rw [← Nat.mul_add]; congr 1; omega
  omega
theorem pQ {α : Type} (cn : α → Nat) (c : Nat) (hx : ∀ x, cn x = c) : ∀ l : List α, csum cn l = c * l.length
 | [] => by simp [csum]
 | x :: l => by
  have h1 := pQ cn c hx l
  simp only [csum, List.length_cons, hx, h1, Nat.mul_add]; omega
theorem uC (l : List Int) : csum cnInt l = l.length := by rw [pQ cnInt 1 (fun _ => rfl)]; omega
theorem pR (l : List TResult) : csum cnResult l ≤ 1 * (l.length + wsum wResult l) := kC cnResult wResult 1 (fun x => by
 unfold cnResult wResult; rw [uC]; omega) l
theorem a1f (l : List TDiff) : csum cnDiff l ≤ 1 * (l.length + wsum wDiff l) := kC cnDiff wDiff 1 (fun x => by
 unfold cnDiff wDiff; rw [uC, uC]; omega) l
end Go.Proofs.Yteaaopodnbjpoaa
end
end
section
set_option maxRecDepth 100000
set_option maxHeartbeats 4000000
namespace Go.Proofs.Yteaaopodnbjpoaa
open Go Go.Sx Go.RowKit Go.Proofs
def a4U (l : List ByteArray) (s : ByteArray) : Bool := l.any fun x => decide (x = s)
theorem wD {α : Type} (p : α → Bool) : ∀ (l : List α) (k : Nat), decide (0 ≤ fD p l k) = l.any p
 | [], _ => by simp [fD]
 | x :: xs, k => by
  simp only [fD, List.any_cons]
  by_cases h : p x = true
  ·simp [h]
  ·rw [Bool.not_eq_true] at h
   simpa [h] using wD p xs (k + 1)
def a3U (l : List TDir) : List ByteArray := l.map TDir.fName
def uD (names : List ByteArray) (l : List TDir) : List ByteArray := (a3U l).filter fun n => !a4U names n
end Go.Proofs.Yteaaopodnbjpoaa
end
section
set_option maxRecDepth 100000
namespace Go.Proofs.Yteaaopodnbjpoaa
open Go Go.Sx Go.RowKit Go.Proofs
theorem a5d {α : Type} (l : List α) : (l.all fun _ => true) = true := by simp
theorem nC (l : List Int) (hl : l.length ≤ 67108864) : FnC Try.prog 31 [.o (.d (.sl (l.map aU)))] (.o (.w 3 1 (l.map aU))) := by
 refine ent Try.func31 rfl Try.call31 rfl (fun C => ?_); simp only [go_sem, st0, Try.ntmps31]
 refine aN ?_
 intro b hb
 refine aN ?_
 refine cnd rfl (fun h1 => ?_) (fun h1 => ?_)
 ·have e := hb h1
  simp only [List.map_eq_nil_iff] at e
  subst e
  refine aN ?_
  exact aA ⟨⟨_, rfl, by simp only [go_sem]⟩, trivial⟩
 ·refine aN ?_
  exact aA ⟨⟨_, rfl, by simp only [go_sem, a5d]⟩, trivial⟩
end Go.Proofs.Yteaaopodnbjpoaa
end
section
set_option maxRecDepth 100000
set_option maxHeartbeats 4000000
namespace Go.Proofs.Yteaaopodnbjpoaa
open Go Go.Sx Go.RowKit Go.Proofs
def low (s : ByteArray) (k : Nat) : Bool := inB (pF s k) 97 122
def a3f (s : ByteArray) : Bool := (List.range s.size).all (low s)
def pX (s : ByteArray) (n : Int) : Bool := a3f s && inB s.size 1 n
def a2r (v : TValue) : Bool :=
 if v.fKind = 0 then decide (v.fInt = 0) && decide (v.fStr = ⟨#[]⟩)
 else if v.fKind = 1 then inB v.fInt 0 999 && decide (v.fStr = ⟨#[]⟩)
 else if v.fKind = 2 then pX v.fStr 6 && decide (v.fInt = 0) else false
end Go.Proofs.Yteaaopodnbjpoaa
end
section
set_option maxRecDepth 100000
set_option maxHeartbeats 4000000
namespace Go.Proofs.Yteaaopodnbjpoaa
open Go Go.Sx Go.RowKit Go.Proofs
def two (n : TNode) : Bool := decide (n.fOp = 6) || decide (n.fOp = 7)
def a5g (n : TNode) (i : Int) : Nat := (if (two n || decide (n.fOp = 5)) && decide (n.fLeft = i) then 1 else 0) + (if two n && decide (n.fRight = i) then 1 else 0)
def a4h (q : List TNode) (i : Int) : Nat := match q with
 | [] => 0
 | n :: q => a5g n i + a4h q i
end Go.Proofs.Yteaaopodnbjpoaa
end
section
set_option maxRecDepth 100000
set_option maxHeartbeats 4000000
namespace Go.Proofs.Yteaaopodnbjpoaa
open Go Go.Sx Go.RowKit Go.Proofs
def eV (v : TValue) : Bool := decide (v.fKind = 0) && (decide (v.fInt = 0) && decide (v.fStr = ⟨#[]⟩))
def a4g (n : TNode) (i : Nat) : Bool := inB n.fLeft 0 ((i : Int) - 1) && decide (0 < (i : Int))
def a5e (n : TNode) (i : Nat) : Bool := inB n.fRight 0 ((i : Int) - 1)
def pW (n : TNode) : Bool := decide (n.fLeft = 0) && decide (n.fRight = 0)
def xP (n : TNode) : Bool := decide (n.fName = ⟨#[]⟩) && eV n.fValue
def a3e (n : TNode) (i : Nat) : Bool :=
 if n.fOp = 1 then pW n && xP n
 else if n.fOp = 2 then pX n.fName 1 && (pW n && eV n.fValue)
 else if n.fOp = 3 then pX n.fName 1 && (a2r n.fValue && (!decide (n.fValue.fKind = 0) && pW n))
 else if n.fOp = 4 then pX n.fName 1 && (a2r n.fValue && (decide (n.fValue.fKind = 1) && pW n))
 else if n.fOp = 5 then a4g n i && (decide (n.fRight = 0) && xP n)
 else if n.fOp = 6 ∨ n.fOp = 7 then a4g n i && (a5e n i && xP n)
 else if n.fOp = 8 ∨ n.fOp = 9 then pX n.fName 6 && (pW n && eV n.fValue)
 else false
def a5f (q : List TNode) (i : Nat) : Bool := match q[i]? with
 | none => true
 | some n => a3e n i && (decide (q.length ≤ i + 1) || decide (a4h q i = 1))
def okQ (q : List TNode) : Bool := (List.range q.length).all (a5f q) && inB (q.length : Int) 1 9
end Go.Proofs.Yteaaopodnbjpoaa
end
section
namespace Go.Proofs.Yteaaopodnbjpoaa
open Go Go.Sx Go.RowKit Go.Proofs
def nS (name : ByteArray) : List TAttr → TValue
 | [] => ⟨0, 0, ⟨#[]⟩⟩
 | a :: r => if a.fName = name then a.fValue else nS name r
end Go.Proofs.Yteaaopodnbjpoaa
end
section
set_option maxRecDepth 100000
set_option maxHeartbeats 4000000
namespace Go.Proofs.Yteaaopodnbjpoaa
def a4e (x v : TValue) : Bool := decide (x.fKind = v.fKind) && (decide (x.fInt = v.fInt) && decide (x.fStr = v.fStr))
def iA (l : List Int) (i : Int) : Bool := l.any fun x => decide (x = i)
def kF (s : ByteArray) : List TResult → List Int
 | [] => []
 | x :: r => if x.fName = s then x.fIDs else kF s r
def a4f (v : TValue) (n : Int) : Bool := decide (v.fKind = 1) && decide (v.fInt < n)
def mt (q : List TNode) (f : TFile) (r : List TResult) : Nat → Nat → Bool
 | 0, _ => false
 | k + 1, i => match q[i]? with
  | none => false
  | some n =>
   if n.fOp = 1 then true
   else if n.fOp = 2 then !decide ((nS n.fName f.fAttrs).fKind = 0)
   else if n.fOp = 3 then a4e (nS n.fName f.fAttrs) n.fValue
   else if n.fOp = 4 then a4f (nS n.fName f.fAttrs) n.fValue.fInt
   else if n.fOp = 5 then !mt q f r k n.fLeft.toNat
   else if n.fOp = 6 then mt q f r k n.fLeft.toNat && mt q f r k n.fRight.toNat
   else if n.fOp = 7 then mt q f r k n.fLeft.toNat || mt q f r k n.fRight.toNat
   else if n.fOp = 8 then iA (kF n.fName r) f.fID
   else !decide (f.fLink = 0) && iA (kF n.fName r) f.fLink
end Go.Proofs.Yteaaopodnbjpoaa
end
section
set_option maxRecDepth 100000
set_option maxHeartbeats 4000000
namespace Go.Proofs.Yteaaopodnbjpoaa
open Go Go.Sx Go.RowKit Go.Proofs
theorem zY (l : List Int) (s : Int) (k : Nat) (h : k < l.length) : iA (l.drop k) s = (decide (l[k] = s) || iA (l.drop (k + 1)) s) := by
 rw [List.drop_eq_getElem_cons h]; rfl
theorem zZ (l : List Int) (s : Int) (hl : l.length ≤ 67108864) : FnC Try.prog 43 [.o (.d (.sl (l.map aU))), oi s] (oi (fD (fun x => decide (s = x)) l 0)) := by
 refine ent Try.func43 rfl Try.call43 rfl (fun C => ?_); simp only [go_sem, st0, Try.ntmps43]
 refine aN ?_
 refine bP (α := Nat) (fun k => [(8, oi k)]) (fun _ => []) (fun k => k ≤ l.length ∧ fD (fun x => decide (s = x)) l 0 = fD (fun x => decide (s = x)) (l.drop k) k) (fun k => l.length - k) 0 (fun _ => ?_) ?_ ?_ (fun k hk => ?_)
 ·simp only [go_sem]
 ·simp only [go_sem]; simp
 ·simp
 ·obtain ⟨hk, hq⟩ := hk
  simp only [go_sem]
  refine aN ?_
  refine cnd rfl (fun h => ?_) (fun h => ?_)
  ·simp only [decide_eq_true_eq, Int.ofNat_lt] at h
   have hd := List.drop_eq_getElem_cons h
   rw [hd, fD] at hq
   have q0 := @h; refine lX ?_
   refine cnd (b := decide (s = l[k])) rfl (fun h2 => ?_) (fun h2 => ?_)
   ·rw [if_pos h2] at hq
    refine aN ?_
    exact aA ⟨⟨_, rfl, by simp only [go_sem, hq]⟩, trivial⟩
   ·rw [if_neg (by simp [h2])] at hq
    refine aN ?_
    refine aY (k + 1) ?_ ?_ ?_
    ·simp only [go_sem]; simp
    ·rw [hq]; exact ⟨h, by simp⟩
    ·omega
  ·simp only [decide_eq_false_iff_not] at h
   have e : k = l.length := by omega
   subst e
   simp only [List.drop_length, fD] at hq
   refine aN ?_
   exact aA ⟨⟨_, rfl, by simp only [go_sem, hq]⟩, trivial⟩
theorem a1c (l : List Int) (s : Int) : decide (0 ≤ fD (fun x => decide (s = x)) l 0) = iA l s := by
 rw [wD]; unfold iA
 congr 1; funext x; congr 1; exact propext eq_comm
theorem tV (l : List Int) (s : Int) (hl : l.length ≤ 67108864) : FnC Try.prog 39 [.o (.d (.sl (l.map aU))), oi s] (ob (iA l s)) := by
 refine ent Try.func39 rfl Try.call39 rfl (fun C => ?_); simp only [go_sem, st0, Try.ntmps39]
 refine zM (zZ l s hl) ?_
 exact aA ⟨⟨_, rfl, by simp only [go_sem, a1c]⟩, trivial⟩
theorem lD (l : List Int) (s : Int) (hl : l.length ≤ 67108864) : FnC Try.prog 28 [.o (.d (.sl (l.map aU))), oi s] (ob (iA l s)) := by
 refine ent Try.func28 rfl Try.call28 rfl (fun C => ?_); simp only [go_sem, st0, Try.ntmps28]
 refine aN ?_
 refine bP (α := Nat) (fun k => [(5, oi k)]) (fun k => []) (fun k => k ≤ l.length ∧ iA (l.drop k) s = iA l s) (fun k => l.length - k) 0 (fun _ => ?_) ?_ ?_ (fun k hk => ?_)
 ·simp only [go_sem]; try simp
 ·simp only [go_sem]; try simp
 ·simp
 ·simp only [go_sem]
  obtain ⟨hk, hg⟩ := hk
  refine aN ?_
  refine cnd rfl (fun h1 => ?_) (fun h1 => ?_)
  ·simp only [decide_eq_true_eq, Int.ofNat_lt] at h1
   have hd := zY l s k h1
   rw [hg] at hd
   have q0 := @h1; refine lX ?_
   refine cnd rfl (fun hv => ?_) (fun hv => ?_)
   ·rw [hv, Bool.true_or] at hd
    refine aN ?_
    exact aA ⟨⟨_, rfl, by simp only [go_sem, hd]⟩, trivial⟩
   ·rw [hv, Bool.false_or] at hd
    refine aN ?_
    refine aY (k + 1) ?_ ?_ ?_
    ·simp only [go_sem]; try simp
    ·exact ⟨by omega, hd.symm⟩
    ·omega
  ·simp only [decide_eq_false_iff_not] at h1
   have e : k = l.length := by omega
   subst e
   have hn : iA l s = false := by rw [← hg, List.drop_length]; rfl
   refine aN ?_
   exact aA ⟨⟨_, rfl, by simp only [go_sem, hn]⟩, trivial⟩
end Go.Proofs.Yteaaopodnbjpoaa
end
section
namespace Go.Proofs.Yteaaopodnbjpoaa
open Go Go.Sx Go.RowKit Go.Proofs
def dJ (a b : List Int) : List Int := a.filter fun x => !iA b x
theorem lC (a b : List Int) : (dJ a b).length ≤ a.length := List.length_filter_le _ _
def a3T (a : List TResult) (x : TResult) : List TDiff :=
 if 0 < (dJ x.fIDs (kF x.fName a)).length + (dJ (kF x.fName a) x.fIDs).length then [⟨x.fName, dJ x.fIDs (kF x.fName a), dJ (kF x.fName a) x.fIDs⟩] else []
def a5p (a b : List TResult) : List TDiff := b.flatMap (a3T a)
end Go.Proofs.Yteaaopodnbjpoaa
end
section
namespace Go.Sx
open Go Go.RowKit
def yK : Option Nat → SV → SV
 | none, s => s
 | some id, s => mQ id s
def iB (φ : Option Nat) (T : List SV) : List SV := T.map (yK φ)
theorem yL (φ : Option Nat) : yK φ (.o .u) = .o .u := by cases φ <;> rfl
theorem aS (T : List SV) : iB none T = T := by
 have e : yK none = id := rfl
 rw [iB, e, List.map_id]
def eO (all : List Oper) : Nat → Nat → Nat → Bool
 | 0, a, b => match all[b]? with
  | some o => onE o a
  | none => false
 | n + 1, a, b => match all[b]? with
  | some o => onE o a || o.after.any fun e => Region.binds .any e && eO all n a e.on
  | none => false
def a3g (all : List Oper) (L : Array Bool) : Prop := ∀ (b : Nat) (o : Oper), all[b]? = some o → L.getD b true = true → ∀ e ∈ o.after, Region.binds .any e = true → L.getD e.on true = true
theorem pY {all : List Oper} {L : Array Bool} {a b : Nat} {o : Oper} (ho : all[b]? = some o) (hd : ∀ e ∈ o.after, Region.binds .any e = true → L.getD e.on true = true) (h : onE o a = true) : L.getD a true = true := by
 obtain ⟨e, he, hb⟩ := Array.any_eq_true'.1 h
 simp only [Bool.and_eq_true, beq_iff_eq] at hb
 have := hd e he hb.1
 rwa [hb.2] at this
theorem iU {all : List Oper} {L : Array Bool} (hc : a3g all L) : ∀ (n a b : Nat) (o : Oper), all[b]? = some o → (∀ e ∈ o.after, Region.binds .any e = true → L.getD e.on true = true) → eO all n a b = true → L.getD a true = true
 | 0, a, b, o, ho, hd, h => by
  unfold eO at h; rw [ho] at h; exact pY ho hd h
 | n + 1, a, b, o, ho, hd, h => by
  unfold eO at h
  rw [ho] at h
  rcases Bool.or_eq_true_iff.1 h with h | h
  ·exact pY ho hd h
  ·obtain ⟨e, he, hb⟩ := Array.any_eq_true'.1 h
   rw [Bool.and_eq_true] at hb
   have h1 := hd e he hb.1
   cases hq : all[e.on]? with
   | none => have := hb.2; cases n <;> (unfold eO at this; rw [hq] at this; cases this)
   | some p => exact iU hc n a e.on p hq (hc e.on p hq h1) hb.2
def okE (all : List Oper) (ps ls : List Nat) : Bool := (ls.all fun i => ps.contains i) &&
 (List.range all.length).all fun i => zI all i fun o =>
  (match o.guard with | none => true | some _ => false) && (o.after.all fun e => !Region.binds .any e || decide (e.on < i)) &&
  (ps.contains i || o.dst.isSome) &&
  ((List.range all.length).all fun j => zI all j fun p => match p.dst with
   | none => true
   | some d => ((eY (opL o.op)).all fun t => t != d || onE o j || ls.contains j) && (j == i || o.dst != some d))
def a4i (all : List Oper) (ps dn rest w : List Nat) : Bool :=
 (List.range all.length).all fun i => ps.contains i || dn.any (fun e => eO all 4 i e) || rest.any (fun e => eO all 4 e i) || w.contains i
inductive PT where
 | n : PT
 | c : Nat → List Nat → List Nat → PT → PT → PT
def PT.tops : PT → List Nat
 | .n => []
 | .c p _ _ _ r => p :: r.tops
def PT.isNil : PT → Bool
 | .n => true
 | .c .. => false
def okN (all : List Oper) (ps dn rem w : List Nat) (t : PT) : Bool := a4i all ps dn rem w && rem.all fun p => (rem.any fun q => q != p && eO all 4 q p) || t.tops.contains p
def qK (all : List Oper) (ps : List Nat) : PT → List Nat → List Nat → Bool
 | .n, _, _ => true
 | .c p li w' sub r, dn, rem => rem.contains p && (li.all fun i => !ps.contains i && eO all 4 p i) && okN all ps (p :: dn) (rem.filter (· != p)) w' sub && qK all ps sub (p :: dn) (rem.filter (· != p)) && qK all ps r dn rem
def bY (all : List Oper) : List Nat → List Oper
 | [] => []
 | i :: l => match rU all i with
  | some o => o :: bY all l
  | none => bY all l
theorem gB {all : List Oper} {o : Oper} : ∀ {l : List Nat}, o ∈ bY all l ↔ ∃ i ∈ l, all[i]? = some o
 | [] => by simp [bY]
 | j :: l => by
  have ih := gB (all := all) (o := o) (l := l)
  unfold bY
  rw [nH]
  cases hq : all[j]? with
  | none => simp only [ih, List.mem_cons]; constructor
            ·rintro ⟨i, h1, h2⟩; exact ⟨i, .inr h1, h2⟩
            ·rintro ⟨i, h1 | h1, h2⟩
             ·subst h1; rw [hq] at h2; cases h2
             ·exact ⟨i, h1, h2⟩
  | some p =>
   simp only [List.mem_cons, ih]
   constructor
   ·rintro (rfl | ⟨i, h1, h2⟩)
    ·exact ⟨j, .inl rfl, hq⟩
    ·exact ⟨i, .inr h1, h2⟩
   ·rintro ⟨i, h1 | h1, h2⟩
    ·subst h1; rw [hq] at h2; exact .inl (Option.some.inj h2).symm
    ·exact .inr ⟨i, h1, h2⟩
def lat (all : List Oper) (ls : List Nat) : List Oper := all.mapIdx fun i o => if ls.contains i then { o with dst := none } else o
theorem lH {all : List Oper} {ls : List Nat} {j d : Nat} {o' : Oper} (h : (lat all ls)[j]? = some o') (hd : o'.dst = some d) : ∃ o, all[j]? = some o ∧ o.dst = some d ∧ j ∉ ls := by
 unfold lat at h
 rw [List.getElem?_mapIdx] at h
 cases ho : all[j]? with
 | none => rw [ho] at h; cases h
 | some o =>
  rw [ho] at h
  simp only [Option.map_some, Option.some.injEq] at h
  split at h
  ·subst h; cases hd
  ·rename_i hn
   subst h
   exact ⟨o, rfl, hd, fun hm => hn (List.contains_iff_mem.2 hm)⟩
theorem qA {all : List Oper} {ls : List Nat} {j : Nat} {o : Oper} (h : all[j]? = some o) (hj : j ∉ ls) : (lat all ls)[j]? = some o := by
 unfold lat
 rw [List.getElem?_mapIdx, h, Option.map_some, if_neg (fun hm => hj (List.contains_iff_mem.1 hm))]
section
variable {E : Env}
def a2f : Op → Bool
 | .alloc _ => true
 | .assign _ => true
 | .move _ => true
 | .buildSlice .. => true
 | .store .. => true
 | .call c => match c.callee with
  | .builtin .append => true
  | _ => false
 | _ => false
def qB (E : Env) (o : Oper) (st : St) (k : St → SV → Prop) : Prop := if a2f o.op then aW E o.op st k else a0O E o st fun h' s => k ⟨st.t, h'⟩ s
theorem lI {T : List SV} {st : St} : ∀ (l : List (Nat × Operand)) (n : Nat), (∀ p ∈ l, ev ⟨T, st.h⟩ p.2 = ev st p.2) → cO ⟨T, st.h⟩ n l = cO st n l
 | [], _, _ => rfl
 | (i, x) :: r, n, h => by
  have h1 : ev ⟨T, st.h⟩ x = ev st x := h (i, x) (by simp)
  simp only [cO, h1, lI r (n + 1) fun p hp => h p (by simp [hp])]
theorem a1j {op : Op} (ha : a2f op = true) {st : St} {k : St → SV → Prop} (h : aW E op st k) : ∃ φ h' s, (∀ T : List SV, (∀ x ∈ op.operands, ev ⟨T, st.h⟩ x = ev st x) → aW E op ⟨T, st.h⟩ fun st2 s2 => st2 = ⟨iB φ T, h'⟩ ∧ s2 = s) ∧ k ⟨iB φ st.t, h'⟩ s := by
 cases op <;> simp only [a2f, Bool.false_eq_true] at ha
 case alloc t =>
  simp only [aW] at h
  exact ⟨none, st.h ++ [.box t (E.T t).zero], _, fun T _ => by simp only [aW]; exact ⟨h.1, by rw [aS]; rfl, rfl⟩, by rw [aS]; exact h.2⟩
 case assign x => exact ⟨none, st.h, ev st x, fun T he => by simp only [aW, he x (by simp [Op.operands])]; exact ⟨by rw [aS], trivial⟩, by rw [aS]; exact h⟩
 case move x => exact ⟨none, st.h, ev st x, fun T he => by simp only [aW, he x (by simp [Op.operands])]; exact ⟨by rw [aS], trivial⟩, by rw [aS]; exact h⟩
 case buildSlice t len parts =>
  simp only [aW] at h
  unfold dF at h
  obtain ⟨h1, h2, h3, h4, h⟩ := h
  split at h
  ·rename_i cs e
   obtain ⟨h5, h⟩ := h
   split at h
   ·rename_i rows lin e2
    refine ⟨none, _, .o (.s st.h.length), fun T he => ?_, by rw [aS]; exact h.2⟩
    simp only [aW]
    unfold dF
    have hp : cO ⟨T, st.h⟩ 0 parts.toList = cO st 0 parts.toList := lI _ _ fun p hp => he p.2 (by rw [← Array.mem_toList_iff, ← a0s]; exact List.mem_map.2 ⟨p, hp, rfl⟩)
    refine ⟨h1, h2, h3, h4, ?_⟩
    rw [hp, e]
    refine ⟨h5, ?_⟩
    simp only [e2]
    exact ⟨h.1, by rw [aS], trivial⟩
   ·exact h.elim
  ·exact h.elim
 case store t x v =>
  have key : ∀ T : List SV, (∀ y ∈ (Op.store t x v).operands, ev ⟨T, st.h⟩ y = ev st y) → ev ⟨T, st.h⟩ x = ev st x ∧ ev ⟨T, st.h⟩ v = ev st v := fun T he => ⟨he x (by simp [Op.operands]), he v (by simp [Op.operands])⟩
  simp only [aW] at h
  split at h
  ·rename_i id sz i fo e
   unfold eB at h
   obtain ⟨h1, h2, h3, h4, h5, h⟩ := h
   split at h
   ·rename_i e1 e2
    split at h
    ·rename_i e3
     refine ⟨none, _, .t [], fun T he => ?_, by rw [aS]; exact h.2.2⟩
     obtain ⟨hx, hv⟩ := key T he
     simp only [aW, hx, hv, e]
     unfold eB
     refine ⟨h1, h2, h3, h4, h5, ?_⟩
     simp only [e1, e2, e3]
     exact ⟨h.1, h.2.1, by rw [aS], trivial⟩
    ·exact h.elim
   ·exact h.elim
  ·rename_i id sz i fo e
   unfold dG at h
   split at h
   ·rename_i e0
    split at h
    ·rename_i e1
     split at h
     ·rename_i e2 e3
      refine ⟨none, _, .t [], fun T he => ?_, by rw [aS]; exact h.2.2.2.2⟩
      obtain ⟨hx, hv⟩ := key T he
      simp only [aW, hx, hv, e]
      unfold dG
      simp only [e0, e1, e2, e3]
      exact ⟨h.1, h.2.1, h.2.2.1, h.2.2.2.1, by rw [aS], trivial⟩
     ·exact h.elim
    ·exact h.elim
   ·exact h.elim
  ·rename_i e0 e1
   unfold iZ at h
   split at h
   ·rename_i e
    split at h
    ·rename_i e2
     split at h
     ·rename_i e3
      refine ⟨none, _, .t [], fun T he => ?_, by rw [aS]; exact h.2.2.2.2⟩
      obtain ⟨hx, hv⟩ := key T he
      simp only [aW, hx, hv, e]
      unfold iZ
      simp only [e2, e3]
      exact ⟨h.1, h.2.1, h.2.2.1, h.2.2.2.1, by rw [aS], trivial⟩
     ·exact h.elim
    ·exact h.elim
   ·exact h.elim
 case call c =>
  have hc : c.callee = .builtin .append := by
   split at ha
   ·rename_i e; exact e
   ·cases ha
  simp only [aW, bZ, hc] at h
  split at h
  ·rename_i s x t t' e1 e2
   have key : ∀ T : List SV, (∀ y ∈ (Op.call c).operands, ev ⟨T, st.h⟩ y = ev st y) → ev ⟨T, st.h⟩ s = ev st s ∧ ev ⟨T, st.h⟩ x = ev st x := fun T he =>
    ⟨he s (by simp only [Op.operands, Call.operands, Array.mem_append]; exact .inr (by rw [← Array.mem_toList_iff, e1]; simp)), he x (by simp only [Op.operands, Call.operands, Array.mem_append]; exact .inr (by rw [← Array.mem_toList_iff, e1]; simp))⟩
   have src : ∀ (T : List SV) (y : SV), wZ ⟨T, st.h⟩ y = wZ st y := fun T y => by unfold wZ; rfl
   obtain ⟨h0, h⟩ := h
   unfold fQ at h
   obtain ⟨h1, h2, h⟩ := h
   split at h
   ·rename_i rows2 lin2 ids e3
    obtain ⟨h3, h⟩ := h
    split at h
    ·rename_i id e4
     split at h
     ·rename_i ty sz rows lin e5
      refine ⟨some id, _, .o (.s id), fun T he => ?_, h.2.2.2.2.2⟩
      obtain ⟨hs, hx⟩ := key T he
      simp only [aW, bZ, hc, e1, e2]
      refine ⟨h0, ?_⟩
      unfold fQ
      refine ⟨h1, h2, ?_⟩
      rw [hx, src, e3]
      refine ⟨h3, ?_⟩
      rw [hs, e4]
      simp only [e5]
      exact ⟨h.1, h.2.1, h.2.2.1, h.2.2.2.1, h.2.2.2.2.1, rfl, trivial⟩
     ·exact h.elim
    ·rename_i e4
     refine ⟨none, _, _, fun T he => ?_, by rw [aS]; exact h.2.2⟩
     obtain ⟨hs, hx⟩ := key T he
     simp only [aW, bZ, hc, e1, e2]
     refine ⟨h0, ?_⟩
     unfold fQ
     refine ⟨h1, h2, ?_⟩
     rw [hx, src, e3]
     refine ⟨h3, ?_⟩
     rw [hs, e4]
     exact ⟨h.1, h.2.1, by rw [aS], rfl⟩
    ·exact h.elim
   ·exact h.elim
  ·exact h.elim
end
section
variable {E : Env}
def mG (E : Env) (all : List Oper) : PT → St → (St → Prop) → Prop
 | .n, _, _ => True
 | .c p li w' sub r, st, K => (∃ o, all[p]? = some o ∧ qB E o st fun st' s => oI E all (bY all li) (st'.put o.dst s) fun st'' => jE E st'' (bY all w') ∧ if sub.isNil = true then K st'' else mG E all sub st'' K) ∧ mG E all r st K
theorem yM {all : List Oper} {ps dn rem : List Nat} {st : St} {K : St → Prop} {p : Nat} : ∀ {t : PT}, p ∈ t.tops → qK all ps t dn rem = true → mG E all t st K → ∃ li w' sub, (li.all fun i => !ps.contains i && eO all 4 p i) = true ∧ okN all ps (p :: dn) (rem.filter (· != p)) w' sub = true ∧ qK all ps sub (p :: dn) (rem.filter (· != p)) = true ∧
    ∃ o, all[p]? = some o ∧ qB E o st fun st' s => oI E all (bY all li) (st'.put o.dst s) fun st'' => jE E st'' (bY all w') ∧ if sub.isNil = true then K st'' else mG E all sub st'' K
 | .n, h, _, _ => by simp [PT.tops] at h
 | .c q li w' sub r, h, ho, hv => by
  unfold qK at ho
  simp only [Bool.and_eq_true] at ho
  obtain ⟨⟨⟨⟨h1, h2⟩, h3⟩, h4⟩, h5⟩ := ho
  obtain ⟨v1, v2⟩ := hv
  simp only [PT.tops, List.mem_cons] at h
  rcases h with rfl | h
  ·exact ⟨li, w', sub, h2, h3, h4, v1⟩
  ·exact yM h h5 v2
theorem qC {all : List Oper} : ∀ {l : List Oper} {st : St} {K : St → Prop}, oI E all l st K → ∃ st1, K st1 ∧ st1.h = st.h ∧ st1.t.length = st.t.length ∧ ∀ d, (∀ o ∈ l, o.dst ≠ some d) → nth st1.t d = nth st.t d
 | [], st, K, h => ⟨st, h, rfl, rfl, fun _ _ => rfl⟩
 | o :: l, st, K, h => by
  obtain ⟨s, h1, _⟩ := xX h
  obtain ⟨st1, k1, k2, k3, k4⟩ := qC h1
  refine ⟨st1, k1, by rw [k2, uT], by rw [k3, sG], fun d hd => ?_⟩
  rw [k4 d fun p hp => hd p (List.mem_cons_of_mem _ hp)]
  cases ho : o.dst with
  | none => rfl
  | some e => exact yF fun e2 => hd o (by simp) (by rw [ho, e2])
theorem wG (φ : Option Nat) (T : List SV) (d : Nat) : nth (iB φ T) d = yK φ (nth T d) := by
 rw [eZ, eZ, List.getD_eq_getElem?_getD, List.getD_eq_getElem?_getD, iB, List.getElem?_map]
 cases T[d]? with
 | none => simp [yL]
 | some s => rfl
theorem a1k {o : Oper} {st : St} {k : St → SV → Prop} (h : qB E o st k) : ∃ φ h' s, (∀ T : List SV, (∀ x ∈ o.op.operands, ev ⟨T, st.h⟩ x = ev st x) → aW E o.op ⟨T, st.h⟩ fun st2 s2 => st2 = ⟨iB φ T, h'⟩ ∧ s2 = s) ∧ k ⟨iB φ st.t, h'⟩ s := by
 unfold qB at h
 split at h
 ·rename_i ha; exact a1j ha h
 ·unfold a0O at h
  split at h
  ·rename_i c hop
   split at h
   ·rename_i f hc
    split at h
    ·rename_i fn caps hfn
     obtain ⟨h', s', hcall, hk⟩ := h
     refine ⟨none, h', s', fun T he => ?_, by rw [aS]; exact hk⟩
     rw [hop] at he
     have hfe : ev ⟨T, st.h⟩ f = ev st f := he f (by simp [Op.operands, Call.operands, hc])
     have hargs : c.args.toList.map (ev ⟨T, st.h⟩) = c.args.toList.map (ev st) := List.map_congr_left fun x hx => he x (by simp only [Op.operands, Call.operands, Array.mem_append]; exact .inr (by simpa using hx))
     rw [hop]
     simp only [aW, bZ, hc, hfe, hfn, hargs]
     rw [aS]
     exact ⟨hcall T⟩
    ·exact h.elim
   ·exact h.elim
  ·exact h.elim
theorem a2g {all : List Oper} {listed : Array Bool} {i d : Nat} {o : Oper} {T : List SV} {H : List HB} (s6 : ∀ (j : Nat) (p : Oper) (d : Nat), all[j]? = some p → p.dst = some d → j ≠ i → o.dst ≠ some d) (ho : all[i]? = some o) (hd : o.dst = some d) :
    St.put ⟨dN all listed T, H⟩ o.dst (nth T d) = ⟨dN all (listed.setIfInBounds i true) T, H⟩ := by
 have keep : ∀ j, j ≠ i → (listed.setIfInBounds i true).getD j true = listed.getD j true := fun j hj => getD_set_ne true (fun e => hj e.symm)
 rw [hd]
 simp only [St.put, dQ]
 congr 1
 apply List.ext_getElem?
 intro m
 rw [List.getElem?_set]
 rcases Nat.lt_or_ge m T.length with hm | hm
 ·rw [fI (l := dN all (listed.setIfInBounds i true) T) (by rw [bM]; exact hm), eG]
  by_cases e : d = m
  ·subst e
   rw [if_pos rfl, if_pos (by rw [bM]; exact hm)]
   have : gY all (listed.setIfInBounds i true) d = false := by
    cases hh : gY all (listed.setIfInBounds i true) d with
    | false => rfl
    | true =>
     obtain ⟨j, p, hj, hd2, hu⟩ := (dL _ _ d).1 hh
     by_cases e : j = i
     ·subst e; rw [aV] at hu; cases hu
     ·exact (s6 j p d hj hd2 e hd).elim
   rw [this]; simp
  ·rw [if_neg e, fI (by rw [bM]; exact hm), eG]
   have : gY all (listed.setIfInBounds i true) m = gY all listed m := by
    rw [Bool.eq_iff_iff, dL, dL]
    constructor
    ·rintro ⟨j, p, hj, hd2, hu⟩
     refine ⟨j, p, hj, hd2, ?_⟩
     by_cases e2 : j = i
     ·subst e2; rw [aV] at hu; cases hu
     ·rwa [keep j e2] at hu
    ·rintro ⟨j, p, hj, hd2, hu⟩
     refine ⟨j, p, hj, hd2, ?_⟩
     by_cases e2 : j = i
     ·subst e2; rw [ho] at hj; cases hj; rw [hd] at hd2; cases hd2; exact (e rfl).elim
     ·rwa [keep j e2]
   rw [this]
 ·rw [List.getElem?_eq_none (l := dN all (listed.setIfInBounds i true) T) (by rw [bM]; exact hm)]
  split
  ·rename_i e; subst e
   rw [if_neg (by rw [bM]; omega)]
  ·rw [List.getElem?_eq_none (l := dN all listed T) (by rw [bM]; exact hm)]
theorem a3h (hT : TyOK E.P E.T) (hE : ∀ t, E.eqk t ≠ [] → EqT E.P t (E.eqk t)) {all : List Oper} {ps0 ls : List Nat} (hok : okE all ps0 ls = true) {Q : Exit → Act → World → Prop} {K : St → Prop} (hQ : ∀ g V st a w, Rel E.C g V st a w → K st → Q .normal a w) :
    ∀ (n : Nat) (listed : Array Bool) (dn rem : List Nat) (t : PT) (wi : List Nat) (st : St) (g : List Gh) (V : View) (a : Act) (w : World), listed.size = all.length → xF all listed ≤ n → a3g all listed → okN all ps0 dn rem wi t = true → qK all ps0 t dn rem = true → (∀ e ∈ dn, listed.getD e true = true) → (∀ q ∈ rem, q < all.length ∧ q ∈ ps0 ∧ listed.getD q true = false) → (∀ i, i < all.length → i ∈ ps0 → listed.getD i true = false → i ∈ rem) →
     jE E st (bY all wi) → (if t.isNil = true then K st else mG E all t st K) → Rel E.C g V ⟨dN (lat all ls) listed st.t, st.h⟩ a w → wpAny E.P .any all.toArray Q n listed a w := by
 unfold okE at hok
 rw [Bool.and_eq_true] at hok
 obtain ⟨hls0, hok⟩ := hok
 have hls : ∀ i ∈ ls, i ∈ ps0 := fun i hi => List.contains_iff_mem.1 (List.all_eq_true.1 hls0 i hi)
 have spec : ∀ (i : Nat) (o : Oper), all[i]? = some o → o.guard = none ∧ (∀ e ∈ o.after, Region.binds .any e = true → e.on < i) ∧ (i ∉ ps0 → ∃ d, o.dst = some d) ∧
     (∀ (j : Nat) (p : Oper) (d : Nat), all[j]? = some p → p.dst = some d → (∀ t ∈ eY (opL o.op), t = d → onE o j = true ∨ j ∈ ls) ∧ (j ≠ i → o.dst ≠ some d)) := fun i o ho => by
  have h := List.all_eq_true.1 hok i (List.mem_range.2 (List.getElem?_eq_some_iff.1 ho).1)
  unfold zI at h
  rw [ho] at h
  simp only [Bool.and_eq_true] at h
  obtain ⟨⟨⟨h1, h2⟩, h4⟩, h5⟩ := h
  refine ⟨?_, fun e he hb => ?_, fun hs => ?_, fun j p d hj hd => ?_⟩
  ·cases hg : o.guard with
   | none => rfl
   | some x => rw [hg] at h1; cases h1
  ·have := (Array.all_eq_true_iff_forall_mem.1 h2) e he
   rw [hb] at this
   simpa using this
  ·rcases Bool.or_eq_true_iff.1 h4 with h | h
   ·exact (hs (List.contains_iff_mem.1 h)).elim
   ·exact Option.isSome_iff_exists.1 h
  ·have h := List.all_eq_true.1 h5 j (List.mem_range.2 (List.getElem?_eq_some_iff.1 hj).1)
   rw [hj] at h
   simp only [hd, Bool.and_eq_true] at h
   refine ⟨fun t ht e => ?_, fun hne => ?_⟩
   ·have := List.all_eq_true.1 h.1 t ht
    subst e
    simp only [bne_self_eq_false, Bool.false_or, Bool.or_eq_true] at this
    exact this.imp id List.contains_iff_mem.1
   ·rcases Bool.or_eq_true_iff.1 h.2 with h | h
    ·exact (hne (beq_iff_eq.1 h)).elim
    ·simpa using h
 have toT : ∀ {listed : Array Bool} {j : Nat}, listed.getD j false = true → listed.getD j true = true := fun {listed j} h => by
  rcases Nat.lt_or_ge j listed.size with h' | h'
  ·simp [h'] at h ⊢; exact h
  ·simp [Array.getElem?_eq_none h'] at h
 have fin : ∀ (listed : Array Bool) (dn rem : List Nat) (t : PT) (wi : List Nat) (st : St) (g : List Gh) (V : View) (a : Act) (w : World), (∀ j, j < all.length → listed.getD j true = true) → qK all ps0 t dn rem = true → (∀ q ∈ rem, q < all.length ∧ q ∈ ps0 ∧ listed.getD q true = false) → (if t.isNil = true then K st else mG E all t st K) → Rel E.C g V ⟨dN (lat all ls) listed st.t, st.h⟩ a w → Q .normal a w := fun listed dn rem t wi st g V a w hl hpt h2 hv hr => by
  have hm : dN (lat all ls) listed st.t = st.t := by
   apply List.ext_getElem?
   intro d
   rcases Nat.lt_or_ge d st.t.length with h | h
   ·rw [fI (by rw [bM]; exact h), fI h, eG]
    have : gY (lat all ls) listed d = false := by
     cases hh : gY (lat all ls) listed d with
     | false => rfl
     | true =>
      obtain ⟨j, o', ho', hd', hu⟩ := (dL (lat all ls) listed d).1 hh
      obtain ⟨o, ho, _, _⟩ := lH ho' hd'
      rw [hl j (List.getElem?_eq_some_iff.1 ho).1] at hu; cases hu
    rw [this]; simp
   ·rw [List.getElem?_eq_none (by rw [bM]; exact h), List.getElem?_eq_none h]
  rw [hm] at hr
  cases t with
  | n => exact hQ _ _ _ _ _ hr hv
  | c p li w' sub r =>
   unfold qK at hpt
   simp only [Bool.and_eq_true] at hpt
   obtain ⟨h3, _, h4⟩ := h2 p (List.contains_iff_mem.1 hpt.1.1.1.1)
   rw [hl _ h3] at h4; cases h4
 have none_left : ∀ (listed : Array Bool), listed.size = all.length → Region.ready .any all.toArray listed = [] → ∀ j, j < all.length → listed.getD j true = true := fun listed hsz hr => by
  intro j
  induction j using Nat.strongRecOn with
  | _ j ih =>
   intro hj
   cases hq : listed.getD j true with
   | true => rfl
   | false =>
    have ho : all[j]? = some (all[j]'hj) := List.getElem?_eq_getElem hj
    have : j ∈ Region.ready .any all.toArray listed := mem_ready.2 ⟨hq, _, toA ho, fun e he hb => by
     have hlt := (spec j _ ho).2.1 e he hb
     have h1 := ih e.on hlt (by omega)
     have hes : e.on < listed.size := by omega
     simp [hes] at h1 ⊢; exact h1⟩
    rw [hr] at this; cases this
 intro n
 induction n with
 | zero =>
  intro listed dn rem t wi st g V a w hsz hn hclo hokn hokt hdn hphs hall hchk hv hr
  have hl : ∀ j, j < all.length → listed.getD j true = true := fun j hj => by
   cases hq : listed.getD j true with
   | true => rfl
   | false =>
    have : j ∈ (List.range all.length).filter fun j => !listed.getD j true := List.mem_filter.2 ⟨List.mem_range.2 hj, by rw [hq]; rfl⟩
    have := List.length_pos_of_mem this
    unfold xF at hn
    omega
  refine ⟨List.eq_nil_iff_forall_not_mem.2 fun i hi => ?_, fin listed dn rem t wi st g V a w hl hokt hphs hv hr⟩
  obtain ⟨h1, o, h2, _⟩ := mem_ready.1 hi
  rw [hl i (by simpa using (Array.getElem?_eq_some_iff.1 h2).1)] at h1; cases h1
 | succ n ih =>
  intro listed dn rem t wi st g V a w hsz hn hclo hokn hokt hdn hphs hall hchk hv hr
  refine ⟨fun he => fin listed dn rem t wi st g V a w (none_left listed hsz he) hokt hphs hv hr, fun i hi => ?_⟩
  obtain ⟨hun, o, ho', haft⟩ := mem_ready.1 hi
  have ho : all[i]? = some o := by simpa using ho'
  have hil := (List.getElem?_eq_some_iff.1 ho).1
  obtain ⟨s1, s2, s5, s6⟩ := spec i o ho
  have hun' : xF all (listed.setIfInBounds i true) ≤ n := by have := zJ hil hun; omega
  have haft' : ∀ e ∈ o.after, Region.binds .any e = true → listed.getD e.on true = true := fun e he hb => toT (haft e he hb)
  have keep : ∀ j, j ≠ i → (listed.setIfInBounds i true).getD j true = listed.getD j true := fun j hj => getD_set_ne true (fun e => hj e.symm)
  have up : ∀ j, listed.getD j true = true → (listed.setIfInBounds i true).getD j true = true := fun j hj => by
   by_cases e : j = i
   ·subst e; rw [aV]
   ·rw [keep j e]; exact hj
  have hclo' : a3g all (listed.setIfInBounds i true) := fun b p hb hl e he hbd => by
   by_cases e2 : b = i
   ·subst e2; rw [ho] at hb; cases hb; exact up _ (haft' e he hbd)
   ·rw [keep b e2] at hl; exact up _ (hclo b p hb hl e he hbd)
  have evEq : ∀ x ∈ o.op.operands, ev ⟨dN (lat all ls) listed st.t, st.h⟩ x = ev st x := fun x hx => by
   cases x with
   | tmp t =>
    show nth (dN (lat all ls) listed st.t) t = nth st.t t
    rw [eG]
    have : gY (lat all ls) listed t = false := by
     cases hh : gY (lat all ls) listed t with
     | false => rfl
     | true =>
      obtain ⟨j, p', hj', hd', hu⟩ := (dL (lat all ls) listed t).1 hh
      obtain ⟨p, hj, hd, hnl⟩ := lH hj' hd'
      rcases (s6 j p t hj hd).1 t (jP.2 (by rw [a0s]; simpa using hx)) rfl with h1 | h1
      ·have h2 := pY ho haft' h1
       rw [hu] at h2; cases h2
      ·exact (hnl h1).elim
    rw [this]; simp
   | const v => rfl
   | func f => rfl
   | global m => rfl
  unfold wpOp
  rw [ho']
  simp only [Region.wanted, s1, if_true]
  refine .inl ?_
  have hwin : ∀ (rest : List Nat), a4i all ps0 dn rest wi = true → i ∉ ps0 → (∀ e ∈ rest, listed.getD e true = false) → i ∈ wi := fun rest hw hni hrest => by
   have h := List.all_eq_true.1 hw i (List.mem_range.2 hil)
   simp only [Bool.or_eq_true] at h
   rcases h with ((h | h) | h) | h
   ·exact (hni (List.contains_iff_mem.1 h)).elim
   ·obtain ⟨e, he, hr⟩ := List.any_eq_true.1 h
    have hle := hdn e he
    cases hq : all[e]? with
    | none => unfold eO at hr; rw [hq] at hr; cases hr
    | some p =>
     have := iU hclo 4 i e p hq (hclo e p hq hle) hr
     rw [hun] at this; cases this
   ·obtain ⟨e, he, hr⟩ := List.any_eq_true.1 h
    have := iU hclo 4 e i o ho haft' hr
    rw [hrest e he] at this; cases this
   ·exact List.contains_iff_mem.1 h
  by_cases hp : i ∈ ps0
  ·have hip := hall i hil hp hun
   have htop : i ∈ t.tops := by
    unfold okN at hokn
    rw [Bool.and_eq_true] at hokn
    have h1 := List.all_eq_true.1 hokn.2 i hip
    rcases Bool.or_eq_true_iff.1 h1 with h | h
    ·obtain ⟨q, hq, hr⟩ := List.any_eq_true.1 h
     rw [Bool.and_eq_true] at hr
     have h2 := iU hclo 4 q i o ho haft' hr.2
     rw [(hphs q hq).2.2] at h2; cases h2
    ·exact List.contains_iff_mem.1 h
   have hv' : mG E all t st K := by
    cases t with
    | n => simp [PT.tops] at htop
    | c => exact hv
   obtain ⟨l, w', sub, hw3, hw4, hw5, o2, ho2, hvo⟩ := yM htop hokt hv'
   rw [ho] at ho2; cases ho2
   obtain ⟨p, rfl⟩ : ∃ p, p = i := ⟨i, rfl⟩
   have hphs0 := hphs
   ·skip
    obtain ⟨φ, h', s, hsw, hk⟩ := a1k hvo
    obtain ⟨st1, k1, k2, k3, k4⟩ := qC hk
    refine kS hT hE (hsw _ evEq) hr fun g' V' st' w2 s2 y hr' hsy hk2 => ?_
    obtain ⟨rfl, rfl⟩ := hk2
    have hr2 := hr'.put o.dst hsy
    have hh1 : st1.h = h' := by rw [k2, uT]
    have hlen1 : st1.t.length = st.t.length := by rw [k3, sG]; simp [iB]
    have e : (St.put ⟨iB φ (dN (lat all ls) listed st.t), h'⟩ o.dst s2) = ⟨dN (lat all ls) (listed.setIfInBounds p true) st1.t, st1.h⟩ := by
     rw [hh1]
     have key : ∀ m, m < st.t.length → nth (St.put ⟨iB φ (dN (lat all ls) listed st.t), h'⟩ o.dst s2).t m = nth (dN (lat all ls) (listed.setIfInBounds p true) st1.t) m := fun m hm => by
      rw [eG]
      by_cases ed : o.dst = some m
      ·have hid : gY (lat all ls) (listed.setIfInBounds p true) m = false := by
        cases hh : gY (lat all ls) (listed.setIfInBounds p true) m with
        | false => rfl
        | true =>
         obtain ⟨j, q', hj', hd', hu⟩ := (dL _ _ m).1 hh
         obtain ⟨q, hj, hd2, _⟩ := lH hj' hd'
         by_cases e : j = p
         ·subst e; rw [aV] at hu; cases hu
         ·exact ((s6 j q m hj hd2).2 e ed).elim
       have hnl : ∀ q ∈ bY all l, q.dst ≠ some m := fun q hq hd => by
        obtain ⟨j, hj, hjq⟩ := gB.1 hq
        have h1 := List.all_eq_true.1 hw3 j hj
        simp only [Bool.and_eq_true] at h1
        by_cases e : j = p
        ·subst e
         have := h1.1
         simp [hp] at this
        ·exact (s6 j q m hjq hd).2 e ed
       rw [hid, k4 m hnl, ed]
       simp only [St.put, dQ, eZ, List.getD_eq_getElem?_getD, List.getElem?_set, Bool.false_eq_true, if_false, if_true]
       rw [if_pos (by simp [iB, bM]; exact hm), if_pos (by simp [iB]; exact hm)]
      ·have ep : ∀ (T : List SV) (H : List HB), nth (St.put ⟨T, H⟩ o.dst s2).t m = nth T m := fun T H => by
        cases hq : o.dst with
        | none => rfl
        | some d => exact yF (st := ⟨T, H⟩) fun e => ed (by rw [hq, e])
       rw [ep, wG, eG]
       have ehid : gY (lat all ls) (listed.setIfInBounds p true) m = gY (lat all ls) listed m := by
        rw [Bool.eq_iff_iff, dL, dL]
        constructor
        ·rintro ⟨j, q, hj, hd2, hu⟩
         refine ⟨j, q, hj, hd2, ?_⟩
         by_cases e2 : j = p
         ·subst e2; rw [aV] at hu; cases hu
         ·rwa [keep j e2] at hu
        ·rintro ⟨j, q, hj, hd2, hu⟩
         refine ⟨j, q, hj, hd2, ?_⟩
         by_cases e2 : j = p
         ·subst e2
          obtain ⟨q0, hq0, hd3, _⟩ := lH hj hd2
          rw [ho] at hq0; cases hq0; exact (ed hd3).elim
         ·rwa [keep j e2]
       rw [ehid]
       cases hh : gY (lat all ls) listed m with
       | true => simp [yL]
       | false =>
        simp only [Bool.false_eq_true, if_false]
        have hnl : ∀ q ∈ bY all l, q.dst ≠ some m := fun q hq hd => by
         obtain ⟨j, hj, hjq⟩ := gB.1 hq
         have h1 := List.all_eq_true.1 hw3 j hj
         simp only [Bool.and_eq_true] at h1
         have hju : listed.getD j true = false := by
          cases hx : listed.getD j true with
          | false => rfl
          | true =>
           have := iU hclo 4 p j q hjq (hclo j q hjq hx) h1.2
           rw [hun] at this; cases this
         have hjl : j ∉ ls := fun hm => by have := h1.1; simp [hls j hm] at this
         have := (dL (lat all ls) listed m).2 ⟨j, q, qA hjq hjl, hd, hju⟩
         rw [hh] at this; cases this
        rw [k4 m hnl, ep, wG]
     have eh : (St.put ⟨iB φ (dN (lat all ls) listed st.t), h'⟩ o.dst s2).h = h' := uT _ _ _
     have el : (St.put ⟨iB φ (dN (lat all ls) listed st.t), h'⟩ o.dst s2).t.length = st.t.length := by rw [sG]; simp [iB, bM]
     have et : (St.put ⟨iB φ (dN (lat all ls) listed st.t), h'⟩ o.dst s2).t = dN (lat all ls) (listed.setIfInBounds p true) st1.t := by
      apply List.ext_getElem?
      intro m
      rcases Nat.lt_or_ge m st.t.length with hm | hm
      ·rw [fI (by rw [el]; exact hm), fI (by rw [bM, hlen1]; exact hm), key m hm]
      ·rw [List.getElem?_eq_none (by rw [el]; exact hm), List.getElem?_eq_none (by rw [bM, hlen1]; exact hm)]
     generalize (St.put ⟨iB φ (dN (lat all ls) listed st.t), h'⟩ o.dst s2) = X at eh et
     cases X
     simp only at eh et
     rw [eh, et]
    rw [e] at hr2
    have memf : ∀ q, q ∈ rem.filter (· != p) → q ∈ rem ∧ q ≠ p := fun q hq => by
     obtain ⟨h1, h2⟩ := List.mem_filter.1 hq
     exact ⟨h1, by simpa using h2⟩
    refine ih _ (p :: dn) (rem.filter (· != p)) sub w' st1 g' V' _ _ (by simp [hsz]) hun' hclo' hw4 hw5 (fun e2 he => ?_) (fun q hq => ?_) (fun j hj hj0 hu => ?_) k1.1 k1.2 hr2
    ·rcases List.mem_cons.1 he with rfl | he
     ·rw [aV]
     ·exact up _ (hdn e2 he)
    ·obtain ⟨hq, hne⟩ := memf q hq
     obtain ⟨q1, q2, q3⟩ := hphs q hq
     exact ⟨q1, q2, by rw [keep _ hne]; exact q3⟩
    ·by_cases e2 : j = p
     ·subst e2; rw [aV] at hu; cases hu
     ·rw [keep j e2] at hu
      exact List.mem_filter.2 ⟨hall j hj hj0 hu, by simpa using e2⟩
  ·have hmem : i ∈ wi ∧ jE E st (bY all wi) := by
    unfold okN at hokn
    rw [Bool.and_eq_true] at hokn
    exact ⟨hwin rem hokn.1 hp fun e he => (hphs e he).2.2, hchk⟩
   obtain ⟨d, hd, hvc⟩ := vS hmem.2 (gB.2 ⟨i, hmem.1, ho⟩)
   have h1 := uS (st := ⟨dN (lat all ls) listed st.t, st.h⟩) (lQ (fun x hx => (evEq x hx).symm) hvc)
   refine kS hT hE h1 hr fun g' V' st' w' s y hr' hsy hk => ?_
   obtain ⟨rfl, rfl⟩ := hk
   have hr2 := hr'.put o.dst hsy
   have hil : i ∉ ls := fun hm => hp (hls i hm)
   rw [a2g (all := lat all ls) (fun j p d hj hd hne => by
    obtain ⟨p0, hj0, hd0, _⟩ := lH hj hd
    exact (s6 j p0 d hj0 hd0).2 hne) (qA ho hil) hd] at hr2
   refine ih _ dn rem t wi st g' V' _ _ (by simp [hsz]) hun' hclo' hokn hokt (fun e he => up e (hdn e he)) (fun q hq => ?_) (fun j hj hj0 hu => ?_) hchk hv hr2
   ·obtain ⟨q1, q2, q3⟩ := hphs q hq
    exact ⟨q1, q2, by rw [keep q (fun e => hp (e ▸ q2))]; exact q3⟩
   ·by_cases e2 : j = i
    ·subst e2; rw [aV] at hu; cases hu
    ·rw [keep j e2] at hu; exact hall j hj hj0 hu
end
section
variable {E : Env}
inductive PO where
 | nil : PO
 | cons : Nat → List Oper → List Oper → PO → PO → PO
def PO.isNil : PO → Bool
 | .nil => true
 | .cons .. => false
def jL (all : List Oper) : PT → PO
 | .n => .nil
 | .c p l w sub r => .cons p (bY all l) (bY all w) (jL all sub) (jL all r)
theorem mH {all : List Oper} (t : PT) : (jL all t).isNil = t.isNil := by cases t <;> rfl
def vcEJ (E : Env) (all : List Oper) : PO → St → (St → Prop) → Prop
 | .nil, _, _ => True
 | .cons p l w' sub r, st, K => (∃ o, all[p]? = some o ∧ qB E o st fun st' s => oI E all l (st'.put o.dst s) fun st'' => jE E st'' w' ∧ if sub.isNil = true then K st'' else vcEJ E all sub st'' K) ∧ vcEJ E all r st K
theorem uG {all : List Oper} {K : St → Prop} : ∀ (t : PT) (st : St), vcEJ E all (jL all t) st K = mG E all t st K
 | .n, _ => rfl
 | .c p l w' sub r, st => by
  have h1 : ∀ st, vcEJ E all (jL all sub) st K = mG E all sub st K := uG sub
  have h2 : vcEJ E all (jL all r) st K = mG E all r st K := uG r st
  simp only [jL, vcEJ, mG, h1, h2, mH]
def uH (G : St) (s : St) : Prop := ∃ (l : List (Nat × Nat)) (s' : St), swL s l = some s' ∧ s'.le G
theorem wH : ∀ l : List SV, leT l l
 | [] => trivial
 | _ :: l => ⟨.inr rfl, wH l⟩
theorem St.le_refl (s : St) : s.le s := ⟨wH _, pM _⟩
theorem nT {s : St} : uH s s := ⟨[], s, rfl, s.le_refl⟩
theorem a2h {G s s' : St} (l : List (Nat × Nat)) (h : swL s l = some s') (e : s' = G) : uH G s := ⟨l, s', h, e ▸ s'.le_refl⟩
theorem a3i (hT : TyOK E.P E.T) (hE : ∀ t, E.eqk t ≠ [] → EqT E.P t (E.eqk t)) (hm : E.P.follows .mixedOrders = true) {id : Nat} {ops : List Oper} {F : Ex → St → Prop} {st G : St} (ps ls l0 w0 : List Nat) (t : PT)
    (hok : okE ops ps ls = true) (hl0 : (l0.all fun i => !ps.contains i) = true) (hn : okN ops ps [] ps w0 t = true) (ht : qK ops ps t [] ps = true) (hlt : (ps.all fun q => decide (q < ops.length)) = true) (hb : st.okB = true)
    (h : oI E ops (bY ops l0) st fun st1 => jE E st1 (bY ops w0) ∧ if t.isNil = true then uH G st1 else mG E ops t st1 (uH G)) (hG : G.okB = true) (hF : F .normal G) : WP E.P E.C (.region id ops.toArray true) F st := fun g V a w hr => by
 refine wp_region_any hm ?_
 obtain ⟨st1, k1, k2, k3, k4⟩ := qC h
 have hf : ∀ j : Nat, j < ops.length → (Array.replicate ops.toArray.size false).getD j true = false := fun j hj => by simp [hj]
 have hle : st.le ⟨dN (lat ops ls) (Array.replicate ops.toArray.size false) st1.t, st1.h⟩ := by
  refine ⟨a0P (by rw [bM, k3]) fun d _ => ?_, by show leH st.h st1.h; rw [k2]; exact pM _⟩
  rw [eG]
  cases hh : gY (lat ops ls) (Array.replicate ops.toArray.size false) d with
  | true => exact .inl rfl
  | false =>
   right
   simp only [Bool.false_eq_true, if_false]
   refine (k4 d fun o ho hd => ?_).symm
   obtain ⟨j, hjl, hj⟩ := gB.1 ho
   have hnl : j ∉ ls := fun hm => by
    unfold okE at hok
    rw [Bool.and_eq_true] at hok
    have h1 := List.all_eq_true.1 hok.1 j hm
    have h2 := List.all_eq_true.1 hl0 j hjl
    rw [h1] at h2; cases h2
   have := (dL (lat ops ls) (Array.replicate ops.toArray.size false) d).2 ⟨j, o, qA hj hnl, hd, hf j (List.getElem?_eq_some_iff.1 hj).1⟩
   rw [hh] at this; cases this
 have hbt : ((dN (lat ops ls) (Array.replicate ops.toArray.size false) st1.t).all (·.below st1.h.length) && st1.h.all (·.below st1.h.length)) = true := by
  unfold St.okB at hb
  rw [Bool.and_eq_true] at hb ⊢
  rw [k2]
  refine ⟨List.all_eq_true.2 fun s hs => ?_, hb.2⟩
  obtain ⟨d, hd⟩ := List.mem_iff_getElem?.1 hs
  rcases (hle.1.get).2 d s hd with e | e
  ·subst e; rfl
  ·exact List.all_eq_true.1 hb.1 s (List.mem_of_getElem? e)
 have := a3h hT hE hok (Q := fun e a w => Post E.C F e a w) (K := uH G) (fun g V st _ _ hr h => by
     obtain ⟨l, s', hs, hle⟩ := h
     obtain ⟨g', h1⟩ := hr.swL l hs
     exact ⟨_, V, G, h1.forget hle hG, hF⟩) ops.toArray.size (Array.replicate ops.toArray.size false) [] ps t w0 st1 _ V a { w with drawn := w.drawn + 1 } (by simp)
  (by unfold xF; exact Nat.le_trans (List.length_filter_le _ _) (by simp)) (fun b o ho hl => by rw [hf b (List.getElem?_eq_some_iff.1 ho).1] at hl; cases hl) hn ht (fun e he => by simp at he)
  (fun q hq => by
   have hlq := of_decide_eq_true (List.all_eq_true.1 hlt q hq)
   exact ⟨hlq, hq, hf _ hlq⟩) (fun i _ hi _ => hi) k1.1 k1.2 ((hr.drawn).forget hle hbt)
 exact this
structure vcTT (E : Env) (all : List Oper) (t : PO) (st : St) (K : St → Prop) (u : Tie (all, t, K)) : Prop where
 out : vcEJ E all t st K
structure vcTN (E : Env) (all w : List Oper) (t : PO) (st : St) (K : St → Prop) (u : Tie (all, w, t, K)) : Prop where
 out : jE E st w ∧ if t.isNil = true then K st else vcEJ E all t st K
def a1l (E : Env) (all : List Oper) (p : Nat) (l : List Oper) (st : St) (k : St → Prop) (_ : Tie (l, k)) : Prop := match rU all p with
 | some o => qB E o st fun st' s => vcDRun E all l (st'.put o.dst s) k ⟨⟩
 | none => False
theorem uI {all : List Oper} {st : St} {K : St → Prop} : vcTT E all .nil st K ⟨⟩ := ⟨trivial⟩
theorem nU {all l w' : List Oper} {p : Nat} {sub r : PO} {st : St} {K : St → Prop} (h : a1l E all p l st (fun st'' => vcTN E all w' sub st'' K ⟨⟩) ⟨⟩) (hr : vcTT E all r st K ⟨⟩) : vcTT E all (.cons p l w' sub r) st K ⟨⟩ := ⟨by
 refine ⟨?_, hr.out⟩
 have e2 : (fun st'' => vcTN E all w' sub st'' K ⟨⟩) = (fun st'' => jE E st'' w' ∧ if sub.isNil = true then K st'' else vcEJ E all sub st'' K) := funext fun s => propext ⟨fun h => h.out, fun h => ⟨h⟩⟩
 rw [e2] at h
 unfold a1l at h
 rw [nH] at h
 split at h
 ·rename_i o ho
  refine ⟨o, ho, ?_⟩
  have e4 : (fun (st' : St) (s : SV) => vcDRun E all l (st'.put o.dst s) (fun st'' => jE E st'' w' ∧ if sub.isNil = true then K st'' else vcEJ E all sub st'' K) ⟨⟩) = (fun st' s => oI E all l (st'.put o.dst s) (fun st'' => jE E st'' w' ∧ if sub.isNil = true then K st'' else vcEJ E all sub st'' K)) := funext fun st' => funext fun s => propext ⟨fun h => h.out, fun h => ⟨h⟩⟩
  rw [e4] at h
  exact h
 ·exact h.elim⟩
theorem nV {all w : List Oper} {st : St} {K : St → Prop} (hc : jE E st w) (h : K st) : vcTN E all w .nil st K ⟨⟩ := ⟨hc, h⟩
theorem nW {all w l w' : List Oper} {p : Nat} {sub r : PO} {st : St} {K : St → Prop} (hc : jE E st w) (h : vcTT E all (.cons p l w' sub r) st K ⟨⟩) : vcTN E all w (.cons p l w' sub r) st K ⟨⟩ := ⟨hc, h.out⟩
end
attribute [go_sem] bY jL a1l qB a2f
end Go.Sx
end
section
namespace Go.Proofs.Yteaaopodnbjpoaa
open Go Go.Sx Go.RowKit Go.Proofs
def Ok2 (s : St) : Prop := s.okB = true
theorem oH {s : St} (h : s.okB = true := by simp only [go_sem] <;> fail) : Ok2 s := h
theorem rE {C : Ctx} {id : Nat} {ops L W : List Oper} {T : PO} {F : Ex → St → Prop} {st G : St} (ps ls l0 w0 : List Nat) (t : PT) (hl : bY ops l0 = L) (hw : bY ops w0 = W) (hp : jL ops t = T)
    (hok : (okE ops ps ls && (l0.all fun i => !ps.contains i) && okN ops ps [] ps w0 t && qK ops ps t [] ps && ps.all fun q => decide (q < ops.length)) = true) (hb : st.okB = true) (h : vcDRun (EV C) ops L st (fun st1 => vcTN (EV C) ops W T st1 (uH G) ⟨⟩) ⟨⟩) (hG : Ok2 G) (hF : F .normal G) : WP Try.prog C (.region id ops.toArray true) F st := by
 subst hl hw hp
 simp only [Bool.and_eq_true] at hok
 refine a3i (E := EV C) zH a2J fol ps ls l0 w0 t hok.1.1.1.1 hok.1.1.1.2 hok.1.1.2 hok.1.2 hok.2 hb ?_ hG hF
 have e : (fun st1 => vcTN (EV C) ops (bY ops w0) (jL ops t) st1 (uH G) ⟨⟩) = (fun st1 => jE (EV C) st1 (bY ops w0) ∧ if t.isNil = true then uH G st1 else mG (EV C) ops t st1 (uH G)) := funext fun s => propext (by
  constructor
  ·intro h; have := h.out; rwa [uG, mH] at this
  ·intro h; exact ⟨by rwa [uG, mH]⟩)
 rw [e] at h
 exact h.out
end Go.Proofs.Yteaaopodnbjpoaa
end
section
namespace Go.Proofs.Yteaaopodnbjpoaa
open Go Go.Sx Go.RowKit Go.Proofs
def bU {α : Type} (p : α → Bool) : List α → Nat
 | [] => 0
 | x :: l => if p x then 0 else bU p l + 1
theorem qD {α : Type} (p : α → Bool) : ∀ l : List α, bU p l ≤ l.length
 | [] => by simp [bU]
 | x :: l => by
  have := qD p l
  unfold bU
  split <;> simp <;> omega
theorem xQ {α : Type} (p : α → Bool) (l : List α) (k : Nat) (h : k < l.length) : bU p (l.drop k) = if p l[k] then 0 else bU p (l.drop (k + 1)) + 1 := by
 rw [List.drop_eq_getElem_cons h, bU]
def gW {α : Type} (i : Nat) (x : α) (l : List α) : List α := l.take i ++ x :: l.drop i
theorem a0f {α : Type} (i : Nat) (x : α) (l : List α) (h : i ≤ l.length) : (gW i x l).length = l.length + 1 := by simp [gW]; omega
end Go.Proofs.Yteaaopodnbjpoaa
end
section
set_option maxRecDepth 100000
set_option maxHeartbeats 4000000
namespace Go.Proofs.Yteaaopodnbjpoaa
open Go Go.Sx Go.RowKit Go.Proofs
end Go.Proofs.Yteaaopodnbjpoaa
end
section
set_option maxRecDepth 100000
set_option maxHeartbeats 4000000
namespace Go.Proofs.Yteaaopodnbjpoaa
open Go Go.Sx Go.RowKit Go.Proofs
end Go.Proofs.Yteaaopodnbjpoaa
end
