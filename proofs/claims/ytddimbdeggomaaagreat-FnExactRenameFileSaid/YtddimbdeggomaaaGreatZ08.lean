/- Joined texts. -/
import Derived.Test.YtddimbdeggomaaaGreatZ07
import Derived.Test.YtddimbdeggomaaaGreatZ06
set_option linter.all false
section
section
set_option linter.all false
set_option maxRecDepth 100000
set_option maxHeartbeats 4000000
namespace Go.Proofs.YtddimbdeggomaaaGreat
open Go Go.Sx Go.RowKit Go.Proofs
def xf (k : Nat) (out : ByteArray) : ByteArray :=
 if h : k = 0 then out else xf (k / 10) (lR [(48 : Int) + ((k % 10 : Nat) : Int)] ++ out)
decreasing_by omega
def g4 (k : Int) : ByteArray := ⟨#[109]⟩ ++ xf k.toNat ⟨#[]⟩
theorem bK (k : Int) (hk : 1 ≤ k ∧ k ≤ 4611686018427387904) : FnC Tryz.prog 95 [oi k] (os (g4 k)) := by
 obtain ⟨n, rfl⟩ : ∃ n : Nat, k = n := ⟨k.toNat, by omega⟩
 have h0 : ¬ ((n : Int) ≤ 0) := by omega
 have hm : g4 (n : Int) = ⟨#[109]⟩ ++ xf n ⟨#[]⟩ := by simp [g4]
 rw [hm]
 generalize hq : xf n ⟨#[]⟩ = res
 refine ent Tryz.func95 rfl Tryz.call95 rfl (fun C => ?_); simp only [go_sem, st0, Tryz.ntmps95]
 have q0 := @h0; have q1 := @decide_false; refine fg ?_
 refine ak (α := Nat × ByteArray) (fun p => [(0, oi p.1), (3, os p.2)]) (fun _ => []) (fun p => xf p.1 p.2 = res ∧ p.2.size + p.1 ≤ n) (fun p => p.1) (n, ⟨#[]⟩) (fun _ => ?_) ?_ ?_ (fun p hp => ?_)
 ·simp only [go_sem]
 ·simp only [go_sem]; simp
 ·exact ⟨hq, by show 0 + n ≤ n; omega⟩
 ·obtain ⟨j, out⟩ := p
  obtain ⟨hp, hs⟩ := hp
  simp only at hp hs
  simp only [go_sem]
  refine af ?_
  refine cnd rfl (fun h => ?_) (fun h => ?_)
  ·simp only [decide_eq_true_eq] at h
   have hj : j ≠ 0 := by omega
   rw [xf, dif_neg hj] at hp
   have e1 : (j : Int).tmod 10 = ((j % 10 : Nat) : Int) := by rw [Int.tmod_eq_emod_of_nonneg (by omega)]; omega
   have e2 : (j : Int).tdiv 10 = ((j / 10 : Nat) : Int) := by rw [Int.tdiv_eq_ediv_of_nonneg (by omega)]; omega
   have q0 := @e1; have q1 := @e2; refine fg ?_
   refine ae (j / 10, lR [(48 : Int) + ((j % 10 : Nat) : Int)] ++ out) ?_ ?_ ?_
   ·simp only [go_sem, e1, e2]; simp [lR]
   ·refine ⟨hp, ?_⟩
    simp only [ByteArray.size_append, lR, List.map_cons, List.map_nil, Dy, List.length_cons, List.length_nil]
    omega
   ·simp only; omega
  ·simp only [decide_eq_false_iff_not] at h
   have hj : j = 0 := by omega
   subst hj
   rw [xf, dif_pos rfl] at hp
   subst hp
   refine af ?_
   exact aa ⟨⟨_, rfl, by simp only [go_sem]⟩, trivial⟩
def cnInt (x : Int) : Nat := 1
theorem sm : ∀ x, 1 ≤ cnInt x := fun x => by unfold cnInt; omega
def jX (x : Int) (k : Int) : Int := k
theorem vj (l : List Int) (k : Int) (hk : 1 ≤ k ∧ k + (csum cnInt l : Nat) ≤ 4611686018427387904) : FnM Tryz.prog 97 false [.w 0 1 (l.map bY)] [.w 0 1 ((mkL jX cnInt l k).map bY)] k (k + (csum cnInt l : Nat)) := by
 have hlen := cB cnInt sm l
 refine entm Tryz.func97 rfl Tryz.call97 rfl (by simp) (by simp only [go_sem]) (fun C tg => ?_); simp only [go_sem, Tryz.ntmps97]
 refine af ?_
 refine ak (α := Nat) (fun j => [(5, oi j), (1, oi (k + (csum cnInt (l.take j) : Nat)))]) (fun j => [(0, .own (tg 0) 1 (jv bY jX cnInt l k j))]) (fun j => j ≤ l.length) (fun j => l.length - j) 0 (fun _ => ?_) ?_ ?_ (fun j hj => ?_)
 ·simp only [go_sem]
 ·simp only [go_sem]; simp [fC, csum]
 ·simp
 ·simp only [go_sem]
  refine af ?_
  refine cnd rfl (fun h => ?_) (fun h => ?_)
  ·simp only [decide_eq_true_eq, Int.ofNat_lt] at h
   have hs := cf cnInt l h
   have ht := dD cnInt l (j + 1)
   have hc : cnInt l[j] = 1 := rfl
   have hset := gE bY jX cnInt l k j h
   have hkk : k + (csum cnInt (l.take (j + 1)) : Nat) = k + (csum cnInt (l.take j) : Nat) + (cnInt l[j] : Nat) := by omega
   generalize k + (csum cnInt (l.take j) : Nat) = K at hset hkk ⊢
   have hK : 1 ≤ K ∧ K + (cnInt l[j] : Nat) ≤ 4611686018427387904 := by omega
   have q0 := @h; refine cw ?_
   refine ae (j + 1) ?_ ?_ ?_
   ·simp only [go_sem, hkk, ← hset]
    simp [jX, bY, hc]
    try omega
   ·omega
   ·omega
  ·simp only [decide_eq_false_iff_not] at h
   have e : j = l.length := by omega
   subst e
   refine af ?_
   exact ⟨⟨⟨_, rfl, by simp only [go_sem, cR, List.take_length]⟩, trivial⟩, by simp only [go_sem, cR, List.take_length]⟩
theorem vk (l : List Int) (k : Int) (hk : 1 ≤ k ∧ k + (csum cnInt l : Nat) ≤ 4611686018427387904) : FnC Tryz.prog 98 [.o (.d (.sl ((mkL jX cnInt l k).map bY))), oi k] (oi (k + (csum cnInt l : Nat))) := by
 have hlen := cB cnInt sm l
 refine ent Tryz.func98 rfl Tryz.call98 rfl (fun C => ?_); simp only [go_sem, st0, Tryz.ntmps98]
 refine af ?_
 refine ak (α := Nat) (fun j => [(5, oi j), (1, oi (k + (csum cnInt (l.take j) : Nat)))]) (fun _ => []) (fun j => j ≤ l.length) (fun j => l.length - j) 0 (fun _ => ?_) ?_ ?_ (fun j hj => ?_)
 ·simp only [go_sem]
 ·simp only [go_sem]; simp [csum]
 ·simp
 ·simp only [go_sem]
  refine af ?_
  refine cnd rfl (fun h => ?_) (fun h => ?_)
  ·simp only [decide_eq_true_eq, Int.ofNat_lt] at h
   have hs := cf cnInt l h
   have ht := dD cnInt l (j + 1)
   have hc : cnInt l[j] = 1 := rfl
   have hkk : k + (csum cnInt (l.take (j + 1)) : Nat) = k + (csum cnInt (l.take j) : Nat) + (cnInt l[j] : Nat) := by omega
   have hg := fO jX cnInt l k j (by rw [bU]; exact h)
   generalize k + (csum cnInt (l.take j) : Nat) = K at hg hkk ⊢
   have hK : 1 ≤ K ∧ K + (cnInt l[j] : Nat) ≤ 4611686018427387904 := by omega
   repeat' (with_reducible first | refine nY ?_ | (refine mX ?_; try simp only [go_sem, h, hg, jX]) | refine kO ?_ (by decide) | refine rc (by kernel_rfl) ?_ | (refine And.intro ?_ ?_; focus omega))
   refine ae (j + 1) ?_ ?_ ?_
   ·simp only [go_sem, hkk]
    simp [hc]
    try omega
   ·omega
   ·omega
  ·simp only [decide_eq_false_iff_not] at h
   have e : j = l.length := by omega
   subst e
   refine af ?_
   exact aa ⟨⟨_, rfl, by simp only [go_sem, List.take_length]⟩, trivial⟩
def F5 (x : ByteArray) : Nat := 1
def F6 (x : ByteArray) (k : Int) : ByteArray := (g4 k)
def FT (x : Bool) (k : Int) : Bool := (decide (Int.tmod k 3 = 0))
end Go.Proofs.YtddimbdeggomaaaGreat
end
section
set_option linter.all false
set_option maxRecDepth 100000
set_option maxHeartbeats 4000000
namespace Go.Proofs.YtddimbdeggomaaaGreat
open Go Go.Sx Go.RowKit Go.Proofs
def cnField (x : TField) : Nat := 2
theorem nV : ∀ x, 1 ≤ cnField x := fun x => by unfold cnField; omega
def fk (x : TField) (k : Int) : TField := ⟨(g4 k), (k + 1)⟩
theorem ro (l : List TField) (k : Int) (hk : 1 ≤ k ∧ k + (csum cnField l : Nat) ≤ 4611686018427387904) : FnM Tryz.prog 93 false [.w 0 2 (l.map aF)] [.w 0 2 ((mkL fk cnField l k).map aF)] k (k + (csum cnField l : Nat)) := by
 have hlen := cB cnField nV l
 refine entm Tryz.func93 rfl Tryz.call93 rfl (by simp) (by simp only [go_sem]) (fun C tg => ?_); simp only [go_sem, Tryz.ntmps93]
 refine af ?_
 refine ak (α := Nat) (fun j => [(5, oi j), (1, oi (k + (csum cnField (l.take j) : Nat)))]) (fun j => [(0, .own (tg 0) 2 (jv aF fk cnField l k j))]) (fun j => j ≤ l.length) (fun j => l.length - j) 0 (fun _ => ?_) ?_ ?_ (fun j hj => ?_)
 ·simp only [go_sem]
 ·simp only [go_sem]; simp [fC, csum]
 ·simp
 ·simp only [go_sem]
  refine af ?_
  refine cnd rfl (fun h => ?_) (fun h => ?_)
  ·simp only [decide_eq_true_eq, Int.ofNat_lt] at h
   have hs := cf cnField l h
   have ht := dD cnField l (j + 1)
   have hc : cnField l[j] = 2 := rfl
   have hset := gE aF fk cnField l k j h
   have hkk : k + (csum cnField (l.take (j + 1)) : Nat) = k + (csum cnField (l.take j) : Nat) + (cnField l[j] : Nat) := by omega
   generalize k + (csum cnField (l.take j) : Nat) = K at hset hkk ⊢
   have hK : 1 ≤ K ∧ K + (cnField l[j] : Nat) ≤ 4611686018427387904 := by omega
   have q0 := @h; refine cg (bK K (by omega)) ?_
   refine ae (j + 1) ?_ ?_ ?_
   ·simp only [go_sem, hkk, ← hset]
    simp [fk, aF, hc]
    try omega
   ·omega
   ·omega
  ·simp only [decide_eq_false_iff_not] at h
   have e : j = l.length := by omega
   subst e
   refine af ?_
   exact ⟨⟨⟨_, rfl, by simp only [go_sem, cR, List.take_length]⟩, trivial⟩, by simp only [go_sem, cR, List.take_length]⟩
theorem rp (l : List TField) (k : Int) (hk : 1 ≤ k ∧ k + (csum cnField l : Nat) ≤ 4611686018427387904) : FnC Tryz.prog 176 [.o (.d (.sl ((mkL fk cnField l k).map aF))), oi k] (oi (k + (csum cnField l : Nat))) := by
 have hlen := cB cnField nV l
 refine ent Tryz.func176 rfl Tryz.call176 rfl (fun C => ?_); simp only [go_sem, st0, Tryz.ntmps176]
 refine af ?_
 refine ak (α := Nat) (fun j => [(5, oi j), (1, oi (k + (csum cnField (l.take j) : Nat)))]) (fun _ => []) (fun j => j ≤ l.length) (fun j => l.length - j) 0 (fun _ => ?_) ?_ ?_ (fun j hj => ?_)
 ·simp only [go_sem]
 ·simp only [go_sem]; simp [csum]
 ·simp
 ·simp only [go_sem]
  refine af ?_
  refine cnd rfl (fun h => ?_) (fun h => ?_)
  ·simp only [decide_eq_true_eq, Int.ofNat_lt] at h
   have hs := cf cnField l h
   have ht := dD cnField l (j + 1)
   have hc : cnField l[j] = 2 := rfl
   have hkk : k + (csum cnField (l.take (j + 1)) : Nat) = k + (csum cnField (l.take j) : Nat) + (cnField l[j] : Nat) := by omega
   have hg := fO fk cnField l k j (by rw [bU]; exact h)
   generalize k + (csum cnField (l.take j) : Nat) = K at hg hkk ⊢
   have hK : 1 ≤ K ∧ K + (cnField l[j] : Nat) ≤ 4611686018427387904 := by omega
   repeat' (with_reducible first | refine nY ?_ | (refine mX ?_; try simp only [go_sem, h, hg, fk]) | refine kO ?_ (by decide) | refine rc (by kernel_rfl) ?_ | (refine cC (bK K (by omega)) ?_ ?_; focus simp only [go_sem, and_self]; done) | (refine And.intro ?_ ?_; focus omega))
   refine ae (j + 1) ?_ ?_ ?_
   ·simp only [go_sem, hkk]
    simp [hc]
    try omega
   ·omega
   ·omega
  ·simp only [decide_eq_false_iff_not] at h
   have e : j = l.length := by omega
   subst e
   refine af ?_
   exact aa ⟨⟨_, rfl, by simp only [go_sem, List.take_length]⟩, trivial⟩
def cnAttr (x : TAttr) : Nat := 4
theorem pY : ∀ x, 1 ≤ cnAttr x := fun x => by unfold cnAttr; omega
def i7 (x : TAttr) (k : Int) : TAttr := ⟨(g4 k), ⟨(k + 1), ((k + 1) + 1), (g4 (((k + 1) + 1) + 1))⟩⟩
theorem tx (l : List TAttr) (k : Int) (hk : 1 ≤ k ∧ k + (csum cnAttr l : Nat) ≤ 4611686018427387904) : FnM Tryz.prog 66 false [.w 0 4 (l.map aK)] [.w 0 4 ((mkL i7 cnAttr l k).map aK)] k (k + (csum cnAttr l : Nat)) := by
 have hlen := cB cnAttr pY l
 refine entm Tryz.func66 rfl Tryz.call66 rfl (by simp) (by simp only [go_sem]) (fun C tg => ?_); simp only [go_sem, Tryz.ntmps66]
 refine af ?_
 refine ak (α := Nat) (fun j => [(5, oi j), (1, oi (k + (csum cnAttr (l.take j) : Nat)))]) (fun j => [(0, .own (tg 0) 4 (jv aK i7 cnAttr l k j))]) (fun j => j ≤ l.length) (fun j => l.length - j) 0 (fun _ => ?_) ?_ ?_ (fun j hj => ?_)
 ·simp only [go_sem]
 ·simp only [go_sem]; simp [fC, csum]
 ·simp
 ·simp only [go_sem]
  refine af ?_
  refine cnd rfl (fun h => ?_) (fun h => ?_)
  ·simp only [decide_eq_true_eq, Int.ofNat_lt] at h
   have hs := cf cnAttr l h
   have ht := dD cnAttr l (j + 1)
   have hc : cnAttr l[j] = 4 := rfl
   have hset := gE aK i7 cnAttr l k j h
   have hkk : k + (csum cnAttr (l.take (j + 1)) : Nat) = k + (csum cnAttr (l.take j) : Nat) + (cnAttr l[j] : Nat) := by omega
   generalize k + (csum cnAttr (l.take j) : Nat) = K at hset hkk ⊢
   have hK : 1 ≤ K ∧ K + (cnAttr l[j] : Nat) ≤ 4611686018427387904 := by omega
   have q0 := @h; refine uZ (bK K (by omega)) (bK (((K + 1) + 1) + 1) (by omega)) ?_
   refine ae (j + 1) ?_ ?_ ?_
   ·simp only [go_sem, hkk, ← hset]
    simp [i7, aK, hc]
    try omega
   ·omega
   ·omega
  ·simp only [decide_eq_false_iff_not] at h
   have e : j = l.length := by omega
   subst e
   refine af ?_
   exact ⟨⟨⟨_, rfl, by simp only [go_sem, cR, List.take_length]⟩, trivial⟩, by simp only [go_sem, cR, List.take_length]⟩
theorem tz (l : List TAttr) (k : Int) (hk : 1 ≤ k ∧ k + (csum cnAttr l : Nat) ≤ 4611686018427387904) : FnC Tryz.prog 67 [.o (.d (.sl ((mkL i7 cnAttr l k).map aK))), oi k] (oi (k + (csum cnAttr l : Nat))) := by
 have hlen := cB cnAttr pY l
 refine ent Tryz.func67 rfl Tryz.call67 rfl (fun C => ?_); simp only [go_sem, st0, Tryz.ntmps67]
 refine af ?_
 refine ak (α := Nat) (fun j => [(5, oi j), (1, oi (k + (csum cnAttr (l.take j) : Nat)))]) (fun _ => []) (fun j => j ≤ l.length) (fun j => l.length - j) 0 (fun _ => ?_) ?_ ?_ (fun j hj => ?_)
 ·simp only [go_sem]
 ·simp only [go_sem]; simp [csum]
 ·simp
 ·simp only [go_sem]
  refine af ?_
  refine cnd rfl (fun h => ?_) (fun h => ?_)
  ·simp only [decide_eq_true_eq, Int.ofNat_lt] at h
   have hs := cf cnAttr l h
   have ht := dD cnAttr l (j + 1)
   have hc : cnAttr l[j] = 4 := rfl
   have hkk : k + (csum cnAttr (l.take (j + 1)) : Nat) = k + (csum cnAttr (l.take j) : Nat) + (cnAttr l[j] : Nat) := by omega
   have hg := fO i7 cnAttr l k j (by rw [bU]; exact h)
   generalize k + (csum cnAttr (l.take j) : Nat) = K at hg hkk ⊢
   have hK : 1 ≤ K ∧ K + (cnAttr l[j] : Nat) ≤ 4611686018427387904 := by omega
   repeat' (with_reducible first | refine nY ?_ | (refine mX ?_; try simp only [go_sem, h, hg, i7]) | refine kO ?_ (by decide) | refine rc (by kernel_rfl) ?_ | (refine cC (bK K (by omega)) ?_ ?_; focus simp only [go_sem, and_self]; done) | (refine cC (bK (((K + 1) + 1) + 1) (by omega)) ?_ ?_; focus simp only [go_sem, and_self]; done) | (refine And.intro ?_ ?_; focus omega))
   refine ae (j + 1) ?_ ?_ ?_
   ·simp only [go_sem, hkk]
    simp [hc]
    try omega
   ·omega
   ·omega
  ·simp only [decide_eq_false_iff_not] at h
   have e : j = l.length := by omega
   subst e
   refine af ?_
   exact aa ⟨⟨_, rfl, by simp only [go_sem, List.take_length]⟩, trivial⟩
def cnNode (x : TNode) : Nat := 7
theorem pZ : ∀ x, 1 ≤ cnNode x := fun x => by unfold cnNode; omega
def i8 (x : TNode) (k : Int) : TNode := ⟨k, (k + 1), ((k + 1) + 1), (g4 (((k + 1) + 1) + 1)), ⟨((((k + 1) + 1) + 1) + 1), (((((k + 1) + 1) + 1) + 1) + 1), (g4 ((((((k + 1) + 1) + 1) + 1) + 1) + 1))⟩⟩
theorem tA (l : List TNode) (k : Int) (hk : 1 ≤ k ∧ k + (csum cnNode l : Nat) ≤ 4611686018427387904) : FnM Tryz.prog 96 false [.w 0 7 (l.map aw)] [.w 0 7 ((mkL i8 cnNode l k).map aw)] k (k + (csum cnNode l : Nat)) := by
 have hlen := cB cnNode pZ l
 refine entm Tryz.func96 rfl Tryz.call96 rfl (by simp) (by simp only [go_sem]) (fun C tg => ?_); simp only [go_sem, Tryz.ntmps96]
 refine af ?_
 refine ak (α := Nat) (fun j => [(5, oi j), (1, oi (k + (csum cnNode (l.take j) : Nat)))]) (fun j => [(0, .own (tg 0) 7 (jv aw i8 cnNode l k j))]) (fun j => j ≤ l.length) (fun j => l.length - j) 0 (fun _ => ?_) ?_ ?_ (fun j hj => ?_)
 ·simp only [go_sem]
 ·simp only [go_sem]; simp [fC, csum]
 ·simp
 ·simp only [go_sem]
  refine af ?_
  refine cnd rfl (fun h => ?_) (fun h => ?_)
  ·simp only [decide_eq_true_eq, Int.ofNat_lt] at h
   have hs := cf cnNode l h
   have ht := dD cnNode l (j + 1)
   have hc : cnNode l[j] = 7 := rfl
   have hset := gE aw i8 cnNode l k j h
   have hkk : k + (csum cnNode (l.take (j + 1)) : Nat) = k + (csum cnNode (l.take j) : Nat) + (cnNode l[j] : Nat) := by omega
   generalize k + (csum cnNode (l.take j) : Nat) = K at hset hkk ⊢
   have hK : 1 ≤ K ∧ K + (cnNode l[j] : Nat) ≤ 4611686018427387904 := by omega
   have q0 := @h; refine uZ (bK (((K + 1) + 1) + 1) (by omega)) (bK ((((((K + 1) + 1) + 1) + 1) + 1) + 1) (by omega)) ?_
   refine ae (j + 1) ?_ ?_ ?_
   ·simp only [go_sem, hkk, ← hset]
    simp [i8, aw, hc]
    try omega
   ·omega
   ·omega
  ·simp only [decide_eq_false_iff_not] at h
   have e : j = l.length := by omega
   subst e
   refine af ?_
   exact ⟨⟨⟨_, rfl, by simp only [go_sem, cR, List.take_length]⟩, trivial⟩, by simp only [go_sem, cR, List.take_length]⟩
theorem tB (l : List TNode) (k : Int) (hk : 1 ≤ k ∧ k + (csum cnNode l : Nat) ≤ 4611686018427387904) : FnC Tryz.prog 178 [.o (.d (.sl ((mkL i8 cnNode l k).map aw))), oi k] (oi (k + (csum cnNode l : Nat))) := by
 have hlen := cB cnNode pZ l
 refine ent Tryz.func178 rfl Tryz.call178 rfl (fun C => ?_); simp only [go_sem, st0, Tryz.ntmps178]
 refine af ?_
 refine ak (α := Nat) (fun j => [(5, oi j), (1, oi (k + (csum cnNode (l.take j) : Nat)))]) (fun _ => []) (fun j => j ≤ l.length) (fun j => l.length - j) 0 (fun _ => ?_) ?_ ?_ (fun j hj => ?_)
 ·simp only [go_sem]
 ·simp only [go_sem]; simp [csum]
 ·simp
 ·simp only [go_sem]
  refine af ?_
  refine cnd rfl (fun h => ?_) (fun h => ?_)
  ·simp only [decide_eq_true_eq, Int.ofNat_lt] at h
   have hs := cf cnNode l h
   have ht := dD cnNode l (j + 1)
   have hc : cnNode l[j] = 7 := rfl
   have hkk : k + (csum cnNode (l.take (j + 1)) : Nat) = k + (csum cnNode (l.take j) : Nat) + (cnNode l[j] : Nat) := by omega
   have hg := fO i8 cnNode l k j (by rw [bU]; exact h)
   generalize k + (csum cnNode (l.take j) : Nat) = K at hg hkk ⊢
   have hK : 1 ≤ K ∧ K + (cnNode l[j] : Nat) ≤ 4611686018427387904 := by omega
   repeat' (with_reducible first | refine nY ?_ | (refine mX ?_; try simp only [go_sem, h, hg, i8]) | refine kO ?_ (by decide) | refine rc (by kernel_rfl) ?_ | (refine cC (bK (((K + 1) + 1) + 1) (by omega)) ?_ ?_; focus simp only [go_sem, and_self]; done) | (refine cC (bK ((((((K + 1) + 1) + 1) + 1) + 1) + 1) (by omega)) ?_ ?_; focus simp only [go_sem, and_self]; done) | (refine And.intro ?_ ?_; focus omega))
   refine ae (j + 1) ?_ ?_ ?_
   ·simp only [go_sem, hkk]
    simp [hc]
    try omega
   ·omega
   ·omega
  ·simp only [decide_eq_false_iff_not] at h
   have e : j = l.length := by omega
   subst e
   refine af ?_
   exact aa ⟨⟨_, rfl, by simp only [go_sem, List.take_length]⟩, trivial⟩
end Go.Proofs.YtddimbdeggomaaaGreat
end
section
set_option linter.all false
set_option maxRecDepth 100000
set_option maxHeartbeats 4000000
namespace Go.Proofs.YtddimbdeggomaaaGreat
open Go Go.Sx Go.RowKit Go.Proofs
def cnFile (x : TFile) : Nat := 4 + csum cnAttr x.fAttrs
theorem p8 : ∀ x, 1 ≤ cnFile x := fun x => by unfold cnFile; omega
def gJ (x : TFile) (k : Int) : TFile := ⟨k, (k + 1), (decide (Int.tmod ((k + 1) + 1) 3 = 0)), (((k + 1) + 1) + 1), (mkL i7 cnAttr x.fAttrs ((((k + 1) + 1) + 1) + 1))⟩
theorem tC (l : List TFile) (k : Int) (hk : 1 ≤ k ∧ k + (csum cnFile l : Nat) ≤ 4611686018427387904) : FnM Tryz.prog 94 false [.w 0 5 (l.map aR)] [.w 0 5 ((mkL gJ cnFile l k).map aR)] k (k + (csum cnFile l : Nat)) := by
 have hlen := cB cnFile p8 l
 refine entm Tryz.func94 rfl Tryz.call94 rfl (by simp) (by simp only [go_sem]) (fun C tg => ?_); simp only [go_sem, Tryz.ntmps94]
 refine af ?_
 refine ak (α := Nat) (fun j => [(5, oi j), (1, oi (k + (csum cnFile (l.take j) : Nat)))]) (fun j => [(0, .own (tg 0) 5 (jv aR gJ cnFile l k j))]) (fun j => j ≤ l.length) (fun j => l.length - j) 0 (fun _ => ?_) ?_ ?_ (fun j hj => ?_)
 ·simp only [go_sem]
 ·simp only [go_sem]; simp [fC, csum]
 ·simp
 ·simp only [go_sem]
  refine af ?_
  refine cnd rfl (fun h => ?_) (fun h => ?_)
  ·simp only [decide_eq_true_eq, Int.ofNat_lt] at h
   have hs := cf cnFile l h
   have ht := dD cnFile l (j + 1)
   have hc : cnFile l[j] = 4 + csum cnAttr l[j].fAttrs := rfl
   have hset := gE aR gJ cnFile l k j h
   have hkk : k + (csum cnFile (l.take (j + 1)) : Nat) = k + (csum cnFile (l.take j) : Nat) + (cnFile l[j] : Nat) := by omega
   generalize k + (csum cnFile (l.take j) : Nat) = K at hset hkk ⊢
   have hK : 1 ≤ K ∧ K + (cnFile l[j] : Nat) ≤ 4611686018427387904 := by omega
   have qH := @h; repeat' (with_reducible first | refine nY ?_ | (refine mX ?_; try simp only [go_sem, qH]) | refine kD ?_ | refine rD ?_ | refine vN (tx l[j].fAttrs _ (by omega)) ?_ | refine aO ?_ | fail)
   refine ae (j + 1) ?_ ?_ ?_
   ·simp only [go_sem, hkk, ← hset]
    simp [gJ, aR, hc]
    try omega
   ·omega
   ·omega
  ·simp only [decide_eq_false_iff_not] at h
   have e : j = l.length := by omega
   subst e
   refine af ?_
   exact ⟨⟨⟨_, rfl, by simp only [go_sem, cR, List.take_length]⟩, trivial⟩, by simp only [go_sem, cR, List.take_length]⟩
theorem tD (l : List TFile) (k : Int) (hk : 1 ≤ k ∧ k + (csum cnFile l : Nat) ≤ 4611686018427387904) : FnC Tryz.prog 177 [.o (.d (.sl ((mkL gJ cnFile l k).map aR))), oi k] (oi (k + (csum cnFile l : Nat))) := by
 have hlen := cB cnFile p8 l
 refine ent Tryz.func177 rfl Tryz.call177 rfl (fun C => ?_); simp only [go_sem, st0, Tryz.ntmps177]
 refine af ?_
 refine ak (α := Nat) (fun j => [(5, oi j), (1, oi (k + (csum cnFile (l.take j) : Nat)))]) (fun _ => []) (fun j => j ≤ l.length) (fun j => l.length - j) 0 (fun _ => ?_) ?_ ?_ (fun j hj => ?_)
 ·simp only [go_sem]
 ·simp only [go_sem]; simp [csum]
 ·simp
 ·simp only [go_sem]
  refine af ?_
  refine cnd rfl (fun h => ?_) (fun h => ?_)
  ·simp only [decide_eq_true_eq, Int.ofNat_lt] at h
   have hs := cf cnFile l h
   have ht := dD cnFile l (j + 1)
   have hc : cnFile l[j] = 4 + csum cnAttr l[j].fAttrs := rfl
   have hkk : k + (csum cnFile (l.take (j + 1)) : Nat) = k + (csum cnFile (l.take j) : Nat) + (cnFile l[j] : Nat) := by omega
   have hg := fO gJ cnFile l k j (by rw [bU]; exact h)
   generalize k + (csum cnFile (l.take j) : Nat) = K at hg hkk ⊢
   have hK : 1 ≤ K ∧ K + (cnFile l[j] : Nat) ≤ 4611686018427387904 := by omega
   have hneg0 : ¬ (((((K + 1) + 1) + 1) + 1) + (csum cnAttr l[j].fAttrs : Nat) < 0) := by omega
   repeat' (with_reducible first | refine nY ?_ | (refine mX ?_; try simp only [go_sem, h, hg, gJ, hneg0]) | refine kO ?_ (by decide) | refine rc (by kernel_rfl) ?_ | (refine cC (tz l[j].fAttrs ((((K + 1) + 1) + 1) + 1) (by omega)) ?_ ?_; focus simp only [go_sem, and_self]; done) | (refine And.intro ?_ ?_; focus omega))
   refine ae (j + 1) ?_ ?_ ?_
   ·simp only [go_sem, hkk]
    simp [hc]
    try omega
   ·omega
   ·omega
  ·simp only [decide_eq_false_iff_not] at h
   have e : j = l.length := by omega
   subst e
   refine af ?_
   exact aa ⟨⟨_, rfl, by simp only [go_sem, List.take_length]⟩, trivial⟩
def cnDir (x : TDir) : Nat := 1 + csum cnNode x.fQuery
theorem sn : ∀ x, 1 ≤ cnDir x := fun x => by unfold cnDir; omega
def mh (x : TDir) (k : Int) : TDir := ⟨(g4 k), (mkL i8 cnNode x.fQuery (k + 1))⟩
theorem vm (l : List TDir) (k : Int) (hk : 1 ≤ k ∧ k + (csum cnDir l : Nat) ≤ 4611686018427387904) : FnM Tryz.prog 29 false [.w 0 2 (l.map ax)] [.w 0 2 ((mkL mh cnDir l k).map ax)] k (k + (csum cnDir l : Nat)) := by
 have hlen := cB cnDir sn l
 refine entm Tryz.func29 rfl Tryz.call29 rfl (by simp) (by simp only [go_sem]) (fun C tg => ?_); simp only [go_sem, Tryz.ntmps29]
 refine af ?_
 refine ak (α := Nat) (fun j => [(5, oi j), (1, oi (k + (csum cnDir (l.take j) : Nat)))]) (fun j => [(0, .own (tg 0) 2 (jv ax mh cnDir l k j))]) (fun j => j ≤ l.length) (fun j => l.length - j) 0 (fun _ => ?_) ?_ ?_ (fun j hj => ?_)
 ·simp only [go_sem]
 ·simp only [go_sem]; simp [fC, csum]
 ·simp
 ·simp only [go_sem]
  refine af ?_
  refine cnd rfl (fun h => ?_) (fun h => ?_)
  ·simp only [decide_eq_true_eq, Int.ofNat_lt] at h
   have hs := cf cnDir l h
   have ht := dD cnDir l (j + 1)
   have hc : cnDir l[j] = 1 + csum cnNode l[j].fQuery := rfl
   have hset := gE ax mh cnDir l k j h
   have hkk : k + (csum cnDir (l.take (j + 1)) : Nat) = k + (csum cnDir (l.take j) : Nat) + (cnDir l[j] : Nat) := by omega
   generalize k + (csum cnDir (l.take j) : Nat) = K at hset hkk ⊢
   have hK : 1 ≤ K ∧ K + (cnDir l[j] : Nat) ≤ 4611686018427387904 := by omega
   have qH := @h; repeat' (with_reducible first | refine nY ?_ | (refine mX ?_; try simp only [go_sem, qH]) | refine kD ?_ | refine rD ?_ | refine cP (bK K (by omega)) ?_ | refine vN (tA l[j].fQuery _ (by omega)) ?_ | refine aO ?_ | fail)
   refine ae (j + 1) ?_ ?_ ?_
   ·simp only [go_sem, hkk, ← hset]
    simp [mh, ax, hc]
    try omega
   ·omega
   ·omega
  ·simp only [decide_eq_false_iff_not] at h
   have e : j = l.length := by omega
   subst e
   refine af ?_
   exact ⟨⟨⟨_, rfl, by simp only [go_sem, cR, List.take_length]⟩, trivial⟩, by simp only [go_sem, cR, List.take_length]⟩
theorem vn (l : List TDir) (k : Int) (hk : 1 ≤ k ∧ k + (csum cnDir l : Nat) ≤ 4611686018427387904) : FnC Tryz.prog 106 [.o (.d (.sl ((mkL mh cnDir l k).map ax))), oi k] (oi (k + (csum cnDir l : Nat))) := by
 have hlen := cB cnDir sn l
 refine ent Tryz.func106 rfl Tryz.call106 rfl (fun C => ?_); simp only [go_sem, st0, Tryz.ntmps106]
 refine af ?_
 refine ak (α := Nat) (fun j => [(5, oi j), (1, oi (k + (csum cnDir (l.take j) : Nat)))]) (fun _ => []) (fun j => j ≤ l.length) (fun j => l.length - j) 0 (fun _ => ?_) ?_ ?_ (fun j hj => ?_)
 ·simp only [go_sem]
 ·simp only [go_sem]; simp [csum]
 ·simp
 ·simp only [go_sem]
  refine af ?_
  refine cnd rfl (fun h => ?_) (fun h => ?_)
  ·simp only [decide_eq_true_eq, Int.ofNat_lt] at h
   have hs := cf cnDir l h
   have ht := dD cnDir l (j + 1)
   have hc : cnDir l[j] = 1 + csum cnNode l[j].fQuery := rfl
   have hkk : k + (csum cnDir (l.take (j + 1)) : Nat) = k + (csum cnDir (l.take j) : Nat) + (cnDir l[j] : Nat) := by omega
   have hg := fO mh cnDir l k j (by rw [bU]; exact h)
   generalize k + (csum cnDir (l.take j) : Nat) = K at hg hkk ⊢
   have hK : 1 ≤ K ∧ K + (cnDir l[j] : Nat) ≤ 4611686018427387904 := by omega
   have hneg0 : ¬ ((K + 1) + (csum cnNode l[j].fQuery : Nat) < 0) := by omega
   repeat' (with_reducible first | refine nY ?_ | (refine mX ?_; try simp only [go_sem, h, hg, mh, hneg0]) | refine kO ?_ (by decide) | refine rc (by kernel_rfl) ?_ | (refine cC (bK K (by omega)) ?_ ?_; focus simp only [go_sem, and_self]; done) | (refine cC (tB l[j].fQuery (K + 1) (by omega)) ?_ ?_; focus simp only [go_sem, and_self]; done) | (refine And.intro ?_ ?_; focus omega))
   refine ae (j + 1) ?_ ?_ ?_
   ·simp only [go_sem, hkk]
    simp [hc]
    try omega
   ·omega
   ·omega
  ·simp only [decide_eq_false_iff_not] at h
   have e : j = l.length := by omega
   subst e
   refine af ?_
   exact aa ⟨⟨_, rfl, by simp only [go_sem, List.take_length]⟩, trivial⟩
def cnResult (x : TResult) : Nat := 1 + csum cnInt x.fIDs
theorem mi : ∀ x, 1 ≤ cnResult x := fun x => by unfold cnResult; omega
def fl (x : TResult) (k : Int) : TResult := ⟨(g4 k), (mkL jX cnInt x.fIDs (k + 1))⟩
theorem p9 (l : List TResult) (k : Int) (hk : 1 ≤ k ∧ k + (csum cnResult l : Nat) ≤ 4611686018427387904) : FnM Tryz.prog 30 false [.w 0 2 (l.map ai)] [.w 0 2 ((mkL fl cnResult l k).map ai)] k (k + (csum cnResult l : Nat)) := by
 have hlen := cB cnResult mi l
 refine entm Tryz.func30 rfl Tryz.call30 rfl (by simp) (by simp only [go_sem]) (fun C tg => ?_); simp only [go_sem, Tryz.ntmps30]
 refine af ?_
 refine ak (α := Nat) (fun j => [(5, oi j), (1, oi (k + (csum cnResult (l.take j) : Nat)))]) (fun j => [(0, .own (tg 0) 2 (jv ai fl cnResult l k j))]) (fun j => j ≤ l.length) (fun j => l.length - j) 0 (fun _ => ?_) ?_ ?_ (fun j hj => ?_)
 ·simp only [go_sem]
 ·simp only [go_sem]; simp [fC, csum]
 ·simp
 ·simp only [go_sem]
  refine af ?_
  refine cnd rfl (fun h => ?_) (fun h => ?_)
  ·simp only [decide_eq_true_eq, Int.ofNat_lt] at h
   have hs := cf cnResult l h
   have ht := dD cnResult l (j + 1)
   have hc : cnResult l[j] = 1 + csum cnInt l[j].fIDs := rfl
   have hset := gE ai fl cnResult l k j h
   have hkk : k + (csum cnResult (l.take (j + 1)) : Nat) = k + (csum cnResult (l.take j) : Nat) + (cnResult l[j] : Nat) := by omega
   generalize k + (csum cnResult (l.take j) : Nat) = K at hset hkk ⊢
   have hK : 1 ≤ K ∧ K + (cnResult l[j] : Nat) ≤ 4611686018427387904 := by omega
   have qH := @h; repeat' (with_reducible first | refine nY ?_ | (refine mX ?_; try simp only [go_sem, qH]) | refine kD ?_ | refine rD ?_ | refine cP (bK K (by omega)) ?_ | refine vN (vj l[j].fIDs _ (by omega)) ?_ | refine aO ?_ | fail)
   refine ae (j + 1) ?_ ?_ ?_
   ·simp only [go_sem, hkk, ← hset]
    simp [fl, ai, hc]
    try omega
   ·omega
   ·omega
  ·simp only [decide_eq_false_iff_not] at h
   have e : j = l.length := by omega
   subst e
   refine af ?_
   exact ⟨⟨⟨_, rfl, by simp only [go_sem, cR, List.take_length]⟩, trivial⟩, by simp only [go_sem, cR, List.take_length]⟩
theorem qb (l : List TResult) (k : Int) (hk : 1 ≤ k ∧ k + (csum cnResult l : Nat) ≤ 4611686018427387904) : FnC Tryz.prog 32 [.o (.d (.sl ((mkL fl cnResult l k).map ai))), oi k] (oi (k + (csum cnResult l : Nat))) := by
 have hlen := cB cnResult mi l
 refine ent Tryz.func32 rfl Tryz.call32 rfl (fun C => ?_); simp only [go_sem, st0, Tryz.ntmps32]
 refine af ?_
 refine ak (α := Nat) (fun j => [(5, oi j), (1, oi (k + (csum cnResult (l.take j) : Nat)))]) (fun _ => []) (fun j => j ≤ l.length) (fun j => l.length - j) 0 (fun _ => ?_) ?_ ?_ (fun j hj => ?_)
 ·simp only [go_sem]
 ·simp only [go_sem]; simp [csum]
 ·simp
 ·simp only [go_sem]
  refine af ?_
  refine cnd rfl (fun h => ?_) (fun h => ?_)
  ·simp only [decide_eq_true_eq, Int.ofNat_lt] at h
   have hs := cf cnResult l h
   have ht := dD cnResult l (j + 1)
   have hc : cnResult l[j] = 1 + csum cnInt l[j].fIDs := rfl
   have hkk : k + (csum cnResult (l.take (j + 1)) : Nat) = k + (csum cnResult (l.take j) : Nat) + (cnResult l[j] : Nat) := by omega
   have hg := fO fl cnResult l k j (by rw [bU]; exact h)
   generalize k + (csum cnResult (l.take j) : Nat) = K at hg hkk ⊢
   have hK : 1 ≤ K ∧ K + (cnResult l[j] : Nat) ≤ 4611686018427387904 := by omega
   have hneg0 : ¬ ((K + 1) + (csum cnInt l[j].fIDs : Nat) < 0) := by omega
   repeat' (with_reducible first | refine nY ?_ | (refine mX ?_; try simp only [go_sem, h, hg, fl, hneg0]) | refine kO ?_ (by decide) | refine rc (by kernel_rfl) ?_ | (refine cC (bK K (by omega)) ?_ ?_; focus simp only [go_sem, and_self]; done) | (refine cC (vk l[j].fIDs (K + 1) (by omega)) ?_ ?_; focus simp only [go_sem, and_self]; done) | (refine And.intro ?_ ?_; focus omega))
   refine ae (j + 1) ?_ ?_ ?_
   ·simp only [go_sem, hkk]
    simp [hc]
    try omega
   ·omega
   ·omega
  ·simp only [decide_eq_false_iff_not] at h
   have e : j = l.length := by omega
   subst e
   refine af ?_
   exact aa ⟨⟨_, rfl, by simp only [go_sem, List.take_length]⟩, trivial⟩
def FU (x : TDiff) : Nat := 1 + csum cnInt x.fAdded + csum cnInt x.fRemoved
def FV (x : TDiff) (k : Int) : TDiff := ⟨(g4 k), (mkL jX cnInt x.fAdded (k + 1)), (mkL jX cnInt x.fRemoved ((k + 1) + (csum cnInt x.fAdded : Nat)))⟩
def Fq (x : TGroup) : Nat := 3 + csum cnInt x.fIDs
def Fs (x : TGroup) (k : Int) : TGroup := ⟨⟨k, (k + 1), (g4 ((k + 1) + 1))⟩, (mkL jX cnInt x.fIDs (((k + 1) + 1) + 1))⟩
def Fc (x : TChange) : Nat := 7 + csum cnAttr x.fFile.fAttrs + csum cnNode x.fDir.fQuery
def Fd (x : TChange) (k : Int) : TChange := ⟨k, ⟨(k + 1), ((k + 1) + 1), (decide (Int.tmod (((k + 1) + 1) + 1) 3 = 0)), ((((k + 1) + 1) + 1) + 1), (mkL i7 cnAttr x.fFile.fAttrs (((((k + 1) + 1) + 1) + 1) + 1))⟩, ((((((k + 1) + 1) + 1) + 1) + 1) + (csum cnAttr x.fFile.fAttrs : Nat)), ⟨(g4 (((((((k + 1) + 1) + 1) + 1) + 1) + (csum cnAttr x.fFile.fAttrs : Nat)) + 1)), (mkL i8 cnNode x.fDir.fQuery ((((((((k + 1) + 1) + 1) + 1) + 1) + (csum cnAttr x.fFile.fAttrs : Nat)) + 1) + 1))⟩⟩
end Go.Proofs.YtddimbdeggomaaaGreat
end
section
set_option linter.all false
set_option maxRecDepth 100000
set_option maxHeartbeats 4000000
namespace Go.Proofs.YtddimbdeggomaaaGreat
open Go Go.Sx Go.RowKit Go.Proofs
theorem tE (x : TStore) (k : Int) (hk : 1 ≤ k ∧ k + (csum cnField x.fSchema : Nat) + (csum cnFile x.fFiles : Nat) ≤ 4611686018427387904) : FnM Tryz.prog 28 true [.w 0 2 (x.fSchema.map aF), .w 0 5 (x.fFiles.map aR), .d (iv x.fNextID)] [.w 0 2 ((mkL fk cnField x.fSchema (k)).map aF), .w 0 5 ((mkL gJ cnFile x.fFiles (k + (csum cnField x.fSchema : Nat))).map aR), .d (iv x.fNextID)] k (k + (csum cnField x.fSchema : Nat) + (csum cnFile x.fFiles : Nat)) := by
 refine entm Tryz.func28 rfl Tryz.call28 rfl (by simp) (by simp only [go_sem]) (fun C tg => ?_); simp only [go_sem, Tryz.ntmps28]
 have qH := trivial; repeat' (with_reducible first | refine nY ?_ | (refine mX ?_; try simp only [go_sem]) | refine kD ?_ | refine rD ?_ | refine vM (ro x.fSchema _ (by omega)) ?_ | refine vM (tC x.fFiles _ (by omega)) ?_ | refine aO ?_ | fail)
 exact ⟨⟨⟨_, rfl, by simp only [go_sem]⟩, trivial⟩, by simp only [go_sem]⟩
theorem tF (x : TStore) (k : Int) (hk : 1 ≤ k ∧ k + (csum cnField x.fSchema : Nat) + (csum cnFile x.fFiles : Nat) ≤ 4611686018427387904) : FnC Tryz.prog 105 [.g [.d (.sl ((mkL fk cnField x.fSchema (k)).map aF)), .d (.sl ((mkL gJ cnFile x.fFiles (k + (csum cnField x.fSchema : Nat))).map aR)), .d (iv x.fNextID)], oi k] (oi (k + (csum cnField x.fSchema : Nat) + (csum cnFile x.fFiles : Nat))) := by
 have hneg0 : ¬ (k + (csum cnField x.fSchema : Nat) < 0) := by omega
 have hneg1 : ¬ (k + (csum cnField x.fSchema : Nat) + (csum cnFile x.fFiles : Nat) < 0) := by omega
 refine ent Tryz.func105 rfl Tryz.call105 rfl (fun C => ?_); simp only [go_sem, st0, Tryz.ntmps105]
 have q0 := @hneg0; have q1 := @hneg1; refine l7 (rp x.fSchema (k) (by omega)) (tD x.fFiles (k + (csum cnField x.fSchema : Nat)) (by omega)) ?_
 exact aa ⟨⟨_, rfl, by simp only [go_sem]⟩, trivial⟩
theorem fm (x : TCatalog) (k : Int) (hk : 1 ≤ k ∧ k + (csum cnField x.fStore.fSchema : Nat) + (csum cnFile x.fStore.fFiles : Nat) + (csum cnDir x.fDirs : Nat) + (csum cnResult x.fResults : Nat) ≤ 4611686018427387904) : FnM Tryz.prog 36 true [.w 0 2 (x.fStore.fSchema.map aF), .w 0 5 (x.fStore.fFiles.map aR), .d (iv x.fStore.fNextID), .w 0 2 (x.fDirs.map ax), .w 0 2 (x.fResults.map ai)] [.w 0 2 ((mkL fk cnField x.fStore.fSchema (k)).map aF), .w 0 5 ((mkL gJ cnFile x.fStore.fFiles (k + (csum cnField x.fStore.fSchema : Nat))).map aR), .d (iv x.fStore.fNextID), .w 0 2 ((mkL mh cnDir x.fDirs (k + (csum cnField x.fStore.fSchema : Nat) + (csum cnFile x.fStore.fFiles : Nat))).map ax), .w 0 2 ((mkL fl cnResult x.fResults (k + (csum cnField x.fStore.fSchema : Nat) + (csum cnFile x.fStore.fFiles : Nat) + (csum cnDir x.fDirs : Nat))).map ai)] k (k + (csum cnField x.fStore.fSchema : Nat) + (csum cnFile x.fStore.fFiles : Nat) + (csum cnDir x.fDirs : Nat) + (csum cnResult x.fResults : Nat)) := by
 refine entm Tryz.func36 rfl Tryz.call36 rfl (by simp) (by simp only [go_sem]) (fun C tg => ?_); simp only [go_sem, Tryz.ntmps36]
 have qH := trivial; repeat' (with_reducible first | refine nY ?_ | (refine mX ?_; try simp only [go_sem]) | refine kD ?_ | refine rD ?_ | refine vM (tE x.fStore _ (by omega)) ?_ | refine vM (vm x.fDirs _ (by omega)) ?_ | refine vM (p9 x.fResults _ (by omega)) ?_ | refine aO ?_ | fail)
 exact ⟨⟨⟨_, rfl, by simp only [go_sem]⟩, trivial⟩, by simp only [go_sem]⟩
theorem fp (x : TCatalog) (k : Int) (hk : 1 ≤ k ∧ k + (csum cnField x.fStore.fSchema : Nat) + (csum cnFile x.fStore.fFiles : Nat) + (csum cnDir x.fDirs : Nat) + (csum cnResult x.fResults : Nat) ≤ 4611686018427387904) : FnC Tryz.prog 37 [.g [.d (.sl ((mkL fk cnField x.fStore.fSchema (k)).map aF)), .d (.sl ((mkL gJ cnFile x.fStore.fFiles (k + (csum cnField x.fStore.fSchema : Nat))).map aR)), .d (iv x.fStore.fNextID), .d (.sl ((mkL mh cnDir x.fDirs (k + (csum cnField x.fStore.fSchema : Nat) + (csum cnFile x.fStore.fFiles : Nat))).map ax)), .d (.sl ((mkL fl cnResult x.fResults (k + (csum cnField x.fStore.fSchema : Nat) + (csum cnFile x.fStore.fFiles : Nat) + (csum cnDir x.fDirs : Nat))).map ai))], oi k] (oi (k + (csum cnField x.fStore.fSchema : Nat) + (csum cnFile x.fStore.fFiles : Nat) + (csum cnDir x.fDirs : Nat) + (csum cnResult x.fResults : Nat))) := by
 have hneg0 : ¬ (k + (csum cnField x.fStore.fSchema : Nat) + (csum cnFile x.fStore.fFiles : Nat) < 0) := by omega
 have hneg1 : ¬ (k + (csum cnField x.fStore.fSchema : Nat) + (csum cnFile x.fStore.fFiles : Nat) + (csum cnDir x.fDirs : Nat) < 0) := by omega
 have hneg2 : ¬ (k + (csum cnField x.fStore.fSchema : Nat) + (csum cnFile x.fStore.fFiles : Nat) + (csum cnDir x.fDirs : Nat) + (csum cnResult x.fResults : Nat) < 0) := by omega
 refine ent Tryz.func37 rfl Tryz.call37 rfl (fun C => ?_); simp only [go_sem, st0, Tryz.ntmps37]
 have q0 := @hneg0; have q1 := @hneg1; have q2 := @hneg2; refine CO (tF x.fStore (k) (by omega)) (vn x.fDirs (k + (csum cnField x.fStore.fSchema : Nat) + (csum cnFile x.fStore.fFiles : Nat)) (by omega)) (qb x.fResults (k + (csum cnField x.fStore.fSchema : Nat) + (csum cnFile x.fStore.fFiles : Nat) + (csum cnDir x.fDirs : Nat)) (by omega)) ?_
 exact aa ⟨⟨_, rfl, by simp only [go_sem]⟩, trivial⟩
end Go.Proofs.YtddimbdeggomaaaGreat
end
section
set_option linter.all false
namespace Go.Proofs.YtddimbdeggomaaaGreat
open Go Go.Sx Go.RowKit Go.Proofs
theorem i9 {α : Type} (cn w : α → Nat) (c : Nat) (hx : ∀ x, cn x ≤ c * (1 + w x)) : ∀ l : List α, csum cn l ≤ c * (l.length + wsum w l)
 | [] => by simp [csum]
 | x :: l => by
  have h1 := i9 cn w c hx l
  have h2 := hx x
  simp only [csum, wsum, List.length_cons]
  have : c * (l.length + 1 + (w x + wsum w l)) = c * (1 + w x) + c * (l.length + wsum w l) := by rw [← Nat.mul_add]; congr 1; omega
  omega
theorem gK {α : Type} (cn : α → Nat) (c : Nat) (hx : ∀ x, cn x = c) : ∀ l : List α, csum cn l = c * l.length
 | [] => by simp [csum]
 | x :: l => by
  have h1 := gK cn c hx l
  simp only [csum, List.length_cons, hx, h1, Nat.mul_add]; omega
theorem C6 (l : List Int) : csum cnInt l = l.length := by rw [gK cnInt 1 (fun _ => rfl)]; omega
theorem kA (l : List TField) : csum cnField l = 2 * l.length := gK cnField 2 (fun _ => rfl) l
theorem Bt (l : List TAttr) : csum cnAttr l = 4 * l.length := gK cnAttr 4 (fun _ => rfl) l
theorem Bu (l : List TNode) : csum cnNode l = 7 * l.length := gK cnNode 7 (fun _ => rfl) l
theorem mj (l : List TFile) : csum cnFile l ≤ 4 * (l.length + wsum wFile l) := i9 cnFile wFile 4 (fun x => by
 unfold cnFile wFile bg; rw [Bt]; omega) l
theorem oM (l : List TDir) : csum cnDir l ≤ 7 * (l.length + wsum wDir l) := i9 cnDir wDir 7 (fun x => by
 unfold cnDir wDir bb; rw [Bu]; omega) l
theorem ja (l : List TResult) : csum cnResult l ≤ 1 * (l.length + wsum wResult l) := i9 cnResult wResult 1 (fun x => by
 unfold cnResult wResult; rw [C6]; omega) l
end Go.Proofs.YtddimbdeggomaaaGreat
end
end
section
set_option maxRecDepth 100000
set_option maxHeartbeats 4000000
namespace Go.Proofs.YtddimbdeggomaaaGreat
open Go Go.Sx Go.RowKit Go.Proofs
def hasS (l : List ByteArray) (s : ByteArray) : Bool := l.any fun x => decide (x = s)
theorem zO (l : List ByteArray) (s : ByteArray) (k : Nat) (h : k < l.length) : hasS (l.drop k) s = (decide (l[k] = s) || hasS (l.drop (k + 1)) s) := by
 rw [List.drop_eq_getElem_cons h]; rfl
theorem cN (l : List ByteArray) (s : ByteArray) (hl : l.length ≤ 4300000) : FnC Tryz.prog 82 [.o (.d (.sl (l.map ba))), os s] (ob (hasS l s)) := by
 refine ent Tryz.func82 rfl Tryz.call82 rfl (fun C => ?_); simp only [go_sem, st0, Tryz.ntmps82]
 refine af ?_
 refine ak (α := Nat) (fun k => [(5, oi k)]) (fun k => []) (fun k => k ≤ l.length ∧ hasS (l.drop k) s = hasS l s) (fun k => l.length - k) 0 (fun _ => ?_) ?_ ?_ (fun k hk => ?_)
 ·simp only [go_sem]; try simp
 ·simp only [go_sem]; try simp
 ·simp
 ·simp only [go_sem]
  obtain ⟨hk, hg⟩ := hk
  refine af ?_
  refine cnd rfl (fun h1 => ?_) (fun h1 => ?_)
  ·simp only [decide_eq_true_eq, Int.ofNat_lt] at h1
   have hd := zO l s k h1
   rw [hg] at hd
   have q0 := @h1; refine cw ?_
   refine cnd rfl (fun hv => ?_) (fun hv => ?_)
   ·rw [hv, Bool.true_or] at hd
    refine af ?_
    exact aa ⟨⟨_, rfl, by simp only [go_sem, hd]⟩, trivial⟩
   ·rw [hv, Bool.false_or] at hd
    refine af ?_
    refine ae (k + 1) ?_ ?_ ?_
    ·simp only [go_sem]; try simp
    ·exact ⟨by omega, hd.symm⟩
    ·omega
  ·simp only [decide_eq_false_iff_not] at h1
   have e : k = l.length := by omega
   subst e
   have hn : hasS l s = false := by rw [← hg, List.drop_length]; rfl
   refine af ?_
   exact aa ⟨⟨_, rfl, by simp only [go_sem, hn]⟩, trivial⟩
theorem zP (l : List ByteArray) (s : ByteArray) (hl : l.length ≤ 4300000) : FnC Tryz.prog 244 [.o (.d (.sl (l.map ba))), os s] (oi (bp (fun x => decide (s = x)) l 0)) := by
 refine ent Tryz.func244 rfl Tryz.call244 rfl (fun C => ?_); simp only [go_sem, st0, Tryz.ntmps244]
 refine af ?_
 refine ak (α := Nat) (fun k => [(8, oi k)]) (fun _ => []) (fun k => k ≤ l.length ∧ bp (fun x => decide (s = x)) l 0 = bp (fun x => decide (s = x)) (l.drop k) k) (fun k => l.length - k) 0 (fun _ => ?_) ?_ ?_ (fun k hk => ?_)
 ·simp only [go_sem]
 ·simp only [go_sem]; simp
 ·simp
 ·obtain ⟨hk, hq⟩ := hk
  simp only [go_sem]
  refine af ?_
  refine cnd rfl (fun h => ?_) (fun h => ?_)
  ·simp only [decide_eq_true_eq, Int.ofNat_lt] at h
   have hd := List.drop_eq_getElem_cons h
   rw [hd, bp] at hq
   have q0 := @h; refine cw ?_
   refine cnd rfl (fun h2 => ?_) (fun h2 => ?_)
   ·refine af ?_
    exact aa ⟨⟨_, rfl, by simp only [go_sem, hq, h2]⟩, trivial⟩
   ·refine af ?_
    refine ae (k + 1) ?_ ?_ ?_
    ·simp only [go_sem]; simp
    ·rw [hq, h2]; exact ⟨h, by simp⟩
    ·omega
  ·simp only [decide_eq_false_iff_not] at h
   have e : k = l.length := by omega
   subst e
   simp only [List.drop_length, bp] at hq
   refine af ?_
   exact aa ⟨⟨_, rfl, by simp only [go_sem, hq]⟩, trivial⟩
theorem jV {α : Type} (p : α → Bool) : ∀ (l : List α) (k : Nat), decide (0 ≤ bp p l k) = l.any p
 | [], _ => by simp [bp]
 | x :: xs, k => by
  simp only [bp, List.any_cons]
  by_cases h : p x = true
  ·simp [h]
  ·rw [Bool.not_eq_true] at h
   simpa [h] using jV p xs (k + 1)
theorem Bs (l : List ByteArray) (s : ByteArray) : decide (0 ≤ bp (fun x => decide (s = x)) l 0) = hasS l s := by
 rw [jV]; unfold hasS
 congr 1; funext x; congr 1; exact propext eq_comm
theorem bQ (l : List ByteArray) (s : ByteArray) (hl : l.length ≤ 4300000) : FnC Tryz.prog 164 [.o (.d (.sl (l.map ba))), os s] (ob (hasS l s)) := by
 refine ent Tryz.func164 rfl Tryz.call164 rfl (fun C => ?_); simp only [go_sem, st0, Tryz.ntmps164]
 refine cH (zP l s hl) ?_
 exact aa ⟨⟨_, rfl, by simp only [go_sem, Bs]⟩, trivial⟩
def dirNs (l : List TDir) : List ByteArray := l.map TDir.fName
theorem kz (l : List TDir) : (dirNs l).length = l.length := by simp [dirNs]
theorem jW (l : List TDir) (hl : l.length ≤ 4300000) : FnC Tryz.prog 118 [.o (.d (.sl (l.map ax)))] (.o (.w 9 1 ((dirNs l).map ba))) := by
 refine ent Tryz.func118 rfl Tryz.call118 rfl (fun C => ?_); simp only [go_sem, st0, Tryz.ntmps118]
 refine af ?_
 refine ak (α := Nat) (fun k => [(3, .o (.s 0)), (6, .o .u), (9, oi k)]) (fun k => [(0, .row 9 1 ((dirNs (l.take k)).map ba) true)]) (fun k => k ≤ l.length) (fun k => l.length - k) 0 (fun _ => ?_) ?_ ?_ (fun k hk => ?_)
 ·simp only [go_sem]
 ·simp only [go_sem]; simp [dirNs]
 ·simp
 ·simp only [go_sem]
  refine af ?_
  refine cnd rfl (fun h1 => ?_) (fun h1 => ?_)
  ·simp only [decide_eq_true_eq, Int.ofNat_lt] at h1
   have ht : dirNs (l.take (k + 1)) = dirNs (l.take k) ++ [l[k].fName] := by simp only [dirNs, List.take_succ_eq_append_getElem h1, List.map_append, List.map_cons, List.map_nil]
   have hlen : (dirNs (l.take k)).length = k := by rw [kz]; simp; omega
   have q0 := @h1; have q1 := @hlen; refine fg ?_
   refine ae (k + 1) ?_ ?_ ?_
   ·simp only [go_sem, ht, List.map_append]; simp
   ·omega
   ·omega
  ·simp only [decide_eq_false_iff_not] at h1
   have e : k = l.length := by omega
   subst e
   refine af ?_
   exact aa ⟨⟨_, rfl, by simp only [go_sem, List.take_length]⟩, trivial⟩
def uD (names : List ByteArray) (l : List TDir) : List ByteArray := (dirNs l).filter fun n => !hasS names n
end Go.Proofs.YtddimbdeggomaaaGreat
end
section
set_option maxRecDepth 100000
namespace Go.Proofs.YtddimbdeggomaaaGreat
open Go Go.Sx Go.RowKit Go.Proofs
theorem F0 {α : Type} (l : List α) : (l.all fun _ => true) = true := by simp
theorem jZ (l : List Int) (hl : l.length ≤ 67108864) : FnC Tryz.prog 245 [.o (.d (.sl (l.map bY)))] (.o (.w 3 1 (l.map bY))) := by
 refine ent Tryz.func245 rfl Tryz.call245 rfl (fun C => ?_); simp only [go_sem, st0, Tryz.ntmps245]
 refine af ?_
 intro b hb
 refine af ?_
 refine cnd rfl (fun h1 => ?_) (fun h1 => ?_)
 ·have e := hb h1
  simp only [List.map_eq_nil_iff] at e
  subst e
  refine af ?_
  exact aa ⟨⟨_, rfl, by simp only [go_sem]⟩, trivial⟩
 ·refine af ?_
  exact aa ⟨⟨_, rfl, by simp only [go_sem, F0]⟩, trivial⟩
end Go.Proofs.YtddimbdeggomaaaGreat
end
section
set_option maxRecDepth 100000
set_option maxHeartbeats 4000000
namespace Go.Proofs.YtddimbdeggomaaaGreat
open Go Go.Sx Go.RowKit Go.Proofs
def low (s : ByteArray) (k : Nat) : Bool := inB (fa s k) 97 122
def gj (s : ByteArray) : Bool := (List.range s.size).all (low s)
def aV (s : ByteArray) (n : Int) : Bool := gj s && inB s.size 1 n
theorem qg (s : ByteArray) (n : Int) (hs : s.size ≤ 4300000) : FnC Tryz.prog 283 [os s, oi n] (ob (aV s n)) := by
 refine ent Tryz.func283 rfl Tryz.call283 rfl (fun C => ?_); simp only [go_sem, st0, Tryz.ntmps283]
 refine af ?_
 refine ak (α := Nat) (fun k => [(5, oi k)]) (fun _ => []) (fun k => k ≤ s.size ∧ gj s = ((List.range s.size).drop k).all (low s)) (fun k => s.size - k) 0 (fun _ => ?_) ?_ ?_ (fun k hk => ?_)
 ·simp only [go_sem]
 ·simp only [go_sem]; simp
 ·simp [gj]
 ·obtain ⟨hk, hq⟩ := hk
  simp only [go_sem]
  refine af ?_
  refine cnd rfl (fun h => ?_) (fun h => ?_)
  ·simp only [decide_eq_true_eq, Int.ofNat_lt] at h
   have h' : k < (List.range s.size).length := by simpa using h
   have hd := List.drop_eq_getElem_cons h'
   rw [hd, List.all_cons, List.getElem_range] at hq
   have hb := rY s k
   by_cases h1 : fa s k < 97
   ·have hf : gj s = false := by rw [hq]; simp [low, inB]; omega
    have q0 := @h; have q1 := @h1; refine fg ?_
    exact aa ⟨⟨_, rfl, by simp only [go_sem, aV, hf, Bool.false_and]⟩, trivial⟩
   by_cases h2 : 122 < fa s k
   ·have hf : gj s = false := by rw [hq]; simp [low, inB]; omega
    have q0 := @h; have q1 := @h1; have q2 := @h2; have q3 := @decide_false; refine f6 ?_
    exact aa ⟨⟨_, rfl, by simp only [go_sem, aV, hf, Bool.false_and]⟩, trivial⟩
   ·have q0 := @h; have q1 := @h1; have q2 := @h2; have q3 := @decide_false; refine f6 ?_
    refine ae (k + 1) ?_ ?_ ?_
    ·simp only [go_sem]; simp
    ·refine ⟨h, ?_⟩
     have hl : low s k = true := by simp [low, inB]; omega
     rw [hq, hl]; simp
    ·omega
  ·simp only [decide_eq_false_iff_not] at h
   have e : k = s.size := by omega
   have hq' : gj s = true := by
    rw [hq, List.drop_of_length_le (by simp [e])]; rfl
   refine cH (aN s.size 1 n) ?_
   refine aa ⟨⟨_, rfl, ?_⟩, ?_⟩
   ·simp only [go_sem, aV, hq']
   ·trivial
theorem am (s : ByteArray) (hs : s.size ≤ 4300000) : FnC Tryz.prog 238 [os s] (ob (aV s 1)) := by
 refine ent Tryz.func238 rfl Tryz.call238 rfl (fun C => ?_); simp only [go_sem, st0, Tryz.ntmps238]
 refine cH (qg s 1 hs) ?_
 refine aa ⟨⟨_, rfl, ?_⟩, ?_⟩
 ·simp only [go_sem]
 ·trivial
theorem Da (s : ByteArray) : aV s 1 = (decide ((s.size : Int) = 1) && low s 0) := by
 unfold aV gj inB
 rcases Nat.lt_trichotomy s.size 1 with h | h | h
 ·have : s.size = 0 := by omega
  simp [this]
 ·simp [h, List.range_succ]
 ·have h1 : ¬ ((s.size : Int) ≤ 1) := by omega
  have h2 : ¬ ((s.size : Int) = 1) := by omega
  simp [h1, h2]
theorem ac (s : ByteArray) : FnC Tryz.prog 291 [os s] (ob (aV s 1)) := by
 rw [Da]
 refine ent Tryz.func291 rfl Tryz.call291 rfl (fun C => ?_); simp only [go_sem, st0, Tryz.ntmps291]
 by_cases h0 : (s.size : Int) = 1
 ·have h0' : 0 < s.size := by omega
  by_cases h1 : 97 ≤ fa s 0 <;> by_cases h2 : fa s 0 ≤ 122
  all_goals
   have q0 := @h0; have q1 := @h0'; have q2 := @h1; have q3 := @h2; have q4 := @decide_false; have q5 := @Int.toNat_zero; have q6 := @Int.le_refl; refine wX ?_
   refine aa ⟨⟨_, rfl, ?_⟩, ?_⟩
   ·simp only [go_sem]; simp [h0, h1, h2, low, inB]
   ·trivial
 ·have q0 := @h0; have q1 := @decide_false; refine fg ?_
  refine aa ⟨⟨_, rfl, ?_⟩, ?_⟩
  ·simp only [go_sem]; simp [h0]
  ·trivial
theorem aJ (s : ByteArray) (hs : s.size ≤ 4300000) : FnC Tryz.prog 232 [os s] (ob (aV s 6)) := by
 refine ent Tryz.func232 rfl Tryz.call232 rfl (fun C => ?_); simp only [go_sem, st0, Tryz.ntmps232]
 refine cH (qg s 6 hs) ?_
 exact aa ⟨⟨_, rfl, by simp only [go_sem]⟩, trivial⟩
theorem ay (s : ByteArray) (hs : s.size ≤ 4300000) : FnC Tryz.prog 270 [os s] (ob (aV s 6)) := by
 refine ent Tryz.func270 rfl Tryz.call270 rfl (fun C => ?_); simp only [go_sem, st0, Tryz.ntmps270]
 refine af ?_
 refine ak (α := Nat) (fun k => [(6, oi k)]) (fun _ => []) (fun k => k ≤ s.size ∧ gj s = ((List.range s.size).drop k).all (low s)) (fun k => s.size - k) 0 (fun _ => ?_) ?_ ?_ (fun k hk => ?_)
 ·simp only [go_sem]
 ·simp only [go_sem]; simp
 ·simp [gj]
 ·obtain ⟨hk, hq⟩ := hk
  simp only [go_sem]
  refine af ?_
  refine cnd rfl (fun h => ?_) (fun h => ?_)
  ·simp only [decide_eq_true_eq, Int.ofNat_lt] at h
   have h' : k < (List.range s.size).length := by simpa using h
   have hd := List.drop_eq_getElem_cons h'
   rw [hd, List.all_cons, List.getElem_range] at hq
   have hb := rY s k
   by_cases h1 : fa s k < 97
   ·have hf : gj s = false := by rw [hq]; simp [low, inB]; omega
    have q0 := @h; have q1 := @h1; refine fg ?_
    exact aa ⟨⟨_, rfl, by simp only [go_sem, aV, hf, Bool.false_and]⟩, trivial⟩
   by_cases h2 : 122 < fa s k
   ·have hf : gj s = false := by rw [hq]; simp [low, inB]; omega
    have q0 := @h; have q1 := @h1; have q2 := @h2; have q3 := @decide_false; refine f6 ?_
    exact aa ⟨⟨_, rfl, by simp only [go_sem, aV, hf, Bool.false_and]⟩, trivial⟩
   ·have q0 := @h; have q1 := @h1; have q2 := @h2; have q3 := @decide_false; refine f6 ?_
    refine ae (k + 1) ?_ ?_ ?_
    ·simp only [go_sem]; simp
    ·refine ⟨h, ?_⟩
     have hl : low s k = true := by simp [low, inB]; omega
     rw [hq, hl]; simp
    ·omega
  ·simp only [decide_eq_false_iff_not] at h
   have e : k = s.size := by omega
   have hq' : gj s = true := by
    rw [hq, List.drop_of_length_le (by simp [e])]; rfl
   refine cH (ap s.size 1 6) ?_
   refine aa ⟨⟨_, rfl, ?_⟩, ?_⟩
   ·simp only [go_sem, aV, hq']
   ·trivial
def cW (v : TValue) : Bool :=
 if v.fKind = 0 then decide (v.fInt = 0) && decide (v.fStr = ⟨#[]⟩)
 else if v.fKind = 1 then inB v.fInt 0 999 && decide (v.fStr = ⟨#[]⟩)
 else if v.fKind = 2 then aV v.fStr 6 && decide (v.fInt = 0) else false
theorem ag (v : TValue) (hs : v.fStr.size ≤ 4300000) : FnC Tryz.prog 293 [dX v] (ob (cW v)) := by
 refine ent Tryz.func293 rfl Tryz.call293 rfl (fun C => ?_); simp only [go_sem, st0, Tryz.ntmps293]
 by_cases h0 : v.fKind = 0
 ·have q0 := @h0; have q1 := @decide_true; refine fg ?_
  exact aa ⟨⟨_, rfl, by simp only [go_sem, cW, h0, if_true, decide_true, Bool.true_and]⟩, trivial⟩
 by_cases h1 : v.fKind = 1
 ·cases hb : inB v.fInt 0 999
  ·have q0 := @h0; have q1 := @h1; have q2 := @decide_true; have q3 := @decide_false; have q4 := @hb; refine pD (ap v.fInt 0 999) ?_
   exact aa ⟨⟨_, rfl, by simp only [go_sem, cW, h0, h1, hb, if_true, if_false, Bool.false_and]⟩, trivial⟩
  ·have q0 := @h0; have q1 := @h1; have q2 := @decide_true; have q3 := @decide_false; have q4 := @hb; refine pD (ap v.fInt 0 999) ?_
   exact aa ⟨⟨_, rfl, by simp only [go_sem, cW, h0, h1, hb, if_true, if_false, Bool.true_and]⟩, trivial⟩
 by_cases h2 : v.fKind = 2
 ·cases hb : aV v.fStr 6
  ·have q0 := @h0; have q1 := @h1; have q2 := @h2; have q3 := @decide_true; have q4 := @decide_false; have q5 := @hb; refine ot (ay v.fStr hs) ?_
   exact aa ⟨⟨_, rfl, by simp only [go_sem, cW, h0, h1, h2, hb, if_true, if_false, Bool.false_and]⟩, trivial⟩
  ·have q0 := @h0; have q1 := @h1; have q2 := @h2; have q3 := @decide_true; have q4 := @decide_false; have q5 := @hb; refine ot (ay v.fStr hs) ?_
   exact aa ⟨⟨_, rfl, by simp only [go_sem, cW, h0, h1, h2, hb, if_true, if_false, Bool.true_and]⟩, trivial⟩
 ·have q0 := @h0; have q1 := @h1; have q2 := @h2; have q3 := @decide_false; refine f6 ?_
  exact aa ⟨⟨_, rfl, by simp only [go_sem, cW, h0, h1, h2, if_false]⟩, trivial⟩
theorem aH (v : TValue) (hs : v.fStr.size ≤ 4300000) : FnC Tryz.prog 287 [dX v] (ob (cW v)) := by
 refine ent Tryz.func287 rfl Tryz.call287 rfl (fun C => ?_); simp only [go_sem, st0, Tryz.ntmps287]
 by_cases h0 : v.fKind = 0
 ·have q0 := @h0; have q1 := @decide_true; refine fg ?_
  exact aa ⟨⟨_, rfl, by simp only [go_sem, cW, h0, if_true, decide_true, Bool.true_and]⟩, trivial⟩
 by_cases h1 : v.fKind = 1
 ·cases hb : inB v.fInt 0 999
  ·have q0 := @h0; have q1 := @h1; have q2 := @decide_true; have q3 := @decide_false; have q4 := @hb; refine pD (aN v.fInt 0 999) ?_
   exact aa ⟨⟨_, rfl, by simp only [go_sem, cW, h0, h1, hb, if_true, if_false, Bool.false_and]⟩, trivial⟩
  ·have q0 := @h0; have q1 := @h1; have q2 := @decide_true; have q3 := @decide_false; have q4 := @hb; refine pD (aN v.fInt 0 999) ?_
   exact aa ⟨⟨_, rfl, by simp only [go_sem, cW, h0, h1, hb, if_true, if_false, Bool.true_and]⟩, trivial⟩
 by_cases h2 : v.fKind = 2
 ·cases hb : aV v.fStr 6
  ·have q0 := @h0; have q1 := @h1; have q2 := @h2; have q3 := @decide_true; have q4 := @decide_false; have q5 := @hb; refine ot (aJ v.fStr hs) ?_
   exact aa ⟨⟨_, rfl, by simp only [go_sem, cW, h0, h1, h2, hb, if_true, if_false, Bool.false_and]⟩, trivial⟩
  ·have q0 := @h0; have q1 := @h1; have q2 := @h2; have q3 := @decide_true; have q4 := @decide_false; have q5 := @hb; refine ot (aJ v.fStr hs) ?_
   exact aa ⟨⟨_, rfl, by simp only [go_sem, cW, h0, h1, h2, hb, if_true, if_false, Bool.true_and]⟩, trivial⟩
 ·have q0 := @h0; have q1 := @h1; have q2 := @h2; have q3 := @decide_false; refine f6 ?_
  exact aa ⟨⟨_, rfl, by simp only [go_sem, cW, h0, h1, h2, if_false]⟩, trivial⟩
end Go.Proofs.YtddimbdeggomaaaGreat
end
section
set_option maxRecDepth 100000
set_option maxHeartbeats 4000000
namespace Go.Proofs.YtddimbdeggomaaaGreat
open Go Go.Sx Go.RowKit Go.Proofs
def two (n : TNode) : Bool := decide (n.fOp = 6) || decide (n.fOp = 7)
def jc (n : TNode) (i : Int) : Nat := (if (two n || decide (n.fOp = 5)) && decide (n.fLeft = i) then 1 else 0) + (if two n && decide (n.fRight = i) then 1 else 0)
def refs (q : List TNode) (i : Int) : Nat := match q with
 | [] => 0
 | n :: q => jc n i + refs q i
theorem Bw (q r : List TNode) (i : Int) : refs (q ++ r) i = refs q i + refs r i := by
 induction q with
 | nil => simp [refs]
 | cons n q ih => simp only [List.cons_append, refs, ih]; omega
theorem sq (q : List TNode) (i : Int) (k : Nat) (h : k < q.length) : refs (q.take (k + 1)) i = refs (q.take k) i + jc q[k] i := by
 rw [List.take_succ_eq_append_getElem h, Bw]; simp [refs]
theorem yo (q : List TNode) (i : Int) : refs q i ≤ 2 * q.length := by
 induction q with
 | nil => simp [refs]
 | cons n q ih => simp only [refs, List.length_cons]; unfold jc; split <;> split <;> omega
theorem jd (q : List TNode) (i : Int) (hl : q.length ≤ 4300000) : FnC Tryz.prog 303 [.o (.d (.sl (q.map aw))), oi i] (oi (refs q i)) := by
 refine ent Tryz.func303 rfl Tryz.call303 rfl (fun C => ?_); simp only [go_sem, st0, Tryz.ntmps303]
 refine af ?_
 refine ak (α := Nat) (fun k => [(5, oi (refs (q.take k) i)), (11, oi k)]) (fun _ => []) (fun k => k ≤ q.length) (fun k => q.length - k) 0 (fun _ => ?_) ?_ ?_ (fun k hk => ?_)
 ·simp only [go_sem]
 ·simp only [go_sem]; simp [refs]
 ·simp
 ·simp only [go_sem]
  refine af ?_
  refine cnd rfl (fun h1 => ?_) (fun h1 => ?_)
  ·simp only [decide_eq_true_eq, Int.ofNat_lt] at h1
   have ht := sq q i k h1
   have hle := yo (q.take k) i
   simp only [List.length_take] at hle
   by_cases c6 : q[k].fOp = 6 <;> by_cases c7 : q[k].fOp = 7 <;> by_cases c5 : q[k].fOp = 5 <;> by_cases cl : q[k].fLeft = i <;> by_cases cr : q[k].fRight = i
   all_goals (try omega)
   all_goals
    simp only [jc, two, c5, c6, c7, cl, cr, decide_true, decide_false, Bool.true_or, Bool.or_true, Bool.false_or, Bool.or_false, Bool.and_true, Bool.and_false, Bool.true_and, Bool.false_and, if_true, if_false, Bool.false_eq_true] at ht
    have d5 : decide (q[k].fOp = 5) = decide (q[k].fOp = 5) := rfl
    have q0 := @h1; have q1 := @c5; have q2 := @c6; have q3 := @c7; have q4 := @cl; have q5 := @cr; have q6 := @decide_true; have q7 := @decide_false; refine rg ?_
    refine ae (k + 1) ?_ ?_ ?_
    ·simp only [go_sem, ht]; simp <;> omega
    ·omega
    ·omega
  ·simp only [decide_eq_false_iff_not] at h1
   have e : k = q.length := by omega
   subst e
   rw [List.take_length]
   refine af ?_
   exact aa ⟨⟨_, rfl, by simp only [go_sem, List.take_length]⟩, trivial⟩
theorem je (q : List TNode) (i : Int) (hl : q.length ≤ 4300000) : FnC Tryz.prog 285 [.o (.d (.sl (q.map aw))), oi i] (oi (refs q i)) := by
 refine ent Tryz.func285 rfl Tryz.call285 rfl (fun C => ?_); simp only [go_sem, st0, Tryz.ntmps285]
 refine af ?_
 refine ak (α := Nat) (fun k => [(5, oi (refs (q.take k) i)), (6, oi k)]) (fun _ => []) (fun k => k ≤ q.length) (fun k => q.length - k) 0 (fun _ => ?_) ?_ ?_ (fun k hk => ?_)
 ·simp only [go_sem]
 ·simp only [go_sem]; simp [refs]
 ·simp
 ·simp only [go_sem]
  refine af ?_
  refine cnd rfl (fun h1 => ?_) (fun h1 => ?_)
  ·simp only [decide_eq_true_eq, Int.ofNat_lt] at h1
   have ht := sq q i k h1
   have hle := yo (q.take k) i
   simp only [List.length_take] at hle
   by_cases c6 : q[k].fOp = 6 <;> by_cases c7 : q[k].fOp = 7 <;> by_cases c5 : q[k].fOp = 5 <;> by_cases cl : q[k].fLeft = i <;> by_cases cr : q[k].fRight = i
   all_goals (try omega)
   all_goals
    simp only [jc, two, c5, c6, c7, cl, cr, decide_true, decide_false, Bool.true_or, Bool.or_true, Bool.false_or, Bool.or_false, Bool.and_true, Bool.and_false, Bool.true_and, Bool.false_and, if_true, if_false, Bool.false_eq_true] at ht
    have d5 : decide (q[k].fOp = 5) = decide (q[k].fOp = 5) := rfl
    have q0 := @h1; have q1 := @c5; have q2 := @c6; have q3 := @c7; have q4 := @cl; have q5 := @cr; have q6 := @decide_true; have q7 := @decide_false; refine rg ?_
    refine ae (k + 1) ?_ ?_ ?_
    ·simp only [go_sem, ht]; simp <;> omega
    ·omega
    ·omega
  ·simp only [decide_eq_false_iff_not] at h1
   have e : k = q.length := by omega
   subst e
   rw [List.take_length]
   refine af ?_
   exact aa ⟨⟨_, rfl, by simp only [go_sem, List.take_length]⟩, trivial⟩
end Go.Proofs.YtddimbdeggomaaaGreat
end
