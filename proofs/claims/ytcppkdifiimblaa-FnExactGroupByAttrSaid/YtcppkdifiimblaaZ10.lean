/- Joined texts. -/
import Derived.Test.YtcppkdifiimblaaZ09
import Derived.Test.YtcppkdifiimblaaZ07
import Derived.Test.YtcppkdifiimblaaZ08
set_option linter.all false
section
set_option maxRecDepth 100000
set_option maxHeartbeats 4000000
namespace Go.Proofs.Ytcppkdifiimblaa
open Go Go.Sx Go.RowKit Go.Proofs Go.Sort Go.Sym
def swrF (a b : Nat) : Nat → Array aB → Array aB
 | 0, d => d
 | n + 1, d => swp (swrF a b n d) (a + n) (b + n)
theorem gU (a b : Nat) (d : Array aB) : ∀ n, (swrF a b n d).size = d.size
 | 0 => rfl
 | n + 1 => by unfold swrF; rw [swp_size, gU a b d n]
theorem tO {a b : Nat} (d : Array aB) : ∀ n, a + n ≤ b → b + n ≤ d.size → Swr a b n d (swrF a b n d)
 | 0, _, _ => Swr.zero a b d
 | n + 1, h1, h2 => (tO d n (by omega) (by omega)).step (by omega) (by omega)
theorem vW (d : Array aB) (a b n : Nat) (hab : a + n ≤ b) (hb : b + n ≤ d.size) (hsz : d.size ≤ 1048576) (h0 : 0 < d.size) :
    FnI Try.prog 69 55 4 (aP d) [oi a, oi b, oi n, .o (.f 28 [])] true (aP (swrF a b n d)) := by
 refine a3v Try.func69 rfl Try.call69 rfl (bA d) (bA _) (by rw [bG, bG]; exact gU a b d n) (fun h1 => absurd (eF h1) (by omega)) (fun hne C y => ?_)
 simp only [go_sem, Try.ntmps69]
 refine aL ?_
 refine bE (α := Nat) (fun i => [(10, oi i)]) (fun i => [(0, .row 55 4 (aP (swrF a b i d)) true)]) (fun i => i ≤ n) (fun i => n - i) 0 (fun _ => ?_) ?_ ?_ (fun i hi => ?_)
 ·simp only [go_sem]
 ·simp only [go_sem]; simp [swrF]
 ·simp
 ·simp only [go_sem]
  by_cases hlt : i < n
  ·have hlt' : ((i : Int) < (n : Int)) = True := by simp [hlt]
   have hz := gU a b d i
   have hnx : swrF a b (i + 1) d = swp (swrF a b i d) (a + i) (b + i) := rfl
   generalize swrF a b i d = dk at *
   have he1 : (a : Int) + (i : Int) = ((a + i : Nat) : Int) := by omega
   have he2 : (b : Int) + (i : Int) = ((b + i : Nat) : Int) := by omega
   have l1 : a + i < dk.toList.length := by simp; omega
   have l2 : b + i < dk.toList.length := by simp; omega
   have hsw := mR dk (a + i) (b + i) l1 l2
   simp only [fO] at hsw
   have hrw : ∀ (L : List (List D)) (r : List D), bS (L.set (a + i) r) (b + i) = bS L (b + i) := fun L r => tK L (by omega) r
   simp only [aP]
   repeat' (with_reducible first | refine nY ?_ | (refine mX ?_; try simp only [go_sem, hlt', he1, he2, l1, l2, decide_true, List.length_set, hrw]) | refine kO ?_ (by decide) | (apply rE [21,23] [] [0,1,2,3,4,5,6,7,8,9,10,11,12,13,14,15,16,17,18,19,20] [0,1,2,3,4,5,6,7,8,9,10,11,12,13,14,15,16,17,18,19,20] ((.c 21 [22] [4,5,6,7,22] (.c 23 [] [] .n .n) .n)) (by simp only [go_sem]; rfl) (by simp only [go_sem]; rfl) (by simp only [go_sem]; rfl) (by decide +kernel); (focus simp only [go_sem]; done)) | exact fU | (refine dZ (uX ?_) ?_) | refine eB (aX ?_) ?_ | refine eD (aX ?_) ?_ | exact gJ | (refine oG ?_; (focus simp only [go_sem]; done)) | (refine uA ?_; simp only [go_sem, hlt', he1, he2, l1, l2, decide_true, List.length_set, hrw]; (repeat' first | omega | refine And.intro ?_ ?_); done) | refine regd (by kernel_rfl) ?_ | (refine And.intro ?_ ?_; focus omega))
   refine aQ (i + 1) ?_ ?_ ?_
   ·simp only [go_sem, hnx]; simp
    exact hsw
   ·exact hlt
   ·omega
  ·have hlt' : ((i : Int) < (n : Int)) = False := by simp [hlt]
   have e : i = n := by omega
   subst e
   have q0 := @hlt'; have q1 := @decide_false; refine jD ?_
   exact aF rfl rfl
def rotF (a m b : Nat) (d : Array aB) : Array aB := Array.ofFn fun t : Fin d.size => rotG a m b d t
theorem dL (a m b : Nat) (d : Array aB) : (rotF a m b d).size = d.size := by simp [rotF]
theorem mW {a m b : Nat} {d : Array aB} (h1 : a ≤ m) (h2 : m ≤ b) (h3 : b ≤ d.size) : Rot a m b d (rotF a m b d) := by
 refine ⟨dL a m b d, fun t => ?_⟩
 by_cases ht : t < d.size
 ·rw [getElem!_pos _ t (by rw [dL]; exact ht)]
  simp [rotF]
 ·rw [getElem!_neg _ t (by rw [dL]; exact ht)]
  unfold rotG
  rw [if_neg (by omega), if_neg (by omega), getElem!_neg _ t ht]
theorem qC {a m b : Nat} {d d' : Array aB} (h1 : a ≤ m) (h2 : m ≤ b) (h3 : b ≤ d.size) (hz : d'.size = d.size) (h : ∀ t, d'[t]! = rotG a m b d t) : d' = rotF a m b d := by
 refine Array.ext (by rw [hz, dL]) fun t q1 q2 => ?_
 have e1 := h t
 have e2 := (mW h1 h2 h3).at_ t
 rw [getElem!_pos _ t q1] at e1
 rw [getElem!_pos _ t q2] at e2
 rw [e1, e2]
theorem a3E (d : Array aB) (a m b : Nat) (ham : a < m) (hmb : m < b) (hb : b ≤ d.size) (hsz : d.size ≤ 1048576) :
    FnI Try.prog 65 55 4 (aP d) [oi a, oi m, oi b, .o (.f 28 [])] true (aP (rotF a m b d)) := by
 refine a3v Try.func65 rfl Try.call65 rfl (bA d) (bA _) (by rw [bG, bG]; exact dL a m b d) (fun h1 => absurd (eF h1) (by omega)) (fun hne C y => ?_)
 simp only [go_sem, Try.ntmps65]
 have e1 : (m : Int) - (a : Int) = ((m - a : Nat) : Int) := by omega
 have e2 : (b : Int) - (m : Int) = ((b - m : Nat) : Int) := by omega
 have q0 := @e1; have q1 := @e2; refine jD ?_
 refine bE (α := Nat × Nat × Array aB) (fun x => [(10, oi x.1), (11, oi x.2.1)]) (fun x => [(0, .row 55 4 (aP x.2.2) true)]) (fun x => 0 < x.1 ∧ 0 < x.2.1 ∧ x.1 ≤ m ∧ a ≤ m - x.1 ∧ m + x.2.1 ≤ b ∧ x.2.2.size = d.size ∧ ∀ t, rotG (m - x.1) m (m + x.2.1) x.2.2 t = rotG a m b d t) (fun x => x.1 + x.2.1) (m - a, b - m, d) (fun _ => ?_) ?_ ?_ (fun x hx => ?_)
 ·simp only [go_sem]
 ·simp only [go_sem]; simp
 ·refine ⟨by simp only; omega, by simp only; omega, by simp only; omega, by simp only; omega, by simp only; omega, rfl, fun t => ?_⟩
  simp only
  rw [show m - (m - a) = a by omega, show m + (b - m) = b by omega]
 ·obtain ⟨i, j, dk⟩ := x
  obtain ⟨h1, h2, h3, h4, h5, h6, h7⟩ := hx
  simp only at h1 h2 h3 h4 h5 h6 h7
  simp only [go_sem]
  have he : (m : Int) - (i : Int) = ((m - i : Nat) : Int) := by omega
  by_cases hij : i = j
  ·subst hij
   have hsw := vW dk (m - i) m i (by omega) (by omega) (by omega) (by omega)
   have hfin : swrF (m - i) m i dk = rotF a m b d := qC (by omega) (by omega) (by omega) (by rw [gU]; exact h6) fun t => by
    rw [a5i (tO dk i (by omega) (by omega)) h3 t, h7 t]
   rw [hfin] at hsw
   have qH := aI @he @decide_true; repeat' (with_reducible first | refine nY ?_ | (refine mX ?_; try simp only [go_sem, qH]) | refine kD ?_ | refine rD ?_ | refine vI hsw ?_ | refine vJ hsw ?_ | refine aO ?_ | fail)
   exact aF rfl rfl
  ·have hne : decide ((i : Int) = (j : Int)) = false := by simp only [decide_eq_false_iff_not]; omega
   by_cases hgt : j < i
   ·have hg : decide ((j : Int) < (i : Int)) = true := by simp only [decide_eq_true_eq]; omega
    have hsw := vW dk (m - i) m j (by omega) (by omega) (by omega) (by omega)
    have hrt := fun t => a5h (tO (a := m - i) (b := m) dk j (by omega) (by omega)) h3 hgt t
    have hz := gU (m - i) m dk j
    generalize swrF (m - i) m j dk = d2 at *
    have he2 : (i : Int) - (j : Int) = ((i - j : Nat) : Int) := by omega
    have qH := aI @he (aI @hne (aI @hg @he2)); repeat' (with_reducible first | refine nY ?_ | (refine mX ?_; try simp only [go_sem, qH]) | refine kD ?_ | refine rD ?_ | refine vI hsw ?_ | refine vJ hsw ?_ | refine aO ?_ | fail)
    refine aQ (i - j, j, d2) ?_ ?_ ?_
    ·simp only [go_sem]; simp
    ·exact ⟨by simp only; omega, h2, by simp only; omega, by simp only; omega, h5, by rw [← h6, ← hz], fun t => by simp only; rw [hrt t, h7 t]⟩
    ·simp only; omega
   ·have hg : decide ((j : Int) < (i : Int)) = false := by simp only [decide_eq_false_iff_not]; omega
    have hsw := vW dk (m - i) (m + j - i) i (by omega) (by omega) (by omega) (by omega)
    have hrt := fun t => a3G (tO (a := m - i) (b := m + j - i) dk i (by omega) (by omega)) h3 (show i < j by omega) t
    have hz := gU (m - i) (m + j - i) dk i
    generalize swrF (m - i) (m + j - i) i dk = d2 at *
    have he2 : (j : Int) - (i : Int) = ((j - i : Nat) : Int) := by omega
    have he3 : (m : Int) + (j : Int) - (i : Int) = ((m + j - i : Nat) : Int) := by omega
    have qH := aI @he (aI @hne (aI @hg (aI @he2 @he3))); repeat' (with_reducible first | refine nY ?_ | (refine mX ?_; try simp only [go_sem, qH]) | refine kD ?_ | refine rD ?_ | refine vI hsw ?_ | refine vJ hsw ?_ | refine aO ?_ | fail)
    refine aQ (i, j - i, d2) ?_ ?_ ?_
    ·simp only [go_sem]; simp
    ·exact ⟨h1, by simp only; omega, h3, h4, by simp only; omega, by rw [← h6, ← hz], fun t => by simp only; rw [hrt t, h7 t]⟩
    ·simp only; omega
def bsr (p : Nat → Bool) (i j : Nat) : Nat := if i < j then (if p ((i + j) / 2) then bsr p ((i + j) / 2 + 1) j else bsr p i ((i + j) / 2)) else i
termination_by j - i
decreasing_by all_goals omega
theorem a2M {p : Nat → Bool} {i j : Nat} (h : i < j) (hp : p ((i + j) / 2) = true) : bsr p ((i + j) / 2 + 1) j = bsr p i j := by
 conv => rhs; rw [bsr]
 rw [if_pos h, if_pos hp]
theorem a2N {p : Nat → Bool} {i j : Nat} (h : i < j) (hp : p ((i + j) / 2) = false) : bsr p i ((i + j) / 2) = bsr p i j := by
 conv => rhs; rw [bsr]
 rw [if_pos h, hp]; rfl
theorem lY {p : Nat → Bool} {i j : Nat} (h : ¬ i < j) : bsr p i j = i := by rw [bsr, if_neg h]
theorem gG (p : Nat → Bool) : ∀ n i j, j - i ≤ n → i ≤ j → i ≤ bsr p i j ∧ bsr p i j ≤ j ∧ (bsr p i j = i ∨ p (bsr p i j - 1) = true) ∧ (bsr p i j = j ∨ p (bsr p i j) = false)
 | 0, i, j, h, hij => by rw [lY (by omega)]; exact ⟨Nat.le_refl _, hij, Or.inl rfl, Or.inl (by omega)⟩
 | n + 1, i, j, h, hij => by
  by_cases c : i < j
  ·cases hp : p ((i + j) / 2)
   ·rw [← a2N c hp]
    obtain ⟨h1, h2, h3, h4⟩ := gG p n i ((i + j) / 2) (by omega) (by omega)
    refine ⟨h1, by omega, h3, ?_⟩
    rcases h4 with h4 | h4
    ·rw [h4]; exact Or.inr hp
    ·exact Or.inr h4
   ·rw [← a2M c hp]
    obtain ⟨h1, h2, h3, h4⟩ := gG p n ((i + j) / 2 + 1) j (by omega) (by omega)
    refine ⟨by omega, h2, ?_, h4⟩
    rcases h3 with h3 | h3
    ·rw [h3, Nat.add_sub_cancel]; exact Or.inr hp
    ·exact Or.inr h3
  ·rw [lY c]; exact ⟨Nat.le_refl _, hij, Or.inl rfl, Or.inl (by omega)⟩
theorem a5g (a : Nat) (d : Array aB) (h : a + 1 ≤ d.size) : rotF a (a + 1) (a + 1) d = d := (qC (by omega) (by omega) h rfl (Rot.up0 a d).at_).symm
theorem a6f {a k : Nat} {d : Array aB} (hk : a ≤ k) (hs : k + 1 < d.size) : rotF a (a + 1) (k + 1 + 1) d = swp (rotF a (a + 1) (k + 1) d) k (k + 1) := by
 have h := (mW (a := a) (m := a + 1) (b := k + 1) (d := d) (by omega) (by omega) (by omega)).up hk hs
 exact (qC (by omega) (by omega) (by omega) h.size h.at_).symm
theorem a2d (m : Nat) (d : Array aB) (h : m + 1 ≤ d.size) : rotF m m (m + 1) d = d := (qC (by omega) (by omega) h rfl (Rot.down0 m d).at_).symm
theorem a3D {k m : Nat} {d : Array aB} (hk : k + 1 ≤ m) (hs : m < d.size) : rotF k m (m + 1) d = swp (rotF (k + 1) m (m + 1) d) (k + 1) k := by
 have h := (mW (a := k + 1) (m := m) (b := m + 1) (d := d) (by omega) (by omega) (by omega)).down hk hs
 exact (qC (by omega) (by omega) (by omega) h.size h.at_).symm
theorem qB (x y : Nat) : a5F .u64 ((x : Int) + (y : Int)) 1 = (((x + y) / 2 : Nat) : Int) := by
 unfold a5F
 rw [show min (1 : Int).toNat IntKind.u64.bits = 1 from rfl]
 rw [Int.fdiv_eq_ediv_of_nonneg _ (by decide)]
 omega
structure SymPlan (d : Array aB) (a m b : Nat) (s e mid : Nat) (d1 : Array aB) : Prop where
 lo : a ≤ s
 smid : s ≤ mid
 mide : mid ≤ e
 eb : e ≤ b
 z : d1.size = d.size
 p : PermIn a b d d1
 t : Turned ltO a s mid e b d1
def symStart (m mid b a : Nat) : Nat := if mid < m then mid + m - b else a
def symR (m mid : Nat) : Nat := if mid < m then mid else m
def sH (d : Array aB) (n c : Nat) : Bool := !(ltO d[n - 1 - c]! d[c]!)
def symS (d : Array aB) (a m b : Nat) : Nat := bsr (sH d ((a + b) / 2 + m)) (symStart m ((a + b) / 2) b a) (symR m ((a + b) / 2))
def symE (d : Array aB) (a m b : Nat) : Nat := (a + b) / 2 + m - symS d a m b
def symD (d : Array aB) (a m b : Nat) : Array aB := if symS d a m b < m ∧ m < symE d a m b then rotF (symS d a m b) m (symE d a m b) d else d
theorem a6g (hS : SWO ltO) {d : Array aB} {a m b : Nat} (ham : a < m) (hmb : m < b) (hb : b ≤ d.size) (h1 : SortedIn ltO a m d) (h2 : SortedIn ltO m b d) :
    SymPlan d a m b (symS d a m b) (symE d a m b) ((a + b) / 2) (symD d a m b) := by
 have hm1 : a ≤ (a + b) / 2 := by omega
 have hm2 : (a + b) / 2 ≤ b := by omega
 have hm3 : 2 * ((a + b) / 2) ≤ a + b := by omega
 have hm4 : a + b ≤ 2 * ((a + b) / 2) + 1 := by omega
 have hsp := gG (sH d ((a + b) / 2 + m)) (symR m ((a + b) / 2) - symStart m ((a + b) / 2) b a) (symStart m ((a + b) / 2) b a) (symR m ((a + b) / 2)) (Nat.le_refl _) (by unfold symR symStart; split <;> omega)
 rw [show bsr (sH d ((a + b) / 2 + m)) (symStart m ((a + b) / 2) b a) (symR m ((a + b) / 2)) = symS d a m b from rfl] at hsp
 have he : symE d a m b = (a + b) / 2 + m - symS d a m b := rfl
 unfold symD
 generalize symS d a m b = s at *
 generalize symE d a m b = e at *
 generalize (a + b) / 2 = mid at *
 obtain ⟨q1, q2, q3, q4⟩ := hsp
 have b1 : a ≤ s ∧ s ≤ mid ∧ s ≤ m ∧ e ≤ b ∧ m ≤ e := by
  unfold symStart at q1
  unfold symR at q2
  split at q1 <;> split at q2 <;> refine ⟨?_, ?_, ?_, ?_, ?_⟩ <;> omega
 obtain ⟨b1, b2, b3, b4, b5⟩ := b1
 have hP : Parts ltO a s m e b d := by
  refine ⟨b1, b3, b5, b4, ?_, ?_⟩
  ·rcases q3 with q3 | q3
   ·unfold symStart at q3
    split at q3
    ·exact Or.inr (Or.inl (by omega))
    ·exact Or.inl q3
   ·by_cases hsa : s = a
    ·exact Or.inl hsa
    ·unfold sH at q3
     rw [Bool.not_eq_true'] at q3
     rw [show mid + m - 1 - (s - 1) = e by omega] at q3
     exact Or.inr (Or.inr q3)
  ·rcases q4 with q4 | q4
   ·unfold symR at q4
    split at q4
    ·exact Or.inr (Or.inl (by omega))
    ·exact Or.inl q4
   ·unfold sH at q4
    rw [Bool.not_eq_false'] at q4
    rw [show mid + m - 1 - s = e - 1 by omega] at q4
    exact Or.inr (Or.inr q4)
 have hR : Rot s m e d (if s < m ∧ m < e then rotF s m e d else d) := by
  split
  ·exact mW b3 b5 (by omega)
  ·by_cases c : s = m
   ·rw [c]; exact Rot.id_left d
   ·have : e = m := by omega
    rw [this]; exact Rot.id_right d
 exact ⟨b1, b2, by omega, b4, hR.size, hR.perm b1 b3 b5 b4 hb, hP.turned hS h1 h2 hR (by omega)⟩
theorem a7o (hS : SWO ltO) {d : Array aB} {a m b : Nat} (ham : a < m) (hmb : m < b) (hb : b ≤ d.size) (h1 : SortedIn ltO a m d) (h2 : SortedIn ltO m b d) : symS d a m b ≤ m ∧ m ≤ symE d a m b := by
 have hsp := gG (sH d ((a + b) / 2 + m)) (symR m ((a + b) / 2) - symStart m ((a + b) / 2) b a) (symStart m ((a + b) / 2) b a) (symR m ((a + b) / 2)) (Nat.le_refl _) (by unfold symR symStart; split <;> omega)
 rw [show bsr (sH d ((a + b) / 2 + m)) (symStart m ((a + b) / 2) b a) (symR m ((a + b) / 2)) = symS d a m b from rfl] at hsp
 have he : symE d a m b = (a + b) / 2 + m - symS d a m b := rfl
 obtain ⟨q1, q2, _, _⟩ := hsp
 generalize symS d a m b = s at *
 generalize symE d a m b = e at *
 unfold symR at q2
 split at q2 <;> exact ⟨by omega, by omega⟩
end Go.Proofs.Ytcppkdifiimblaa
end
section
set_option maxRecDepth 100000
set_option maxHeartbeats 4000000
namespace Go.Proofs.Ytcppkdifiimblaa
namespace Opq
open Go Go.Sx Go.RowKit Go.Proofs Go.Sort Go.Sym
theorem a7n {f ty sz : Nat} {fn : Func} {c : Code} {rows rows' : List (List D)} {args : List SV} (hf : Try.prog.funcs[f]? = some fn) (hb : fn.body = some c) (hcall : ∀ x w, (callFunc f x).run Try.prog w = .ok (.enter f x) w) (hres : fn.results = #[])
    (hfl : eO rows = true) (hfl' : eO rows' = true) (hlen : rows'.length = rows.length) (h0 : rows = [] → FnC Try.prog f (.o (.d (.sl [])) :: args) (.t []))
    (h : rows ≠ [] → ∀ (C : Ctx) (y : Value), WP Try.prog C c (aS Try.prog C [] (a4q ty sz rows' y)) (stI ty sz rows y args fn.ntmps)) : FnI Try.prog f ty sz rows args true rows' := FnI.of_wp (eqk := eqk) ttOK hf hb hcall hres hfl hfl' hlen h0 h
theorem sym_first (d : Array aB) (a b r : Nat) (hb : b ≤ d.size) (hab : a + 1 ≤ b) (hsz : d.size ≤ 1048576) (hr : bsr (fun h => ltO d[h]! d[a]!) (a + 1) b = r) :
    FnI Try.prog 59 55 4 (aP d) [oi a, oi (a + 1 : Nat), oi b, .o (.f 28 [])] true (aP (rotF a (a + 1) r d)) := by
 have hsp := gG (fun h => ltO d[h]! d[a]!) (b - (a + 1)) (a + 1) b (Nat.le_refl _) hab
 rw [hr] at hsp
 obtain ⟨hr1, hr2, _, _⟩ := hsp
 refine a7n Try.func59 rfl Try.call59 rfl (bA d) (bA _) (by rw [bG, bG]; exact dL _ _ _ d) (fun h1 => absurd (eF h1) (by omega)) (fun hne C y => ?_)
 simp only [go_sem, Try.ntmps59]
 have e0 : ((a + 1 : Nat) : Int) - (a : Int) = 1 := by omega
 have q0 := @e0; have q1 := @decide_true; refine jD ?_
 refine bE (α := Nat × Nat) (fun x => [(10, oi x.1), (11, oi x.2)]) (fun _ => []) (fun x => a + 1 ≤ x.1 ∧ x.1 ≤ x.2 ∧ x.2 ≤ b ∧ bsr (fun h => ltO d[h]! d[a]!) x.1 x.2 = r) (fun x => x.2 - x.1) (a + 1, b) (fun _ => ?_) ?_ ?_ (fun x hx => ?_)
 ·simp only [go_sem]
 ·simp only [go_sem]; simp
 ·exact ⟨Nat.le_refl _, hab, Nat.le_refl _, hr⟩
 ·obtain ⟨i, j⟩ := x
  obtain ⟨h1, h2, h3, h4⟩ := hx
  simp only at h1 h2 h3 h4
  simp only [go_sem]
  by_cases hlt : i < j
  ·have hlt' : ((i : Int) < (j : Int)) = True := by simp [hlt]
   have hh := qB i j
   have ht := a2M (p := fun h => ltO d[h]! d[a]!) hlt
   have hf := a2N (p := fun h => ltO d[h]! d[a]!) hlt
   rw [h4] at ht hf
   have b1 : i ≤ (i + j) / 2 := by omega
   have b2 : (i + j) / 2 < j := by omega
   generalize (i + j) / 2 = h at *
   have l1 : h < d.toList.length := by simp; omega
   have l0 : a < d.toList.length := by simp; omega
   have hc := tL d.toList[h] d.toList[a]
   simp only [aP]
   have qH := aI @hlt' (aI @hh (aI @l1 (aI @l0 @decide_true))); repeat' (with_reducible first | refine nY ?_ | (refine mX ?_; try simp only [go_sem, qH]) | refine kD ?_ | refine rT [10] [] ?_ | refine iW (aX ?_) (uX ?_) | refine lQ (aX ?_) ?_ | (refine uA ?_; simp only [go_sem, qH]; (repeat' first | omega | refine And.intro ?_ ?_ | refine cP hc ?_ | (refine mX ?_; simp only [go_sem, qH] <;> fail)); done) | refine rD ?_ | refine cP hc ?_ | refine aO ?_ | fail)
   refine cnd (b := ltO d.toList[h] d.toList[a]) rfl (fun h5 => ?_) (fun h5 => ?_)
   ·rw [bO, bO] at h5
    refine aL ?_
    refine aQ (h + 1, j) ?_ ?_ ?_
    ·simp only [go_sem]; simp [aP]
    ·exact ⟨by simp only; omega, by simp only; omega, h3, ht h5⟩
    ·simp only; omega
   ·rw [bO, bO] at h5
    refine aL ?_
    refine aQ (i, h) ?_ ?_ ?_
    ·simp only [go_sem]; simp [aP]
    ·exact ⟨h1, b1, by simp only; omega, hf h5⟩
    ·simp only; omega
  ·have hlt' : ((i : Int) < (j : Int)) = False := by simp [hlt]
   have hir : i = r := by rw [lY hlt] at h4; exact h4
   subst hir
   have hu0 := a5g a d (by omega)
   have q0 := @hlt'; have q1 := @decide_false; refine jD ?_
   refine bE (α := Nat) (fun k => [(13, oi k)]) (fun k => [(0, .row 55 4 (aP (rotF a (a + 1) (k + 1) d)) true)]) (fun k => a ≤ k ∧ k + 1 ≤ i) (fun k => i - k) a (fun _ => ?_) ?_ ?_ (fun k hk => ?_)
   ·simp only [go_sem]
   ·simp only [go_sem, hu0]; simp
   ·exact ⟨Nat.le_refl _, h1⟩
   ·simp only [go_sem]
    have ei : (i : Int) - 1 = ((i - 1 : Nat) : Int) := by omega
    by_cases hkl : k < i - 1
    ·have hkl' : ((k : Int) < ((i - 1 : Nat) : Int)) = True := by simp only [eq_iff_iff, iff_true]; omega
     have hz := dL a (a + 1) (k + 1) d
     have hup := a6f (a := a) (k := k) (d := d) hk.1 (by omega)
     generalize rotF a (a + 1) (k + 1) d = dk at *
     have he1 : (k : Int) + 1 = ((k + 1 : Nat) : Int) := by omega
     have l1 : k < dk.toList.length := by simp; omega
     have l2 : k + 1 < dk.toList.length := by simp; omega
     have hsw := mR dk k (k + 1) l1 l2
     simp only [fO] at hsw
     have hrw : ∀ (L : List (List D)) (r : List D), bS (L.set k r) (k + 1) = bS L (k + 1) := fun L r => tK L (by omega) r
     simp only [aP]
     repeat' (with_reducible first | refine nY ?_ | (refine mX ?_; try simp only [go_sem, ei, hkl', he1, l1, l2, decide_true, List.length_set, hrw]) | refine kO ?_ (by decide) | (apply rE [15,17] [] [0,1,2,3,4,5,6,7,8,9,10,11,12,13,14] [0,1,2,3,4,5,6,7,8,9,10,11,12,13,14] ((.c 15 [16] [2,3,4,16] (.c 17 [] [] .n .n) .n)) (by simp only [go_sem]; rfl) (by simp only [go_sem]; rfl) (by simp only [go_sem]; rfl) (by decide +kernel); (focus simp only [go_sem]; done)) | exact fU | (refine dZ (uX ?_) ?_) | refine eB (aX ?_) ?_ | refine eD (aX ?_) ?_ | exact gJ | (refine oG ?_; (focus simp only [go_sem]; done)) | (refine uA ?_; simp only [go_sem, ei, hkl', he1, l1, l2, decide_true, List.length_set, hrw]; (repeat' first | omega | refine And.intro ?_ ?_); done) | refine regd (by kernel_rfl) ?_ | (refine And.intro ?_ ?_; focus omega))
     refine aQ (k + 1) ?_ ?_ ?_
     ·simp only [go_sem, hup]; simp
      exact hsw
     ·exact ⟨by omega, by omega⟩
     ·omega
    ·have hkl' : ((k : Int) < ((i - 1 : Nat) : Int)) = False := by simp only [eq_iff_iff, iff_false]; omega
     have hki : k + 1 = i := by omega
     have q0 := @ei; have q1 := @hkl'; have q2 := @decide_false; refine a1C ?_
     rw [hki]
     exact a0w rfl rfl
theorem sym_last (d : Array aB) (a m r : Nat) (hb : m + 1 ≤ d.size) (ham : a ≤ m) (ha2 : ¬ m = a + 1) (hsz : d.size ≤ 1048576) (hr : bsr (fun h => !(ltO d[m]! d[h]!)) a m = r) :
    FnI Try.prog 59 55 4 (aP d) [oi a, oi m, oi (m + 1 : Nat), .o (.f 28 [])] true (aP (rotF r m (m + 1) d)) := by
 have hsp := gG (fun h => !(ltO d[m]! d[h]!)) (m - a) a m (Nat.le_refl _) ham
 rw [hr] at hsp
 obtain ⟨hr1, hr2, _, _⟩ := hsp
 refine a7n Try.func59 rfl Try.call59 rfl (bA d) (bA _) (by rw [bG, bG]; exact dL _ _ _ d) (fun h1 => absurd (eF h1) (by omega)) (fun hne C y => ?_)
 simp only [go_sem, Try.ntmps59]
 have e0 : decide ((m : Int) - (a : Int) = 1) = false := by simp only [decide_eq_false_iff_not]; omega
 have e1 : ((m + 1 : Nat) : Int) - (m : Int) = 1 := by omega
 have q0 := @e0; have q1 := @e1; have q2 := @decide_true; refine a1C ?_
 refine bE (α := Nat × Nat) (fun x => [(14, oi x.1), (15, oi x.2)]) (fun _ => []) (fun x => a ≤ x.1 ∧ x.1 ≤ x.2 ∧ x.2 ≤ m ∧ bsr (fun h => !(ltO d[m]! d[h]!)) x.1 x.2 = r) (fun x => x.2 - x.1) (a, m) (fun _ => ?_) ?_ ?_ (fun x hx => ?_)
 ·simp only [go_sem]
 ·simp only [go_sem]; simp
 ·exact ⟨Nat.le_refl _, ham, Nat.le_refl _, hr⟩
 ·obtain ⟨i, j⟩ := x
  obtain ⟨h1, h2, h3, h4⟩ := hx
  simp only at h1 h2 h3 h4
  simp only [go_sem]
  by_cases hlt : i < j
  ·have hlt' : ((i : Int) < (j : Int)) = True := by simp [hlt]
   have hh := qB i j
   have ht := a2M (p := fun h => !(ltO d[m]! d[h]!)) hlt
   have hf := a2N (p := fun h => !(ltO d[m]! d[h]!)) hlt
   rw [h4] at ht hf
   have b1 : i ≤ (i + j) / 2 := by omega
   have b2 : (i + j) / 2 < j := by omega
   generalize (i + j) / 2 = h at *
   have l1 : h < d.toList.length := by simp; omega
   have l0 : m < d.toList.length := by simp; omega
   have hc := tL d.toList[m] d.toList[h]
   simp only [aP]
   have qH := aI @hlt' (aI @hh (aI @l1 (aI @l0 @decide_true))); repeat' (with_reducible first | refine nY ?_ | (refine mX ?_; try simp only [go_sem, qH]) | refine kD ?_ | refine rT [11] [] ?_ | refine iW (aX ?_) (uX ?_) | refine lQ (aX ?_) ?_ | (refine uA ?_; simp only [go_sem, qH]; (repeat' first | omega | refine And.intro ?_ ?_ | refine cP hc ?_ | (refine mX ?_; simp only [go_sem, qH] <;> fail)); done) | refine rD ?_ | refine cP hc ?_ | refine aO ?_ | fail)
   refine cnd (b := !(ltO d.toList[m] d.toList[h])) rfl (fun h5 => ?_) (fun h5 => ?_)
   ·rw [bO, bO] at h5
    refine aL ?_
    refine aQ (h + 1, j) ?_ ?_ ?_
    ·simp only [go_sem]; simp [aP]
    ·exact ⟨by simp only; omega, by simp only; omega, h3, ht h5⟩
    ·simp only; omega
   ·rw [bO, bO] at h5
    refine aL ?_
    refine aQ (i, h) ?_ ?_ ?_
    ·simp only [go_sem]; simp [aP]
    ·exact ⟨h1, b1, by simp only; omega, hf h5⟩
    ·simp only; omega
  ·have hlt' : ((i : Int) < (j : Int)) = False := by simp [hlt]
   have hir : i = r := by rw [lY hlt] at h4; exact h4
   subst hir
   have hu0 := a2d m d hb
   have q0 := @hlt'; have q1 := @decide_false; refine jD ?_
   refine bE (α := Nat) (fun k => [(17, oi k)]) (fun k => [(0, .row 55 4 (aP (rotF k m (m + 1) d)) true)]) (fun k => i ≤ k ∧ k ≤ m) (fun k => k) m (fun _ => ?_) ?_ ?_ (fun k hk => ?_)
   ·simp only [go_sem]
   ·simp only [go_sem, hu0]; simp
   ·exact ⟨hr2, Nat.le_refl _⟩
   ·simp only [go_sem]
    by_cases hkl : i < k
    ·obtain ⟨kp, rfl⟩ : ∃ kp, k = kp + 1 := ⟨k - 1, by omega⟩
     have hkl' : ((i : Int) < ((kp + 1 : Nat) : Int)) = True := by simp only [eq_iff_iff, iff_true]; omega
     have hz := dL (kp + 1) m (m + 1) d
     have hup := a3D (k := kp) (m := m) (d := d) hk.2 (by omega)
     generalize rotF (kp + 1) m (m + 1) d = dk at *
     have he1 : ((kp + 1 : Nat) : Int) - 1 = (kp : Int) := by omega
     have l1 : kp + 1 < dk.toList.length := by simp; omega
     have l2 : kp < dk.toList.length := by simp; omega
     have hsw := mR dk (kp + 1) kp l1 l2
     simp only [fO] at hsw
     have hrw : ∀ (L : List (List D)) (r : List D), bS (L.set (kp + 1) r) kp = bS L kp := fun L r => tK L (by omega) r
     simp only [aP]
     repeat' (with_reducible first | refine nY ?_ | (refine mX ?_; try simp only [go_sem, hkl', he1, l1, l2, decide_true, List.length_set, hrw]) | refine kO ?_ (by decide) | (apply rE [15,17] [] [0,1,2,3,4,5,6,7,8,9,10,11,12,13,14] [0,1,2,3,4,5,6,7,8,9,10,11,12,13,14] ((.c 15 [16] [2,3,4,16] (.c 17 [] [] .n .n) .n)) (by simp only [go_sem]; rfl) (by simp only [go_sem]; rfl) (by simp only [go_sem]; rfl) (by decide +kernel); (focus simp only [go_sem]; done)) | exact fU | (refine dZ (uX ?_) ?_) | refine eB (aX ?_) ?_ | refine eD (aX ?_) ?_ | exact gJ | (refine oG ?_; (focus simp only [go_sem]; done)) | (refine uA ?_; simp only [go_sem, hkl', he1, l1, l2, decide_true, List.length_set, hrw]; (repeat' first | omega | refine And.intro ?_ ?_); done) | refine regd (by kernel_rfl) ?_ | (refine And.intro ?_ ?_; focus omega))
     refine aQ kp ?_ ?_ ?_
     ·simp only [go_sem, hup]; simp
      exact hsw
     ·exact ⟨by omega, by omega⟩
     ·omega
    ·have hkl' : ((i : Int) < (k : Int)) = False := by simp only [eq_iff_iff, iff_false]; omega
     have hki : k = i := by omega
     subst hki
     have q0 := @hkl'; have q1 := @decide_false; refine jD ?_
     exact a0w rfl rfl
end Opq
end Go.Proofs.Ytcppkdifiimblaa
end
section
set_option maxRecDepth 100000
set_option maxHeartbeats 4000000
namespace Go.Proofs.Ytcppkdifiimblaa
namespace Opq
open Go Go.Sx Go.RowKit Go.Proofs Go.Sort Go.Sym
theorem a8p {P : Program} {C : Ctx} {ks : List Kn} {F : Ex → St → Prop} {st : St} {c c2 : Code} (G : St) (h1 : WP P C c (aS P C [] (a0r G (aS P C (.code c2 :: ks) F))) st) (h2 : WP P C c2 (aS P C ks F) G) : WP P C c (aS P C (.code c2 :: ks) F) st := fun g V a w hr =>
 wp_mono (h1 g V a w hr) fun e a w q => by
  cases e with
  | normal =>
   obtain ⟨g, V, s, hs, hle, hok⟩ := q
   exact ⟨_, V, _, hs.forget hle hok, h2⟩
  | exit j => obtain ⟨g, V, s, hs, q⟩ := q; exact ⟨g, V, s, hs, q⟩
  | ret => obtain ⟨g, V, s, hs, q⟩ := q; exact ⟨g, V, s, hs, q⟩
  | goto l => exact q.elim
  | panic ch => exact q.elim
  | outgrown => exact q.elim
theorem a9g {P : Program} {C : Ctx} {ks : List Kn} {F : Ex → St → Prop} {st : St} {x y c2 : Code} {s : SV} {b : Bool} (M : List (Nat × SV)) (H : List (Nat × HB)) (hs : s = .o (.d (.v (.bool b))))
    (h1 : b = true → WP P C x (aS P C [] (a0r (a5P (.cond (.tmp 0) x y) st M H) (aS P C (.code c2 :: ks) F))) st)
    (h1' : b = false → WP P C y (aS P C [] (a0r (a5P (.cond (.tmp 0) x y) st M H) (aS P C (.code c2 :: ks) F))) st)
    (h2 : WP P C c2 (aS P C ks F) (a5P (.cond (.tmp 0) x y) st M H)) : cndK s (WP P C x (aS P C (.code c2 :: ks) F) st) (WP P C y (aS P C (.code c2 :: ks) F) st) ⟨⟩ :=
 cnd hs (fun hb => a8p _ (h1 hb) h2) (fun hb => a8p _ (h1' hb) h2)
theorem sym_main (d d1 d2 d3 : Array aB) (a m b s e mid : Nat) (ham : a + 1 < m) (hmb : m + 1 < b) (hb : b ≤ d.size) (hsz : d.size ≤ 1048576) (hmid : (a + b) / 2 = mid) (hs : symS d a m b = s) (he : symE d a m b = e)
    (q1 : a ≤ s) (q2 : s ≤ mid) (q3 : mid ≤ e) (q4 : e ≤ b) (q5 : s ≤ m) (q6 : m ≤ e) (hz : d3.size = d.size)
    (hR : s < m → m < e → FnI Try.prog 65 55 4 (aP d) [oi s, oi m, oi e, .o (.f 28 [])] true (aP d1)) (hR0 : ¬ (s < m ∧ m < e) → d1 = d)
    (hL : a < s → s < mid → FnI Try.prog 59 55 4 (aP d1) [oi a, oi s, oi mid, .o (.f 28 [])] true (aP d2)) (hL0 : ¬ (a < s ∧ s < mid) → d2 = d1)
    (hT : mid < e → e < b → FnI Try.prog 59 55 4 (aP d2) [oi mid, oi e, oi b, .o (.f 28 [])] true (aP d3)) (hT0 : ¬ (mid < e ∧ e < b) → d3 = d2) :
    FnI Try.prog 59 55 4 (aP d) [oi a, oi m, oi b, .o (.f 28 [])] true (aP d3) := by
 refine a7n Try.func59 rfl Try.call59 rfl (bA d) (bA _) (by rw [bG, bG]; exact hz) (fun h1 => absurd (eF h1) (by omega)) (fun hne C y => ?_)
 simp only [go_sem, Try.ntmps59]
 have e0 : decide ((m : Int) - (a : Int) = 1) = false := by simp only [decide_eq_false_iff_not]; omega
 have e1 : decide ((b : Int) - (m : Int) = 1) = false := by simp only [decide_eq_false_iff_not]; omega
 have hh := qB a b
 rw [hmid] at hh
 have hmid2 : mid = (a + b) / 2 := hmid.symm
 have en : (mid : Int) + (m : Int) = ((mid + m : Nat) : Int) := by omega
 have hS0 : bsr (sH d (mid + m)) (symStart m mid b a) (symR m mid) = s := by rw [← hs, ← hmid]; rfl
 have hE0 : e = mid + m - s := by rw [← he, ← hs, ← hmid]; rfl
 have hst1 : mid < m → symStart m mid b a = mid + m - b ∧ symR m mid = mid := fun h => by unfold symStart symR; rw [if_pos h, if_pos h]; exact ⟨rfl, rfl⟩
 have hst2 : ¬ mid < m → symStart m mid b a = a ∧ symR m mid = m := fun h => by unfold symStart symR; rw [if_neg h, if_neg h]; exact ⟨rfl, rfl⟩
 have hbd : a ≤ symStart m mid b a ∧ symStart m mid b a ≤ symR m mid ∧ symR m mid ≤ m ∧ symR m mid ≤ mid + m ∧ mid + m ≤ symStart m mid b a + b := by
  by_cases c : mid < m
  ·rw [(hst1 c).1, (hst1 c).2]; refine ⟨?_, ?_, ?_, ?_, ?_⟩ <;> omega
  ·rw [(hst2 c).1, (hst2 c).2]; refine ⟨?_, ?_, ?_, ?_, ?_⟩ <;> omega
 have q0 := @e0; have q1 := @e1; have q2 := @hh; have q3 := @en; refine a6O ?_
 refine a9g [(20, oi (symStart m mid b a)), (21, oi (symR m mid))] [] rfl (fun c => ?_) (fun c => ?_) ?_
 ·simp only [decide_eq_true_eq, Int.ofNat_lt] at c
  have en2 : ((mid + m : Nat) : Int) - (b : Int) = ((mid + m - b : Nat) : Int) := by omega
  have q0 := @en2; refine iM ?_
  refine a0s ?_ rfl
  simp only [go_sem, (hst1 c).1, (hst1 c).2]; simp
 ·simp only [decide_eq_false_iff_not, Int.ofNat_lt] at c
  refine aL ?_
  refine a0s ?_ rfl
  simp only [go_sem, (hst2 c).1, (hst2 c).2]; simp
 simp only [go_sem]
 obtain ⟨w1, w2, w3, w4, w5⟩ := hbd
 clear hst1 hst2
 generalize symStart m mid b a = st at *
 generalize symR m mid = rt at *
 have en3 : ((mid + m : Nat) : Int) - 1 = ((mid + m - 1 : Nat) : Int) := by omega
 have q0 := @en3; refine iM ?_
 refine bE (α := Nat × Nat) (fun x => [(20, oi x.1), (21, oi x.2)]) (fun _ => []) (fun x => st ≤ x.1 ∧ x.1 ≤ x.2 ∧ x.2 ≤ rt ∧ bsr (sH d (mid + m)) x.1 x.2 = s) (fun x => x.2 - x.1) (st, rt) (fun _ => ?_) ?_ ?_ (fun x hx => ?_)
 ·simp only [go_sem]
 ·simp only [go_sem]; simp
 ·exact ⟨Nat.le_refl _, w2, Nat.le_refl _, hS0⟩
 ·obtain ⟨i, j⟩ := x
  obtain ⟨h1, h2, h3, h4⟩ := hx
  simp only at h1 h2 h3 h4
  simp only [go_sem]
  by_cases hlt : i < j
  ·have hlt' : ((i : Int) < (j : Int)) = True := by simp [hlt]
   have hk := qB i j
   have ht := a2M (p := sH d (mid + m)) hlt
   have hf := a2N (p := sH d (mid + m)) hlt
   rw [h4] at ht hf
   have b1 : i ≤ (i + j) / 2 := by omega
   have b2 : (i + j) / 2 < j := by omega
   generalize (i + j) / 2 = h at *
   have ep : ((mid + m - 1 : Nat) : Int) - (h : Int) = ((mid + m - 1 - h : Nat) : Int) := by omega
   have hpd : sH d (mid + m) h = !(ltO d[mid + m - 1 - h]! d[h]!) := rfl
   have l1 : h < d.toList.length := by simp; omega
   have l0 : mid + m - 1 - h < d.toList.length := by simp; omega
   generalize mid + m - 1 - h = u at *
   have hc := tL d.toList[u] d.toList[h]
   simp only [aP]
   have qH := aI @hlt' (aI @hk (aI @ep (aI @l1 (aI @l0 @decide_true)))); repeat' (with_reducible first | refine nY ?_ | (refine mX ?_; try simp only [go_sem, qH]) | refine kD ?_ | refine rT [13] [] ?_ | refine iW (aX ?_) (uX ?_) | refine lQ (aX ?_) ?_ | (refine uA ?_; simp only [go_sem, qH]; (repeat' first | omega | refine And.intro ?_ ?_ | refine cP hc ?_ | (refine mX ?_; simp only [go_sem, qH] <;> fail)); done) | refine rD ?_ | refine cP hc ?_ | refine aO ?_ | fail)
   refine cnd (b := !(ltO d.toList[u] d.toList[h])) rfl (fun h5 => ?_) (fun h5 => ?_)
   ·rw [bO, bO, ← hpd] at h5
    refine aL ?_
    refine aQ (h + 1, j) ?_ ?_ ?_
    ·simp only [go_sem]; simp [aP]
    ·exact ⟨by simp only; omega, by simp only; omega, h3, ht h5⟩
    ·simp only; omega
   ·rw [bO, bO, ← hpd] at h5
    refine aL ?_
    refine aQ (i, h) ?_ ?_ ?_
    ·simp only [go_sem]; simp [aP]
    ·exact ⟨h1, b1, by simp only; omega, hf h5⟩
    ·simp only; omega
  ·have hlt' : ((i : Int) < (j : Int)) = False := by simp [hlt]
   have hir : i = s := by rw [lY hlt] at h4; exact h4
   subst hir
   have ee : ((mid + m : Nat) : Int) - (i : Int) = (e : Int) := by omega
   clear hS0 hE0 hs he
   by_cases c0a : i < m
   ·have c0a' : decide ((i : Int) < (m : Int)) = true := by simp only [decide_eq_true_eq]; omega
    by_cases c0b : m < e
    ·have c0b' : decide ((m : Int) < (e : Int)) = true := by simp only [decide_eq_true_eq]; omega
     have x0 := hR c0a c0b
     by_cases c1a : a < i
     ·have c1a' : decide ((a : Int) < (i : Int)) = true := by simp only [decide_eq_true_eq]; omega
      by_cases c1b : i < mid
      ·have c1b' : decide ((i : Int) < (mid : Int)) = true := by simp only [decide_eq_true_eq]; omega
       have x1 := hL c1a c1b
       by_cases c2a : mid < e
       ·have c2a' : decide ((mid : Int) < (e : Int)) = true := by simp only [decide_eq_true_eq]; omega
        by_cases c2b : e < b
        ·have c2b' : decide ((e : Int) < (b : Int)) = true := by simp only [decide_eq_true_eq]; omega
         have x2 := hT c2a c2b
         have qH := aI @hlt' (aI @ee (aI @decide_true (aI @decide_false (aI @c0a' (aI @c0b' (aI @c1a' (aI @c1b' (aI @c2a' @c2b')))))))); repeat' (with_reducible first | refine nY ?_ | (refine mX ?_; try simp only [go_sem, qH]) | refine kD ?_ | refine rD ?_ | refine vI x0 ?_ | refine vJ x0 ?_ | refine vI x1 ?_ | refine vJ x1 ?_ | refine vI x2 ?_ | refine vJ x2 ?_ | refine aO ?_ | fail)
         exact aF rfl rfl
        ·have c2b' : decide ((e : Int) < (b : Int)) = false := by simp only [decide_eq_false_iff_not]; omega
         have x2 := hT0 (fun z => c2b z.2)
         subst x2
         have qH := aI @hlt' (aI @ee (aI @decide_true (aI @decide_false (aI @c0a' (aI @c0b' (aI @c1a' (aI @c1b' (aI @c2a' @c2b')))))))); repeat' (with_reducible first | refine nY ?_ | (refine mX ?_; try simp only [go_sem, qH]) | refine kD ?_ | refine rD ?_ | refine vI x0 ?_ | refine vJ x0 ?_ | refine vI x1 ?_ | refine vJ x1 ?_ | refine aO ?_ | fail)
         exact aF rfl rfl
       ·have c2a' : decide ((mid : Int) < (e : Int)) = false := by simp only [decide_eq_false_iff_not]; omega
        have x2 := hT0 (fun z => c2a z.1)
        subst x2
        have qH := aI @hlt' (aI @ee (aI @decide_true (aI @decide_false (aI @c0a' (aI @c0b' (aI @c1a' (aI @c1b' @c2a'))))))); repeat' (with_reducible first | refine nY ?_ | (refine mX ?_; try simp only [go_sem, qH]) | refine kD ?_ | refine rD ?_ | refine vI x0 ?_ | refine vJ x0 ?_ | refine vI x1 ?_ | refine vJ x1 ?_ | refine aO ?_ | fail)
        exact aF rfl rfl
      ·have c1b' : decide ((i : Int) < (mid : Int)) = false := by simp only [decide_eq_false_iff_not]; omega
       have x1 := hL0 (fun z => c1b z.2)
       subst x1
       by_cases c2a : mid < e
       ·have c2a' : decide ((mid : Int) < (e : Int)) = true := by simp only [decide_eq_true_eq]; omega
        by_cases c2b : e < b
        ·have c2b' : decide ((e : Int) < (b : Int)) = true := by simp only [decide_eq_true_eq]; omega
         have x2 := hT c2a c2b
         have qH := aI @hlt' (aI @ee (aI @decide_true (aI @decide_false (aI @c0a' (aI @c0b' (aI @c1a' (aI @c1b' (aI @c2a' @c2b')))))))); repeat' (with_reducible first | refine nY ?_ | (refine mX ?_; try simp only [go_sem, qH]) | refine kD ?_ | refine rD ?_ | refine vI x0 ?_ | refine vJ x0 ?_ | refine vI x2 ?_ | refine vJ x2 ?_ | refine aO ?_ | fail)
         exact aF rfl rfl
        ·have c2b' : decide ((e : Int) < (b : Int)) = false := by simp only [decide_eq_false_iff_not]; omega
         have x2 := hT0 (fun z => c2b z.2)
         subst x2
         have qH := aI @hlt' (aI @ee (aI @decide_true (aI @decide_false (aI @c0a' (aI @c0b' (aI @c1a' (aI @c1b' (aI @c2a' @c2b')))))))); repeat' (with_reducible first | refine nY ?_ | (refine mX ?_; try simp only [go_sem, qH]) | refine kD ?_ | refine rD ?_ | refine vI x0 ?_ | refine vJ x0 ?_ | refine aO ?_ | fail)
         exact aF rfl rfl
       ·have c2a' : decide ((mid : Int) < (e : Int)) = false := by simp only [decide_eq_false_iff_not]; omega
        have x2 := hT0 (fun z => c2a z.1)
        subst x2
        have qH := aI @hlt' (aI @ee (aI @decide_true (aI @decide_false (aI @c0a' (aI @c0b' (aI @c1a' (aI @c1b' @c2a'))))))); repeat' (with_reducible first | refine nY ?_ | (refine mX ?_; try simp only [go_sem, qH]) | refine kD ?_ | refine rD ?_ | refine vI x0 ?_ | refine vJ x0 ?_ | refine aO ?_ | fail)
        exact aF rfl rfl
     ·have c1a' : decide ((a : Int) < (i : Int)) = false := by simp only [decide_eq_false_iff_not]; omega
      have x1 := hL0 (fun z => c1a z.1)
      subst x1
      by_cases c2a : mid < e
      ·have c2a' : decide ((mid : Int) < (e : Int)) = true := by simp only [decide_eq_true_eq]; omega
       by_cases c2b : e < b
       ·have c2b' : decide ((e : Int) < (b : Int)) = true := by simp only [decide_eq_true_eq]; omega
        have x2 := hT c2a c2b
        have qH := aI @hlt' (aI @ee (aI @decide_true (aI @decide_false (aI @c0a' (aI @c0b' (aI @c1a' (aI @c2a' @c2b'))))))); repeat' (with_reducible first | refine nY ?_ | (refine mX ?_; try simp only [go_sem, qH]) | refine kD ?_ | refine rD ?_ | refine vI x0 ?_ | refine vJ x0 ?_ | refine vI x2 ?_ | refine vJ x2 ?_ | refine aO ?_ | fail)
        exact aF rfl rfl
       ·have c2b' : decide ((e : Int) < (b : Int)) = false := by simp only [decide_eq_false_iff_not]; omega
        have x2 := hT0 (fun z => c2b z.2)
        subst x2
        have qH := aI @hlt' (aI @ee (aI @decide_true (aI @decide_false (aI @c0a' (aI @c0b' (aI @c1a' (aI @c2a' @c2b'))))))); repeat' (with_reducible first | refine nY ?_ | (refine mX ?_; try simp only [go_sem, qH]) | refine kD ?_ | refine rD ?_ | refine vI x0 ?_ | refine vJ x0 ?_ | refine aO ?_ | fail)
        exact aF rfl rfl
      ·have c2a' : decide ((mid : Int) < (e : Int)) = false := by simp only [decide_eq_false_iff_not]; omega
       have x2 := hT0 (fun z => c2a z.1)
       subst x2
       have qH := aI @hlt' (aI @ee (aI @decide_true (aI @decide_false (aI @c0a' (aI @c0b' (aI @c1a' @c2a')))))); repeat' (with_reducible first | refine nY ?_ | (refine mX ?_; try simp only [go_sem, qH]) | refine kD ?_ | refine rD ?_ | refine vI x0 ?_ | refine vJ x0 ?_ | refine aO ?_ | fail)
       exact aF rfl rfl
    ·have c0b' : decide ((m : Int) < (e : Int)) = false := by simp only [decide_eq_false_iff_not]; omega
     have x0 := hR0 (fun z => c0b z.2)
     subst x0
     by_cases c1a : a < i
     ·have c1a' : decide ((a : Int) < (i : Int)) = true := by simp only [decide_eq_true_eq]; omega
      by_cases c1b : i < mid
      ·have c1b' : decide ((i : Int) < (mid : Int)) = true := by simp only [decide_eq_true_eq]; omega
       have x1 := hL c1a c1b
       by_cases c2a : mid < e
       ·have c2a' : decide ((mid : Int) < (e : Int)) = true := by simp only [decide_eq_true_eq]; omega
        by_cases c2b : e < b
        ·have c2b' : decide ((e : Int) < (b : Int)) = true := by simp only [decide_eq_true_eq]; omega
         have x2 := hT c2a c2b
         have qH := aI @hlt' (aI @ee (aI @decide_true (aI @decide_false (aI @c0a' (aI @c0b' (aI @c1a' (aI @c1b' (aI @c2a' @c2b')))))))); repeat' (with_reducible first | refine nY ?_ | (refine mX ?_; try simp only [go_sem, qH]) | refine kD ?_ | refine rD ?_ | refine vI x1 ?_ | refine vJ x1 ?_ | refine vI x2 ?_ | refine vJ x2 ?_ | refine aO ?_ | fail)
         exact aF rfl rfl
        ·have c2b' : decide ((e : Int) < (b : Int)) = false := by simp only [decide_eq_false_iff_not]; omega
         have x2 := hT0 (fun z => c2b z.2)
         subst x2
         have qH := aI @hlt' (aI @ee (aI @decide_true (aI @decide_false (aI @c0a' (aI @c0b' (aI @c1a' (aI @c1b' (aI @c2a' @c2b')))))))); repeat' (with_reducible first | refine nY ?_ | (refine mX ?_; try simp only [go_sem, qH]) | refine kD ?_ | refine rD ?_ | refine vI x1 ?_ | refine vJ x1 ?_ | refine aO ?_ | fail)
         exact aF rfl rfl
       ·have c2a' : decide ((mid : Int) < (e : Int)) = false := by simp only [decide_eq_false_iff_not]; omega
        have x2 := hT0 (fun z => c2a z.1)
        subst x2
        have qH := aI @hlt' (aI @ee (aI @decide_true (aI @decide_false (aI @c0a' (aI @c0b' (aI @c1a' (aI @c1b' @c2a'))))))); repeat' (with_reducible first | refine nY ?_ | (refine mX ?_; try simp only [go_sem, qH]) | refine kD ?_ | refine rD ?_ | refine vI x1 ?_ | refine vJ x1 ?_ | refine aO ?_ | fail)
        exact aF rfl rfl
      ·have c1b' : decide ((i : Int) < (mid : Int)) = false := by simp only [decide_eq_false_iff_not]; omega
       have x1 := hL0 (fun z => c1b z.2)
       subst x1
       by_cases c2a : mid < e
       ·have c2a' : decide ((mid : Int) < (e : Int)) = true := by simp only [decide_eq_true_eq]; omega
        by_cases c2b : e < b
        ·have c2b' : decide ((e : Int) < (b : Int)) = true := by simp only [decide_eq_true_eq]; omega
         have x2 := hT c2a c2b
         have qH := aI @hlt' (aI @ee (aI @decide_true (aI @decide_false (aI @c0a' (aI @c0b' (aI @c1a' (aI @c1b' (aI @c2a' @c2b')))))))); repeat' (with_reducible first | refine nY ?_ | (refine mX ?_; try simp only [go_sem, qH]) | refine kD ?_ | refine rD ?_ | refine vI x2 ?_ | refine vJ x2 ?_ | refine aO ?_ | fail)
         exact aF rfl rfl
        ·have c2b' : decide ((e : Int) < (b : Int)) = false := by simp only [decide_eq_false_iff_not]; omega
         have x2 := hT0 (fun z => c2b z.2)
         subst x2
         have q0 := @hlt'; have q1 := @ee; have q2 := @decide_true; have q3 := @decide_false; have q4 := @c0a'; have q5 := @c0b'; have q6 := @c1a'; have q7 := @c1b'; have q8 := @c2a'; have q9 := @c2b'; refine a7J ?_
         exact aF rfl rfl
       ·have c2a' : decide ((mid : Int) < (e : Int)) = false := by simp only [decide_eq_false_iff_not]; omega
        have x2 := hT0 (fun z => c2a z.1)
        subst x2
        have q0 := @hlt'; have q1 := @ee; have q2 := @decide_true; have q3 := @decide_false; have q4 := @c0a'; have q5 := @c0b'; have q6 := @c1a'; have q7 := @c1b'; have q8 := @c2a'; refine a6Q ?_
        exact aF rfl rfl
     ·have c1a' : decide ((a : Int) < (i : Int)) = false := by simp only [decide_eq_false_iff_not]; omega
      have x1 := hL0 (fun z => c1a z.1)
      subst x1
      by_cases c2a : mid < e
      ·have c2a' : decide ((mid : Int) < (e : Int)) = true := by simp only [decide_eq_true_eq]; omega
       by_cases c2b : e < b
       ·have c2b' : decide ((e : Int) < (b : Int)) = true := by simp only [decide_eq_true_eq]; omega
        have x2 := hT c2a c2b
        have qH := aI @hlt' (aI @ee (aI @decide_true (aI @decide_false (aI @c0a' (aI @c0b' (aI @c1a' (aI @c2a' @c2b'))))))); repeat' (with_reducible first | refine nY ?_ | (refine mX ?_; try simp only [go_sem, qH]) | refine kD ?_ | refine rD ?_ | refine vI x2 ?_ | refine vJ x2 ?_ | refine aO ?_ | fail)
        exact aF rfl rfl
       ·have c2b' : decide ((e : Int) < (b : Int)) = false := by simp only [decide_eq_false_iff_not]; omega
        have x2 := hT0 (fun z => c2b z.2)
        subst x2
        have q0 := @hlt'; have q1 := @ee; have q2 := @decide_true; have q3 := @decide_false; have q4 := @c0a'; have q5 := @c0b'; have q6 := @c1a'; have q7 := @c2a'; have q8 := @c2b'; refine a6Q ?_
        exact aF rfl rfl
      ·have c2a' : decide ((mid : Int) < (e : Int)) = false := by simp only [decide_eq_false_iff_not]; omega
       have x2 := hT0 (fun z => c2a z.1)
       subst x2
       have q0 := @hlt'; have q1 := @ee; have q2 := @decide_true; have q3 := @decide_false; have q4 := @c0a'; have q5 := @c0b'; have q6 := @c1a'; have q7 := @c2a'; refine a4t ?_
       exact aF rfl rfl
   ·have c0a' : decide ((i : Int) < (m : Int)) = false := by simp only [decide_eq_false_iff_not]; omega
    have x0 := hR0 (fun z => c0a z.1)
    subst x0
    by_cases c1a : a < i
    ·have c1a' : decide ((a : Int) < (i : Int)) = true := by simp only [decide_eq_true_eq]; omega
     by_cases c1b : i < mid
     ·have c1b' : decide ((i : Int) < (mid : Int)) = true := by simp only [decide_eq_true_eq]; omega
      have x1 := hL c1a c1b
      by_cases c2a : mid < e
      ·have c2a' : decide ((mid : Int) < (e : Int)) = true := by simp only [decide_eq_true_eq]; omega
       by_cases c2b : e < b
       ·have c2b' : decide ((e : Int) < (b : Int)) = true := by simp only [decide_eq_true_eq]; omega
        have x2 := hT c2a c2b
        have qH := aI @hlt' (aI @ee (aI @decide_true (aI @decide_false (aI @c0a' (aI @c1a' (aI @c1b' (aI @c2a' @c2b'))))))); repeat' (with_reducible first | refine nY ?_ | (refine mX ?_; try simp only [go_sem, qH]) | refine kD ?_ | refine rD ?_ | refine vI x1 ?_ | refine vJ x1 ?_ | refine vI x2 ?_ | refine vJ x2 ?_ | refine aO ?_ | fail)
        exact aF rfl rfl
       ·have c2b' : decide ((e : Int) < (b : Int)) = false := by simp only [decide_eq_false_iff_not]; omega
        have x2 := hT0 (fun z => c2b z.2)
        subst x2
        have qH := aI @hlt' (aI @ee (aI @decide_true (aI @decide_false (aI @c0a' (aI @c1a' (aI @c1b' (aI @c2a' @c2b'))))))); repeat' (with_reducible first | refine nY ?_ | (refine mX ?_; try simp only [go_sem, qH]) | refine kD ?_ | refine rD ?_ | refine vI x1 ?_ | refine vJ x1 ?_ | refine aO ?_ | fail)
        exact aF rfl rfl
      ·have c2a' : decide ((mid : Int) < (e : Int)) = false := by simp only [decide_eq_false_iff_not]; omega
       have x2 := hT0 (fun z => c2a z.1)
       subst x2
       have qH := aI @hlt' (aI @ee (aI @decide_true (aI @decide_false (aI @c0a' (aI @c1a' (aI @c1b' @c2a')))))); repeat' (with_reducible first | refine nY ?_ | (refine mX ?_; try simp only [go_sem, qH]) | refine kD ?_ | refine rD ?_ | refine vI x1 ?_ | refine vJ x1 ?_ | refine aO ?_ | fail)
       exact aF rfl rfl
     ·have c1b' : decide ((i : Int) < (mid : Int)) = false := by simp only [decide_eq_false_iff_not]; omega
      have x1 := hL0 (fun z => c1b z.2)
      subst x1
      by_cases c2a : mid < e
      ·have c2a' : decide ((mid : Int) < (e : Int)) = true := by simp only [decide_eq_true_eq]; omega
       by_cases c2b : e < b
       ·have c2b' : decide ((e : Int) < (b : Int)) = true := by simp only [decide_eq_true_eq]; omega
        have x2 := hT c2a c2b
        have qH := aI @hlt' (aI @ee (aI @decide_true (aI @decide_false (aI @c0a' (aI @c1a' (aI @c1b' (aI @c2a' @c2b'))))))); repeat' (with_reducible first | refine nY ?_ | (refine mX ?_; try simp only [go_sem, qH]) | refine kD ?_ | refine rD ?_ | refine vI x2 ?_ | refine vJ x2 ?_ | refine aO ?_ | fail)
        exact aF rfl rfl
       ·have c2b' : decide ((e : Int) < (b : Int)) = false := by simp only [decide_eq_false_iff_not]; omega
        have x2 := hT0 (fun z => c2b z.2)
        subst x2
        have q0 := @hlt'; have q1 := @ee; have q2 := @decide_true; have q3 := @decide_false; have q4 := @c0a'; have q5 := @c1a'; have q6 := @c1b'; have q7 := @c2a'; have q8 := @c2b'; refine a6Q ?_
        exact aF rfl rfl
      ·have c2a' : decide ((mid : Int) < (e : Int)) = false := by simp only [decide_eq_false_iff_not]; omega
       have x2 := hT0 (fun z => c2a z.1)
       subst x2
       have q0 := @hlt'; have q1 := @ee; have q2 := @decide_true; have q3 := @decide_false; have q4 := @c0a'; have q5 := @c1a'; have q6 := @c1b'; have q7 := @c2a'; refine a4t ?_
       exact aF rfl rfl
    ·have c1a' : decide ((a : Int) < (i : Int)) = false := by simp only [decide_eq_false_iff_not]; omega
     have x1 := hL0 (fun z => c1a z.1)
     subst x1
     by_cases c2a : mid < e
     ·have c2a' : decide ((mid : Int) < (e : Int)) = true := by simp only [decide_eq_true_eq]; omega
      by_cases c2b : e < b
      ·have c2b' : decide ((e : Int) < (b : Int)) = true := by simp only [decide_eq_true_eq]; omega
       have x2 := hT c2a c2b
       have qH := aI @hlt' (aI @ee (aI @decide_true (aI @decide_false (aI @c0a' (aI @c1a' (aI @c2a' @c2b')))))); repeat' (with_reducible first | refine nY ?_ | (refine mX ?_; try simp only [go_sem, qH]) | refine kD ?_ | refine rD ?_ | refine vI x2 ?_ | refine vJ x2 ?_ | refine aO ?_ | fail)
       exact aF rfl rfl
      ·have c2b' : decide ((e : Int) < (b : Int)) = false := by simp only [decide_eq_false_iff_not]; omega
       have x2 := hT0 (fun z => c2b z.2)
       subst x2
       have q0 := @hlt'; have q1 := @ee; have q2 := @decide_true; have q3 := @decide_false; have q4 := @c0a'; have q5 := @c1a'; have q6 := @c2a'; have q7 := @c2b'; refine a4t ?_
       exact aF rfl rfl
     ·have c2a' : decide ((mid : Int) < (e : Int)) = false := by simp only [decide_eq_false_iff_not]; omega
      have x2 := hT0 (fun z => c2a z.1)
      subst x2
      have q0 := @hlt'; have q1 := @ee; have q2 := @decide_true; have q3 := @decide_false; have q4 := @c0a'; have q5 := @c1a'; have q6 := @c2a'; refine a8M ?_
      exact aF rfl rfl
end Opq
end Go.Proofs.Ytcppkdifiimblaa
end
section
set_option maxRecDepth 100000
set_option maxHeartbeats 4000000
namespace Go.Proofs.Ytcppkdifiimblaa
open Go Go.Sx Go.RowKit Go.Proofs
theorem zM (s : TStore) (id : Int) (h : bI s ≤ 4300000) : FnC Try.prog 23 [eZ s, oi id] (.t [(true, (kV (fI id s.fFiles)).cells), (false, [.d (bv (decide (0 ≤ ixF id s.fFiles)))])]) := (a0C s id h).pu (by simp only [go_sem, and_self])
def nwG (v : TValue) : aB := (⟨v, []⟩, .slice none 0 0)
namespace Opq
theorem a5k (v : TValue) (p : aB) : FnC Try.prog 26 [gO p, .o (.q [iv v.fKind, iv v.fInt, sv v.fStr])] (ob (iI v p)) := by
 refine ent Try.func26 rfl Try.call26 rfl (fun C => ?_); simp only [go_sem, st0, Try.ntmps26]
 refine aL ?_
 exact aA ⟨⟨_, rfl, by simp only [go_sem, iI, xS]⟩, trivial⟩
theorem wI (f : Nat) (c : List D) (p : aB → Bool) (l : List aB) (hf : ∀ s ∈ l, FnC Try.prog f [gO s, .o (.q c)] (ob (p s))) (hl : l.length ≤ 8388608) : FnC Try.prog 25 [.o (.d (.sl (l.map fO))), .o (.f f [c])] (oi (idxP p l 0)) := by
 refine ent Try.func25 rfl Try.call25 rfl (fun C => ?_); simp only [go_sem, st0, Try.ntmps25]
 refine aL ?_
 refine bE (α := Nat) (fun k => [(8, oi k)]) (fun _ => []) (fun k => k ≤ l.length ∧ idxP p l 0 = idxP p (l.drop k) k) (fun k => l.length - k) 0 (fun _ => ?_) ?_ ?_ (fun k hk => ?_)
 ·simp only [go_sem]
 ·simp only [go_sem]; simp
 ·simp
 ·obtain ⟨hk, hq⟩ := hk
  simp only [go_sem]
  refine aL ?_
  refine cnd rfl (fun h => ?_) (fun h => ?_)
  ·simp only [decide_eq_true_eq, Int.ofNat_lt] at h
   have hd := List.drop_eq_getElem_cons h
   rw [hd, idxP] at hq
   have q0 := @h; refine wB (hf l[k] (List.getElem_mem h)) ?_
   refine cnd rfl (fun h2 => ?_) (fun h2 => ?_)
   ·refine aL ?_
    exact aA ⟨⟨_, rfl, by simp only [go_sem, hq, h2]⟩, trivial⟩
   ·refine aL ?_
    refine aQ (k + 1) ?_ ?_ ?_
    ·simp only [go_sem]; simp
    ·rw [hq, h2]; exact ⟨h, by simp⟩
    ·omega
  ·simp only [decide_eq_false_iff_not] at h
   have e : k = l.length := by omega
   subst e
   simp only [List.drop_length, idxP] at hq
   refine aL ?_
   exact aA ⟨⟨_, rfl, by simp only [go_sem, hq]⟩, trivial⟩
def SortsG (n : Nat) : Prop := ∀ its : List aB, dW (its.map (·.1)) → its.length ≤ n → ∃ its' : List aB, its'.Perm its ∧ (its'.map (·.1)).Pairwise ltG ∧
    FnI Try.prog 27 55 4 (its.map fO) [.o (.f 28 [])] true (its'.map fO)
theorem implGroup_ok (n : Nat) (hSort : SortsG n) (s : TStore) (ids : List Int) (name : ByteArray) (h : bI s ≤ 1048576) (hi : ids.length ≤ 1048576) (hn : ids.length ≤ n) :
    FnC Try.prog 8 [eZ s, .o (.d (.sl (ids.map fJ))), os name] (.o (.w 55 4 (((bV s ids name).foldl dO []).map dC))) := by
 refine ent Try.func8 rfl Try.call8 rfl (fun C => ?_); simp only [go_sem, st0, Try.ntmps8]
 refine aL ?_
 refine WP.sees (Sees.pool0 3 1) ?_
 simp only [go_sem]
 refine bE (α := Nat × List aB) (fun x => [(7, .o (.s 1)), (17, oi x.1), (14, .o .u)]) (fun x => [(1, .row 55 4 (x.2.map fO) true), (2, .pool 3 1 (x.2.map lV))]) (fun x => x.1 ≤ ids.length ∧ x.2.map (·.1) = ((bV s ids name).take x.1).foldl fV []) (fun x => ids.length - x.1) (0, []) (fun _ => ?_) ?_ ?_ (fun x hx => ?_)
 ·simp only [go_sem]
 ·simp only [go_sem]; simp
 ·simp
 ·obtain ⟨k, its⟩ := x
  obtain ⟨hk, hq⟩ := hx
  simp only at hk hq
  simp only [go_sem]
  refine aL ?_
  refine cnd rfl (fun h1 => ?_) (fun h1 => ?_)
  ·simp only [decide_eq_true_eq, Int.ofNat_lt] at h1
   have hfw : wFile (fI ids[k] s.fFiles) ≤ 4300000 := by have := a2D ids[k] s.fFiles; unfold bI at h; omega
   have hG := vP (fI ids[k] s.fFiles) name hfw
   have hvk : (bV s ids name).take (k + 1) = (bV s ids name).take k ++ [(getAttr name (fI ids[k] s.fFiles).fAttrs, ids[k])] := by
    rw [List.take_succ_eq_append_getElem (by simpa [bV] using h1)]
    simp [bV]
   generalize getAttr name (fI ids[k] s.fFiles).fAttrs = v at hG hvk
   have hsum := a0O ((bV s ids name).take k) []
   rw [← hq] at hsum
   have hvl : ((bV s ids name).take k).length = k := by simp [bV]; omega
   rw [hvl] at hsum
   simp only [wsum, List.length_nil, List.length_map, Nat.zero_add] at hsum
   have hil : its.length ≤ k := hsum.2
   have hI := wI _ _ (iI v) its (fun p _ => a5k v p) (by omega)
   have hsp := idxP_spec (iI v) its 0
   generalize idxP (iI v) its 0 = q at hI hsp
   have qH := @h1; repeat' (with_reducible first | refine nY ?_ | (refine mX ?_; try simp only [go_sem, qH]) | refine kD ?_ | refine rD ?_ | refine cP (zM s ids[k] (by omega)) ?_ | refine cP hG ?_ | refine vL hI ?_ | refine aO ?_ | fail)
   refine cnd rfl (fun h2 => ?_) (fun h2 => ?_)
   ·simp only [decide_eq_true_eq] at h2
    rcases hsp with ⟨rfl, hall⟩ | ⟨k0, rfl, _⟩
    case inr => omega
    refine WP.sees (Sees.poolN 2 rfl) ?_
    simp only [go_sem]
    have hrow : its.map fO ++ [[iv v.fKind, iv v.fInt, sv v.fStr, .v (.slice none 0 0)]] = (its ++ [nwG v]).map fO := by simp [fO, nwG]
    have hlen : its.length < (its ++ [nwG v]).length := by simp
    have q0 := @hrow; have q1 := @hlen; refine jD ?_
    refine ⟨by simp, a4o fun z2 => ?_⟩
    have q0 := @hrow; have q1 := @hlen; refine jD ?_
    refine a6L 2 its.length 6 [] [[.int .i64 ids[k]]] rfl rfl ?_ (List.mem_singleton.2 rfl) (by simp) ?_ (fun z' => ?_)
    ·simp [nwG]
    ·simp only [go_sem]
    ·simp only [go_sem]
     have q0 := @hrow; have q1 := @hlen; refine jD ?_
     refine aQ (k + 1, (its ++ [nwG v]).set its.length (⟨v, [ids[k]]⟩, z')) ?_ ?_ ?_
     ·simp only [go_sem]; simp [List.map_set, fO, lV, nwG]
     ·refine ⟨h1, ?_⟩
      simp only
      rw [hvk, List.foldl_append, ← hq]
      simp only [List.foldl_cons, List.foldl_nil]
      rw [a0M v ids[k] hall]
      simp
     ·simp only; omega
   ·simp only [decide_eq_false_iff_not] at h2
    rcases hsp with ⟨rfl, hall⟩ | ⟨k0, rfl, hk0, ht, hlt⟩
    case inl => omega
    simp only [Nat.zero_add]
    have q0 := @hk0; refine iM ?_
    refine ⟨by simp, a4o fun z2 => ?_⟩
    have q0 := @hk0; refine iM ?_
    refine a6L 2 k0 5 (its[k0].1.fIDs.map fun i => [.int .i64 i]) [[.int .i64 ids[k]]] rfl rfl ?_ (List.mem_singleton.2 rfl) (by simp) ?_ (fun z' => ?_)
    ·rw [List.getElem?_map, List.getElem?_eq_getElem hk0]; rfl
    ·have hi2 := dK (fun g : TGroup => g.fIDs.length) (its.map (·.1)) (k := k0) (by simpa using hk0)
     simp only [List.getElem_map] at hi2
     simp only [go_sem, List.length_map, List.length_cons, List.length_nil]
     omega
    ·simp only [go_sem]
     have q0 := @hk0; refine iM ?_
     refine aQ (k + 1, its.set k0 (⟨its[k0].1.fValue, its[k0].1.fIDs ++ [ids[k]]⟩, z')) ?_ ?_ ?_
     ·simp only [go_sem]; simp [List.map_set, fO, lV]
     ·refine ⟨h1, ?_⟩
      simp only
      rw [hvk, List.foldl_append, ← hq]
      simp only [List.foldl_cons, List.foldl_nil]
      exact (a0L v ids[k] z' hk0 ht hlt).symm
     ·simp only; omega
  ·simp only [decide_eq_false_iff_not] at h1
   have e : k = ids.length := by omega
   subst e
   have hvl : (bV s ids name).length = ids.length := by simp [bV]
   rw [← hvl, List.take_length] at hq
   have hsum := a0O (bV s ids name) []
   rw [← hq] at hsum
   simp only [wsum, List.length_nil, List.length_map, Nat.zero_add] at hsum
   obtain ⟨hap, hsrt, hmem⟩ := xQ (bV s ids name) [] [] List.Pairwise.nil List.Pairwise.nil fun g => Iff.rfl
   obtain ⟨its', hp, hs, hS⟩ := hSort its (by rw [hq]; exact hap) (by omega)
   have hfin : its'.map (·.1) = (bV s ids name).foldl dO [] := wF _ (fun g => by rw [← hq]; exact (hp.map (·.1)).mem_iff) hs
   rw [← hfin]
   have qH := trivial; repeat' (with_reducible first | refine nY ?_ | (refine mX ?_; try simp only [go_sem]) | refine kD ?_ | refine rD ?_ | refine vI hS ?_ | refine vJ hS ?_ | refine aO ?_ | fail)
   refine wO (Sees.unpool 1 2 (its'.map itO) (by rw [List.map_map]; rfl) rfl (by rw [List.map_map]; exact (hp.map lV).symm)) ?_
   simp only [go_sem]
   have hclr : (its'.map itO).map jC = (its'.map (·.1)).map dC := by
    rw [List.map_map, List.map_map]
    exact List.map_congr_left fun p _ => a2F p
   exact aA ⟨⟨_, rfl, by simp only [go_sem, hclr]⟩, trivial⟩
end Opq
end Go.Proofs.Ytcppkdifiimblaa
end
section
set_option maxRecDepth 100000
set_option maxHeartbeats 4000000
namespace Go.Proofs.Ytcppkdifiimblaa
open Go Go.Sx Go.RowKit Go.Proofs Go.Sort
theorem a5j (d : Array aB) (a : Nat) : Sort.insertionSort ltO d a a = d := by
 unfold Sort.insertionSort
 exact insOuter_stop _ _ _ _ _ (by omega)
theorem oI : FnC Try.prog 45 [.o (.d (.sl [])), oi 0, .o (.f 28 [])] (.t []) := by
 have hI : FnC Try.prog 58 [.o (.d (.sl [])), oi 0, oi 0, .o (.f 28 [])] (.t []) := rO
 refine ent Try.func45 rfl Try.call45 rfl (fun C => ?_); simp only [go_sem, st0, Try.ntmps45]
 refine aL ?_
 refine bE (α := Unit) (fun _ => [(7, oi 0), (8, oi 20)]) (fun _ => []) (fun _ => True) (fun _ => 0) () (fun _ => ?_) ?_ trivial (fun _ _ => ?_)
 ·simp only [go_sem]
 ·simp only [go_sem]; simp
 ·simp only [go_sem]
  refine yY hI ?_
  refine bE (α := Unit) (fun _ => [(6, oi 20)]) (fun _ => []) (fun _ => True) (fun _ => 0) () (fun _ => ?_) ?_ trivial (fun _ _ => ?_)
  ·simp only [go_sem]
  ·simp only [go_sem]; simp
  ·simp only [go_sem]
   refine aL ?_
   exact kZ ⟨⟨_, rfl, by simp only [go_sem]⟩, by simp [jS]⟩
theorem zL (d : Array aB) (hs : d.size ≤ 20) :
    FnI Try.prog 45 55 4 (aP d) [oi d.size, .o (.f 28 [])] true (aP (Sort.insertionSort ltO d 0 d.size)) := by
 have hz : (Sort.insertionSort ltO d 0 d.size).size = d.size := pY 0 d.size _ _ d rfl
 refine a3v Try.func45 rfl Try.call45 rfl (bA d) (bA _) (by rw [bG, bG]; exact hz) (fun h0 => ?_) (fun hne C y => ?_)
 ·rw [eF h0]; exact oI
 ·simp only [go_sem, Try.ntmps45]
  by_cases h20 : d.size = 20
  ·have hI0 : FnI Try.prog 58 55 4 (aP d) [oi 0, oi 20, .o (.f 28 [])] true (aP (Sort.insertionSort ltO d 0 d.size)) := by
    rw [h20]; exact iH d 0 20 (by omega) (by omega) (by omega)
   have hI : FnI Try.prog 58 55 4 (aP (Sort.insertionSort ltO d 0 d.size)) [oi 20, oi 20, .o (.f 28 [])] true (aP (Sort.insertionSort ltO d 0 d.size)) := by
    have := iH (Sort.insertionSort ltO d 0 d.size) 20 20 (by omega) (by omega) (by omega)
    rw [a5j] at this
    exact this
   have hz20 : (d.size : Int) = 20 := by omega
   generalize Sort.insertionSort ltO d 0 d.size = d1 at hI hI0
   rw [hz20]
   refine aL ?_
   refine bE (α := Bool) (fun x => [(7, oi (bif x then 20 else 0)), (8, oi (bif x then 40 else 20))]) (fun x => [(0, .row 55 4 (aP (bif x then d1 else d)) true)]) (fun _ => True) (fun x => bif x then 0 else 1) false (fun _ => ?_) ?_ trivial (fun x _ => ?_)
   ·simp only [go_sem]
   ·simp only [go_sem]; simp
   ·simp only [go_sem]
    cases x with
    | false =>
     simp only [cond_false]
     have qH := trivial; repeat' (with_reducible first | refine nY ?_ | (refine mX ?_; try simp only [go_sem]) | refine kD ?_ | refine rD ?_ | refine vI hI0 ?_ | refine vJ hI0 ?_ | refine aO ?_ | fail)
     refine aQ true ?_ trivial (by simp)
     simp only [go_sem]; simp
    | true =>
     simp only [cond_true]
     have qH := trivial; repeat' (with_reducible first | refine nY ?_ | (refine mX ?_; try simp only [go_sem]) | refine kD ?_ | refine rD ?_ | refine vI hI ?_ | refine vJ hI ?_ | refine aO ?_ | fail)
     refine bE (α := Unit) (fun _ => [(6, oi 20)]) (fun _ => []) (fun _ => True) (fun _ => 0) () (fun _ => ?_) ?_ trivial (fun _ _ => ?_)
     ·simp only [go_sem]
     ·simp only [go_sem]; simp
     ·simp only [go_sem]
      refine aL ?_
      exact aF rfl rfl
  ·have hl : ¬ ((20 : Int) ≤ (d.size : Int)) := by omega
   have hl2 : ¬ ((20 : Int) < (d.size : Int)) := by omega
   have hI : FnI Try.prog 58 55 4 (aP d) [oi 0, oi d.size, .o (.f 28 [])] true (aP (Sort.insertionSort ltO d 0 d.size)) := iH d 0 d.size (by omega) (by omega) (by omega)
   generalize Sort.insertionSort ltO d 0 d.size = d1 at hI
   refine aL ?_
   refine bE (α := Unit) (fun _ => [(7, oi 0), (8, oi 20)]) (fun _ => []) (fun _ => True) (fun _ => 0) () (fun _ => ?_) ?_ trivial (fun _ _ => ?_)
   ·simp only [go_sem]
   ·simp only [go_sem]; simp
   ·simp only [go_sem]
    have qH := aI @hl @decide_false; repeat' (with_reducible first | refine nY ?_ | (refine mX ?_; try simp only [go_sem, qH]) | refine kD ?_ | refine rD ?_ | refine vI hI ?_ | refine vJ hI ?_ | refine aO ?_ | fail)
    refine bE (α := Unit) (fun _ => [(6, oi 20)]) (fun _ => []) (fun _ => True) (fun _ => 0) () (fun _ => ?_) ?_ trivial (fun _ _ => ?_)
    ·simp only [go_sem]
    ·simp only [go_sem]; simp
    ·simp only [go_sem]
     have q0 := @hl2; have q1 := @decide_false; refine jD ?_
     exact aF rfl rfl
theorem iZ : SWO ltO := by
 refine ⟨fun x => ?_, fun x y z h1 h2 => ?_, fun x y z h1 h2 => ?_⟩
 ·unfold ltO
  rw [decide_eq_false_iff_not, iX]; exact iJ _
 ·unfold ltO at h1 h2 ⊢
  rw [decide_eq_true_eq, iX] at h1 h2 ⊢
  exact jQ _ _ _ h1 h2
 ·unfold ltO at h1 h2 ⊢
  rw [decide_eq_false_iff_not, iX] at h1 h2 ⊢
  intro h3
  by_cases e : x.1.fValue = y.1.fValue
  ·rw [e] at h3; exact h2 h3
  ·exact h2 (jQ _ _ _ (tN h1 e) h3)
theorem qD {d : Array aB} (h : SortedIn ltO 0 d.size d) (ha : dW (d.toList.map (·.1))) : (d.toList.map (·.1)).Pairwise ltG := by
 rw [List.pairwise_iff_getElem] at *
 unfold dW at ha
 rw [List.pairwise_iff_getElem] at ha
 intro i j hi hj hij
 have hi' : i < d.toList.length := by simpa using hi
 have hj' : j < d.toList.length := by simpa using hj
 have h1 := h i j (by omega) hij (by simpa using hj')
 have h2 := ha i j hi hj hij
 rw [← bO d i hi', ← bO d j hj'] at h1
 simp only [List.getElem_map] at h2 ⊢
 unfold ltO at h1
 rw [decide_eq_false_iff_not, iX] at h1
 exact tN h1 (fun e => h2 e.symm)
theorem vX {l m : List TGroup} (h : l.Perm m) (ha : dW l) : dW m := by
 unfold dW at *
 exact (h.pairwise_iff (fun {a b} hab => fun e => hab e.symm)).1 ha
theorem qE {d d' : Array aB} (h : PermIn 0 d.size d d') : d'.toList.Perm d.toList := by
 have := h.2.2
 have h1 := h.1
 rw [show d'.extract 0 d.size = d' by rw [← h1]; simp, show d.extract 0 d.size = d by simp] at this
 exact this
theorem nK (d d1 : Array aB) (hz : d1.size = d.size) (hS : FnI Try.prog 45 55 4 (aP d) [oi d.size, .o (.f 28 [])] true (aP d1))
    (hN : d.size = 0 → FnC Try.prog 45 [.o (.d (.sl [])), oi 0, .o (.f 28 [])] (.t [])) :
    FnI Try.prog 27 55 4 (aP d) [.o (.f 28 [])] true (aP d1) := by
 have hlen := bG d
 refine a3v Try.func27 rfl Try.call27 rfl (bA d) (bA _) (by rw [bG, bG]; exact hz) (fun h0 => ?_) (fun hne C y => ?_)
 ·have hN : FnC Try.prog 45 [.o (.d (.sl [])), oi ((0 : Nat) : Int), .o (.f 28 [])] (.t []) := hN (eF h0)
  refine ent Try.func27 rfl Try.call27 rfl (fun C => ?_); simp only [go_sem, st0, Try.ntmps27]
  refine yY hN ?_
  exact kZ ⟨⟨_, rfl, by simp only [go_sem]⟩, by simp [jS]⟩
 ·simp only [go_sem, Try.ntmps27]
  have qH := @hlen; repeat' (with_reducible first | refine nY ?_ | (refine mX ?_; try simp only [go_sem, qH]) | refine kD ?_ | refine rD ?_ | refine vI hS ?_ | refine vJ hS ?_ | refine aO ?_ | fail)
  exact aF rfl rfl
theorem a0Y (its : List aB) (hap : dW (its.map (·.1))) (hl : its.length ≤ 20) : ∃ its' : List aB, its'.Perm its ∧ (its'.map (·.1)).Pairwise ltG ∧
    FnI Try.prog 27 55 4 (its.map fO) [.o (.f 28 [])] true (its'.map fO) := by
 obtain ⟨h1, h2⟩ := insertionSort_holds iZ its.toArray 0 its.toArray.size (Nat.zero_le _) (Nat.le_refl _)
 have hp := qE h1
 refine ⟨(Sort.insertionSort ltO its.toArray 0 its.toArray.size).toList, hp, ?_, ?_⟩
 ·refine qD (by rw [h1.1]; exact h2) (vX (hp.map (·.1)).symm (by simpa using hap))
 ·exact nK its.toArray _ h1.1 (zL its.toArray (by simpa using hl)) (fun _ => oI)
end Go.Proofs.Ytcppkdifiimblaa
end
