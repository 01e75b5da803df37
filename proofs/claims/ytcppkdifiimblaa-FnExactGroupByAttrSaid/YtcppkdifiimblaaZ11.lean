/- Joined texts. -/
import Derived.Test.YtcppkdifiimblaaZ10
import Derived.Test.YtcppkdifiimblaaZ09
import Derived.Test.YtcppkdifiimblaaZ08
set_option linter.all false
section
set_option maxRecDepth 100000
set_option maxHeartbeats 4000000
namespace Go.Proofs.Ytcppkdifiimblaa
open Go Go.Sx Go.RowKit Go.Proofs Go.Sort Go.Sym
structure Mrg (d : Array aB) (a m b : Nat) (d' : Array aB) : Prop where
 z : d'.size = d.size
 p : PermIn a b d d'
 s : SortedIn ltO a b d'
 f : FnI Try.prog 59 55 4 (aP d) [oi a, oi m, oi b, .o (.f 28 [])] true (aP d')
theorem a2c : ∀ (n : Nat) (d : Array aB) (a m b : Nat), b - a ≤ n → a < m → m < b → b ≤ d.size → d.size ≤ 1048576 → SortedIn ltO a m d → SortedIn ltO m b d → ∃ d', Mrg d a m b d'
 | 0, d, a, m, b, hn, ham, hmb, _, _, _, _ => by omega
 | n + 1, d, a, m, b, hn, ham, hmb, hb, hsz, s1, s2 => by
  by_cases c1 : m = a + 1
  ·subst c1
   obtain ⟨b1, b2, b3, b4⟩ := gG (fun h => ltO d[h]! d[a]!) (b - (a + 1)) (a + 1) b (Nat.le_refl _) (by omega)
   have hf := Opq.sym_first d a b _ hb (by omega) hsz rfl
   generalize bsr (fun h => ltO d[h]! d[a]!) (a + 1) b = r at *
   have hr := mW (a := a) (m := a + 1) (b := r) (d := d) (by omega) b1 (by omega)
   obtain ⟨p1, p2⟩ := a0X iZ s2 b1 b2 hb b3 b4 hr
   exact ⟨_, dL _ _ _ d, p1, p2, hf⟩
  ·by_cases c2 : b = m + 1
   ·subst c2
    obtain ⟨b1, b2, b3, b4⟩ := gG (fun h => !(ltO d[m]! d[h]!)) (m - a) a m (Nat.le_refl _) (by omega)
    have hf := Opq.sym_last d a m _ hb (by omega) c1 hsz rfl
    simp only [Bool.not_eq_true', Bool.not_eq_false'] at b3 b4
    generalize bsr (fun h => !(ltO d[m]! d[h]!)) a m = r at *
    have hr := mW (a := r) (m := m) (b := m + 1) (d := d) b2 (by omega) hb
    obtain ⟨p1, p2⟩ := a2e iZ s1 b1 b2 (by omega) b3 b4 hr
    exact ⟨_, dL _ _ _ d, p1, p2, hf⟩
   ·have hp := a6g iZ ham hmb hb s1 s2
    have hq := a7o iZ (d := d) ham hmb hb s1 s2
    have hR : symS d a m b < m → m < symE d a m b → FnI Try.prog 65 55 4 (aP d) [oi (symS d a m b), oi m, oi (symE d a m b), .o (.f 28 [])] true (aP (symD d a m b)) := fun h1 h2 => by
     unfold symD
     rw [if_pos ⟨h1, h2⟩]
     exact a3E d _ m _ h1 h2 (by have := hp.eb; omega) hsz
    have hR0 : ¬ (symS d a m b < m ∧ m < symE d a m b) → symD d a m b = d := fun h => by unfold symD; rw [if_neg h]
    have hmain := fun d2 d3 => Opq.sym_main d (symD d a m b) d2 d3 a m b (symS d a m b) (symE d a m b) ((a + b) / 2) (by omega) (by omega) hb hsz rfl rfl rfl hp.lo hp.smid hp.mide hp.eb hq.1 hq.2
    obtain ⟨r1, r2, r3, r4, r5, pD, t⟩ := hp
    generalize symS d a m b = s at *
    generalize symE d a m b = e at *
    generalize symD d a m b = d1 at *
    have hm1 : a < (a + b) / 2 := by omega
    have hm2 : (a + b) / 2 < b := by omega
    have hm3 : (a + b) / 2 - a ≤ n := by omega
    have hm4 : b - (a + b) / 2 ≤ n := by omega
    generalize (a + b) / 2 = mid at *
    obtain ⟨d2, z2, p2, o2, f2, e2⟩ : ∃ d2 : Array aB, d2.size = d1.size ∧ PermIn a mid d1 d2 ∧ SortedIn ltO a mid d2 ∧ (a < s → s < mid → FnI Try.prog 59 55 4 (aP d1) [oi a, oi s, oi mid, .o (.f 28 [])] true (aP d2)) ∧ (¬ (a < s ∧ s < mid) → d2 = d1) := by
     by_cases c : a < s ∧ s < mid
     ·obtain ⟨d', k1, k2, k3, k4⟩ := a2c n d1 a s mid hm3 c.1 c.2 (by omega) (by omega) t.r1 t.r2
      exact ⟨d', k1, k2, k3, fun _ _ => k4, fun h => absurd c h⟩
     ·refine ⟨d1, rfl, ⟨rfl, fun _ _ => rfl, List.Perm.refl _⟩, ?_, fun h1 h2 => absurd ⟨h1, h2⟩ c, fun _ => rfl⟩
      by_cases c' : s = a
      ·rw [← c']; exact t.r2
      ·have : s = mid := by omega
       rw [← this]; exact t.r1
    have u3 : SortedIn ltO mid e d2 := t.r3.congr fun i h1 h2 => p2.2.1 i (Or.inr h1)
    have u4 : SortedIn ltO e b d2 := t.r4.congr fun i h1 h2 => p2.2.1 i (Or.inr (by omega))
    obtain ⟨d3, z3, p3, o3, f3, e3⟩ : ∃ d3 : Array aB, d3.size = d2.size ∧ PermIn mid b d2 d3 ∧ SortedIn ltO mid b d3 ∧ (mid < e → e < b → FnI Try.prog 59 55 4 (aP d2) [oi mid, oi e, oi b, .o (.f 28 [])] true (aP d3)) ∧ (¬ (mid < e ∧ e < b) → d3 = d2) := by
     by_cases c : mid < e ∧ e < b
     ·obtain ⟨d', k1, k2, k3, k4⟩ := a2c n d2 mid e b hm4 c.1 c.2 (by omega) (by omega) u3 u4
      exact ⟨d', k1, k2, k3, fun _ _ => k4, fun h => absurd c h⟩
     ·refine ⟨d2, rfl, ⟨rfl, fun _ _ => rfl, List.Perm.refl _⟩, ?_, fun h1 h2 => absurd ⟨h1, h2⟩ c, fun _ => rfl⟩
      by_cases c' : e = mid
      ·rw [← c']; exact u4
      ·have : e = b := by omega
       rw [← this]; exact u3
    obtain ⟨g1, g2⟩ := t.done (by omega) (by omega) (by omega) p2 o2 p3 o3
    exact ⟨d3, by omega, permIn_trans _ _ _ a b pD g1, g2, hmain d2 d3 (by omega) hR hR0 f2 e2 f3 e3⟩
noncomputable def symG (d : Array aB) (a m b : Nat) : Array aB := open Classical in if h : ∃ d', Mrg d a m b d' then Classical.choose h else d
theorem a2L {d : Array aB} {a m b : Nat} (ham : a < m) (hmb : m < b) (hb : b ≤ d.size) (hsz : d.size ≤ 1048576) (s1 : SortedIn ltO a m d) (s2 : SortedIn ltO m b d) : Mrg d a m b (symG d a m b) := by
 have h := a2c (b - a) d a m b (Nat.le_refl _) ham hmb hb hsz s1 s2
 unfold symG
 rw [dif_pos h]
 exact Classical.choose_spec h
def blk (n a : Nat) (d : Array aB) : Array aB := if a + 20 ≤ n then blk n (a + 20) (Sort.insertionSort ltO d a (a + 20)) else Sort.insertionSort ltO d a n
termination_by n - a
noncomputable def rnd (n bs a : Nat) (d : Array aB) : Array aB := if 0 < bs ∧ a + 2 * bs ≤ n then rnd n bs (a + 2 * bs) (symG d a (a + bs) (a + 2 * bs)) else if a + bs < n then symG d a (a + bs) n else d
termination_by n - a
noncomputable def sG (n bs : Nat) (d : Array aB) : Array aB := if 0 < bs ∧ bs < n then sG n (2 * bs) (rnd n bs 0 d) else d
termination_by n - bs
def a1Z (n bs a : Nat) (d : Array aB) : Prop := ∀ x, bs ∣ x → a ≤ x → x < n → SortedIn ltO x (min (x + bs) n) d
def a8o (bs a : Nat) (d : Array aB) : Prop := ∀ x, bs ∣ x → x + bs ≤ a → SortedIn ltO x (x + bs) d
theorem lX {s x a : Nat} (hs : 0 < s) (hx : s ∣ x) (ha : s ∣ a) (h1 : x ≤ a) (h2 : ¬ x + s ≤ a) : x = a := by
 have h3 : s ∣ a - x := Nat.dvd_sub ha hx
 have := Nat.eq_zero_of_dvd_of_lt h3 (by omega)
 omega
structure RInv (n bs a : Nat) (d : Array aB) : Prop where
 z : d.size = n
 m : 2 * bs ∣ a
 hi : a1Z n bs a d
 lo : a8o (2 * bs) a d
theorem iK {a b x y : Nat} {d d' : Array aB} (h : SortedIn ltO x y d) (p : PermIn a b d d') (ho : y ≤ a ∨ b ≤ x) : SortedIn ltO x y d' := h.congr fun i h1 h2 => p.2.1 i (by omega)
theorem RInv.mrg {n bs a : Nat} {d : Array aB} (h : RInv n bs a d) (hb : 0 < bs) (hn : n ≤ 1048576) (hl : a + 2 * bs ≤ n) : Mrg d a (a + bs) (a + 2 * bs) (symG d a (a + bs) (a + 2 * bs)) := by
 have hz := h.z
 have hda : bs ∣ a := Nat.dvd_trans (Nat.dvd_mul_left bs 2) h.m
 have s1 := h.hi a hda (Nat.le_refl _) (by omega)
 have s2 := h.hi (a + bs) (Nat.dvd_add hda (Nat.dvd_refl _)) (by omega) (by omega)
 rw [Nat.min_eq_left (by omega)] at s1 s2
 exact a2L (by omega) (by omega) (by omega) (by omega) s1 (by rw [show a + bs + bs = a + 2 * bs by omega] at s2; exact s2)
theorem RInv.next {n bs a : Nat} {d : Array aB} (h : RInv n bs a d) (hb : 0 < bs) (hn : n ≤ 1048576) (hl : a + 2 * bs ≤ n) : RInv n bs (a + 2 * bs) (symG d a (a + bs) (a + 2 * bs)) := by
 have hm := h.mrg hb hn hl
 refine ⟨by rw [hm.z]; exact h.z, Nat.dvd_add h.m (Nat.dvd_refl _), fun x hx h1 h2 => ?_, fun x hx h1 => ?_⟩
 ·exact iK (h.hi x hx (by omega) h2) hm.p (Or.inr h1)
 ·by_cases c : x + 2 * bs ≤ a
  ·exact iK (h.lo x hx c) hm.p (Or.inl c)
  ·have : x = a := lX (by omega) hx h.m (by omega) c
   subst this
   exact hm.s
theorem RInv.mrgL {n bs a : Nat} {d : Array aB} (h : RInv n bs a d) (hb : 0 < bs) (hn : n ≤ 1048576) (hl : ¬ a + 2 * bs ≤ n) (h2 : a + bs < n) : Mrg d a (a + bs) n (symG d a (a + bs) n) := by
 have hz := h.z
 have hda : bs ∣ a := Nat.dvd_trans (Nat.dvd_mul_left bs 2) h.m
 have s1 := h.hi a hda (Nat.le_refl _) (by omega)
 have s2 := h.hi (a + bs) (Nat.dvd_add hda (Nat.dvd_refl _)) (by omega) (by omega)
 rw [Nat.min_eq_left (by omega)] at s1
 rw [Nat.min_eq_right (by omega)] at s2
 exact a2L (by omega) (by omega) (by omega) (by omega) s1 s2
theorem RInv.last {n bs a : Nat} {d : Array aB} (h : RInv n bs a d) (hb : 0 < bs) (hn : n ≤ 1048576) (han : a ≤ n) (hl : ¬ a + 2 * bs ≤ n) : a1Z n (2 * bs) 0 (if a + bs < n then symG d a (a + bs) n else d) := by
 intro x hx _ hxn
 split
 ·rename_i h2
  have hm := h.mrgL hb hn hl h2
  by_cases c : x + 2 * bs ≤ a
  ·rw [Nat.min_eq_left (by omega)]
   exact iK (h.lo x hx c) hm.p (Or.inl c)
  ·have hxa : x = a := by
    rcases Nat.lt_or_ge a x with q | q
    ·have h3 : 2 * bs ∣ x - a := Nat.dvd_sub hx h.m
     have h4 := Nat.le_of_dvd (by omega) h3
     omega
    ·exact lX (by omega) hx h.m q c
   subst hxa
   rw [Nat.min_eq_right (by omega)]
   exact hm.s
 ·rename_i h2
  by_cases c : x + 2 * bs ≤ a
  ·rw [Nat.min_eq_left (by omega)]
   exact h.lo x hx c
  ·have hxa : x = a := by
    rcases Nat.lt_or_ge a x with q | q
    ·have h3 : 2 * bs ∣ x - a := Nat.dvd_sub hx h.m
     have h4 := Nat.le_of_dvd (by omega) h3
     omega
    ·exact lX (by omega) hx h.m q c
   subst hxa
   have := h.hi x (Nat.dvd_trans (Nat.dvd_mul_left bs 2) hx) (Nat.le_refl _) hxn
   rw [Nat.min_eq_right (by omega : n ≤ x + bs)] at this
   rw [Nat.min_eq_right (by omega : n ≤ x + 2 * bs)]
   exact this
theorem a5d {n bs a : Nat} {d : Array aB} (hb : 0 < bs) (h : a + 2 * bs ≤ n) : rnd n bs (a + 2 * bs) (symG d a (a + bs) (a + 2 * bs)) = rnd n bs a d := by
 conv => rhs; rw [rnd]
 rw [if_pos ⟨hb, h⟩]
theorem a0U {n bs a : Nat} {d : Array aB} (h : ¬ a + 2 * bs ≤ n) : rnd n bs a d = if a + bs < n then symG d a (a + bs) n else d := by
 rw [rnd, if_neg (fun k => h k.2)]
theorem a2I {n bs : Nat} {d : Array aB} (hb : 0 < bs) (h : bs < n) : sG n (2 * bs) (rnd n bs 0 d) = sG n bs d := by
 conv => rhs; rw [sG]
 rw [if_pos ⟨hb, h⟩]
theorem xU {n bs : Nat} {d : Array aB} (h : ¬ bs < n) : sG n bs d = d := by rw [sG, if_neg (fun k => h k.2)]
theorem a5e {n a : Nat} {d : Array aB} (h : a + 20 ≤ n) : blk n (a + 20) (Sort.insertionSort ltO d a (a + 20)) = blk n a d := by
 conv => rhs; rw [blk]
 rw [if_pos h]
theorem a0V {n a : Nat} {d : Array aB} (h : ¬ a + 20 ≤ n) : blk n a d = Sort.insertionSort ltO d a n := by rw [blk, if_neg h]
theorem a2a {n bs : Nat} (hb : 0 < bs) (hn : n ≤ 1048576) : ∀ k a d, n - a ≤ k → RInv n bs a d → a ≤ n → PermIn 0 n d (rnd n bs a d) ∧ a1Z n (2 * bs) 0 (rnd n bs a d)
 | k, a, d, hk, h, han => by
  by_cases c : a + 2 * bs ≤ n
  ·cases k with
   | zero => omega
   | succ k =>
    have hm := h.mrg hb hn c
    obtain ⟨p, s⟩ := a2a hb hn k (a + 2 * bs) _ (by omega) (h.next hb hn c) c
    rw [a5d hb c] at p s
    have hz := h.z
    exact ⟨permIn_trans _ _ _ 0 n (permIn_mono _ _ a (a + 2 * bs) 0 n (by omega) c (by omega) hm.p) p, s⟩
  ·have s := h.last hb hn han c
   rw [a0U c]
   refine ⟨?_, s⟩
   split
   ·rename_i h2
    have hm := h.mrgL hb hn c h2
    have hz := h.z
    exact permIn_mono _ _ a n 0 n (by omega) (Nat.le_refl _) (by omega) hm.p
   ·exact ⟨rfl, fun _ _ => rfl, List.Perm.refl _⟩
theorem vV {n bs : Nat} {d : Array aB} (hz : d.size = n) (h : a1Z n bs 0 d) : RInv n bs 0 d := ⟨hz, Nat.dvd_zero _, h, fun x hx h1 => by
 intro i j h2 h3 h4; omega⟩
theorem a2J {n : Nat} (hn : n ≤ 1048576) : ∀ k bs d, n - bs ≤ k → 0 < bs → d.size = n → a1Z n bs 0 d → PermIn 0 n d (sG n bs d) ∧ SortedIn ltO 0 n (sG n bs d)
 | k, bs, d, hk, hb, hz, h => by
  by_cases c : bs < n
  ·cases k with
   | zero => omega
   | succ k =>
    obtain ⟨p, s⟩ := a2a hb hn n 0 d (by omega) (vV hz h) (Nat.zero_le _)
    obtain ⟨p2, s2⟩ := a2J hn k (2 * bs) _ (by omega) (by omega) (by rw [p.1]; exact hz) s
    rw [a2I hb c] at p2 s2
    exact ⟨permIn_trans _ _ _ 0 n p p2, s2⟩
  ·rw [xU c]
   refine ⟨⟨rfl, fun _ _ => rfl, List.Perm.refl _⟩, ?_⟩
   by_cases h0 : n = 0
   ·intro i j h1 h2 h3; omega
   ·have := h 0 (Nat.dvd_zero _) (Nat.le_refl _) (by omega)
    rw [Nat.min_eq_right (by omega : n ≤ 0 + bs)] at this
    exact this
structure BInv (n a : Nat) (d : Array aB) : Prop where
 z : d.size = n
 m : 20 ∣ a
 lo : a8o 20 a d
theorem BInv.next {n a : Nat} {d : Array aB} (h : BInv n a d) (hl : a + 20 ≤ n) : BInv n (a + 20) (Sort.insertionSort ltO d a (a + 20)) := by
 have hz := h.z
 obtain ⟨p, s⟩ := insertionSort_holds iZ d a (a + 20) (by omega) (by omega)
 refine ⟨by rw [p.1]; exact hz, Nat.dvd_add h.m (Nat.dvd_refl _), fun x hx h1 => ?_⟩
 by_cases c : x + 20 ≤ a
 ·exact iK (h.lo x hx c) p (Or.inl c)
 ·have : x = a := lX (by omega) hx h.m (by omega) c
  subst this
  exact s
theorem a2b {n : Nat} : ∀ k a d, n - a ≤ k → BInv n a d → a ≤ n → PermIn 0 n d (blk n a d) ∧ a1Z n 20 0 (blk n a d)
 | k, a, d, hk, h, han => by
  have hz := h.z
  by_cases c : a + 20 ≤ n
  ·cases k with
   | zero => omega
   | succ k =>
    obtain ⟨p0, _⟩ := insertionSort_holds iZ d a (a + 20) (by omega) (by omega)
    obtain ⟨p, s⟩ := a2b k (a + 20) _ (by omega) (h.next c) c
    rw [a5e c] at p s
    exact ⟨permIn_trans _ _ _ 0 n (permIn_mono _ _ a (a + 20) 0 n (by omega) c (by omega) p0) p, s⟩
  ·obtain ⟨p0, s0⟩ := insertionSort_holds iZ d a n han (by omega)
   rw [a0V c]
   refine ⟨permIn_mono _ _ a n 0 n (by omega) (Nat.le_refl _) (by omega) p0, fun x hx _ hxn => ?_⟩
   by_cases c2 : x + 20 ≤ a
   ·rw [Nat.min_eq_left (by omega : x + 20 ≤ n)]
    exact iK (h.lo x hx c2) p0 (Or.inl c2)
   ·have hxa : x = a := by
     rcases Nat.lt_or_ge a x with q | q
     ·have h3 : 20 ∣ x - a := Nat.dvd_sub hx h.m
      have h4 := Nat.le_of_dvd (by omega) h3
      omega
     ·exact lX (by omega) hx h.m q c2
    subst hxa
    rw [Nat.min_eq_right (by omega : n ≤ x + 20)]
    exact s0
noncomputable def a5f (d : Array aB) : Array aB := sG d.size 20 (blk d.size 0 d)
theorem a2K (d : Array aB) (hn : d.size ≤ 1048576) : PermIn 0 d.size d (a5f d) ∧ SortedIn ltO 0 d.size (a5f d) := by
 obtain ⟨p, s⟩ := a2b d.size 0 d (by omega) ⟨rfl, Nat.dvd_zero _, fun x hx h1 => by intro i j h2 h3 h4; omega⟩ (Nat.zero_le _)
 obtain ⟨p2, s2⟩ := a2J hn d.size 20 _ (by omega) (by omega) p.1 s
 exact ⟨permIn_trans _ _ _ 0 _ p p2, s2⟩
theorem a6e (d : Array aB) (hs : 20 < d.size) (hsz : d.size ≤ 1048576) :
    FnI Try.prog 45 55 4 (aP d) [oi d.size, .o (.f 28 [])] true (aP (a5f d)) := by
 have hst := a2K d hsz
 obtain ⟨bp, bs0⟩ := a2b d.size 0 d (by omega) ⟨rfl, Nat.dvd_zero _, fun x hx h1 => by intro i j h2 h3 h4; omega⟩ (Nat.zero_le _)
 refine a3v Try.func45 rfl Try.call45 rfl (bA d) (bA _) (by rw [bG, bG]; exact hst.1.1) (fun h1 => absurd (eF h1) (by omega)) (fun hne C y => ?_)
 simp only [go_sem, Try.ntmps45]
 have hdef : a5f d = sG d.size 20 (blk d.size 0 d) := rfl
 generalize hn : d.size = n at *
 refine aL ?_
 refine bE (α := Nat × Array aB) (fun x => [(7, oi x.1), (8, oi (x.1 + 20 : Nat))]) (fun x => [(0, .row 55 4 (aP x.2) true)]) (fun x => x.1 ≤ n ∧ x.2.size = n ∧ blk n x.1 x.2 = blk n 0 d) (fun x => n - x.1) (0, d) (fun _ => ?_) ?_ ?_ (fun x hx => ?_)
 ·simp only [go_sem]
 ·simp only [go_sem]; simp
 ·exact ⟨Nat.zero_le _, hn, rfl⟩
 ·obtain ⟨a, dk⟩ := x
  obtain ⟨h1, h2, h3⟩ := hx
  simp only at h1 h2 h3
  simp only [go_sem]
  by_cases hl : a + 20 ≤ n
  ·have hl' : decide (((a + 20 : Nat) : Int) ≤ (n : Int)) = true := by simp only [decide_eq_true_eq]; omega
   have hI := iH dk a (a + 20) (by omega) (by omega) (by omega)
   have hz : (Sort.insertionSort ltO dk a (a + 20)).size = dk.size := pY a (a + 20) _ _ dk rfl
   have hb := a5e (d := dk) hl
   have e2 : ((a + 20 : Nat) : Int) + 20 = ((a + 20 + 20 : Nat) : Int) := by omega
   generalize Sort.insertionSort ltO dk a (a + 20) = d2 at *
   have qH := aI @hl' @e2; repeat' (with_reducible first | refine nY ?_ | (refine mX ?_; try simp only [go_sem, qH]) | refine kD ?_ | refine rD ?_ | refine vI hI ?_ | refine vJ hI ?_ | refine aO ?_ | fail)
   refine aQ (a + 20, d2) ?_ ?_ ?_
   ·simp only [go_sem]; simp
   ·exact ⟨hl, by simp only; omega, by simp only; rw [hb, h3]⟩
   ·simp only; omega
  ·have hl' : decide (((a + 20 : Nat) : Int) ≤ (n : Int)) = false := by simp only [decide_eq_false_iff_not]; omega
   have hI := iH dk a n (by omega) (by omega) (by omega)
   have hb := a0V (d := dk) hl
   rw [← hb, h3] at hI
   generalize blk n 0 d = d1 at *
   rw [hdef] at hst ⊢
   have hbz : d1.size = n := by rw [bp.1]; exact hn
   have qH := @hl'; repeat' (with_reducible first | refine nY ?_ | (refine mX ?_; try simp only [go_sem, qH]) | refine kD ?_ | refine rD ?_ | refine vI hI ?_ | refine vJ hI ?_ | refine aO ?_ | fail)
   refine bE (α := Nat × Array aB) (fun x => [(6, oi x.1)]) (fun x => [(0, .row 55 4 (aP x.2) true)]) (fun x => 0 < x.1 ∧ x.2.size = n ∧ a1Z n x.1 0 x.2 ∧ sG n x.1 x.2 = sG n 20 d1) (fun x => n - x.1) (20, d1) (fun _ => ?_) ?_ ?_ (fun x hx => ?_)
   ·simp only [go_sem]
   ·simp only [go_sem]; simp
   ·exact ⟨by simp only; omega, hbz, bs0, rfl⟩
   ·obtain ⟨bs, dj⟩ := x
    obtain ⟨k1, k2, k3, k4⟩ := hx
    simp only at k1 k2 k3 k4
    simp only [go_sem]
    by_cases hc : bs < n
    ·have hc' : decide ((bs : Int) < (n : Int)) = true := by simp only [decide_eq_true_eq]; omega
     have e1 : (2 : Int) * (bs : Int) = ((2 * bs : Nat) : Int) := by omega
     have e3 : (bs : Int) * 2 = ((2 * bs : Nat) : Int) := by omega
     obtain ⟨rp, rs⟩ := a2a k1 hsz n 0 dj (by omega) (vV k2 k3) (Nat.zero_le _)
     have hrg := a2I (d := dj) k1 hc
     have hri := vV k2 k3
     have q0 := @hc'; have q1 := @e1; refine jD ?_
     refine bE (α := Nat × Array aB) (fun x => [(7, oi x.1), (8, oi (x.1 + 2 * bs : Nat))]) (fun x => [(0, .row 55 4 (aP x.2) true)]) (fun x => x.1 ≤ n ∧ RInv n bs x.1 x.2 ∧ rnd n bs x.1 x.2 = rnd n bs 0 dj) (fun x => n - x.1) (0, dj) (fun _ => ?_) ?_ ?_ (fun x hx => ?_)
     ·simp only [go_sem]
     ·simp only [go_sem]; simp
     ·exact ⟨Nat.zero_le _, hri, rfl⟩
     ·obtain ⟨a2, dm⟩ := x
      obtain ⟨m1, m2, m3⟩ := hx
      simp only at m1 m2 m3
      simp only [go_sem]
      have ea : (a2 : Int) + (bs : Int) = ((a2 + bs : Nat) : Int) := by omega
      by_cases hl2 : a2 + 2 * bs ≤ n
      ·have hl2' : decide (((a2 + 2 * bs : Nat) : Int) ≤ (n : Int)) = true := by simp only [decide_eq_true_eq]; omega
       have hm := (m2.mrg k1 hsz hl2).f
       have hnx := m2.next k1 hsz hl2
       have hg := a5d (d := dm) k1 hl2
       have e2 : ((a2 + 2 * bs : Nat) : Int) + ((2 * bs : Nat) : Int) = ((a2 + 2 * bs + 2 * bs : Nat) : Int) := by omega
       generalize symG dm a2 (a2 + bs) (a2 + 2 * bs) = d2 at *
       have qH := aI @hl2' (aI @ea (aI @e1 @e2)); repeat' (with_reducible first | refine nY ?_ | (refine mX ?_; try simp only [go_sem, qH]) | refine kD ?_ | refine rD ?_ | refine vI hm ?_ | refine vJ hm ?_ | refine aO ?_ | fail)
       refine aQ (a2 + 2 * bs, d2) ?_ ?_ ?_
       ·simp only [go_sem]; simp
       ·exact ⟨hl2, hnx, by simp only; rw [hg, m3]⟩
       ·simp only; omega
      ·have hl2' : decide (((a2 + 2 * bs : Nat) : Int) ≤ (n : Int)) = false := by simp only [decide_eq_false_iff_not]; omega
       have hstp := a0U (d := dm) hl2
       rw [m3] at hstp
       by_cases hl3 : a2 + bs < n
       ·have hl3' : decide (((a2 + bs : Nat) : Int) < (n : Int)) = true := by simp only [decide_eq_true_eq]; omega
        have hm := (m2.mrgL k1 hsz hl2 hl3).f
        rw [if_pos hl3] at hstp
        rw [← hstp] at hm
        have qH := aI @hl2' (aI @ea (aI @hl3' @e3)); repeat' (with_reducible first | refine nY ?_ | (refine mX ?_; try simp only [go_sem, qH]) | refine kD ?_ | refine rD ?_ | refine vI hm ?_ | refine vJ hm ?_ | refine aO ?_ | fail)
        refine aQ (2 * bs, rnd n bs 0 dj) ?_ ?_ ?_
        ·simp only [go_sem]; simp
        ·exact ⟨by simp only; omega, by simp only; rw [rp.1]; exact k2, rs, by simp only; rw [hrg, k4]⟩
        ·simp only; omega
       ·have hl3' : decide (((a2 + bs : Nat) : Int) < (n : Int)) = false := by simp only [decide_eq_false_iff_not]; omega
        rw [if_neg hl3] at hstp
        have q0 := @hl2'; have q1 := @ea; have q2 := @hl3'; have q3 := @e3; refine a6O ?_
        refine aQ (2 * bs, rnd n bs 0 dj) ?_ ?_ ?_
        ·simp only [go_sem, hstp]; simp
        ·exact ⟨by simp only; omega, by simp only; rw [rp.1]; exact k2, rs, by simp only; rw [hrg, k4]⟩
        ·simp only; omega
    ·have hc' : decide ((bs : Int) < (n : Int)) = false := by simp only [decide_eq_false_iff_not]; omega
     have hfin := xU (d := dj) hc
     rw [k4] at hfin
     rw [hfin]
     have q0 := @hc'; refine iM ?_
     exact aF rfl rfl
theorem a3B (its : List aB) (hap : dW (its.map (·.1))) (hl : its.length ≤ 1048576) : ∃ its' : List aB, its'.Perm its ∧ (its'.map (·.1)).Pairwise ltG ∧
    FnI Try.prog 27 55 4 (its.map fO) [.o (.f 28 [])] true (its'.map fO) := by
 by_cases h20 : its.length ≤ 20
 ·exact a0Y its hap h20
 ·obtain ⟨h1, h2⟩ := a2K its.toArray (by simpa using hl)
  have hp := qE h1
  refine ⟨(a5f its.toArray).toList, hp, ?_, ?_⟩
  ·refine qD (by rw [h1.1]; exact h2) (vX (hp.map (·.1)).symm (by simpa using hap))
  ·exact nK its.toArray _ h1.1 (a6e its.toArray (by simp; omega) (by simpa using hl)) (fun _ => oI)
theorem a3C : Opq.SortsG 1048576 := fun its hap hl => a3B its hap hl
end Go.Proofs.Ytcppkdifiimblaa
end
section
set_option maxRecDepth 100000
set_option maxHeartbeats 4000000
namespace Go.Proofs.Ytcppkdifiimblaa
open Go Go.Sx Go.RowKit Go.Proofs
theorem wC (s : TStore) (ids : List Int) (name : ByteArray) (hf : kP s) (hi : qN ids) : FnC Try.prog 3 [eZ s, .o (.d (.sl (ids.map fJ))), os name] (ob true) := by
 refine ent Try.func3 rfl Try.call3 rfl (fun C => ?_); simp only [go_sem, st0, Try.ntmps3]
 by_cases g : (1048576 : Int) < (ids.length : Int)
 ·have g' : decide ((1048576 : Int) < (ids.length : Int)) = true := by simp [g]
  have q0 := @g'; have q1 := @a5R; refine jD ?_
  first | exact aA ⟨⟨_, rfl, by simp only [go_sem]⟩, trivial⟩ | skip
 have g' : decide ((1048576 : Int) < (ids.length : Int)) = false := by simp [g]
 have hl : ids.length ≤ 1048576 := by omega
 by_cases hn1 : (1048576 : Int) < name.size
 ·have q0 := @g'; have q1 := @hn1; have q2 := @a5R; refine a1C ?_
  exact aA ⟨⟨_, rfl, by simp only [go_sem]⟩, trivial⟩
 have hz := a1Q s 1048576 (by omega) hf
 by_cases h : bY 1048576 (bI s) < 0
 ·have q0 := @g'; have q1 := @hn1; have q2 := @h; have q3 := @a5R; refine a8K hz ?_
  exact aA ⟨⟨_, rfl, by simp only [go_sem]⟩, trivial⟩
 have hs : bI s ≤ 1048576 := by have := a4N h; omega
 have hs' := hs
 unfold bI cB bZ at hs'
 have hc1 := a3z s.fSchema
 have hc2 := a5c s.fFiles
 have hc3 := a2H ids
 have hX := a6R s ids name
 have e1 := Opq.specGroup_ok s ids name (by omega) (by omega)
 have e2 := Opq.implGroup_ok 1048576 a3C s ids name (by omega) (by omega) (by omega)
 generalize (bV s ids name).foldl dO [] = X at *
 have hb6 : pU X = X.length + wsum jF X := rfl
 have hc6 := a3A X
 have hk1 : ¬ ((1 : Int) + (csum cnField s.fSchema : Nat) + (csum cnFile s.fFiles : Nat) + (csum cnInt ids : Nat) < 0) := by omega
 have hk2 : ¬ ((1 : Int) + (csum cnGroup X : Nat) < 0) := by omega
 have qH := aI @g' (aI @hn1 (aI @h (aI @hk1 (aI @hk2 @a5R)))); repeat' (with_reducible first | refine nY ?_ | (refine mX ?_; try simp only [go_sem, qH]) | refine kD ?_ | refine rD ?_ | refine cP hz ?_ | refine vO (oD s hs) ?_ | refine vQ (oD s hs) ?_ | refine vO (qO ids hl) ?_ | refine vQ (qO ids hl) ?_ | refine vO e1 ?_ | refine vQ e1 ?_ | refine vO e2 ?_ | refine vQ e2 ?_ | refine vO (rM X (by omega)) ?_ | refine vQ (rM X (by omega)) ?_ | refine vO (vK s (by omega)) ?_ | refine vQ (vK s (by omega)) ?_ | refine vO (qP ids (by omega)) ?_ | refine vQ (qP ids (by omega)) ?_ | refine vM (zK s _ (by omega)) ?_ | refine vM (rR ids _ (by omega)) ?_ | refine vM (wH X _ (by omega)) ?_ | refine vO (nJ X 1 (by omega)) ?_ | refine vQ (nJ X 1 (by omega)) ?_ | refine cP (a0K s hs) ?_ | refine cP (a1I ids hl) ?_ | refine aO ?_ | fail)
 exact aA ⟨⟨_, rfl, by simp only [go_sem]⟩, trivial⟩
end Go.Proofs.Ytcppkdifiimblaa
end
