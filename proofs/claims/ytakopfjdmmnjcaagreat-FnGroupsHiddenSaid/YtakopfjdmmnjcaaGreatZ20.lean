/- Joined texts. -/
import Derived.Test.YtakopfjdmmnjcaaGreatZ15
import Derived.Test.YtakopfjdmmnjcaaGreatZ19
set_option linter.all false
section
set_option maxRecDepth 100000
set_option maxHeartbeats 4000000
namespace Go.Proofs.YtakopfjdmmnjcaaGreat
open Go Go.Sx Go.RowKit Go.Proofs
theorem a4t {l : List Int} (hl : iT l) (s0 : TStore) (u : Int) (h0 : aJ s0 ≤ 2000) (hu : 0 ≤ u ∧ u ≤ 2) : Drw l 61 [bG s0, oi u] (fun s : TStore => aJ s ≤ 4000) (fun s => bG s) := by
 intro i h hi hh; refine rY Tryz.func61 rfl Tryz.call61 rfl (fun C b => ?_); simp only [go_sem, Tryz.ntmps61]
 refine aD ?_
 refine aY (α := Nat × TStore × Nat × Int) (fun x => [(7, oi x.1)]) (fun x => [(0, .pin b 97 [.sl (l.map rX), iv x.2.2.1, iv x.2.2.2]), (1, .box 27 [.d (.sl (x.2.1.fSchema.map dA)), .d (.sl (x.2.1.fFiles.map bW)), .d (iv x.2.1.fNextID)])]) (fun x => (x.1 ≤ 4 ∧ aJ x.2.1 ≤ 2000 + 100 * x.1) ∧ (x.2.2.1 ≤ l.length ∧ inR .i64 x.2.2.2)) (fun x => 5 - x.1) (0, s0, i, h) (fun _ => ?_) ?_ ?_ (fun x hx => ?_)
 ·simp only [go_sem]
 ·simp only [go_sem]; simp
 ·exact ⟨⟨Nat.zero_le _, by simp only; omega⟩, hi, hh⟩
 ·clear hi hh
  obtain ⟨k, s, i, h⟩ := x
  obtain ⟨⟨k4, hw⟩, hi, hh⟩ := hx
  simp only at k4 hw hi hh
  simp only [go_sem]
  refine aD ?_
  first | (refine bE (aH hl 4 (by decide) (by decide) i h hi hh) ⟨rfl, rfl⟩ ?_ rfl ?_; (focus first | rfl | (simp only [go_sem]; done))) | (refine hZ (aH hl 4 (by decide) (by decide) i h hi hh) ⟨rfl, rfl⟩ ?_ rfl ?_; (focus first | rfl | (simp only [go_sem]; done)))
  clear hi hh; rintro ⟨x, i, h⟩ ⟨hx, hi, hh⟩; simp only at hx hi hh; simp only [go_sem]
  refine aD ?_
  refine cnd rfl (fun hlt => ?_) (fun hlt => ?_)
  ·simp only [decide_eq_true_eq] at hlt
   refine aD ?_
   first | (refine bE (jA hl 1 i h hi hh) ⟨rfl, rfl⟩ ?_ rfl ?_; (focus first | rfl | (simp only [go_sem]; done))) | (refine hZ (jA hl 1 i h hi hh) ⟨rfl, rfl⟩ ?_ rfl ?_; (focus first | rfl | (simp only [go_sem]; done)))
   clear hi hh; rintro ⟨f, i, h⟩ ⟨hf, hi, hh⟩; simp only at hf hi hh; simp only [go_sem]
   have hfw := (wP hf).1
   have hlen : f.fAttrs.length ≤ 40 := by unfold bA eT at hfw; omega
   refine aD ?_
   first | (refine bE (aH hl 3 (by decide) (by decide) i h hi hh) ⟨rfl, rfl⟩ ?_ rfl ?_; (focus first | rfl | (simp only [go_sem]; done))) | (refine hZ (aH hl 3 (by decide) (by decide) i h hi hh) ⟨rfl, rfl⟩ ?_ rfl ?_; (focus first | rfl | (simp only [go_sem]; done)))
   clear hi hh; rintro ⟨y, i, h⟩ ⟨hy, hi, hh⟩; simp only at hy hi hh; simp only [go_sem]
   have hy3 : y = 0 ∨ y = 1 ∨ (¬ y = 0 ∧ ¬ y = 1) := by omega
   rcases hy3 with rfl | rfl | ⟨y0, y1⟩
   ·have hcr := a2L s ⟨f.fID, Int.tmod (u + 1) 3, false, f.fLink, f.fAttrs⟩ (by omega) (show bA f ≤ 4300000 by omega)
    have hcw : aJ (creS s ⟨f.fID, Int.tmod (u + 1) 3, false, f.fLink, f.fAttrs⟩) ≤ aJ s + bA f + 1 := b6n s ⟨f.fID, Int.tmod (u + 1) 3, false, f.fLink, f.fAttrs⟩
    generalize creS s ⟨f.fID, Int.tmod (u + 1) 3, false, f.fLink, f.fAttrs⟩ = s2 at *
    have q0 := @decide_true; refine lK hcr ?_
    refine aF (k + 1, s2, i, h) ?_ ?_ ?_
    ·simp only [go_sem]; simp
    ·exact ⟨⟨by simp only; omega, by simp only; omega⟩, hi, hh⟩
    ·simp only; omega
   ·have hln : s.fFiles.length ≤ 2400 := by unfold aJ eF at hw; omega
    have q0 := @decide_true; have q1 := @decide_false; refine fM ?_
    first | (refine bE (aH hl ((s.fFiles.length : Int) + 1) (by omega) (by omega) i h hi hh) ⟨rfl, rfl⟩ ?_ rfl ?_; (focus first | rfl | (simp only [go_sem]; done))) | (refine hZ (aH hl ((s.fFiles.length : Int) + 1) (by omega) (by omega) i h hi hh) ⟨rfl, rfl⟩ ?_ rfl ?_; (focus first | rfl | (simp only [go_sem]; done)))
    clear hi hh; rintro ⟨z, i, h⟩ ⟨hz, hi, hh⟩; simp only at hz hi hh; simp only [go_sem]
    obtain ⟨m, rfl⟩ := Int.eq_ofNat_of_zero_le hz.1
    by_cases hm : m < s.fFiles.length
    ·have hm1 : decide ((m : Int) < (s.fFiles.length : Int)) = true := by simp only [decide_eq_true_eq]; omega
     have hc := qL s.fFiles[m] u
     cases hcr : yL s.fFiles[m] u
     ·rw [hcr] at hc
      have hrp := a1M s ⟨s.fFiles[m].fID, Int.tmod (u + 1) 3, false, f.fLink, f.fAttrs⟩ (by omega) (show bA f ≤ 4300000 by omega)
      have hrw : aJ (repS s ⟨s.fFiles[m].fID, Int.tmod (u + 1) 3, false, f.fLink, f.fAttrs⟩) ≤ aJ s + bA f := b6q s ⟨s.fFiles[m].fID, Int.tmod (u + 1) 3, false, f.fLink, f.fAttrs⟩
      generalize repS s ⟨s.fFiles[m].fID, Int.tmod (u + 1) 3, false, f.fLink, f.fAttrs⟩ = s2 at *
      have q0 := @hm; have q1 := @hm1; refine zT hc hrp ?_
      refine aF (k + 1, s2, i, h) ?_ ?_ ?_
      ·simp only [go_sem]; simp
      ·exact ⟨⟨by simp only; omega, by simp only; omega⟩, hi, hh⟩
      ·simp only; omega
     ·rw [hcr] at hc
      have q0 := @hm; have q1 := @hm1; refine zS hc ?_
      refine aF (k + 1, s, i, h) ?_ ?_ ?_
      ·simp only [go_sem]; simp
      ·exact ⟨⟨by simp only; omega, by simp only; omega⟩, hi, hh⟩
      ·simp only; omega
    ·have hm' : decide ((m : Int) < (s.fFiles.length : Int)) = false := by simp only [decide_eq_false_iff_not]; omega
     have q0 := @hm'; refine jW ?_
     refine aF (k + 1, s, i, h) ?_ ?_ ?_
     ·simp only [go_sem]; simp
     ·exact ⟨⟨by simp only; omega, by simp only; omega⟩, hi, hh⟩
     ·simp only; omega
   ·have hln : s.fFiles.length ≤ 2400 := by unfold aJ eF at hw; omega
    have q0 := @y0; have q1 := @y1; have q2 := @decide_false; refine jQ ?_
    first | (refine bE (aH hl ((s.fFiles.length : Int) + 1) (by omega) (by omega) i h hi hh) ⟨rfl, rfl⟩ ?_ rfl ?_; (focus first | rfl | (simp only [go_sem]; done))) | (refine hZ (aH hl ((s.fFiles.length : Int) + 1) (by omega) (by omega) i h hi hh) ⟨rfl, rfl⟩ ?_ rfl ?_; (focus first | rfl | (simp only [go_sem]; done)))
    clear hi hh; rintro ⟨z, i, h⟩ ⟨hz, hi, hh⟩; simp only at hz hi hh; simp only [go_sem]
    obtain ⟨m, rfl⟩ := Int.eq_ofNat_of_zero_le hz.1
    by_cases hm : m < s.fFiles.length
    ·have hm1 : decide ((m : Int) < (s.fFiles.length : Int)) = true := by simp only [decide_eq_true_eq]; omega
     have hc := qL s.fFiles[m] u
     cases hcr : yL s.fFiles[m] u
     ·rw [hcr] at hc
      have hrp := a3K s s.fFiles[m].fID (by omega)
      have hrw := b6p s s.fFiles[m].fID
      generalize delS s s.fFiles[m].fID = s2 at *
      have qH := aI @hm @hm1; repeat' (with_reducible first | refine nY ?_ | (refine mX ?_; try simp only [go_sem, qH]) | refine kD ?_ | (apply rE [7,11] [] [0,1,2,3,4,5,6] [0,1,2,3,4,5,6] ((.c 7 [8,9,10] [8,9,10] (.c 11 [] [10] .n .n) .n)) (by simp only [go_sem]; rfl) (by simp only [go_sem]; rfl) (by simp only [go_sem]; rfl) (by decide +kernel); (focus simp only [go_sem]; done)) | exact bJ | refine aP (uX ?_) ?_ | refine aQ (aX ?_) ?_ | refine aR (aX ?_) ?_ | exact bY | exact oH | exact uB | refine rD ?_ | refine cP hc ?_ | refine cP hrp ?_ | refine aO ?_ | fail)
      refine aF (k + 1, s2, i, h) ?_ ?_ ?_
      ·simp only [go_sem]; simp
      ·exact ⟨⟨by simp only; omega, by simp only; omega⟩, hi, hh⟩
      ·simp only; omega
     ·rw [hcr] at hc
      have q0 := @hm; have q1 := @hm1; refine zS hc ?_
      refine aF (k + 1, s, i, h) ?_ ?_ ?_
      ·simp only [go_sem]; simp
      ·exact ⟨⟨by simp only; omega, by simp only; omega⟩, hi, hh⟩
      ·simp only; omega
    ·have hm' : decide ((m : Int) < (s.fFiles.length : Int)) = false := by simp only [decide_eq_false_iff_not]; omega
     have q0 := @hm'; refine jW ?_
     refine aF (k + 1, s, i, h) ?_ ?_ ?_
     ·simp only [go_sem]; simp
     ·exact ⟨⟨by simp only; omega, by simp only; omega⟩, hi, hh⟩
     ·simp only; omega
  ·refine aD ?_
   exact aN (s, i, h) ⟨⟨_, rfl, by simp only [go_sem]⟩, trivial⟩ ⟨(show aJ s ≤ 4000 by omega), ⟨hi, hh⟩⟩ (by simp only [go_sem])
def eqU (a b : TStore) (u : Int) : Bool := lI ⟨(vis a u).fSchema, (vis a u).fFiles, 0⟩ ⟨(vis b u).fSchema, (vis b u).fFiles, 0⟩
theorem a8H (a b : TStore) (u : Int) (ha : aJ a ≤ 1048576) (hb : aJ b ≤ 1048576) : FnC Tryz.prog 8 [bG a, bG b, oi u] (ob (eqU a b u)) := by
 have h1 := a4T a u
 have h3 : FnC Tryz.prog 31 [bG ⟨(vis a u).fSchema, (vis a u).fFiles, 0⟩, bG ⟨(vis b u).fSchema, (vis b u).fFiles, 0⟩] (ob (eqU a b u)) := yP _ _ (show aJ (vis a u) ≤ 4300000 by omega)
 refine ent Tryz.func8 rfl Tryz.call8 rfl (fun C => ?_); simp only [go_sem, st0, Tryz.ntmps8]
 refine b8i (qK a u (by omega)) (qK b u (by omega)) h3 ?_
 exact aA ⟨⟨_, rfl, by simp only [go_sem]⟩, trivial⟩
theorem b0X {E : Env} {rs : List ResultVar} {α : Type} {Q : α → Prop} {res : α → SV} {e : Ex} {st st' : St} (h : Sees E.C st st') (k : b2E E rs Q res e st') : b2E E rs Q res e st := by
 cases e with
 | exit j => exact k
 | ret => obtain ⟨s, a, h1, h2⟩ := k; exact ⟨s, a, h.trans h1, h2⟩
 | normal => obtain ⟨s, a, h1, h2⟩ := k; exact ⟨s, a, h.trans h1, h2⟩
theorem b0Y {l : List Int} (hl : iT l) : FnX Tryz.prog 27 [.o (.d (.sl (l.map rX)))] (fun p : TStore × TStore × Int => aJ p.1 ≤ 4000 ∧ aJ p.2.1 ≤ 4000) (fun p => .t [(true, (bG p.1).cells), (true, (bG p.2.1).cells), (false, [.d (iv p.2.2)])]) := by
 refine b5W Tryz.func27 rfl Tryz.call27 rfl (fun C => ?_); simp only [go_sem, st0, Tryz.ntmps27]
 refine aD ?_
 refine b2B (a0H l hl.1 hl.2) rfl rfl ?_
 intro h hh
 simp only [go_sem]
 refine aD ?_
 first | (refine bE (qI hl 0 h (Nat.zero_le _) hh) ⟨rfl, rfl⟩ ?_ rfl ?_; (focus first | rfl | (simp only [go_sem]; done))) | (refine hZ (qI hl 0 h (Nat.zero_le _) hh) ⟨rfl, rfl⟩ ?_ rfl ?_; (focus first | rfl | (simp only [go_sem]; done)))
 clear hh; rintro ⟨s, i, h⟩ ⟨hs, hi, hh⟩; simp only at hs hi hh; simp only [go_sem]
 have hsw := vT hs
 refine aD ?_
 first | (refine bE (aH hl 3 (by decide) (by decide) i h hi hh) ⟨rfl, rfl⟩ ?_ rfl ?_; (focus first | rfl | (simp only [go_sem]; done))) | (refine hZ (aH hl 3 (by decide) (by decide) i h hi hh) ⟨rfl, rfl⟩ ?_ rfl ?_; (focus first | rfl | (simp only [go_sem]; done)))
 clear hi hh; rintro ⟨u, i, h⟩ ⟨hu, hi, hh⟩; simp only at hu hi hh; simp only [go_sem]
 refine aD ?_
 first | (refine bE (eY hl 3 (by decide) (by decide) i h hi hh) ⟨rfl, rfl⟩ ?_ rfl ?_; (focus first | rfl | (simp only [go_sem]; done))) | (refine hZ (eY hl 3 (by decide) (by decide) i h hi hh) ⟨rfl, rfl⟩ ?_ rfl ?_; (focus first | rfl | (simp only [go_sem]; done)))
 clear hi hh; rintro ⟨c1, i, h⟩ ⟨q1, hi, hh⟩; simp only at q1 hi hh; simp only [go_sem]
 cases c1
 ·repeat' (with_reducible first | refine nX ?_ | (refine mX ?_; try simp only [go_sem]) | refine kD ?_ | refine aO ?_ | fail)
  refine WP.sees (Sees.frz 3 rfl) ?_
  simp only [go_sem]
  have qH := trivial; repeat' (with_reducible first | refine nY ?_ | (refine mX ?_; try simp only [go_sem]) | refine kD ?_ | (apply rF [4,6,7] [] [0,1,2,3,5] [0,1,2,3,5] ((.c 4 [] [0,5] (.c 6 [] [5] (.c 7 [8] [5,8] .n .n) .n) .n)) (by simp only [go_sem]; rfl) (by simp only [go_sem]; rfl) (by simp only [go_sem]; rfl) (by decide +kernel); (focus simp only [go_sem]; done)) | exact bJ | refine aP (uX ?_) ?_ | refine aQ (aX ?_) ?_ | refine aR (aX ?_) ?_ | exact bY | exact oH | (refine uA ?_; simp only [go_sem]; (repeat' first | omega | refine And.intro ?_ ?_); done) | refine rD ?_ | refine aO ?_ | fail)
  first | (refine bE (a4t hl s u (by omega) (by omega) i h hi hh) ⟨rfl, rfl⟩ ?_ rfl ?_; (focus first | rfl | (simp only [go_sem]; done))) | (refine hZ (a4t hl s u (by omega) (by omega) i h hi hh) ⟨rfl, rfl⟩ ?_ rfl ?_; (focus first | rfl | (simp only [go_sem]; done)))
  clear hi hh; rintro ⟨s2, i, h⟩ ⟨hs2, hi, hh⟩; simp only at hs2 hi hh; simp only [go_sem]
  have qH := trivial; repeat' (with_reducible first | refine nY ?_ | (refine mX ?_; try simp only [go_sem]) | refine kD ?_ | exact bJ | refine aP (uX ?_) ?_ | refine aQ (aX ?_) ?_ | refine aR (aX ?_) ?_ | (refine uA ?_; simp only [go_sem]; (repeat' first | omega | refine And.intro ?_ ?_); done) | refine rD ?_ | refine aO ?_ | fail)
  exact zY (s, s2, u) ⟨⟨_, rfl, by simp only [go_sem]; try simp⟩, by simp [cK]⟩ ⟨(by omega : aJ s ≤ 4000), hs2⟩
 ·repeat' (with_reducible first | refine nX ?_ | (refine mX ?_; try simp only [go_sem]) | refine kD ?_ | refine aO ?_ | fail)
  refine WP.sees (Sees.frz 3 rfl) ?_
  simp only [go_sem]
  have qH := trivial; repeat' (with_reducible first | refine nY ?_ | (refine mX ?_; try simp only [go_sem]) | refine kD ?_ | (apply rF [2,4,5,6] [] [0,1,3] [0,1,3] ((.c 2 [] [0,3] (.c 4 [] [0] (.c 5 [] [] (.c 6 [7] [7] .n .n) .n) .n) .n)) (by simp only [go_sem]; rfl) (by simp only [go_sem]; rfl) (by simp only [go_sem]; rfl) (by decide +kernel); (focus simp only [go_sem]; done)) | exact bJ | refine aP (uX ?_) ?_ | refine aQ (aX ?_) ?_ | refine aR (aX ?_) ?_ | exact bY | exact oH | (refine uA ?_; simp only [go_sem]; (repeat' first | omega | refine And.intro ?_ ?_); done) | refine rD ?_ | refine aO ?_ | fail)
  first | (refine bE (a4x hl i h hi hh) ⟨rfl, rfl⟩ ?_ rfl ?_; (focus first | rfl | (simp only [go_sem]; done))) | (refine hZ (a4x hl i h hi hh) ⟨rfl, rfl⟩ ?_ rfl ?_; (focus first | rfl | (simp only [go_sem]; done)))
  clear hi hh; rintro ⟨s2, i, h⟩ ⟨hs2, hi, hh⟩; simp only at hs2 hi hh; simp only [go_sem]
  have hs3 := hs2.w
  have qH := trivial; repeat' (with_reducible first | refine nY ?_ | (refine mX ?_; try simp only [go_sem]) | refine kD ?_ | exact bJ | refine aP (uX ?_) ?_ | refine aQ (aX ?_) ?_ | refine aR (aX ?_) ?_ | (refine uA ?_; simp only [go_sem]; (repeat' first | omega | refine And.intro ?_ ?_); done) | refine rD ?_ | refine aO ?_ | fail)
  first | (refine bE (a2M hl i h hi hh) ⟨rfl, rfl⟩ ?_ rfl ?_; (focus first | rfl | (simp only [go_sem]; done))) | (refine hZ (a2M hl i h hi hh) ⟨rfl, rfl⟩ ?_ rfl ?_; (focus first | rfl | (simp only [go_sem]; done)))
  clear hi hh; rintro ⟨u2, i, h⟩ ⟨hu2, hi, hh⟩; simp only at hu2 hi hh; simp only [go_sem]
  have qH := trivial; repeat' (with_reducible first | refine nY ?_ | (refine mX ?_; try simp only [go_sem]) | refine kD ?_ | exact bJ | refine aP (uX ?_) ?_ | refine aQ (aX ?_) ?_ | refine aR (aX ?_) ?_ | (refine uA ?_; simp only [go_sem]; (repeat' first | omega | refine And.intro ?_ ?_); done) | refine rD ?_ | refine aO ?_ | fail)
  refine b0X (Sees.frz 5 rfl) ?_
  simp only [go_sem]
  exact zY (s, s2, u2) ⟨⟨_, rfl, by simp only [go_sem]; try simp⟩, by simp [cK]⟩ ⟨(by omega : aJ s ≤ 4000), (by omega : aJ s2 ≤ 4000)⟩
theorem b0Z {l : List Int} (hl : iT l) : FnX Tryz.prog 6 [.o (.d (.sl (l.map rX)))] (fun p : TStore × TStore × List TDir × Int => aJ p.1 ≤ 4000 ∧ aJ p.2.1 ≤ 4000 ∧ dirsD 6 p.2.2.1) (fun p => .t [(true, (bG p.1).cells), (true, (bG p.2.1).cells), (false, [.d (.sl (p.2.2.1.map dG))]), (false, [.d (iv p.2.2.2)])]) := by
 refine b5W Tryz.func6 rfl Tryz.call6 rfl (fun C => ?_); simp only [go_sem, st0, Tryz.ntmps6]
 refine aD ?_
 refine b2B (a0H l hl.1 hl.2) rfl rfl ?_
 intro h hh
 simp only [go_sem]
 refine aD ?_
 refine b2C (b0Y hl) rfl rfl ?_
 rintro ⟨s, s2, u⟩ ⟨h1, h2⟩
 simp only at h1 h2
 simp only [go_sem]
 have qH := trivial; repeat' (with_reducible first | refine nY ?_ | (refine mX ?_; try simp only [go_sem]) | refine kD ?_ | (apply rF [3,5,6] [] [0,1,2,4] [0,1,2,4] ((.c 3 [] [0,1,4] (.c 5 [] [1,4] (.c 6 [7,8] [4,7,8] .n .n) .n) .n)) (by simp only [go_sem]; rfl) (by simp only [go_sem]; rfl) (by simp only [go_sem]; rfl) (by decide +kernel); (focus simp only [go_sem]; done)) | exact bJ | refine aP (uX ?_) ?_ | refine aQ (aX ?_) ?_ | refine aR (aX ?_) ?_ | exact bY | exact oH | (refine uA ?_; simp only [go_sem]; (repeat' first | omega | refine And.intro ?_ ?_); done) | refine rD ?_ | refine aO ?_ | fail)
 first | (refine bE (a2J hl 0 h (Nat.zero_le _) hh) ⟨rfl, rfl⟩ ?_ rfl ?_; (focus first | rfl | (simp only [go_sem]; done))) | (refine hZ (a2J hl 0 h (Nat.zero_le _) hh) ⟨rfl, rfl⟩ ?_ rfl ?_; (focus first | rfl | (simp only [go_sem]; done)))
 clear hh; rintro ⟨d, i, h⟩ ⟨hd, hi, hh⟩; simp only at hd hi hh; simp only [go_sem]
 have qH := trivial; repeat' (with_reducible first | refine nY ?_ | (refine mX ?_; try simp only [go_sem]) | refine kD ?_ | exact bJ | refine aP (uX ?_) ?_ | refine aQ (aX ?_) ?_ | refine aR (aX ?_) ?_ | (refine uA ?_; simp only [go_sem]; (repeat' first | omega | refine And.intro ?_ ?_); done) | refine rD ?_ | refine aO ?_ | fail)
 exact zY (s, s2, d, u) ⟨⟨_, rfl, by simp only [go_sem]; try simp⟩, by simp [cK]⟩ ⟨h1, h2, hd.1⟩
theorem a5F {α : Type} {p : α → α → Bool} (hp : ∀ x y, p x y = true → x = y) : ∀ a b : List α, eqL p a b = true → a = b
 | [], [], _ => rfl
 | [], _ :: _, h => by simp [eqL] at h
 | _ :: _, [], h => by simp [eqL] at h
 | x :: a, y :: b, h => by
  simp only [eqL, Bool.and_eq_true] at h
  rw [hp x y h.1, a5F hp a b h.2]
theorem a8F (x y : TAttr) (h : qN x y = true) : x = y := by
 simp only [qN, Bool.and_eq_true, decide_eq_true_eq] at h
 obtain ⟨n, v⟩ := x
 obtain ⟨m, w⟩ := y
 simp only at h
 rw [h.1, a2i h.2.1 h.2.2.1 h.2.2.2]
theorem a8G (x y : TFile) (h : iK x y = true) : x = y := by
 simp only [iK, Bool.and_eq_true, decide_eq_true_eq, beq_iff_eq] at h
 obtain ⟨h1, h2, h3, h4, h5⟩ := h
 have h6 := a5F a8F _ _ h5
 cases x; cases y; simp_all
theorem b0W {a b : TStore} {u : Int} (h : eqU a b u = true) : (vis a u).fFiles = (vis b u).fFiles := by
 simp only [eqU, lI, Bool.and_eq_true] at h
 exact a5F a8G _ _ h.2.1
theorem b2s {x : TStore} (h : bD x = true) : ∀ j i, i < j → (hj : j < x.fFiles.length) → (hi : i < x.fFiles.length) → x.fFiles[i].fID < x.fFiles[j].fID
 | 0, i, h1, _, _ => by omega
 | j + 1, i, h1, hj, hi => by
  have h2 := uF h (j + 1) (by omega) hj
  simp only [Nat.add_sub_cancel] at h2
  by_cases e : i = j
  ·subst e; exact h2
  ·have := b2s h j i (by omega) (by omega) hi
   omega
theorem b5O {x : TStore} (h : bD x = true) : x.fFiles.Pairwise (fun f g => f.fID < g.fID) := List.pairwise_iff_getElem.2 fun i j hi hj hij => b2s h j i hij hj hi
theorem b4m {s : List TField} (L : List TFile) {f : TFile} (h : dS s f = true) : dS s (nO L f) = true := by
 unfold nO
 split
 ·exact h
 ·unfold dS b1s at *
  simp only [Bool.and_eq_true] at h ⊢
  exact ⟨h.1, h.2.1, h.2.2.1, by decide, h.2.2.2.2⟩
theorem a1i {s : TStore} (u : Int) (h : bD s = true) : bD (vis s u) = true := by
 obtain ⟨h1, h2, h3, h4, h5⟩ := fE.1 h
 have hl := sM u s.fFiles
 have hpw : ((visF u s.fFiles).map (nO (visF u s.fFiles))).Pairwise (fun f g => f.fID < g.fID) := by
  rw [List.pairwise_map]
  refine ((b5O h).sublist (show (visF u s.fFiles).Sublist s.fFiles from List.filter_sublist)).imp ?_
  intro f g hfg
  rw [a2g, a2g]; exact hfg
 have hfl : (vis s u).fFiles = (visF u s.fFiles).map (nO (visF u s.fFiles)) := rfl
 refine fE.2 ⟨fun k hk => ?_, h2, ?_, h4, h5⟩
 ·rw [fC hk]
  have hk' : k < (visF u s.fFiles).length := by rw [hfl, List.length_map] at hk; exact hk
  have hm : (visF u s.fFiles)[k] ∈ s.fFiles := (List.mem_filter.1 (List.getElem_mem hk')).1
  obtain ⟨i, hi, e⟩ := List.mem_iff_getElem.1 hm
  obtain ⟨q1, q2, _⟩ := (fC hi).1 (h1 i hi)
  have e2 : (vis s u).fFiles[k] = nO (visF u s.fFiles) (visF u s.fFiles)[k] := by simp only [hfl, List.getElem_map]
  refine ⟨?_, ?_, ?_⟩
  ·rw [e2, ← e]; exact b4m _ q1
  ·rw [e2, a2g, ← e]; exact q2
  ·exact a5Q _ _ hk fun h0 => List.pairwise_iff_getElem.1 hpw (k - 1) k (by rw [hfl] at hk; omega) hk (by omega)
 ·rw [hfl, List.length_map]; omega
theorem b4n {a b : TStore} {u : Int} (d : List TDir) (dir n : ByteArray) (h : eqU a b u = true) (ha : bD a = true) (hb : bD b = true) : grpL a d u dir n = grpL b d u dir n := by
 have hf := b0W h
 have e1 : evU a d u = evU b d u := by
  unfold evU okU evX
  rw [ha, hb, a1i u ha, a1i u hb, hf]
 unfold grpL a1L fB
 rw [e1, hf]
theorem b8l (a b c d : List D) : eP [a, b, c, d] 0 = a := rfl
theorem b8m (a b c d : List D) : eP [a, b, c, d] 1 = b := rfl
theorem b8n (a b c d : List D) : eP [a, b, c, d] 2 = c := rfl
theorem b8o (a b c d : List D) : eP [a, b, c, d] 3 = d := rfl
theorem b0V (l : List Int) (hf : wfU l) : FnC Tryz.prog 3 [.o (.d (.sl (l.map rX)))] (ob true) := by
 refine ent Tryz.func3 rfl Tryz.call3 rfl (fun C => ?_); simp only [go_sem, st0, Tryz.ntmps3]
 have hbig := b4Y l hf.1
 by_cases g : (1048576 : Int) < (l.length : Int)
 ·have g' : decide ((1048576 : Int) < (l.length : Int)) = true := by simp [g]
  have q0 := @g'; refine lK hbig ?_
  exact aA ⟨⟨_, rfl, by simp only [go_sem]⟩, trivial⟩
 have g' : decide ((1048576 : Int) < (l.length : Int)) = false := by simp [g]
 have hl : iT l := ⟨by omega, hf.2⟩
 have q0 := @g'; refine lK hbig ?_
 refine b2C (b0Z hl) rfl rfl ?_
 rintro ⟨a, b, d, u⟩ ⟨hwa, hwb, hd⟩
 simp only at hwa hwb hd
 simp only [go_sem]
 have hdw := a9L hd (by decide)
 have hd5 := hd.hi
 refine aD ?_
 refine b2C (places_ok l (by omega) hf.2) rfl rfl ?_
 intro p hp
 obtain ⟨hp1, hp2⟩ := hp
 simp only [go_sem]
 have hgz : FnC Tryz.prog 10 [.o (.d (.sl []))] (.o (.d (.sl []))) := (qR [] (by simp [mK, bI])).pu (by simp only [go_sem, and_self, gsz, List.map_nil])
 have e0 : decide (((0 : Nat) : Int) = 0) = true := rfl
 have cu := a8H a b u (by omega) (by omega)
 have ca := aV a (by omega)
 have cb := aV b (by omega)
 by_cases hd0 : d.length = 0
 ·have hdz : decide ((d.length : Int) = 0) = true := by simp only [decide_eq_true_eq]; omega
  have q0 := @hdz; refine lK hgz ?_
  exact aA ⟨⟨_, rfl, by simp only [go_sem, e0]⟩, trivial⟩
 have hdz : decide ((d.length : Int) = 0) = false := by simp only [decide_eq_false_iff_not]; omega
 cases hu : eqU a b u
 ·rw [hu] at cu
  have q0 := @hdz; refine b0S cu hgz ?_
  exact aA ⟨⟨_, rfl, by simp only [go_sem, e0]⟩, trivial⟩
 cases hoa : bD a
 ·rw [hu] at cu
  rw [hoa] at ca
  have q0 := @hdz; refine b6X cu ca hgz ?_
  exact aA ⟨⟨_, rfl, by simp only [go_sem, e0]⟩, trivial⟩
 cases hob : bD b
 ·rw [hu] at cu
  rw [hoa] at ca
  rw [hob] at cb
  have q0 := @hdz; refine b8j cu ca cb hgz ?_
  exact aA ⟨⟨_, rfl, by simp only [go_sem, e0]⟩, trivial⟩
 rw [hu] at cu
 rw [hoa] at ca
 rw [hob] at cb
 have p0 : 0 < p.length := by omega
 have p1 : 1 < p.length := by omega
 have r0 := hp2 p[0] (List.getElem_mem p0)
 have r1 := hp2 p[1] (List.getElem_mem p1)
 have x0 : (0 : Int) ≤ p[0].tmod (d.length : Int) ∧ p[0].tmod (d.length : Int) < (d.length : Int) := ⟨Int.tmod_nonneg _ r0.1, Int.tmod_lt_of_pos _ (by omega)⟩
 have x1 : (0 : Int) ≤ p[1].tmod 4 ∧ p[1].tmod 4 < 4 := ⟨Int.tmod_nonneg 4 r1.1, Int.tmod_lt_of_pos _ (by omega)⟩
 obtain ⟨k, hk⟩ := Int.eq_ofNat_of_zero_le x0.1
 have hkl : k < d.length := by omega
 have hdn : ¬ ((d.length : Int) = 0) := by omega
 have hLa := fun (nm : ByteArray) => (show FnC Tryz.prog 12 [bG a, .o (.d (.sl (d.map dG))), oi u, os d[k].fName, os nm] (.o (.d (.sl ((grpL a d u d[k].fName nm).map fZ)))) from (a0m a d u d[k].fName nm (by omega) (by omega)).pu (by simp only [go_sem, and_self]))
 have hLs := fun (nm : ByteArray) => (show FnC Tryz.prog 13 [bG a, .o (.d (.sl (d.map dG))), oi u, os d[k].fName, os nm] (.o (.d (.sl ((grpL a d u d[k].fName nm).map fZ)))) from (a5Y a d u d[k].fName nm (by omega) (by omega)).pu (by simp only [go_sem, and_self]))
 have hLb := fun (nm : ByteArray) => (show FnC Tryz.prog 12 [bG b, .o (.d (.sl (d.map dG))), oi u, os d[k].fName, os nm] (.o (.d (.sl ((grpL a d u d[k].fName nm).map fZ)))) by
  rw [b4n d d[k].fName nm hu hoa hob]
  exact (a0m b d u d[k].fName nm (by omega) (by omega)).pu (by simp only [go_sem, and_self]))
 have hgw := fun (nm : ByteArray) => (show mK (grpL a d u d[k].fName nm) ≤ 50000 by
  have h1 := (b6F 4000 (vis a u) (a1L a d u d[k].fName) nm (by have := a4T a u; omega)).1
  have h2 : (a1L a d u d[k].fName).length * (4000 + 3) ≤ 12 * (4000 + 3) := Nat.mul_le_mul_right _ (a5X a d u d[k].fName)
  unfold grpL
  omega)
 have hsg := fun (nm : ByteArray) => a3T (grpL a d u d[k].fName nm) (by have := hgw nm; omega)
 have hgs := fun (nm : ByteArray) => (show FnC Tryz.prog 10 [.o (.d (.sl ((grpL a d u d[k].fName nm).map fZ)))] (.o (.d (.sl ((gsz (grpL a d u d[k].fName nm)).map gG)))) from (qR _ (by have := hgw nm; omega)).pu (by simp only [go_sem, and_self]))
 have hsi := fun (nm : ByteArray) => a0x (gsz (grpL a d u d[k].fName nm)) (by rw [a3B]; have := hgw nm; unfold mK at this; omega)
 have h4 : p[1].tmod 4 = 0 ∨ p[1].tmod 4 = 1 ∨ p[1].tmod 4 = 2 ∨ p[1].tmod 4 = 3 := by omega
 rcases h4 with h4 | h4 | h4 | h4
 ·have a1 := hLa ⟨#[97]⟩
  have a2 := hLs ⟨#[97]⟩
  have a3 := hLb ⟨#[97]⟩
  have a4 := hsg ⟨#[97]⟩
  have a5 := hgs ⟨#[97]⟩
  have a6 := hsi ⟨#[97]⟩
  clear hLa hLs hLb hsg hgs hsi hgw
  generalize grpL a d u d[k].fName ⟨#[97]⟩ = L at *
  have qH := aI @hdz (aI @hdn (aI @p0 (aI @p1 (aI @hk (aI @hkl (aI @h4 (aI @decide_true @b8l))))))); repeat' (with_reducible first | refine nY ?_ | (refine mX ?_; try simp only [go_sem, qH]) | refine kD ?_ | refine rT [46] [] ?_ | refine bX (aX ?_) (uX ?_) | refine dM (aX ?_) ?_ | (refine uA ?_; simp only [go_sem, qH]; (repeat' first | omega | refine And.intro ?_ ?_ | refine cP cu ?_ | refine cP ca ?_ | refine cP cb ?_ | refine cP a1 ?_ | refine cP a2 ?_ | refine cP a3 ?_ | refine cP a4 ?_ | refine cP a5 ?_ | refine cP a6 ?_ | (refine mX ?_; simp only [go_sem, qH] <;> fail)); done) | refine rD ?_ | refine cP cu ?_ | refine cP ca ?_ | refine cP cb ?_ | refine cP a1 ?_ | refine cP a2 ?_ | refine cP a3 ?_ | refine cP a4 ?_ | refine cP a5 ?_ | refine cP a6 ?_ | refine aO ?_ | fail)
  exact aA ⟨⟨_, rfl, by simp only [go_sem]⟩, trivial⟩
 ·have a1 := hLa ⟨#[98]⟩
  have a2 := hLs ⟨#[98]⟩
  have a3 := hLb ⟨#[98]⟩
  have a4 := hsg ⟨#[98]⟩
  have a5 := hgs ⟨#[98]⟩
  have a6 := hsi ⟨#[98]⟩
  clear hLa hLs hLb hsg hgs hsi hgw
  generalize grpL a d u d[k].fName ⟨#[98]⟩ = L at *
  have qH := aI @hdz (aI @hdn (aI @p0 (aI @p1 (aI @hk (aI @hkl (aI @h4 (aI @decide_true @b8m))))))); repeat' (with_reducible first | refine nY ?_ | (refine mX ?_; try simp only [go_sem, qH]) | refine kD ?_ | refine rT [46] [] ?_ | refine bX (aX ?_) (uX ?_) | refine dM (aX ?_) ?_ | (refine uA ?_; simp only [go_sem, qH]; (repeat' first | omega | refine And.intro ?_ ?_ | refine cP cu ?_ | refine cP ca ?_ | refine cP cb ?_ | refine cP a1 ?_ | refine cP a2 ?_ | refine cP a3 ?_ | refine cP a4 ?_ | refine cP a5 ?_ | refine cP a6 ?_ | (refine mX ?_; simp only [go_sem, qH] <;> fail)); done) | refine rD ?_ | refine cP cu ?_ | refine cP ca ?_ | refine cP cb ?_ | refine cP a1 ?_ | refine cP a2 ?_ | refine cP a3 ?_ | refine cP a4 ?_ | refine cP a5 ?_ | refine cP a6 ?_ | refine aO ?_ | fail)
  exact aA ⟨⟨_, rfl, by simp only [go_sem]⟩, trivial⟩
 ·have a1 := hLa ⟨#[110]⟩
  have a2 := hLs ⟨#[110]⟩
  have a3 := hLb ⟨#[110]⟩
  have a4 := hsg ⟨#[110]⟩
  have a5 := hgs ⟨#[110]⟩
  have a6 := hsi ⟨#[110]⟩
  clear hLa hLs hLb hsg hgs hsi hgw
  generalize grpL a d u d[k].fName ⟨#[110]⟩ = L at *
  have qH := aI @hdz (aI @hdn (aI @p0 (aI @p1 (aI @hk (aI @hkl (aI @h4 (aI @decide_true @b8n))))))); repeat' (with_reducible first | refine nY ?_ | (refine mX ?_; try simp only [go_sem, qH]) | refine kD ?_ | refine rT [46] [] ?_ | refine bX (aX ?_) (uX ?_) | refine dM (aX ?_) ?_ | (refine uA ?_; simp only [go_sem, qH]; (repeat' first | omega | refine And.intro ?_ ?_ | refine cP cu ?_ | refine cP ca ?_ | refine cP cb ?_ | refine cP a1 ?_ | refine cP a2 ?_ | refine cP a3 ?_ | refine cP a4 ?_ | refine cP a5 ?_ | refine cP a6 ?_ | (refine mX ?_; simp only [go_sem, qH] <;> fail)); done) | refine rD ?_ | refine cP cu ?_ | refine cP ca ?_ | refine cP cb ?_ | refine cP a1 ?_ | refine cP a2 ?_ | refine cP a3 ?_ | refine cP a4 ?_ | refine cP a5 ?_ | refine cP a6 ?_ | refine aO ?_ | fail)
  exact aA ⟨⟨_, rfl, by simp only [go_sem]⟩, trivial⟩
 ·have a1 := hLa ⟨#[116]⟩
  have a2 := hLs ⟨#[116]⟩
  have a3 := hLb ⟨#[116]⟩
  have a4 := hsg ⟨#[116]⟩
  have a5 := hgs ⟨#[116]⟩
  have a6 := hsi ⟨#[116]⟩
  clear hLa hLs hLb hsg hgs hsi hgw
  generalize grpL a d u d[k].fName ⟨#[116]⟩ = L at *
  have qH := aI @hdz (aI @hdn (aI @p0 (aI @p1 (aI @hk (aI @hkl (aI @h4 (aI @decide_true @b8o))))))); repeat' (with_reducible first | refine nY ?_ | (refine mX ?_; try simp only [go_sem, qH]) | refine kD ?_ | refine rT [46] [] ?_ | refine bX (aX ?_) (uX ?_) | refine dM (aX ?_) ?_ | (refine uA ?_; simp only [go_sem, qH]; (repeat' first | omega | refine And.intro ?_ ?_ | refine cP cu ?_ | refine cP ca ?_ | refine cP cb ?_ | refine cP a1 ?_ | refine cP a2 ?_ | refine cP a3 ?_ | refine cP a4 ?_ | refine cP a5 ?_ | refine cP a6 ?_ | (refine mX ?_; simp only [go_sem, qH] <;> fail)); done) | refine rD ?_ | refine cP cu ?_ | refine cP ca ?_ | refine cP cb ?_ | refine cP a1 ?_ | refine cP a2 ?_ | refine cP a3 ?_ | refine cP a4 ?_ | refine cP a5 ?_ | refine cP a6 ?_ | refine aO ?_ | fail)
  exact aA ⟨⟨_, rfl, by simp only [go_sem]⟩, trivial⟩
end Go.Proofs.YtakopfjdmmnjcaaGreat
end
