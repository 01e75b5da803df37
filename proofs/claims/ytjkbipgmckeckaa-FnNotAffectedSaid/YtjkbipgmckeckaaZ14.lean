/- Joined texts. -/
import Derived.Test.YtjkbipgmckeckaaZ12
import Derived.Test.YtjkbipgmckeckaaZ13
import Derived.Test.YtjkbipgmckeckaaZ08
set_option linter.all false
section
set_option maxRecDepth 100000
set_option maxHeartbeats 4000000
namespace Go.Proofs.Ytjkbipgmckeckaa
open Go Go.Sx Go.RowKit Go.Proofs Go.Sx.Clos
def ntD (x : Int) : List TDir := [⟨⟨#[100, 97]⟩, [⟨3, 0, 0, ⟨#[97]⟩, ⟨1, x, ⟨#[]⟩⟩⟩]⟩, ⟨⟨#[100, 98]⟩, [⟨8, 0, 0, ⟨#[100, 97]⟩, ⟨0, 0, ⟨#[]⟩⟩⟩]⟩]
def ntF : TFile := ⟨3, 0, false, 0, []⟩
def ntG (s : ByteArray) (z : Int) : TFile := ⟨3, 0, false, 0, [⟨s, ⟨1, z, ⟨#[]⟩⟩⟩]⟩
theorem a8j (s : ByteArray) (z : Int) : setF ntF s ⟨1, z, ⟨#[]⟩⟩ = ntG s z := rfl
theorem nt1 (x z : Int) : (affA ntF (ntG ⟨#[98]⟩ z) (ntD x)).length = 0 := by kernel_rfl
theorem nt2 (x z : Int) : (affA ntF (ntG ⟨#[97]⟩ z) (ntD x)).length = 2 := by kernel_rfl
theorem nt3 (x z : Int) : (affD ntF (ntG ⟨#[97]⟩ z) (ntD x)).length = 1 := by kernel_rfl
theorem nt4 (x : Int) : (uD [] (ntD x)).length = 2 := by kernel_rfl
theorem sQ (l : List Int) (hf : wfU l) : FnC Try.prog 6 [.o (.d (.sl (l.map wT)))] (ob true) := by
 refine ent Try.func6 rfl Try.call6 rfl (fun C => ?_); simp only [go_sem, st0, Try.ntmps6]
 have hbig := a2H l hf.1
 by_cases g : (1048576 : Int) < (l.length : Int)
 ·have g' : decide ((1048576 : Int) < (l.length : Int)) = true := by simp [g]
  have q0 := @g'; refine nR hbig ?_
  exact aA ⟨⟨_, rfl, by simp only [go_sem]⟩, trivial⟩
 have g' : decide ((1048576 : Int) < (l.length : Int)) = false := by simp [g]
 have q0 := @g'; refine nR hbig ?_
 refine a5m (places_ok l (by omega) hf.2) rfl rfl ?_
 rintro p ⟨hp, hpx⟩
 simp only [go_sem]
 have p0 : 0 < p.length := by omega
 have p1 : 1 < p.length := by omega
 have s1 := fT ntF ⟨#[98]⟩ ⟨1, p[1].tmod 9, ⟨#[]⟩⟩ (by decide)
 have s2 := fT ntF ⟨#[97]⟩ ⟨1, p[1].tmod 9, ⟨#[]⟩⟩ (by decide)
 rw [a8j] at s1 s2
 have n1 : ∀ x : Int, gJ (ntD x) ≤ 100 := fun x => by simp [gJ, ntD, bV, a2K, dB, nS, fI]; decide
 have n2 : bK ntF = 0 := rfl
 have n3 : ∀ z : Int, bK (ntG ⟨#[97]⟩ z) ≤ 100 := fun z => by simp [ntG, bK, aW, bV, iG, fI]; decide
 have n4 : ∀ z : Int, bK (ntG ⟨#[98]⟩ z) ≤ 100 := fun z => by simp [ntG, bK, aW, bV, iG, fI]; decide
 have m1 := n1 (p[0].tmod 9)
 have m3 := n3 (p[1].tmod 9)
 have m4 := n4 (p[1].tmod 9)
 have c1 : FnC Try.prog 21 [.o (.d (.sl ((ntD (p[0].tmod 9)).map gB))), cK ntF, cK (ntG ⟨#[98]⟩ (p[1].tmod 9))] (.o (.d (.sl ((affA ntF (ntG ⟨#[98]⟩ (p[1].tmod 9)) (ntD (p[0].tmod 9))).map bX)))) := (xV (ntD (p[0].tmod 9)) ntF (ntG ⟨#[98]⟩ (p[1].tmod 9)) (by omega)).pu (by simp only [go_sem, and_self])
 have c2 : FnC Try.prog 21 [.o (.d (.sl ((ntD (p[0].tmod 9)).map gB))), cK ntF, cK (ntG ⟨#[97]⟩ (p[1].tmod 9))] (.o (.d (.sl ((affA ntF (ntG ⟨#[97]⟩ (p[1].tmod 9)) (ntD (p[0].tmod 9))).map bX)))) := (xV (ntD (p[0].tmod 9)) ntF (ntG ⟨#[97]⟩ (p[1].tmod 9)) (by omega)).pu (by simp only [go_sem, and_self])
 have c3 := oO (ntD (p[0].tmod 9)) ntF (ntG ⟨#[97]⟩ (p[1].tmod 9)) (by omega)
 have c4 := yI (ntD (p[0].tmod 9)) [] (by show 2 ≤ 4300000; omega) (by decide)
 have e1 : decide (((affA ntF (ntG ⟨#[98]⟩ (p[1].tmod 9)) (ntD (p[0].tmod 9))).length : Int) = 0) = true := by rw [nt1]; rfl
 have e2 : decide (((affA ntF (ntG ⟨#[97]⟩ (p[1].tmod 9)) (ntD (p[0].tmod 9))).length : Int) = 2) = true := by rw [nt2]; rfl
 have e3 : decide (((affD ntF (ntG ⟨#[97]⟩ (p[1].tmod 9)) (ntD (p[0].tmod 9))).length : Int) = 1) = true := by rw [nt3]; rfl
 have e4 : decide (((uD [] (ntD (p[0].tmod 9))).length : Int) = 2) = true := by rw [nt4]; rfl
 generalize affA ntF (ntG ⟨#[98]⟩ (p[1].tmod 9)) (ntD (p[0].tmod 9)) = A1 at *
 generalize affA ntF (ntG ⟨#[97]⟩ (p[1].tmod 9)) (ntD (p[0].tmod 9)) = A2 at *
 generalize affD ntF (ntG ⟨#[97]⟩ (p[1].tmod 9)) (ntD (p[0].tmod 9)) = A3 at *
 generalize uD [] (ntD (p[0].tmod 9)) = A4 at *
 simp only [go_sem, ntD, ntF, ntG] at s1 s2 c1 c2 c3 c4
 have qH := aI @p0 (aI @p1 (aI @e1 (aI @e2 (aI @e3 (aI @e4 @a5e))))); repeat' (with_reducible first | refine nY ?_ | (refine mX ?_; try simp only [go_sem, qH]) | refine kD ?_ | (apply rE [5,6,7,8] [] [0,1,2,3,4] [0,1,2,3,4] ((.c 5 [] [0] (.c 6 [] [] (.c 7 [] [] (.c 8 [] [] .n .n) .n) (.c 7 [] [0] (.c 6 [] [] (.c 8 [] [] .n .n) .n) .n)) (.c 7 [] [0,1,2,3,4] (.c 5 [] [0] (.c 6 [] [] (.c 8 [] [] .n .n) .n) .n) .n))) (by simp only [go_sem]; rfl) (by simp only [go_sem]; rfl) (by simp only [go_sem]; rfl) (by decide +kernel); (focus simp only [go_sem]; done)) | exact fB | refine dM (uX ?_) ?_ | refine dN (aX ?_) ?_ | refine dO (aX ?_) ?_ | exact dL | exact oH | exact uB | refine rD ?_ | refine cP (fQ (p[0].tmod 9)) ?_ | refine cP (fQ (p[1].tmod 9)) ?_ | refine cP s1 ?_ | refine cP s2 ?_ | refine cP c1 ?_ | refine cP c2 ?_ | refine cP c3 ?_ | refine cP c4 ?_ | refine aO ?_ | fail)
 exact aA ⟨⟨_, rfl, by simp only [go_sem]⟩, trivial⟩
end Go.Proofs.Ytjkbipgmckeckaa
end
