/- Joined texts. -/
import Derived.Test.YtjkbipgmckeckaaZ12
import Derived.Test.YtjkbipgmckeckaaZ08
set_option linter.all false
section
set_option maxRecDepth 100000
set_option maxHeartbeats 4000000
namespace Go.Proofs.Ytjkbipgmckeckaa
open Go Go.Sx Go.RowKit Go.Proofs
def mtQ (q : List TNode) (R : List TResult) (f : TFile) : Bool := okQ q && mt q f R q.length (q.length - 1)
theorem gP (q : List TNode) (f : TFile) (R : List TResult) (hq : dB q ≤ 4300000) (hf : bK f ≤ 4300000) (hR : bR R ≤ 67108864) : FnC Try.prog 20 [.o (.d (.sl (q.map bQ))), cK f, .o (.d (.sl (R.map cO)))] (ob (mtQ q R f)) := by
 refine ent Try.func20 rfl Try.call20 rfl (fun C => ?_); simp only [go_sem, st0, Try.ntmps20]
 cases hv : okQ q
 ·have q0 := @hv; refine nR (iN q hq) ?_
  exact aA ⟨⟨_, rfl, by simp only [go_sem, mtQ, hv, Bool.false_and]⟩, trivial⟩
 ·have hl := sD hv
  have hx : (q.length : Int) - 1 = ((q.length - 1 : Nat) : Int) := by omega
  have q0 := @hv; have q1 := @hx; refine a7K (iN q hq) (a0G q f R hv hf hR q.length (q.length - 1) (by omega) (by omega)) ?_
  exact aA ⟨⟨_, rfl, by simp only [go_sem, mtQ, hv, Bool.true_and]⟩, trivial⟩
theorem vS (f : TFile) (e : TEdit) : bK (applyF f e) ≤ bK f + eZ e := by
 have h := a1Q f.fAttrs e.fSet e.fSet.length
 rw [List.take_length] at h
 exact h
def cjQ (x : Int) : List TNode := [⟨3, 0, 0, ⟨#[97]⟩, ⟨1, x, ⟨#[]⟩⟩⟩, ⟨3, 0, 0, ⟨#[116]⟩, ⟨2, 0, ⟨#[114, 101, 100]⟩⟩⟩, ⟨6, 0, 1, ⟨#[]⟩, ⟨0, 0, ⟨#[]⟩⟩⟩]
def hasT : List TNode := [⟨2, 0, 0, ⟨#[116]⟩, ⟨0, 0, ⟨#[]⟩⟩⟩]
def cjF (z : Int) : TFile := setF amF ⟨#[97]⟩ ⟨1, z, ⟨#[]⟩⟩
def zT (x : Int) (f : TFile) (n : Nat) : Prop :=
 (editQ (cjQ x) f [] true).fOK = true ∧ (editQ (cjQ x) f [] true).fSet.length = n ∧ mtQ (cjQ x) [] (applyF f (editQ (cjQ x) f [] true)) = true ∧
 (editQ hasT (applyF f (editQ (cjQ x) f [] true)) [] false).fOK = true ∧ mtQ hasT [] (applyF (applyF f (editQ (cjQ x) f [] true)) (editQ hasT (applyF f (editQ (cjQ x) f [] true)) [] false)) = false
theorem cj0 {x : Int} (hx : 0 ≤ x ∧ x < 3) : zT x amF 2 := by
 have h1 : x = 0 ∨ x = 1 ∨ x = 2 := by omega
 unfold zT
 rcases h1 with rfl | rfl | rfl <;> decide +kernel
theorem cj1 {x z : Int} (hx : 0 ≤ x ∧ x < 3) (hz : 0 ≤ z ∧ z < 3) : zT x (cjF z) (if z = x then 1 else 2) := by
 have h1 : x = 0 ∨ x = 1 ∨ x = 2 := by omega
 have h2 : z = 0 ∨ z = 1 ∨ z = 2 := by omega
 unfold zT
 rcases h1 with rfl | rfl | rfl <;> rcases h2 with rfl | rfl | rfl <;> decide +kernel
theorem a9c (z : Int) : bK (cjF z) ≤ 8 := by
 have e : cjF z = ⟨1, 0, false, 0, [⟨⟨#[97]⟩, ⟨1, z, ⟨#[]⟩⟩⟩]⟩ := rfl
 rw [e]; simp [bK, aW, bV, iG, fI]; decide
theorem a9d (z : Int) : bB ⟨#[97]⟩ (cjF z).fAttrs = ⟨1, z, ⟨#[]⟩⟩ := by
 have e : cjF z = ⟨1, 0, false, 0, [⟨⟨#[97]⟩, ⟨1, z, ⟨#[]⟩⟩⟩]⟩ := rfl
 rw [e]; simp [bB]
theorem nG (l : List Int) (hf : wfU l) : FnC Try.prog 5 [.o (.d (.sl (l.map wT)))] (ob true) := by
 refine ent Try.func5 rfl Try.call5 rfl (fun C => ?_); simp only [go_sem, st0, Try.ntmps5]
 have hbig := a2H l hf.1
 by_cases g : (1048576 : Int) < (l.length : Int)
 ·have g' : decide ((1048576 : Int) < (l.length : Int)) = true := by simp [g]
  have q0 := @g'; refine nR hbig ?_
  exact aA ⟨⟨_, rfl, by simp only [go_sem]⟩, trivial⟩
 have g' : decide ((1048576 : Int) < (l.length : Int)) = false := by simp [g]
 have q0 := @g'; refine nR hbig ?_
 refine a5m (places_ok l (by omega) hf.2) rfl rfl ?_
 rintro p ⟨hp, hpx⟩
 simp only [go_sem]
 have p0 : 0 < p.length := by omega
 have p1 : 1 < p.length := by omega
 have p2 : 2 < p.length := by omega
 have r0 := hpx p[0] (List.getElem_mem p0)
 have r2 := hpx p[2] (List.getElem_mem p2)
 have x0 : (0 : Int) ≤ p[0].tmod 3 ∧ p[0].tmod 3 < 3 := ⟨Int.tmod_nonneg 3 r0.1, Int.tmod_lt_of_pos _ (by omega)⟩
 have x2 : (0 : Int) ≤ p[2].tmod 3 ∧ p[2].tmod 3 < 3 := ⟨Int.tmod_nonneg 3 r2.1, Int.tmod_lt_of_pos _ (by omega)⟩
 have n1 : ∀ x : Int, dB (cjQ x) = 8 := fun x => by simp [dB, cjQ, bV, nS, fI]; try decide
 have n2 : dB hasT = 2 := by decide
 have n3 : bK amF = 0 := rfl
 have n4 : bR [] = 0 := rfl
 have qH := aI @p0 (aI @p1 @p2); repeat' (with_reducible first | refine nY ?_ | (refine mX ?_; try simp only [go_sem, qH]) | refine kD ?_ | refine cP (fQ (p[0].tmod 3)) ?_ | refine cP (a6F ⟨#[114, 101, 100]⟩) ?_ | refine aO ?_ | fail)
 refine cnd rfl (fun c => ?_) (fun c => ?_)
 ·have s0 := fT amF ⟨#[97]⟩ ⟨1, p[2].tmod 3, ⟨#[]⟩⟩ (by decide)
  rw [show setF amF ⟨#[97]⟩ ⟨1, p[2].tmod 3, ⟨#[]⟩⟩ = cjF (p[2].tmod 3) from rfl] at s0
  have hwF : bK (cjF (p[2].tmod 3)) ≤ 8 := a9c _
  have hall := cj1 x0 x2
  have c1 := eG (cjQ (p[0].tmod 3)) (cjF (p[2].tmod 3)) [] (by rw [n1]; omega) (by omega) (by rw [n4]; omega)
  have e1 := vR (cjQ (p[0].tmod 3)) (cjF (p[2].tmod 3)) [] true
  have a1 := vS (cjF (p[2].tmod 3)) (editQ (cjQ (p[0].tmod 3)) (cjF (p[2].tmod 3)) [] true)
  have c2 := eO (cjF (p[2].tmod 3)) (editQ (cjQ (p[0].tmod 3)) (cjF (p[2].tmod 3)) [] true) (by omega)
  have c3 := bA (cjF (p[2].tmod 3)) ⟨#[97]⟩ (by omega)
  rw [a9d] at c3
  have c4 := gK hasT (applyF (cjF (p[2].tmod 3)) (editQ (cjQ (p[0].tmod 3)) (cjF (p[2].tmod 3)) [] true)) [] (by rw [n2]; omega) (by omega) (by rw [n4]; omega)
  have e4 := vR hasT (applyF (cjF (p[2].tmod 3)) (editQ (cjQ (p[0].tmod 3)) (cjF (p[2].tmod 3)) [] true)) [] false
  have a4 := vS (applyF (cjF (p[2].tmod 3)) (editQ (cjQ (p[0].tmod 3)) (cjF (p[2].tmod 3)) [] true)) (editQ hasT (applyF (cjF (p[2].tmod 3)) (editQ (cjQ (p[0].tmod 3)) (cjF (p[2].tmod 3)) [] true)) [] false)
  have c5 := eO (applyF (cjF (p[2].tmod 3)) (editQ (cjQ (p[0].tmod 3)) (cjF (p[2].tmod 3)) [] true)) (editQ hasT (applyF (cjF (p[2].tmod 3)) (editQ (cjQ (p[0].tmod 3)) (cjF (p[2].tmod 3)) [] true)) [] false) (by omega)
  have c6 := gP (cjQ (p[0].tmod 3)) (applyF (cjF (p[2].tmod 3)) (editQ (cjQ (p[0].tmod 3)) (cjF (p[2].tmod 3)) [] true)) [] (by rw [n1]; omega) (by omega) (by rw [n4]; omega)
  have c7 := gP hasT (applyF (applyF (cjF (p[2].tmod 3)) (editQ (cjQ (p[0].tmod 3)) (cjF (p[2].tmod 3)) [] true)) (editQ hasT (applyF (cjF (p[2].tmod 3)) (editQ (cjQ (p[0].tmod 3)) (cjF (p[2].tmod 3)) [] true)) [] false)) [] (by rw [n2]; omega) (by omega) (by rw [n4]; omega)
  unfold zT at hall
  obtain ⟨f1, f2, f3, f4, f5⟩ := hall
  rw [f3] at c6
  rw [f5] at c7
  clear e1 a1 e4 a4 hwF f3 f5
  generalize applyF (applyF (cjF (p[2].tmod 3)) (editQ (cjQ (p[0].tmod 3)) (cjF (p[2].tmod 3)) [] true)) (editQ hasT (applyF (cjF (p[2].tmod 3)) (editQ (cjQ (p[0].tmod 3)) (cjF (p[2].tmod 3)) [] true)) [] false) = H at *
  generalize editQ hasT (applyF (cjF (p[2].tmod 3)) (editQ (cjQ (p[0].tmod 3)) (cjF (p[2].tmod 3)) [] true)) [] false = B at *
  generalize applyF (cjF (p[2].tmod 3)) (editQ (cjQ (p[0].tmod 3)) (cjF (p[2].tmod 3)) [] true) = G at *
  generalize editQ (cjQ (p[0].tmod 3)) (cjF (p[2].tmod 3)) [] true = E at *
  generalize cjF (p[2].tmod 3) = F at *
  simp only [go_sem, cjQ, hasT, amF, f1, f4] at s0 c1 c2 c3 c4 c5 c6 c7
  by_cases hz : p[2].tmod 3 = p[0].tmod 3
  ·rw [if_pos hz] at f2
   have hz' : decide (p[2].tmod 3 = p[0].tmod 3) = true := by simp [hz]
   have f2' : decide ((E.fSet.length : Int) = 1) = true := by rw [f2]; rfl
   have qH := aI @p0 (aI @p1 (aI @p2 (aI @hz' (aI @f1 (aI @f2' (aI @f4 @a5e)))))); repeat' (with_reducible first | refine nY ?_ | (refine mX ?_; try simp only [go_sem, qH]) | refine kD ?_ | (apply rE [5,6,7] [] [0,1,2,3,4] [0,1,2,3,4] ((.c 5 [] [0] (.c 6 [] [] (.c 7 [] [] .n .n) .n) .n)) (by simp only [go_sem]; rfl) (by simp only [go_sem]; rfl) (by simp only [go_sem]; rfl) (by decide +kernel); (focus simp only [go_sem]; done)) | exact fB | refine dM (uX ?_) ?_ | refine dN (aX ?_) ?_ | refine dO (aX ?_) ?_ | exact dL | exact oH | exact uB | refine rD ?_ | refine cP s0 ?_ | refine cP c1 ?_ | refine cP c2 ?_ | refine cP c3 ?_ | refine cP c4 ?_ | refine cP c5 ?_ | refine cP c6 ?_ | refine cP c7 ?_ | refine cP (fQ (p[0].tmod 3)) ?_ | refine cP (fQ (p[2].tmod 3)) ?_ | refine aO ?_ | fail)
   exact aA ⟨⟨_, rfl, by simp only [go_sem]⟩, trivial⟩
  ·rw [if_neg hz] at f2
   have hz' : decide (p[2].tmod 3 = p[0].tmod 3) = false := by simp [hz]
   have f2' : decide ((E.fSet.length : Int) = 2) = true := by rw [f2]; rfl
   have qH := aI @p0 (aI @p1 (aI @p2 (aI @hz' (aI @f1 (aI @f2' (aI @f4 @a5e)))))); repeat' (with_reducible first | refine nY ?_ | (refine mX ?_; try simp only [go_sem, qH]) | refine kD ?_ | (apply rE [5,6,7] [] [0,1,2,3,4] [0,1,2,3,4] ((.c 5 [] [0] (.c 6 [] [] (.c 7 [] [] .n .n) .n) .n)) (by simp only [go_sem]; rfl) (by simp only [go_sem]; rfl) (by simp only [go_sem]; rfl) (by decide +kernel); (focus simp only [go_sem]; done)) | exact fB | refine dM (uX ?_) ?_ | refine dN (aX ?_) ?_ | refine dO (aX ?_) ?_ | exact dL | exact oH | exact uB | refine rD ?_ | refine cP s0 ?_ | refine cP c1 ?_ | refine cP c2 ?_ | refine cP c3 ?_ | refine cP c4 ?_ | refine cP c5 ?_ | refine cP c6 ?_ | refine cP c7 ?_ | refine cP (fQ (p[0].tmod 3)) ?_ | refine cP (fQ (p[2].tmod 3)) ?_ | refine aO ?_ | fail)
   exact aA ⟨⟨_, rfl, by simp only [go_sem]⟩, trivial⟩
 ·skip
  have hwF : bK amF ≤ 8 := by rw [n3]; omega
  have hall := cj0 x0
  have c1 := eG (cjQ (p[0].tmod 3)) amF [] (by rw [n1]; omega) (by omega) (by rw [n4]; omega)
  have e1 := vR (cjQ (p[0].tmod 3)) amF [] true
  have a1 := vS amF (editQ (cjQ (p[0].tmod 3)) amF [] true)
  have c2 := eO amF (editQ (cjQ (p[0].tmod 3)) amF [] true) (by omega)
  have c3 := bA amF ⟨#[97]⟩ (by omega)
  rw [(show bB ⟨#[97]⟩ amF.fAttrs = ⟨0, 0, ⟨#[]⟩⟩ from rfl)] at c3
  have c4 := gK hasT (applyF amF (editQ (cjQ (p[0].tmod 3)) amF [] true)) [] (by rw [n2]; omega) (by omega) (by rw [n4]; omega)
  have e4 := vR hasT (applyF amF (editQ (cjQ (p[0].tmod 3)) amF [] true)) [] false
  have a4 := vS (applyF amF (editQ (cjQ (p[0].tmod 3)) amF [] true)) (editQ hasT (applyF amF (editQ (cjQ (p[0].tmod 3)) amF [] true)) [] false)
  have c5 := eO (applyF amF (editQ (cjQ (p[0].tmod 3)) amF [] true)) (editQ hasT (applyF amF (editQ (cjQ (p[0].tmod 3)) amF [] true)) [] false) (by omega)
  have c6 := gP (cjQ (p[0].tmod 3)) (applyF amF (editQ (cjQ (p[0].tmod 3)) amF [] true)) [] (by rw [n1]; omega) (by omega) (by rw [n4]; omega)
  have c7 := gP hasT (applyF (applyF amF (editQ (cjQ (p[0].tmod 3)) amF [] true)) (editQ hasT (applyF amF (editQ (cjQ (p[0].tmod 3)) amF [] true)) [] false)) [] (by rw [n2]; omega) (by omega) (by rw [n4]; omega)
  unfold zT at hall
  obtain ⟨f1, f2, f3, f4, f5⟩ := hall
  rw [f3] at c6
  rw [f5] at c7
  clear e1 a1 e4 a4 hwF f3 f5
  generalize applyF (applyF amF (editQ (cjQ (p[0].tmod 3)) amF [] true)) (editQ hasT (applyF amF (editQ (cjQ (p[0].tmod 3)) amF [] true)) [] false) = H at *
  generalize editQ hasT (applyF amF (editQ (cjQ (p[0].tmod 3)) amF [] true)) [] false = B at *
  generalize applyF amF (editQ (cjQ (p[0].tmod 3)) amF [] true) = G at *
  generalize editQ (cjQ (p[0].tmod 3)) amF [] true = E at *
  simp only [go_sem, cjQ, hasT, amF, f1, f4] at c1 c2 c3 c4 c5 c6 c7
  have f2' : decide ((E.fSet.length : Int) = 2) = true := by rw [f2]; rfl
  have qH := aI @p0 (aI @p1 (aI @p2 (aI @f1 (aI @f2' (aI @f4 @a5e))))); repeat' (with_reducible first | refine nY ?_ | (refine mX ?_; try simp only [go_sem, qH]) | refine kD ?_ | refine rD ?_ | refine cP c1 ?_ | refine cP c2 ?_ | refine cP c3 ?_ | refine cP c4 ?_ | refine cP c5 ?_ | refine cP c6 ?_ | refine cP c7 ?_ | refine cP (fQ (p[0].tmod 3)) ?_ | refine aO ?_ | fail)
  exact aA ⟨⟨_, rfl, by simp only [go_sem]⟩, trivial⟩
end Go.Proofs.Ytjkbipgmckeckaa
end
