/- Joined texts. -/
import Derived.Test.YtddimbdeggomaaaGreatZ18
set_option linter.all false
section
set_option maxRecDepth 100000
set_option maxHeartbeats 4000000
namespace Go.Proofs.YtddimbdeggomaaaGreat
open Go Go.Sx Go.RowKit Go.Proofs Go.Sx.Clos
theorem a2S (c : TCatalog) (x : TDir) (hfc : oN c) (hfx : a4e x) : FnC Tryz.prog 9 [bH c, wQ x] (ob true) := by
 refine ent Tryz.func9 rfl Tryz.call9 rfl (fun C => ?_); simp only [go_sem, st0, Tryz.ntmps9]
 have z1 := a1i c 1048576 (by omega) hfc
 by_cases h1 : bP 1048576 (wCatalog c) < 0
 ·have q0 := @h1; refine fE z1 ?_
  exact aA ⟨⟨_, rfl, by simp only [go_sem]⟩, trivial⟩
 have s1 : wCatalog c ≤ 1048576 := by have := a0U h1; omega
 have e1 : bP 1048576 (wCatalog c) = 1048576 - (wCatalog c : Nat) := aY (by omega)
 rw [e1] at z1 h1
 have z2 := xM x (1048576 - (wCatalog c : Nat)) (by omega) hfx
 by_cases h2 : bP (1048576 - (wCatalog c : Nat)) (wDir x) < 0
 ·have q0 := @h1; have q1 := @h2; refine xG z1 z2 ?_
  exact aA ⟨⟨_, rfl, by simp only [go_sem]⟩, trivial⟩
 have s2 : wCatalog c + wDir x ≤ 1048576 := by have := a0U h2; omega
 have e2 : bP (1048576 - (wCatalog c : Nat)) (wDir x) = 1048576 - (wCatalog c : Nat) - (wDir x : Nat) := aY (by omega)
 rw [e2] at z2 h2
 have b1c : aL c.fStore = aQ c.fStore.fSchema + bU c.fStore.fFiles := rfl
 have b2c : bU c.fStore.fFiles = c.fStore.fFiles.length + wsum wFile c.fStore.fFiles := rfl
 have b3c : c.fStore.fSchema.length ≤ aQ c.fStore.fSchema := by unfold aQ; omega
 have b4c : aP c.fDirs = c.fDirs.length + wsum wDir c.fDirs := rfl
 have b5c : aH c.fResults = c.fResults.length + wsum wResult c.fResults := rfl
 have b6c := yQ c.fStore.fSchema
 have b7c := a1g c.fStore.fFiles
 have b8c := a3j c.fDirs
 have b9c := vS c.fResults
 have b0c : wCatalog c = aL c.fStore + aP c.fDirs + aH c.fResults := rfl
 have f1x := a4p x.fQuery
 have f2x : x.fQuery.length ≤ wDir x := by unfold wDir bQ; omega
 have hi := zL c x (by omega)
 have hk := zM c x (by omega)
 have hC := b6Y c x (by omega)
 generalize (vC c x) = X at *
 generalize (xH c x) = Y at *
 generalize (nQ c x) = B at *
 obtain ⟨q1, q2, q3, q4⟩ := hC
 have b1X : aL X.fStore = aQ X.fStore.fSchema + bU X.fStore.fFiles := rfl
 have b2X : bU X.fStore.fFiles = X.fStore.fFiles.length + wsum wFile X.fStore.fFiles := rfl
 have b3X : X.fStore.fSchema.length ≤ aQ X.fStore.fSchema := by unfold aQ; omega
 have b4X : aP X.fDirs = X.fDirs.length + wsum wDir X.fDirs := rfl
 have b5X : aH X.fResults = X.fResults.length + wsum wResult X.fResults := rfl
 have b6X := yQ X.fStore.fSchema
 have b7X := a1g X.fStore.fFiles
 have b8X := a3j X.fDirs
 have b9X := vS X.fResults
 have b0X : wCatalog X = aL X.fStore + aP X.fDirs + aH X.fResults := rfl
 have hX : wCatalog X ≤ 67108864 := by unfold wCatalog; omega
 have k1 : ¬ ((1 : Int) + (csum cnField c.fStore.fSchema : Nat) + (csum cnFile c.fStore.fFiles : Nat) + (csum cnDir c.fDirs : Nat) + (csum cnResult c.fResults : Nat) + (csum cnNode x.fQuery : Nat) < 0) := by omega
 have k2 : ¬ ((1 : Int) + (csum cnField X.fStore.fSchema : Nat) + (csum cnFile X.fStore.fFiles : Nat) + (csum cnDir X.fDirs : Nat) + (csum cnResult X.fResults : Nat) < 0) := by omega
 have y1 := a8M Y
 have y2 : fV Y = Y.length + wsum tL Y := rfl
 have k3 : ¬ ((1 : Int) + (csum cnField X.fStore.fSchema : Nat) + (csum cnFile X.fStore.fFiles : Nat) + (csum cnDir X.fDirs : Nat) + (csum cnResult X.fResults : Nat) + (csum cnDiff Y : Nat) < 0) := by omega
 have hid : FnC Tryz.prog 58 [bH c, wQ x] (.t [(true, (bH X).cells), (false, [.d (.sl (Y.map dG))]), (false, [.d (bv B)])]) := hi.pu (by simp only [go_sem, and_self])
 cases B
 all_goals
  have qH := aI @h1 (aI @h2 (aI @k1 (aI @k2 (aI @k3 (aI @Bool.true_beq @Bool.false_beq))))); repeat' (with_reducible first | refine nY ?_ | (refine mX ?_; try simp only [go_sem, qH]) | refine kD ?_ | refine cP z1 ?_ | refine cP z2 ?_ | refine aO ?_ | fail)
  have qH := trivial; repeat' (with_reducible first | refine nX ?_ | (refine mX ?_; try simp only [go_sem]) | refine kD ?_ | (apply rE [1,3,4,9,10] [] [0,2] [0,2] ((.c 1 [] [2] (.c 3 [] [] (.c 4 [5,6,7,8] [5,6,7,8] (.c 9 [] [5,6,7,8] (.c 10 [11,12] [7,8,11,12] .n .n) .n) (.c 9 [] [] (.c 4 [5,6,7,8] [5,6,7,8] (.c 10 [11,12] [7,8,11,12] .n .n) .n) .n)) (.c 9 [] [2] (.c 3 [] [] (.c 4 [5,6,7,8] [5,6,7,8] (.c 10 [11,12] [7,8,11,12] .n .n) .n) .n) .n)) (.c 9 [] [0,2] (.c 1 [] [2] (.c 3 [] [] (.c 4 [5,6,7,8] [5,6,7,8] (.c 10 [11,12] [7,8,11,12] .n .n) .n) .n) .n) .n))) (by simp only [go_sem]; rfl) (by simp only [go_sem]; rfl) (by simp only [go_sem]; rfl) (by decide +kernel); (focus simp only [go_sem]; done)) | exact dN | refine cB (uX ?_) ?_ | refine cK (aX ?_) ?_ | refine cO (aX ?_) ?_ | exact bZ | exact oH | (refine uA ?_; simp only [go_sem]; (repeat' first | omega | refine And.intro ?_ ?_); done) | refine cP (nI c (by omega)) ?_ | refine cP (a6b x (by omega)) ?_ | refine cP hk ?_ | refine aO ?_ | fail)
  have qH := aI @h1 (aI @h2 (aI @k1 (aI @k2 (aI @k3 (aI @Bool.true_beq @Bool.false_beq))))); repeat' (with_reducible first | refine nY ?_ | (refine mX ?_; try simp only [go_sem, qH]) | refine kD ?_ | (apply rE [1,3,4,9,10] [] [0,2] [0,2] ((.c 1 [] [2] (.c 3 [] [] (.c 4 [5,6,7,8] [5,6,7,8] (.c 9 [] [5,6,7,8] (.c 10 [11,12] [7,8,11,12] .n .n) .n) (.c 9 [] [] (.c 4 [5,6,7,8] [5,6,7,8] (.c 10 [11,12] [7,8,11,12] .n .n) .n) .n)) (.c 9 [] [2] (.c 3 [] [] (.c 4 [5,6,7,8] [5,6,7,8] (.c 10 [11,12] [7,8,11,12] .n .n) .n) .n) .n)) (.c 9 [] [0,2] (.c 1 [] [2] (.c 3 [] [] (.c 4 [5,6,7,8] [5,6,7,8] (.c 10 [11,12] [7,8,11,12] .n .n) .n) .n) .n) .n))) (by simp only [go_sem]; rfl) (by simp only [go_sem]; rfl) (by simp only [go_sem]; rfl) (by decide +kernel); (focus simp only [go_sem]; done)) | exact dN | refine cB (uX ?_) ?_ | refine cK (aX ?_) ?_ | refine cO (aX ?_) ?_ | exact bZ | exact oH | exact uB | refine rD ?_ | refine vO (mE c (by omega)) ?_ | refine vQ (mE c (by omega)) ?_ | refine vO (xN x (by omega)) ?_ | refine vQ (xN x (by omega)) ?_ | refine vO hi ?_ | refine vQ hi ?_ | refine vO (iG X hX) ?_ | refine vQ (iG X hX) ?_ | refine vO (vT Y (by omega)) ?_ | refine vQ (vT Y (by omega)) ?_ | refine vO (iG c (by omega)) ?_ | refine vQ (iG c (by omega)) ?_ | refine vO (a0Z x (by omega)) ?_ | refine vQ (a0Z x (by omega)) ?_ | refine vM (lZ c _ (by omega)) ?_ | refine vM (a4o x _ (by omega)) ?_ | refine vM (lZ X _ (by omega)) ?_ | refine vM (a1f Y _ (by omega)) ?_ | refine vO (mD X 1 (by omega)) ?_ | refine vQ (mD X 1 (by omega)) ?_ | refine vO (oK Y ((1 : Int) + (csum cnField X.fStore.fSchema : Nat) + (csum cnFile X.fStore.fFiles : Nat) + (csum cnDir X.fDirs : Nat) + (csum cnResult X.fResults : Nat)) (by omega)) ?_ | refine vQ (oK Y ((1 : Int) + (csum cnField X.fStore.fSchema : Nat) + (csum cnFile X.fStore.fFiles : Nat) + (csum cnDir X.fDirs : Nat) + (csum cnResult X.fResults : Nat)) (by omega)) ?_ | refine cP (nI c (by omega)) ?_ | refine cP (a6b x (by omega)) ?_ | refine cP hid ?_ | refine aO ?_ | fail)
  exact aA ⟨⟨_, rfl, by simp only [go_sem]⟩, trivial⟩
end Go.Proofs.YtddimbdeggomaaaGreat
end
