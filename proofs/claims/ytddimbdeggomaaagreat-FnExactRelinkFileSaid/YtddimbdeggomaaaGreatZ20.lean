/- Joined texts. -/
import Derived.Test.YtddimbdeggomaaaGreatZ18
set_option linter.all false
section
set_option maxRecDepth 100000
set_option maxHeartbeats 4000000
namespace Go.Proofs.YtddimbdeggomaaaGreat
open Go Go.Sx Go.RowKit Go.Proofs
def ll (c : TCatalog) (id t : Int) : TFile := ⟨(aZ id c.fStore.fFiles).fID, (aZ id c.fStore.fFiles).fOwner, (aZ id c.fStore.fFiles).fShared, t, (aZ id c.fStore.fFiles).fAttrs⟩
theorem wZ (c : TCatalog) (id t : Int) : wFile (ll c id t) ≤ aT c.fStore.fFiles := kH id c.fStore.fFiles
def tq (c : TCatalog) (u t : Int) : Bool := decide (t = 0) || (decide (0 ≤ ixF t c.fStore.fFiles) && pE (aZ t c.fStore.fFiles) u)
def tu (c : TCatalog) (u id : Int) : Bool := decide (0 ≤ ixF id c.fStore.fFiles) && ou (aZ id c.fStore.fFiles) u
def dQ (c : TCatalog) (u id t : Int) : Bool := tu c u id && tq c u t
noncomputable def iX (c : TCatalog) (u id t : Int) : TCatalog := if dQ c u id t then iY c (ll c id t) else c
noncomputable def lm (c : TCatalog) (u id t : Int) : Bool := dQ c u id t && fh c (ll c id t)
theorem zx {c : TCatalog} {f : TFile} (h : fh c f = true) : ib c = true := by unfold fh at h; rw [Bool.and_eq_true] at h; exact h.1
theorem Bf {c : TCatalog} {f : TFile} (h : fh c f = false) : iY c f = c := by unfold iY; rw [h]; rfl
theorem rh (c : TCatalog) (id t : Int) (h : wCatalog c + wFile (ll c id t) ≤ 4300000) : FnC Tryz.prog 54 [aU c, a8 ⟨(aZ id c.fStore.fFiles).fID, (aZ id c.fStore.fFiles).fOwner, (aZ id c.fStore.fFiles).fShared, t, (aZ id c.fStore.fFiles).fAttrs⟩] (.t [(true, (fq (iY c (ll c id t))).cells), (false, [.w 158 3 ((pG c (ll c id t)).map dF)]), (false, [.d (bv (fh c (ll c id t)))])]) := kT c (ll c id t) h
theorem ri (c : TCatalog) (id t : Int) (h : wCatalog c + wFile (ll c id t) ≤ 4300000) : FnC Tryz.prog 53 [aU c, a8 ⟨(aZ id c.fStore.fFiles).fID, (aZ id c.fStore.fFiles).fOwner, (aZ id c.fStore.fFiles).fShared, t, (aZ id c.fStore.fFiles).fAttrs⟩] (.t [(true, (aU (iY c (ll c id t))).cells), (false, [.d (.sl ((pG c (ll c id t)).map dF))]), (false, [.d (bv (fh c (ll c id t)))])]) := kU c (ll c id t) h
theorem rj (c : TCatalog) (u id t : Int) (h : wCatalog c ≤ 1048576) : FnC Tryz.prog 52 [aU c, oi u, oi id, oi t] (.t [(true, (fq (iX c u id t)).cells), (false, [.d (bv (lm c u id t))])]) := by
 have hc : wCatalog c = al c.fStore + aA c.fDirs + ah c.fResults := rfl
 have hb : al c.fStore = aj c.fStore.fSchema + aT c.fStore.fFiles := rfl
 have hw := wZ c id t
 refine ent Tryz.func52 rfl Tryz.call52 rfl (fun C => ?_); simp only [go_sem, st0, Tryz.ntmps52]
 by_cases h1 : 0 ≤ ixF id c.fStore.fFiles
 case neg =>
  have e : dQ c u id t = false := by simp [dQ, tu, h1]
  have q0 := @h1; have q1 := @decide_false; refine D8 (bj c.fStore id (by omega)) (bj c.fStore t (by omega)) (fv c (by omega)) ?_
  exact aa ⟨⟨_, rfl, by simp only [go_sem, iX, lm, e, Bool.false_and, Bool.false_eq_true, if_false]; try simp⟩, by simp [aE]⟩
 cases h2 : ou (aZ id c.fStore.fFiles) u
 ·have e : dQ c u id t = false := by simp [dQ, tu, h2]
  have q0 := @h1; have q1 := @h2; have q2 := @decide_true; refine CP (bj c.fStore id (by omega)) (bj c.fStore t (by omega)) (dW (aZ id c.fStore.fFiles) u) (fv c (by omega)) ?_
  exact aa ⟨⟨_, rfl, by simp only [go_sem, iX, lm, e, Bool.false_and, Bool.false_eq_true, if_false]; try simp⟩, by simp [aE]⟩
 have hu := rh c id t (by omega)
 by_cases h3 : t = 0
 ·subst h3
  have e : dQ c u id 0 = true := by simp [dQ, tu, tq, h1, h2]
  have q0 := @h1; have q1 := @h2; have q2 := @decide_true; refine CP (bj c.fStore id (by omega)) (bj c.fStore 0 (by omega)) (dW (aZ id c.fStore.fFiles) u) hu ?_
  exact aa ⟨⟨_, rfl, by simp only [go_sem, iX, lm, e, Bool.true_and, if_true]; try simp⟩, by simp [aE]⟩
 by_cases h4 : 0 ≤ ixF t c.fStore.fFiles
 case neg =>
  have e : dQ c u id t = false := by simp [dQ, tq, h3, h4]
  have q0 := @h1; have q1 := @h2; have q2 := @h3; have q3 := @h4; have q4 := @decide_true; have q5 := @decide_false; refine FP (bj c.fStore id (by omega)) (bj c.fStore t (by omega)) (dW (aZ id c.fStore.fFiles) u) (fv c (by omega)) ?_
  exact aa ⟨⟨_, rfl, by simp only [go_sem, iX, lm, e, Bool.false_and, Bool.false_eq_true, if_false]; try simp⟩, by simp [aE]⟩
 cases h5 : pE (aZ t c.fStore.fFiles) u
 ·have e : dQ c u id t = false := by simp [dQ, tq, h3, h5]
  have q0 := @h1; have q1 := @h2; have q2 := @h3; have q3 := @h4; have q4 := @h5; have q5 := @decide_true; have q6 := @decide_false; refine E5 (bj c.fStore id (by omega)) (bj c.fStore t (by omega)) (dW (aZ id c.fStore.fFiles) u) (nP (aZ t c.fStore.fFiles) u) (fv c (by omega)) ?_
  exact aa ⟨⟨_, rfl, by simp only [go_sem, iX, lm, e, Bool.false_and, Bool.false_eq_true, if_false]; try simp⟩, by simp [aE]⟩
 ·have e : dQ c u id t = true := by simp [dQ, tu, tq, h1, h2, h4, h5]
  have q0 := @h1; have q1 := @h2; have q2 := @h3; have q3 := @h4; have q4 := @h5; have q5 := @decide_true; have q6 := @decide_false; refine E5 (bj c.fStore id (by omega)) (bj c.fStore t (by omega)) (dW (aZ id c.fStore.fFiles) u) (nP (aZ t c.fStore.fFiles) u) hu ?_
  exact aa ⟨⟨_, rfl, by simp only [go_sem, iX, lm, e, Bool.true_and, if_true]; try simp⟩, by simp [aE]⟩
theorem rk (c : TCatalog) (u id t : Int) (h : wCatalog c ≤ 1048576) : FnC Tryz.prog 51 [aU c, oi u, oi id, oi t] (.t [(true, (aU (iX c u id t)).cells), (false, [.d (bv (lm c u id t))])]) := by
 have hc : wCatalog c = al c.fStore + aA c.fDirs + ah c.fResults := rfl
 have hb : al c.fStore = aj c.fStore.fSchema + aT c.fStore.fFiles := rfl
 have hw := wZ c id t
 have hu := ri c id t (by omega)
 have hr : (decide (0 ≤ ixF id c.fStore.fFiles) && (ou (aZ id c.fStore.fFiles) u && ib c)) = (tu c u id && ib c) := by unfold tu; rw [Bool.and_assoc]
 have hk := pF c u id (by omega)
 rw [hr] at hk
 refine ent Tryz.func51 rfl Tryz.call51 rfl (fun C => ?_); simp only [go_sem, st0, Tryz.ntmps51]
 cases h2 : fh c (ll c id t)
 ·have e1 := Bf h2
  rw [h2] at hu
  cases h1 : tu c u id && ib c
  all_goals
   rw [h1] at hk
   refine EY (dl c (by omega)) hk (bG c.fStore t (by omega)) hu ?_
   exact aa ⟨⟨_, rfl, by simp only [go_sem, iX, lm, h2, e1, Bool.and_false, ite_self]; try simp⟩, by simp [aE]⟩
 ·have e2 := zx h2
  rw [h2] at hu
  rw [e2, Bool.and_true] at hk
  cases h1 : tu c u id
  ·rw [h1] at hk
   have e : dQ c u id t = false := by simp [dQ, h1]
   refine EY (dl c (by omega)) hk (bG c.fStore t (by omega)) hu ?_
   exact aa ⟨⟨_, rfl, by simp only [go_sem, iX, lm, e, Bool.false_and, Bool.false_eq_true, if_false]; try simp⟩, by simp [aE]⟩
  rw [h1] at hk
  by_cases h3 : t = 0
  ·subst h3
   have e : dQ c u id 0 = true := by simp [dQ, tq, h1]
   have q0 := @decide_true; refine E0 (dl c (by omega)) hk (bG c.fStore 0 (by omega)) hu ?_
   exact aa ⟨⟨_, rfl, by simp only [go_sem, iX, lm, e, h2, Bool.true_and, if_true]; try simp⟩, by simp [aE]⟩
  by_cases h4 : 0 ≤ ixF t c.fStore.fFiles
  case neg =>
   have e : dQ c u id t = false := by simp [dQ, tq, h3, h4]
   have q0 := @h3; have q1 := @h4; have q2 := @decide_true; have q3 := @decide_false; refine CQ (dl c (by omega)) hk (bG c.fStore t (by omega)) hu ?_
   exact aa ⟨⟨_, rfl, by simp only [go_sem, iX, lm, e, Bool.false_and, Bool.false_eq_true, if_false]; try simp⟩, by simp [aE]⟩
  cases h5 : pE (aZ t c.fStore.fFiles) u
  ·have e : dQ c u id t = false := by simp [dQ, tq, h3, h5]
   have q0 := @h3; have q1 := @h4; have q2 := @h5; have q3 := @decide_true; have q4 := @decide_false; refine E3 (dl c (by omega)) hk (bG c.fStore t (by omega)) hu (nQ (aZ t c.fStore.fFiles) u) ?_
   exact aa ⟨⟨_, rfl, by simp only [go_sem, iX, lm, e, Bool.false_and, Bool.false_eq_true, if_false]; try simp⟩, by simp [aE]⟩
  ·have e : dQ c u id t = true := by simp [dQ, tq, h1, h4, h5]
   have q0 := @h3; have q1 := @h4; have q2 := @h5; have q3 := @decide_true; have q4 := @decide_false; refine E3 (dl c (by omega)) hk (bG c.fStore t (by omega)) hu (nQ (aZ t c.fStore.fFiles) u) ?_
   exact aa ⟨⟨_, rfl, by simp only [go_sem, iX, lm, e, h2, Bool.true_and, if_true]; try simp⟩, by simp [aE]⟩
theorem E6 (c : TCatalog) (u id t : Int) (h : wCatalog c ≤ 1048576) : al (iX c u id t).fStore ≤ 8600000 ∧ aA (iX c u id t).fDirs ≤ 8600000 ∧ ah (iX c u id t).fResults ≤ 8600000 := by
 have hc : wCatalog c = al c.fStore + aA c.fDirs + ah c.fResults := rfl
 have hb : al c.fStore = aj c.fStore.fSchema + aT c.fStore.fFiles := rfl
 have hw := wZ c id t
 unfold iX
 split
 ·obtain ⟨q1, q2, q3, _⟩ := Dz c (ll c id t) (by omega)
  exact ⟨q1, q2, q3⟩
 ·exact ⟨by omega, by omega, by omega⟩
theorem m4 (c : TCatalog) (u : Int) (i : Int) (t : Int) (hfc : gr c) : FnC Tryz.prog 7 [aU c, oi u, oi i, oi t] (ob true) := by
 refine ent Tryz.func7 rfl Tryz.call7 rfl (fun C => ?_); simp only [go_sem, st0, Tryz.ntmps7]
 have z1 := mm c 1048576 (by omega) hfc
 by_cases h1 : aS 1048576 (wCatalog c) < 0
 ·have q0 := @h1; refine cg z1 ?_
  exact aa ⟨⟨_, rfl, by simp only [go_sem]⟩, trivial⟩
 have s1 : wCatalog c ≤ 1048576 := by have := ve h1; omega
 have e1 : aS 1048576 (wCatalog c) = 1048576 - (wCatalog c : Nat) := aC (by omega)
 rw [e1] at z1 h1
 have b1c : al c.fStore = aj c.fStore.fSchema + aT c.fStore.fFiles := rfl
 have b2c : aT c.fStore.fFiles = c.fStore.fFiles.length + wsum wFile c.fStore.fFiles := rfl
 have b3c : c.fStore.fSchema.length ≤ aj c.fStore.fSchema := by unfold aj; omega
 have b4c : aA c.fDirs = c.fDirs.length + wsum wDir c.fDirs := rfl
 have b5c : ah c.fResults = c.fResults.length + wsum wResult c.fResults := rfl
 have b6c := kA c.fStore.fSchema
 have b7c := mj c.fStore.fFiles
 have b8c := oM c.fDirs
 have b9c := ja c.fResults
 have b0c : wCatalog c = al c.fStore + aA c.fDirs + ah c.fResults := rfl
 have hi := rj c u i t (by omega)
 have hk := rk c u i t (by omega)
 have hC := E6 c u i t (by omega)
 generalize (iX c u i t) = X at *
 generalize (lm c u i t) = B at *
 obtain ⟨q1, q2, q3⟩ := hC
 have b1X : al X.fStore = aj X.fStore.fSchema + aT X.fStore.fFiles := rfl
 have b2X : aT X.fStore.fFiles = X.fStore.fFiles.length + wsum wFile X.fStore.fFiles := rfl
 have b3X : X.fStore.fSchema.length ≤ aj X.fStore.fSchema := by unfold aj; omega
 have b4X : aA X.fDirs = X.fDirs.length + wsum wDir X.fDirs := rfl
 have b5X : ah X.fResults = X.fResults.length + wsum wResult X.fResults := rfl
 have b6X := kA X.fStore.fSchema
 have b7X := mj X.fStore.fFiles
 have b8X := oM X.fDirs
 have b9X := ja X.fResults
 have b0X : wCatalog X = al X.fStore + aA X.fDirs + ah X.fResults := rfl
 have hX : wCatalog X ≤ 67108864 := by unfold wCatalog; omega
 have k1 : ¬ ((1 : Int) + (csum cnField c.fStore.fSchema : Nat) + (csum cnFile c.fStore.fFiles : Nat) + (csum cnDir c.fDirs : Nat) + (csum cnResult c.fResults : Nat) < 0) := by omega
 have k2 : ¬ ((1 : Int) + (csum cnField X.fStore.fSchema : Nat) + (csum cnFile X.fStore.fFiles : Nat) + (csum cnDir X.fDirs : Nat) + (csum cnResult X.fResults : Nat) < 0) := by omega
 cases B
 all_goals
  have q0 := @h1; have q1 := @k1; have q2 := @k2; have q3 := @Bool.true_beq; have q4 := @Bool.false_beq; refine pD z1 ?_
  repeat' (with_reducible first | refine nX ?_ | (refine mX ?_; try simp only [go_sem]) | refine kD ?_ | refine cP (fR c (by omega)) ?_ | refine cP hk ?_ | refine aO ?_ | fail)
  have qH := aI @h1 (aI @k1 (aI @k2 (aI @Bool.true_beq @Bool.false_beq))); repeat' (with_reducible first | refine nY ?_ | (refine mX ?_; try simp only [go_sem, qH]) | refine kD ?_ | refine rD ?_ | refine vO (fu c (by omega)) ?_ | refine vQ (fu c (by omega)) ?_ | refine vO hi ?_ | refine vQ hi ?_ | refine vO (cV X hX) ?_ | refine vQ (cV X hX) ?_ | refine vO (cV c (by omega)) ?_ | refine vQ (cV c (by omega)) ?_ | refine vM (fm c _ (by omega)) ?_ | refine vM (fm X _ (by omega)) ?_ | refine vO (fp X 1 (by omega)) ?_ | refine vQ (fp X 1 (by omega)) ?_ | refine cP (fR c (by omega)) ?_ | refine aO ?_ | fail)
  exact aa ⟨⟨_, rfl, by simp only [go_sem]⟩, trivial⟩
end Go.Proofs.YtddimbdeggomaaaGreat
end
