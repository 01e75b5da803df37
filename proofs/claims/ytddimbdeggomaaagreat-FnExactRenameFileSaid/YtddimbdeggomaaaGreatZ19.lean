/- Joined texts. -/
import Derived.Test.YtddimbdeggomaaaGreatZ18
set_option linter.all false
section
set_option maxRecDepth 100000
set_option maxHeartbeats 4000000
namespace Go.Proofs.YtddimbdeggomaaaGreat
open Go Go.Sx Go.RowKit Go.Proofs
def nmN : ByteArray := ⟨#[110]⟩
def oA (c : TCatalog) (id : Int) (s : ByteArray) : TFile := t8 (aZ id c.fStore.fFiles) ⟨#[110]⟩ ⟨2, 0, s⟩
theorem xQ (c : TCatalog) (id : Int) (s : ByteArray) : wFile (oA c id s) ≤ aT c.fStore.fFiles + s.size + 2 := by
 have h1 := kH id c.fStore.fFiles
 have h2 := Ew ⟨#[110]⟩ ⟨2, 0, s⟩ (aZ id c.fStore.fFiles).fAttrs
 have e1 : wFile (oA c id s) = bg (t7 ⟨#[110]⟩ ⟨2, 0, s⟩ (aZ id c.fStore.fFiles).fAttrs) := rfl
 have e2 : wFile (aZ id c.fStore.fFiles) = bg (aZ id c.fStore.fFiles).fAttrs := rfl
 have e3 : wAttr ⟨⟨#[110]⟩, ⟨2, 0, s⟩⟩ = 1 + s.size := rfl
 omega
def ju (c : TCatalog) (u id : Int) : Bool := decide (0 ≤ ixF id c.fStore.fFiles) && ou (aZ id c.fStore.fFiles) u
noncomputable def oB (c : TCatalog) (u id : Int) (s : ByteArray) : TCatalog := if ju c u id then iY c (oA c id s) else c
noncomputable def ws (c : TCatalog) (u id : Int) (s : ByteArray) : Bool := ju c u id && fh c (oA c id s)
theorem B7 {c : TCatalog} {f : TFile} (h : fh c f = true) : ib c = true := by unfold fh at h; rw [Bool.and_eq_true] at h; exact h.1
theorem Dx {c : TCatalog} {f : TFile} (h : fh c f = false) : iY c f = c := by unfold iY; rw [h]; rfl
theorem rB (c : TCatalog) (u id : Int) (s : ByteArray) (h : wCatalog c ≤ 1048576) (hs : s.size ≤ 1048576) : FnC Tryz.prog 62 [aU c, oi u, oi id, os s] (.t [(true, (fq (oB c u id s)).cells), (false, [.d (bv (ws c u id s))])]) := by
 have hc : wCatalog c = al c.fStore + aA c.fDirs + ah c.fResults := rfl
 have hb : al c.fStore = aj c.fStore.fSchema + aT c.fStore.fFiles := rfl
 have hw := xQ c id s
 have hf := kH id c.fStore.fFiles
 have hl : (aZ id c.fStore.fFiles).fAttrs.length ≤ wFile (aZ id c.fStore.fFiles) := qQ _
 refine ent Tryz.func62 rfl Tryz.call62 rfl (fun C => ?_); simp only [go_sem, st0, Tryz.ntmps62]
 by_cases h1 : 0 ≤ ixF id c.fStore.fFiles
 case neg =>
  have e : ju c u id = false := by simp [ju, h1]
  have q0 := @h1; have q1 := @decide_false; refine l7 (bj c.fStore id (by omega)) (fv c (by omega)) ?_
  exact aa ⟨⟨_, rfl, by simp only [go_sem, oB, ws, e, Bool.false_and, Bool.false_eq_true, if_false]; try simp⟩, by simp [aE]⟩
 cases h2 : ou (aZ id c.fStore.fFiles) u
 ·have e : ju c u id = false := by simp [ju, h2]
  have q0 := @h1; have q1 := @h2; have q2 := @decide_true; refine CO (bj c.fStore id (by omega)) (dW (aZ id c.fStore.fFiles) u) (fv c (by omega)) ?_
  exact aa ⟨⟨_, rfl, by simp only [go_sem, oB, ws, e, Bool.false_and, Bool.false_eq_true, if_false]; try simp⟩, by simp [aE]⟩
 ·have e : ju c u id = true := by simp [ju, h1, h2]
  have hsa : FnC Tryz.prog 143 [a8 (aZ id c.fStore.fFiles), os ⟨#[110]⟩, dX ⟨2, 0, s⟩] (a8 (oA c id s)) := (qS (aZ id c.fStore.fFiles) ⟨#[110]⟩ ⟨2, 0, s⟩ (by omega)).pu (by simp only [go_sem, oA, and_self])
  have hu := kT c (oA c id s) (by omega)
  have qH := aI @h1 (aI @h2 @decide_true); repeat' (with_reducible first | refine nY ?_ | (refine mX ?_; try simp only [go_sem, qH]) | refine kD ?_ | (apply rE [3,4,5,10,11] [] [0,1,2] [0,1,2] ((.c 3 [] [0,1] (.c 4 [] [0] (.c 5 [6,7,8,9] [6,7,8,9] (.c 10 [] [6,7,8,9] (.c 11 [12,13] [8,9,12,13] .n .n) .n) (.c 10 [] [0] (.c 5 [6,7,8,9] [6,7,8,9] (.c 11 [12,13] [8,9,12,13] .n .n) .n) .n)) (.c 10 [] [0,1] (.c 4 [] [0] (.c 5 [6,7,8,9] [6,7,8,9] (.c 11 [12,13] [8,9,12,13] .n .n) .n) .n) .n)) (.c 10 [] [0,1,2] (.c 3 [] [0,1] (.c 4 [] [0] (.c 5 [6,7,8,9] [6,7,8,9] (.c 11 [12,13] [8,9,12,13] .n .n) .n) .n) .n) .n))) (by simp only [go_sem]; rfl) (by simp only [go_sem]; rfl) (by simp only [go_sem]; rfl) (by decide +kernel); (focus simp only [go_sem]; done)) | exact cJ | refine ca (uX ?_) ?_ | refine cd (aX ?_) ?_ | refine ce (aX ?_) ?_ | exact b9 | (refine yt [(3, 4), (4, 5), (5, 6), (6, 7), (7, 8)] (by simp only [go_sem]; rfl) ?_; exact rfl) | exact oH | exact uB | refine rD ?_ | refine cP (bj c.fStore id (by omega)) ?_ | refine cP (dW (aZ id c.fStore.fFiles) u) ?_ | refine cP (u4 s) ?_ | refine cP hsa ?_ | refine cP hu ?_ | refine aO ?_ | fail)
  exact aa ⟨⟨_, rfl, by simp only [go_sem, oB, ws, e, Bool.true_and, if_true]; try simp⟩, by simp [aE]⟩
theorem rC (c : TCatalog) (u id : Int) (s : ByteArray) (h : wCatalog c ≤ 1048576) (hs : s.size ≤ 1048576) : FnC Tryz.prog 61 [aU c, oi u, oi id, os s] (.t [(true, (aU (oB c u id s)).cells), (false, [.d (bv (ws c u id s))])]) := by
 have hc : wCatalog c = al c.fStore + aA c.fDirs + ah c.fResults := rfl
 have hb : al c.fStore = aj c.fStore.fSchema + aT c.fStore.fFiles := rfl
 have hw := xQ c id s
 have hf := kH id c.fStore.fFiles
 have hl : (aZ id c.fStore.fFiles).fAttrs.length ≤ wFile (aZ id c.fStore.fFiles) := qQ _
 have hsa : FnC Tryz.prog 141 [a8 (aZ id c.fStore.fFiles), os ⟨#[110]⟩, dX ⟨2, 0, s⟩] (a8 (oA c id s)) := (qT (aZ id c.fStore.fFiles) ⟨#[110]⟩ ⟨2, 0, s⟩ (by omega)).pu (by simp only [go_sem, oA, and_self])
 have hu := kU c (oA c id s) (by omega)
 have hr : (decide (0 ≤ ixF id c.fStore.fFiles) && (ou (aZ id c.fStore.fFiles) u && ib c)) = (ju c u id && ib c) := by unfold ju; rw [Bool.and_assoc]
 have hk := pF c u id (by omega)
 rw [hr] at hk
 refine ent Tryz.func61 rfl Tryz.call61 rfl (fun C => ?_); simp only [go_sem, st0, Tryz.ntmps61]
 cases h2 : fh c (oA c id s)
 ·have e1 := Dx h2
  rw [h2] at hu
  cases h1 : ju c u id && ib c
  all_goals
   rw [h1] at hk
   have qH := trivial; repeat' (with_reducible first | refine nY ?_ | (refine mX ?_; try simp only [go_sem]) | refine kD ?_ | (apply rE [3,4,5,10,11] [] [0,1,2] [0,1,2] ((.c 3 [] [0,1] (.c 4 [] [0] (.c 5 [6,7,8,9] [6,7,8,9] (.c 10 [] [6,7,8,9] (.c 11 [12,13] [8,9,12,13] .n .n) .n) (.c 10 [] [0] (.c 5 [6,7,8,9] [6,7,8,9] (.c 11 [12,13] [8,9,12,13] .n .n) .n) .n)) (.c 10 [] [0,1] (.c 4 [] [0] (.c 5 [6,7,8,9] [6,7,8,9] (.c 11 [12,13] [8,9,12,13] .n .n) .n) .n) .n)) (.c 10 [] [0,1,2] (.c 3 [] [0,1] (.c 4 [] [0] (.c 5 [6,7,8,9] [6,7,8,9] (.c 11 [12,13] [8,9,12,13] .n .n) .n) .n) .n) .n))) (by simp only [go_sem]; rfl) (by simp only [go_sem]; rfl) (by simp only [go_sem]; rfl) (by decide +kernel); (focus simp only [go_sem]; done)) | exact cJ | refine ca (uX ?_) ?_ | refine cd (aX ?_) ?_ | refine ce (aX ?_) ?_ | exact b9 | exact oH | (refine uA ?_; simp only [go_sem]; (repeat' first | omega | refine And.intro ?_ ?_); done) | refine rD ?_ | refine cP (dl c (by omega)) ?_ | refine cP hk ?_ | refine cP (nR s) ?_ | refine cP hsa ?_ | refine cP hu ?_ | refine aO ?_ | fail)
   exact aa ⟨⟨_, rfl, by simp only [go_sem, oB, ws, h2, e1, Bool.and_false, ite_self]; try simp⟩, by simp [aE]⟩
 ·have e2 := B7 h2
  rw [h2] at hu
  rw [e2, Bool.and_true] at hk
  cases h1 : ju c u id
  all_goals
   rw [h1] at hk
   have qH := trivial; repeat' (with_reducible first | refine nY ?_ | (refine mX ?_; try simp only [go_sem]) | refine kD ?_ | (apply rE [3,4,5,10,11] [] [0,1,2] [0,1,2] ((.c 3 [] [0,1] (.c 4 [] [0] (.c 5 [6,7,8,9] [6,7,8,9] (.c 10 [] [6,7,8,9] (.c 11 [12,13] [8,9,12,13] .n .n) .n) (.c 10 [] [0] (.c 5 [6,7,8,9] [6,7,8,9] (.c 11 [12,13] [8,9,12,13] .n .n) .n) .n)) (.c 10 [] [0,1] (.c 4 [] [0] (.c 5 [6,7,8,9] [6,7,8,9] (.c 11 [12,13] [8,9,12,13] .n .n) .n) .n) .n)) (.c 10 [] [0,1,2] (.c 3 [] [0,1] (.c 4 [] [0] (.c 5 [6,7,8,9] [6,7,8,9] (.c 11 [12,13] [8,9,12,13] .n .n) .n) .n) .n) .n))) (by simp only [go_sem]; rfl) (by simp only [go_sem]; rfl) (by simp only [go_sem]; rfl) (by decide +kernel); (focus simp only [go_sem]; done)) | exact cJ | refine ca (uX ?_) ?_ | refine cd (aX ?_) ?_ | refine ce (aX ?_) ?_ | exact b9 | exact oH | (refine uA ?_; simp only [go_sem]; (repeat' first | omega | refine And.intro ?_ ?_); done) | refine rD ?_ | refine cP (dl c (by omega)) ?_ | refine cP hk ?_ | refine cP (nR s) ?_ | refine cP hsa ?_ | refine cP hu ?_ | refine aO ?_ | fail)
   exact aa ⟨⟨_, rfl, by simp only [go_sem, oB, ws, h1, h2, Bool.true_and, Bool.false_and, Bool.false_eq_true, if_false, if_true]; try simp⟩, by simp [aE]⟩
theorem Fn (c : TCatalog) (u id : Int) (s : ByteArray) (h : wCatalog c ≤ 1048576) (hs : s.size ≤ 1048576) : al (oB c u id s).fStore ≤ 8600000 ∧ aA (oB c u id s).fDirs ≤ 8600000 ∧ ah (oB c u id s).fResults ≤ 8600000 := by
 have hc : wCatalog c = al c.fStore + aA c.fDirs + ah c.fResults := rfl
 have hb : al c.fStore = aj c.fStore.fSchema + aT c.fStore.fFiles := rfl
 have hw := xQ c id s
 unfold oB
 split
 ·obtain ⟨q1, q2, q3, _⟩ := Dz c (oA c id s) (by omega)
  exact ⟨q1, q2, q3⟩
 ·exact ⟨by omega, by omega, by omega⟩
theorem nD (c : TCatalog) (u : Int) (i : Int) (s : ByteArray) (hfc : gr c) : FnC Tryz.prog 10 [aU c, oi u, oi i, os s] (ob true) := by
 refine ent Tryz.func10 rfl Tryz.call10 rfl (fun C => ?_); simp only [go_sem, st0, Tryz.ntmps10]
 by_cases gs : (1048576 : Int) < (s.size : Int)
 ·have q0 := @gs; have q1 := @decide_true; refine fg ?_
  exact aa ⟨⟨_, rfl, by simp only [go_sem]⟩, trivial⟩
 have z1 := mm c 1048576 (by omega) hfc
 by_cases h1 : aS 1048576 (wCatalog c) < 0
 ·have q0 := @gs; have q1 := @h1; refine fZ z1 ?_
  exact aa ⟨⟨_, rfl, by simp only [go_sem]⟩, trivial⟩
 have s1 : wCatalog c ≤ 1048576 := by have := ve h1; omega
 have e1 : aS 1048576 (wCatalog c) = 1048576 - (wCatalog c : Nat) := aC (by omega)
 rw [e1] at z1 h1
 have b1c : al c.fStore = aj c.fStore.fSchema + aT c.fStore.fFiles := rfl
 have b2c : aT c.fStore.fFiles = c.fStore.fFiles.length + wsum wFile c.fStore.fFiles := rfl
 have b3c : c.fStore.fSchema.length ≤ aj c.fStore.fSchema := by unfold aj; omega
 have b4c : aA c.fDirs = c.fDirs.length + wsum wDir c.fDirs := rfl
 have b5c : ah c.fResults = c.fResults.length + wsum wResult c.fResults := rfl
 have b6c := kA c.fStore.fSchema
 have b7c := mj c.fStore.fFiles
 have b8c := oM c.fDirs
 have b9c := ja c.fResults
 have b0c : wCatalog c = al c.fStore + aA c.fDirs + ah c.fResults := rfl
 have hi := rB c u i s (by omega) (by omega)
 have hk := rC c u i s (by omega) (by omega)
 have hC := Fn c u i s (by omega) (by omega)
 generalize (oB c u i s) = X at *
 generalize (ws c u i s) = B at *
 obtain ⟨q1, q2, q3⟩ := hC
 have b1X : al X.fStore = aj X.fStore.fSchema + aT X.fStore.fFiles := rfl
 have b2X : aT X.fStore.fFiles = X.fStore.fFiles.length + wsum wFile X.fStore.fFiles := rfl
 have b3X : X.fStore.fSchema.length ≤ aj X.fStore.fSchema := by unfold aj; omega
 have b4X : aA X.fDirs = X.fDirs.length + wsum wDir X.fDirs := rfl
 have b5X : ah X.fResults = X.fResults.length + wsum wResult X.fResults := rfl
 have b6X := kA X.fStore.fSchema
 have b7X := mj X.fStore.fFiles
 have b8X := oM X.fDirs
 have b9X := ja X.fResults
 have b0X : wCatalog X = al X.fStore + aA X.fDirs + ah X.fResults := rfl
 have hX : wCatalog X ≤ 67108864 := by unfold wCatalog; omega
 have k1 : ¬ ((1 : Int) + (csum cnField c.fStore.fSchema : Nat) + (csum cnFile c.fStore.fFiles : Nat) + (csum cnDir c.fDirs : Nat) + (csum cnResult c.fResults : Nat) < 0) := by omega
 have k2 : ¬ ((1 : Int) + (csum cnField X.fStore.fSchema : Nat) + (csum cnFile X.fStore.fFiles : Nat) + (csum cnDir X.fDirs : Nat) + (csum cnResult X.fResults : Nat) < 0) := by omega
 cases B
 all_goals
  have q0 := @gs; have q1 := @h1; have q2 := @k1; have q3 := @k2; have q4 := @Bool.true_beq; have q5 := @Bool.false_beq; refine ot z1 ?_
  repeat' (with_reducible first | refine nX ?_ | (refine mX ?_; try simp only [go_sem]) | refine kD ?_ | refine cP (fR c (by omega)) ?_ | refine cP hk ?_ | refine aO ?_ | fail)
  have qH := aI @gs (aI @h1 (aI @k1 (aI @k2 (aI @Bool.true_beq @Bool.false_beq)))); repeat' (with_reducible first | refine nY ?_ | (refine mX ?_; try simp only [go_sem, qH]) | refine kD ?_ | refine rD ?_ | refine vO (fu c (by omega)) ?_ | refine vQ (fu c (by omega)) ?_ | refine vO hi ?_ | refine vQ hi ?_ | refine vO (cV X hX) ?_ | refine vQ (cV X hX) ?_ | refine vO (cV c (by omega)) ?_ | refine vQ (cV c (by omega)) ?_ | refine vM (fm c _ (by omega)) ?_ | refine vM (fm X _ (by omega)) ?_ | refine vO (fp X 1 (by omega)) ?_ | refine vQ (fp X 1 (by omega)) ?_ | refine cP (fR c (by omega)) ?_ | refine aO ?_ | fail)
  exact aa ⟨⟨_, rfl, by simp only [go_sem]⟩, trivial⟩
end Go.Proofs.YtddimbdeggomaaaGreat
end
