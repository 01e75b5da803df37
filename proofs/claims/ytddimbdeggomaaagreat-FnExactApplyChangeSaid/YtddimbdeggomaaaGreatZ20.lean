/- Joined texts. -/
import Derived.Test.YtddimbdeggomaaaGreatZ19
import Derived.Test.YtddimbdeggomaaaGreatZ18
set_option linter.all false
section
set_option maxRecDepth 100000
set_option maxHeartbeats 4000000
namespace Go.Proofs.YtddimbdeggomaaaGreat
open Go Go.Sx Go.RowKit Go.Proofs
def a7O (f : TFile) (u : Int) : Bool := inB u 0 2 && decide (f.fOwner = u)
def c0j (f : TFile) (u : Int) : Bool := inB u 0 2 && (decide (f.fOwner = u) || f.fShared)
theorem nZ (f : TFile) (u : Int) : FnC Tryz.prog 126 [dC f, oi u] (ob (a7O f u)) := by
 refine ent Tryz.func126 rfl Tryz.call126 rfl (fun C => ?_); simp only [go_sem, st0, Tryz.ntmps126]
 cases h : inB u 0 2
 all_goals
  have q0 := @h; refine fE (dU u) ?_
  exact aA ⟨⟨_, rfl, by simp only [go_sem, a7O, h, Bool.true_and, Bool.false_and]⟩, trivial⟩
theorem rM (f : TFile) (u : Int) : FnC Tryz.prog 149 [dC f, oi u] (ob (a7O f u)) := by
 refine ent Tryz.func149 rfl Tryz.call149 rfl (fun C => ?_); simp only [go_sem, st0, Tryz.ntmps149]
 cases h : inB u 0 2
 all_goals
  have q0 := @h; refine fE (bA u 0 2) ?_
  exact aA ⟨⟨_, rfl, by simp only [go_sem, a7O, h, Bool.true_and, Bool.false_and]⟩, trivial⟩
end Go.Proofs.YtddimbdeggomaaaGreat
end
section
set_option maxRecDepth 100000
set_option maxHeartbeats 4000000
namespace Go.Proofs.YtddimbdeggomaaaGreat
open Go Go.Sx Go.RowKit Go.Proofs Go.Sx.Clos
noncomputable def wV (c : TCatalog) (s : ByteArray) : Bool := lM c && oG c.fDirs s
noncomputable def a2k (c : TCatalog) (s : ByteArray) : TCatalog := goC (wV c s) c c.fStore (rmD c.fDirs s) (tdS c.fDirs [s])
noncomputable def a5c (c : TCatalog) (s : ByteArray) : List TDiff := goD (wV c s) c c.fStore (rmD c.fDirs s) (tdS c.fDirs [s])
theorem b9h (c : TCatalog) (s : ByteArray) (h : wCatalog c ≤ 2000000) : aL (a2k c s).fStore ≤ 8600000 ∧ aP (a2k c s).fDirs ≤ 8600000 ∧ aH (a2k c s).fResults ≤ 8600000 ∧ fV (a5c c s) ≤ 8600000 := by
 have hc : wCatalog c = aL c.fStore + aP c.fDirs + aH c.fResults := rfl
 have hw := b2f c.fDirs s
 exact b6j _ c _ _ _ (fun e => by unfold wV at e; rw [Bool.and_eq_true] at e; exact e.1) (by omega) (by omega) (by omega)
noncomputable def mH (c : TCatalog) (u id : Int) : Bool := decide (0 ≤ ixF id c.fStore.fFiles) && a7O (iT id c.fStore.fFiles) u
noncomputable def kM (c : TCatalog) (u : Int) (o : TChange) : TCatalog × List TDiff × Bool :=
 if o.fKind = 1 then (if o.fFile.fOwner = u then (qQ c o.fFile, sG c o.fFile, qP c o.fFile) else (c, [], false))
 else if o.fKind = 2 then (if o.fFile.fOwner = u then (if mH c u o.fFile.fID then (zJ c o.fFile, a1H c o.fFile, sM c o.fFile) else (c, [], false)) else (c, [], false))
 else if o.fKind = 3 then (if mH c u o.fID then (zI c o.fID, a1G c o.fID, sK c o.fID) else (c, [], false))
 else if o.fKind = 4 then (vC c o.fDir, xH c o.fDir, nQ c o.fDir)
 else if o.fKind = 5 then (a2k c o.fDir.fName, a5c c o.fDir.fName, wV c o.fDir.fName)
 else (c, [], false)
noncomputable def fI (c : TCatalog) (u : Int) (o : TChange) : TCatalog × List TDiff × Bool := if inB u 0 2 && lM c then kM c u o else (c, [], false)
theorem b8h {c : TCatalog} {f : TFile} (h : qP c f = false) : qQ c f = c ∧ sG c f = [] := by simp [qQ, sG, h]
theorem b8i {c : TCatalog} {f : TFile} (h : sM c f = false) : zJ c f = c ∧ a1H c f = [] := by simp [zJ, a1H, h, iM, iN]
theorem b8j {c : TCatalog} {i : Int} (h : sK c i = false) : zI c i = c ∧ a1G c i = [] := by simp [zI, a1G, h, iM, iN]
theorem b8k {c : TCatalog} {x : TDir} (h : nQ c x = false) : vC c x = c ∧ xH c x = [] := by simp [vC, xH, h, iM, iN]
theorem b8l {c : TCatalog} {s : ByteArray} (h : wV c s = false) : a2k c s = c ∧ a5c c s = [] := by simp [a2k, a5c, h, iM, iN]
theorem b6P {c : TCatalog} {s : ByteArray} (h : wV c s = true) : evB c.fStore (rmD c.fDirs s) = true := by
 unfold wV at h
 rw [Bool.and_eq_true] at h
 unfold evB; rw [b8n (b4v h.1) h.2, b7a h.1]; rfl
theorem a5d (d : List TDir) (s : ByteArray) (h : aP d ≤ 4200000) : FnC Tryz.prog 152 [.o (.d (.sl (d.map aM))), os s] (.t [(false, [.d (.sl ((rmD d s).map aM))]), (false, [.d (bv (oG d s))])]) := (b3D d s h).pu (by simp only [go_sem, and_self])
theorem a5e (d : List TDir) (s : ByteArray) (h : aP d ≤ 4200000) : FnC Tryz.prog 229 [.o (.d (.sl (d.map aM))), os s] (.t [(false, [.d (.sl ((rmD d s).map aM))]), (false, [.d (bv (oG d s))])]) := (b3F d s h).pu (by simp only [go_sem, and_self])
theorem a5x (c : TCatalog) (s : ByteArray) (hcur : lM c = true) (h : wCatalog c + s.size ≤ 2000000) : FnC Tryz.prog 150 [bH c, os s] (.t [(true, (bH (a2k c s)).cells), (false, [.d (.sl ((a5c c s).map dG))]), (false, [.d (bv (wV c s))])]) := by
 have hc : wCatalog c = aL c.fStore + aP c.fDirs + aH c.fResults := rfl
 have hw := b2f c.fDirs s
 have hp := a0N c.fDirs s
 have hn : (tdS c.fDirs [s]).length ≤ 4300000 := by have := a3f c.fDirs s; omega
 refine ent Tryz.func150 rfl Tryz.call150 rfl (fun C => ?_); simp only [go_sem, st0, Tryz.ntmps150]
 cases h2 : oG c.fDirs s
 ·have e : wV c s = false := by simp [wV, h2]
  have q0 := @h2; refine fE (a5e c.fDirs s (by omega)) ?_
  first | refine aC (Sees.frz 2 rfl) ?_ | refine aC (Sees.frz 1 rfl) ?_ | refine aC (Sees.frz 3 rfl) ?_
  simp only [go_sem]
  exact aA ⟨⟨_, rfl, by simp only [go_sem, a2k, a5c, e, iM, iN, List.map_nil]; try simp⟩, by simp [aK]⟩
 ·have e : wV c s = true := by simp [wV, h2, hcur]
  have ha := a3T c.fDirs [s] (by omega) (by omega)
  have hk := lV c c.fStore (rmD c.fDirs s) (tdS c.fDirs [s]) (by omega) (by omega) (by omega) hn
  have qH := @h2; repeat' (with_reducible first | refine nY ?_ | (refine mX ?_; try simp only [go_sem, qH]) | refine kD ?_ | (apply rE [7,8,9,13,14] [] [0,1,2,3,4,5,6] [0,1,2,3,4,5,6] ((.c 7 [] [0,1,2,3,4,5] (.c 8 [] [0,1,2,3] (.c 9 [10,11,12] [10,11,12] (.c 13 [] [10,11,12] (.c 14 [15] [12,15] .n .n) .n) (.c 13 [] [0,1,2,3] (.c 9 [10,11,12] [10,11,12] (.c 14 [15] [12,15] .n .n) .n) .n)) (.c 13 [] [0,1,2,3,4,5] (.c 8 [] [0,1,2,3] (.c 9 [10,11,12] [10,11,12] (.c 14 [15] [12,15] .n .n) .n) .n) .n)) (.c 13 [] [0,1,2,3,4,5,6] (.c 7 [] [0,1,2,3,4,5] (.c 8 [] [0,1,2,3] (.c 9 [10,11,12] [10,11,12] (.c 14 [15] [12,15] .n .n) .n) .n) .n) .n))) (by simp only [go_sem]; rfl) (by simp only [go_sem]; rfl) (by simp only [go_sem]; rfl) (by decide +kernel); (focus simp only [go_sem]; done)) | exact dN | refine cB (uX ?_) ?_ | refine cK (aX ?_) ?_ | refine cO (aX ?_) ?_ | exact bZ | (refine a3k [(2, 3)] (by simp only [go_sem]; rfl) ?_; exact rfl) | exact oH | exact uB | refine rD ?_ | refine cP (a5e c.fDirs s (by omega)) ?_ | refine cP ha ?_ | refine cP hk ?_ | refine aO ?_ | fail)
  exact aA ⟨⟨_, rfl, by simp only [go_sem, a2k, a5c, e, a0Q, a0R]; try simp⟩, by simp [aK]⟩
end Go.Proofs.YtddimbdeggomaaaGreat
end
section
set_option maxRecDepth 100000
set_option maxHeartbeats 4000000
namespace Go.Proofs.YtddimbdeggomaaaGreat
open Go Go.Sx Go.RowKit Go.Proofs Go.Sx.Clos
theorem a7L (c : TCatalog) (u : Int) (o : TChange) (h : wCatalog c + wChange o ≤ 1900000) : FnC Tryz.prog 73 [bH c, oi u, nJ o] (.t [(true, (kQ (fI c u o).1).cells), (false, [.w 158 3 ((fI c u o).2.1.map dG)]), (false, [.d (bv (fI c u o).2.2)])]) := by
 have hcw : wCatalog c = aL c.fStore + aP c.fDirs + aH c.fResults := rfl
 have how : wChange o = wFile o.fFile + wDir o.fDir := rfl
 have hdw : wDir o.fDir = o.fDir.fName.size + bQ o.fDir.fQuery := rfl
 have hsw : aL c.fStore = aQ c.fStore.fSchema + bU c.fStore.fFiles := rfl
 refine ent Tryz.func73 rfl Tryz.call73 rfl (fun C => ?_); simp only [go_sem, st0, Tryz.ntmps73]
 cases hu : inB u 0 2
 ·have e : fI c u o = (c, [], false) := by simp [fI, hu]
  have q0 := @hu; refine a1N (dU u) (bN c (by omega)) (fB c (by omega)) ?_
  exact aA ⟨⟨_, rfl, by simp only [go_sem, e, List.map_nil]; try simp⟩, by simp [aK]⟩
 cases hc : lM c
 ·have e : fI c u o = (c, [], false) := by simp [fI, hc]
  have q0 := @hu; have q1 := @hc; refine a8y (dU u) (bN c (by omega)) (fB c (by omega)) ?_
  exact aA ⟨⟨_, rfl, by simp only [go_sem, e, List.map_nil]; try simp⟩, by simp [aK]⟩
 have e0 : fI c u o = kM c u o := by simp [fI, hu, hc]
 by_cases k1 : o.fKind = 1
 ·skip
  have g1 : decide (o.fKind = 1) = true := by simp [k1]
  have g2 : decide (o.fKind = 2) = false := by simp [k1]
  have g3 : decide (o.fKind = 3) = false := by simp [k1]
  have g4 : decide (o.fKind = 4) = false := by simp [k1]
  have g5 : decide (o.fKind = 5) = false := by simp [k1]
  by_cases ho : o.fFile.fOwner = u
  ·have vo : decide (o.fFile.fOwner = u) = true := by simp [ho]
   have e : fI c u o = (qQ c o.fFile, sG c o.fFile, qP c o.fFile) := by rw [e0]; simp [kM, mH, k1, ho]
   have q0 := @hu; have q1 := @hc; have q2 := @g1; have q3 := @g2; have q4 := @g3; have q5 := @g4; have q6 := @g5; have q7 := @vo; refine b6g (dU u) (bN c (by omega)) (b1g c o.fFile (by omega)) ?_
   exact aA ⟨⟨_, rfl, by simp only [go_sem, e, List.map_nil]; try simp⟩, by simp [aK]⟩
  ·have vo : decide (o.fFile.fOwner = u) = false := by simp [ho]
   have e : fI c u o = (c, [], false) := by rw [e0]; simp [kM, mH, k1, ho]
   have q0 := @hu; have q1 := @hc; have q2 := @g1; have q3 := @g2; have q4 := @g3; have q5 := @g4; have q6 := @g5; have q7 := @vo; refine b6g (dU u) (bN c (by omega)) (fB c (by omega)) ?_
   exact aA ⟨⟨_, rfl, by simp only [go_sem, e, List.map_nil]; try simp⟩, by simp [aK]⟩
 by_cases k2 : o.fKind = 2
 ·skip
  have g1 : decide (o.fKind = 1) = false := by simp [k2]
  have g2 : decide (o.fKind = 2) = true := by simp [k2]
  have g3 : decide (o.fKind = 3) = false := by simp [k2]
  have g4 : decide (o.fKind = 4) = false := by simp [k2]
  have g5 : decide (o.fKind = 5) = false := by simp [k2]
  by_cases h1 : 0 ≤ ixF o.fFile.fID c.fStore.fFiles
  case neg =>
   have vi : decide (0 ≤ ixF o.fFile.fID c.fStore.fFiles) = false := by simp [h1]
   have e : fI c u o = (c, [], false) := by rw [e0]; simp [kM, mH, k2, h1]
   have q0 := @hu; have q1 := @hc; have q2 := @g1; have q3 := @g2; have q4 := @g3; have q5 := @g4; have q6 := @g5; have q7 := @vi; refine b4u (dU u) (bN c (by omega)) (iL c.fStore o.fFile.fID (by omega)) (fB c (by omega)) ?_
   exact aA ⟨⟨_, rfl, by simp only [go_sem, e, List.map_nil]; try simp⟩, by simp [aK]⟩
  have vi : decide (0 ≤ ixF o.fFile.fID c.fStore.fFiles) = true := by simp [h1]
  cases h2 : a7O (iT o.fFile.fID c.fStore.fFiles) u
  ·skip
   have e : fI c u o = (c, [], false) := by rw [e0]; simp [kM, mH, k2, h1, h2]
   have q0 := @hu; have q1 := @hc; have q2 := @g1; have q3 := @g2; have q4 := @g3; have q5 := @g4; have q6 := @g5; have q7 := @vi; have q8 := @h2; refine b6h (dU u) (bN c (by omega)) (iL c.fStore o.fFile.fID (by omega)) (nZ (iT o.fFile.fID c.fStore.fFiles) u) (fB c (by omega)) ?_
   exact aA ⟨⟨_, rfl, by simp only [go_sem, e, List.map_nil]; try simp⟩, by simp [aK]⟩
  by_cases ho : o.fFile.fOwner = u
  ·have vo : decide (o.fFile.fOwner = u) = true := by simp [ho]
   have e : fI c u o = (zJ c o.fFile, a1H c o.fFile, sM c o.fFile) := by rw [e0]; simp [kM, mH, k2, h1, h2, ho]
   have q0 := @hu; have q1 := @hc; have q2 := @g1; have q3 := @g2; have q4 := @g3; have q5 := @g4; have q6 := @g5; have q7 := @vi; have q8 := @h2; have q9 := @vo; refine b6V (dU u) (bN c (by omega)) (iL c.fStore o.fFile.fID (by omega)) (nZ (iT o.fFile.fID c.fStore.fFiles) u) (a5B c o.fFile (by omega)) ?_
   exact aA ⟨⟨_, rfl, by simp only [go_sem, e, List.map_nil]; try simp⟩, by simp [aK]⟩
  ·have vo : decide (o.fFile.fOwner = u) = false := by simp [ho]
   have e : fI c u o = (c, [], false) := by rw [e0]; simp [kM, mH, k2, h1, h2, ho]
   have q0 := @hu; have q1 := @hc; have q2 := @g1; have q3 := @g2; have q4 := @g3; have q5 := @g4; have q6 := @g5; have q7 := @vi; have q8 := @h2; have q9 := @vo; refine b6V (dU u) (bN c (by omega)) (iL c.fStore o.fFile.fID (by omega)) (nZ (iT o.fFile.fID c.fStore.fFiles) u) (fB c (by omega)) ?_
   exact aA ⟨⟨_, rfl, by simp only [go_sem, e, List.map_nil]; try simp⟩, by simp [aK]⟩
 by_cases k3 : o.fKind = 3
 ·skip
  have g1 : decide (o.fKind = 1) = false := by simp [k3]
  have g2 : decide (o.fKind = 2) = false := by simp [k3]
  have g3 : decide (o.fKind = 3) = true := by simp [k3]
  have g4 : decide (o.fKind = 4) = false := by simp [k3]
  have g5 : decide (o.fKind = 5) = false := by simp [k3]
  by_cases h1 : 0 ≤ ixF o.fID c.fStore.fFiles
  case neg =>
   have vi : decide (0 ≤ ixF o.fID c.fStore.fFiles) = false := by simp [h1]
   have e : fI c u o = (c, [], false) := by rw [e0]; simp [kM, mH, k3, h1]
   have q0 := @hu; have q1 := @hc; have q2 := @g1; have q3 := @g2; have q4 := @g3; have q5 := @g4; have q6 := @g5; have q7 := @vi; refine b4u (dU u) (bN c (by omega)) (iL c.fStore o.fID (by omega)) (fB c (by omega)) ?_
   exact aA ⟨⟨_, rfl, by simp only [go_sem, e, List.map_nil]; try simp⟩, by simp [aK]⟩
  have vi : decide (0 ≤ ixF o.fID c.fStore.fFiles) = true := by simp [h1]
  cases h2 : a7O (iT o.fID c.fStore.fFiles) u
  ·skip
   have e : fI c u o = (c, [], false) := by rw [e0]; simp [kM, mH, k3, h1, h2]
   have q0 := @hu; have q1 := @hc; have q2 := @g1; have q3 := @g2; have q4 := @g3; have q5 := @g4; have q6 := @g5; have q7 := @vi; have q8 := @h2; refine b6h (dU u) (bN c (by omega)) (iL c.fStore o.fID (by omega)) (nZ (iT o.fID c.fStore.fFiles) u) (fB c (by omega)) ?_
   exact aA ⟨⟨_, rfl, by simp only [go_sem, e, List.map_nil]; try simp⟩, by simp [aK]⟩
  ·skip
   have e : fI c u o = (zI c o.fID, a1G c o.fID, sK c o.fID) := by rw [e0]; simp [kM, mH, k3, h1, h2]
   have q0 := @hu; have q1 := @hc; have q2 := @g1; have q3 := @g2; have q4 := @g3; have q5 := @g4; have q6 := @g5; have q7 := @vi; have q8 := @h2; refine b6h (dU u) (bN c (by omega)) (iL c.fStore o.fID (by omega)) (nZ (iT o.fID c.fStore.fFiles) u) (a5z c o.fID (by omega)) ?_
   exact aA ⟨⟨_, rfl, by simp only [go_sem, e, List.map_nil]; try simp⟩, by simp [aK]⟩
 by_cases k4 : o.fKind = 4
 ·skip
  have g1 : decide (o.fKind = 1) = false := by simp [k4]
  have g2 : decide (o.fKind = 2) = false := by simp [k4]
  have g3 : decide (o.fKind = 3) = false := by simp [k4]
  have g4 : decide (o.fKind = 4) = true := by simp [k4]
  have g5 : decide (o.fKind = 5) = false := by simp [k4]
  have e : fI c u o = (vC c o.fDir, xH c o.fDir, nQ c o.fDir) := by rw [e0]; simp [kM, mH, k4]
  have q0 := @hu; have q1 := @hc; have q2 := @g1; have q3 := @g2; have q4 := @g3; have q5 := @g4; have q6 := @g5; refine b7L (dU u) (bN c (by omega)) (zL c o.fDir (by omega)) ?_
  exact aA ⟨⟨_, rfl, by simp only [go_sem, e, List.map_nil]; try simp⟩, by simp [aK]⟩
 by_cases k5 : o.fKind = 5
 ·skip
  have g1 : decide (o.fKind = 1) = false := by simp [k5]
  have g2 : decide (o.fKind = 2) = false := by simp [k5]
  have g3 : decide (o.fKind = 3) = false := by simp [k5]
  have g4 : decide (o.fKind = 4) = false := by simp [k5]
  have g5 : decide (o.fKind = 5) = true := by simp [k5]
  have hrw := b2f c.fDirs o.fDir.fName
  have hp := a0N c.fDirs o.fDir.fName
  have hn : (tdS c.fDirs [o.fDir.fName]).length ≤ 4300000 := by have := a3f c.fDirs o.fDir.fName; omega
  have er : fI c u o = (a2k c o.fDir.fName, a5c c o.fDir.fName, wV c o.fDir.fName) := by rw [e0]; simp [kM, k5]
  cases hr : oG c.fDirs o.fDir.fName
  ·have hf : wV c o.fDir.fName = false := by simp [wV, hr]
   have e : fI c u o = (c, [], false) := by rw [er]; simp only [a2k, a5c, hf, iM, iN]
   have q0 := @hu; have q1 := @hc; have q2 := @hr; have q3 := @g1; have q4 := @g2; have q5 := @g3; have q6 := @g4; have q7 := @g5; refine b4u (dU u) (bN c (by omega)) (a5d c.fDirs o.fDir.fName (by omega)) (fB c (by omega)) ?_
   exact aA ⟨⟨_, rfl, by simp only [go_sem, e, List.map_nil]; try simp⟩, by simp [aK]⟩
  ·have hf : wV c o.fDir.fName = true := by simp [wV, hr, hc]
   have e : fI c u o = (goC true c c.fStore (rmD c.fDirs o.fDir.fName) (tdS c.fDirs [o.fDir.fName]), goD true c c.fStore (rmD c.fDirs o.fDir.fName) (tdS c.fDirs [o.fDir.fName]), true) := by rw [er]; simp only [a2k, a5c, hf]
   have ha := a3S c.fDirs [o.fDir.fName] (by omega) (by omega)
   have hk := a3g c c.fStore (rmD c.fDirs o.fDir.fName) (tdS c.fDirs [o.fDir.fName]) (b6P hf) (by omega) (by omega) (by omega) hn
   have qH := aI @hu (aI @hc (aI @hr (aI @g1 (aI @g2 (aI @g3 (aI @g4 @g5)))))); repeat' (with_reducible first | refine nY ?_ | (refine mX ?_; try simp only [go_sem, qH]) | refine kD ?_ | (apply rE [9,10,11,15] [] [0,1,2,3,4,5,6,7,8] [0,1,2,3,4,5,6,7,8] ((.c 9 [] [0,1,2,3,4,5] (.c 10 [] [0,1,2,3] (.c 11 [12,13,14] [12,13,14] (.c 15 [16,17] [16,17] .n .n) .n) .n) .n)) (by simp only [go_sem]; rfl) (by simp only [go_sem]; rfl) (by simp only [go_sem]; rfl) (by decide +kernel); (focus simp only [go_sem]; done)) | exact dN | refine cB (uX ?_) ?_ | refine cK (aX ?_) ?_ | refine cO (aX ?_) ?_ | exact bZ | exact oH | exact uB | refine rD ?_ | refine cP (dU u) ?_ | refine cP (bN c (by omega)) ?_ | refine cP (a5d c.fDirs o.fDir.fName (by omega)) ?_ | refine cP ha ?_ | refine cP hk ?_ | refine aO ?_ | fail)
   exact aA ⟨⟨_, rfl, by simp only [go_sem, e, List.map_nil]; try simp⟩, by simp [aK]⟩
 have g1 : decide (o.fKind = 1) = false := by simp [k1]
 have g2 : decide (o.fKind = 2) = false := by simp [k2]
 have g3 : decide (o.fKind = 3) = false := by simp [k3]
 have g4 : decide (o.fKind = 4) = false := by simp [k4]
 have g5 : decide (o.fKind = 5) = false := by simp [k5]
 have e : fI c u o = (c, [], false) := by rw [e0]; simp [kM, mH, k1, k2, k3, k4, k5]
 have q0 := @hu; have q1 := @hc; have q2 := @g1; have q3 := @g2; have q4 := @g3; have q5 := @g4; have q6 := @g5; refine b7L (dU u) (bN c (by omega)) (fB c (by omega)) ?_
 exact aA ⟨⟨_, rfl, by simp only [go_sem, e, List.map_nil]; try simp⟩, by simp [aK]⟩
theorem a7M (c : TCatalog) (u : Int) (o : TChange) (h : wCatalog c + wChange o ≤ 1900000) : FnC Tryz.prog 71 [bH c, oi u, nJ o] (.t [(true, (bH (fI c u o).1).cells), (false, [.d (.sl ((fI c u o).2.1.map dG))]), (false, [.d (bv (fI c u o).2.2)])]) := by
 have hcw : wCatalog c = aL c.fStore + aP c.fDirs + aH c.fResults := rfl
 have how : wChange o = wFile o.fFile + wDir o.fDir := rfl
 have hdw : wDir o.fDir = o.fDir.fName.size + bQ o.fDir.fQuery := rfl
 have hsw : aL c.fStore = aQ c.fStore.fSchema + bU c.fStore.fFiles := rfl
 refine ent Tryz.func71 rfl Tryz.call71 rfl (fun C => ?_); simp only [go_sem, st0, Tryz.ntmps71]
 cases hc : lM c
 ·have e : fI c u o = (c, [], false) := by simp [fI, hc]
  have q0 := @hc; refine a1N (bO c (by omega)) (bF c (by omega)) (bA u 0 2) ?_
  first | refine aC (Sees.frz 9 rfl) ?_ | refine aC (Sees.frz 8 rfl) ?_ | refine aC (Sees.frz 7 rfl) ?_ | refine aC (Sees.frz 6 rfl) ?_ | refine aC (Sees.frz 5 rfl) ?_ | refine aC (Sees.frz 4 rfl) ?_
  simp only [go_sem]
  exact aA ⟨⟨_, rfl, by simp only [go_sem, e, List.map_nil]; try simp⟩, by simp [aK]⟩
 cases hu : inB u 0 2
 ·have e : fI c u o = (c, [], false) := by simp [fI, hu]
  have q0 := @hu; have q1 := @hc; refine a8y (bO c (by omega)) (bF c (by omega)) (bA u 0 2) ?_
  first | refine aC (Sees.frz 9 rfl) ?_ | refine aC (Sees.frz 8 rfl) ?_ | refine aC (Sees.frz 7 rfl) ?_ | refine aC (Sees.frz 6 rfl) ?_ | refine aC (Sees.frz 5 rfl) ?_ | refine aC (Sees.frz 4 rfl) ?_
  simp only [go_sem]
  exact aA ⟨⟨_, rfl, by simp only [go_sem, e, List.map_nil]; try simp⟩, by simp [aK]⟩
 have e0 : fI c u o = kM c u o := by simp [fI, hu, hc]
 by_cases k1 : o.fKind = 1
 ·skip
  have g1 : decide (o.fKind = 1) = true := by simp [k1]
  have g2 : decide (o.fKind = 2) = false := by simp [k1]
  have g3 : decide (o.fKind = 3) = false := by simp [k1]
  have g4 : decide (o.fKind = 4) = false := by simp [k1]
  have g5 : decide (o.fKind = 5) = false := by simp [k1]
  by_cases ho : o.fFile.fOwner = u
  ·have vo : decide (o.fFile.fOwner = u) = true := by simp [ho]
   have hk := b1h c o.fFile (by omega)
   cases hB : qP c o.fFile
   ·obtain ⟨n1, n2⟩ := b8h hB
    rw [hB, n1, n2] at hk
    have e : fI c u o = (c, [], false) := by rw [e0]; simp [kM, mH, k1, ho, hB, n1, n2]
    have q0 := @hu; have q1 := @hc; have q2 := @g1; have q3 := @g2; have q4 := @g3; have q5 := @g4; have q6 := @g5; have q7 := @vo; refine b4u (bO c (by omega)) (bF c (by omega)) (bA u 0 2) hk ?_
    first | refine aC (Sees.frz 9 rfl) ?_ | refine aC (Sees.frz 8 rfl) ?_ | refine aC (Sees.frz 7 rfl) ?_ | refine aC (Sees.frz 6 rfl) ?_ | refine aC (Sees.frz 5 rfl) ?_ | refine aC (Sees.frz 4 rfl) ?_
    simp only [go_sem]
    exact aA ⟨⟨_, rfl, by simp only [go_sem, e, List.map_nil]; try simp⟩, by simp [aK]⟩
   ·rw [hB] at hk
    have e : fI c u o = (qQ c o.fFile, sG c o.fFile, true) := by rw [e0]; simp [kM, mH, k1, ho, hB]
    have q0 := @hu; have q1 := @hc; have q2 := @g1; have q3 := @g2; have q4 := @g3; have q5 := @g4; have q6 := @g5; have q7 := @vo; refine b4u (bO c (by omega)) (bF c (by omega)) (bA u 0 2) hk ?_
    exact aA ⟨⟨_, rfl, by simp only [go_sem, e, List.map_nil]; try simp⟩, by simp [aK]⟩
  ·have vo : decide (o.fFile.fOwner = u) = false := by simp [ho]
   have e : fI c u o = (c, [], false) := by rw [e0]; simp [kM, mH, k1, ho]
   have q0 := @hu; have q1 := @hc; have q2 := @g1; have q3 := @g2; have q4 := @g3; have q5 := @g4; have q6 := @g5; have q7 := @vo; refine b6g (bO c (by omega)) (bF c (by omega)) (bA u 0 2) ?_
   first | refine aC (Sees.frz 9 rfl) ?_ | refine aC (Sees.frz 8 rfl) ?_ | refine aC (Sees.frz 7 rfl) ?_ | refine aC (Sees.frz 6 rfl) ?_ | refine aC (Sees.frz 5 rfl) ?_ | refine aC (Sees.frz 4 rfl) ?_
   simp only [go_sem]
   exact aA ⟨⟨_, rfl, by simp only [go_sem, e, List.map_nil]; try simp⟩, by simp [aK]⟩
 by_cases k2 : o.fKind = 2
 ·skip
  have g1 : decide (o.fKind = 1) = false := by simp [k2]
  have g2 : decide (o.fKind = 2) = true := by simp [k2]
  have g3 : decide (o.fKind = 3) = false := by simp [k2]
  have g4 : decide (o.fKind = 4) = false := by simp [k2]
  have g5 : decide (o.fKind = 5) = false := by simp [k2]
  by_cases ho : o.fFile.fOwner = u
  case neg =>
   have vo : decide (o.fFile.fOwner = u) = false := by simp [ho]
   have e : fI c u o = (c, [], false) := by rw [e0]; simp [kM, mH, k2, ho]
   have q0 := @hu; have q1 := @hc; have q2 := @g1; have q3 := @g2; have q4 := @g3; have q5 := @g4; have q6 := @g5; have q7 := @vo; refine b6g (bO c (by omega)) (bF c (by omega)) (bA u 0 2) ?_
   first | refine aC (Sees.frz 9 rfl) ?_ | refine aC (Sees.frz 8 rfl) ?_ | refine aC (Sees.frz 7 rfl) ?_ | refine aC (Sees.frz 6 rfl) ?_ | refine aC (Sees.frz 5 rfl) ?_ | refine aC (Sees.frz 4 rfl) ?_
   simp only [go_sem]
   exact aA ⟨⟨_, rfl, by simp only [go_sem, e, List.map_nil]; try simp⟩, by simp [aK]⟩
  have vo : decide (o.fFile.fOwner = u) = true := by simp [ho]
  have hk := a5C c o.fFile (by omega)
  cases hB : sM c o.fFile
  ·obtain ⟨n1, n2⟩ := b8i hB
   rw [hB, n1, n2] at hk
   have e : fI c u o = (c, [], false) := by rw [e0]; simp [kM, k2, ho, hB, n1, n2]
   have q0 := @hu; have q1 := @hc; have q2 := @g1; have q3 := @g2; have q4 := @g3; have q5 := @g4; have q6 := @g5; have q7 := @vo; refine b8R (bO c (by omega)) (bF c (by omega)) (bA u 0 2) (fF c.fStore o.fFile.fID (by omega)) hk ?_
   first | refine aC (Sees.frz 9 rfl) ?_ | refine aC (Sees.frz 8 rfl) ?_ | refine aC (Sees.frz 7 rfl) ?_ | refine aC (Sees.frz 6 rfl) ?_ | refine aC (Sees.frz 5 rfl) ?_ | refine aC (Sees.frz 4 rfl) ?_
   simp only [go_sem]
   exact aA ⟨⟨_, rfl, by simp only [go_sem, e, List.map_nil]; try simp⟩, by simp [aK]⟩
  rw [hB] at hk
  by_cases h1 : 0 ≤ ixF o.fFile.fID c.fStore.fFiles
  case neg =>
   have vi : decide (0 ≤ ixF o.fFile.fID c.fStore.fFiles) = false := by simp [h1]
   have e : fI c u o = (c, [], false) := by rw [e0]; simp [kM, mH, k2, ho, h1]
   have q0 := @hu; have q1 := @hc; have q2 := @g1; have q3 := @g2; have q4 := @g3; have q5 := @g4; have q6 := @g5; have q7 := @vo; have q8 := @vi; refine b6h (bO c (by omega)) (bF c (by omega)) (bA u 0 2) (fF c.fStore o.fFile.fID (by omega)) hk ?_
   first | refine aC (Sees.frz 9 rfl) ?_ | refine aC (Sees.frz 8 rfl) ?_ | refine aC (Sees.frz 7 rfl) ?_ | refine aC (Sees.frz 6 rfl) ?_ | refine aC (Sees.frz 5 rfl) ?_ | refine aC (Sees.frz 4 rfl) ?_
   simp only [go_sem]
   exact aA ⟨⟨_, rfl, by simp only [go_sem, e, List.map_nil]; try simp⟩, by simp [aK]⟩
  have vi : decide (0 ≤ ixF o.fFile.fID c.fStore.fFiles) = true := by simp [h1]
  cases h2 : a7O (iT o.fFile.fID c.fStore.fFiles) u
  ·skip
   have e : fI c u o = (c, [], false) := by rw [e0]; simp [kM, mH, k2, ho, h1, h2]
   have q0 := @hu; have q1 := @hc; have q2 := @g1; have q3 := @g2; have q4 := @g3; have q5 := @g4; have q6 := @g5; have q7 := @vo; have q8 := @vi; have q9 := @h2; refine b6W (bO c (by omega)) (bF c (by omega)) (bA u 0 2) (fF c.fStore o.fFile.fID (by omega)) (rM (iT o.fFile.fID c.fStore.fFiles) u) hk ?_
   first | refine aC (Sees.frz 9 rfl) ?_ | refine aC (Sees.frz 8 rfl) ?_ | refine aC (Sees.frz 7 rfl) ?_ | refine aC (Sees.frz 6 rfl) ?_ | refine aC (Sees.frz 5 rfl) ?_ | refine aC (Sees.frz 4 rfl) ?_
   simp only [go_sem]
   exact aA ⟨⟨_, rfl, by simp only [go_sem, e, List.map_nil]; try simp⟩, by simp [aK]⟩
  ·skip
   have e : fI c u o = (zJ c o.fFile, a1H c o.fFile, true) := by rw [e0]; simp [kM, mH, k2, ho, h1, h2, hB]
   have q0 := @hu; have q1 := @hc; have q2 := @g1; have q3 := @g2; have q4 := @g3; have q5 := @g4; have q6 := @g5; have q7 := @vo; have q8 := @vi; have q9 := @h2; refine b6W (bO c (by omega)) (bF c (by omega)) (bA u 0 2) (fF c.fStore o.fFile.fID (by omega)) (rM (iT o.fFile.fID c.fStore.fFiles) u) hk ?_
   exact aA ⟨⟨_, rfl, by simp only [go_sem, e, List.map_nil]; try simp⟩, by simp [aK]⟩
 by_cases k3 : o.fKind = 3
 ·skip
  have g1 : decide (o.fKind = 1) = false := by simp [k3]
  have g2 : decide (o.fKind = 2) = false := by simp [k3]
  have g3 : decide (o.fKind = 3) = true := by simp [k3]
  have g4 : decide (o.fKind = 4) = false := by simp [k3]
  have g5 : decide (o.fKind = 5) = false := by simp [k3]
  have hk := a5A c o.fID (by omega)
  cases hB : sK c o.fID
  ·obtain ⟨n1, n2⟩ := b8j hB
   rw [hB, n1, n2] at hk
   have e : fI c u o = (c, [], false) := by rw [e0]; simp [kM, k3, hB, n1, n2]
   have q0 := @hu; have q1 := @hc; have q2 := @g1; have q3 := @g2; have q4 := @g3; have q5 := @g4; have q6 := @g5; refine b9K (bO c (by omega)) (bF c (by omega)) (bA u 0 2) (fF c.fStore o.fID (by omega)) hk ?_
   first | refine aC (Sees.frz 9 rfl) ?_ | refine aC (Sees.frz 8 rfl) ?_ | refine aC (Sees.frz 7 rfl) ?_ | refine aC (Sees.frz 6 rfl) ?_ | refine aC (Sees.frz 5 rfl) ?_ | refine aC (Sees.frz 4 rfl) ?_
   simp only [go_sem]
   exact aA ⟨⟨_, rfl, by simp only [go_sem, e, List.map_nil]; try simp⟩, by simp [aK]⟩
  rw [hB] at hk
  by_cases h1 : 0 ≤ ixF o.fID c.fStore.fFiles
  case neg =>
   have vi : decide (0 ≤ ixF o.fID c.fStore.fFiles) = false := by simp [h1]
   have e : fI c u o = (c, [], false) := by rw [e0]; simp [kM, mH, k3, h1]
   have q0 := @hu; have q1 := @hc; have q2 := @g1; have q3 := @g2; have q4 := @g3; have q5 := @g4; have q6 := @g5; have q7 := @vi; refine b8R (bO c (by omega)) (bF c (by omega)) (bA u 0 2) (fF c.fStore o.fID (by omega)) hk ?_
   first | refine aC (Sees.frz 9 rfl) ?_ | refine aC (Sees.frz 8 rfl) ?_ | refine aC (Sees.frz 7 rfl) ?_ | refine aC (Sees.frz 6 rfl) ?_ | refine aC (Sees.frz 5 rfl) ?_ | refine aC (Sees.frz 4 rfl) ?_
   simp only [go_sem]
   exact aA ⟨⟨_, rfl, by simp only [go_sem, e, List.map_nil]; try simp⟩, by simp [aK]⟩
  have vi : decide (0 ≤ ixF o.fID c.fStore.fFiles) = true := by simp [h1]
  cases h2 : a7O (iT o.fID c.fStore.fFiles) u
  ·skip
   have e : fI c u o = (c, [], false) := by rw [e0]; simp [kM, mH, k3, h1, h2]
   have q0 := @hu; have q1 := @hc; have q2 := @g1; have q3 := @g2; have q4 := @g3; have q5 := @g4; have q6 := @g5; have q7 := @vi; have q8 := @h2; refine b8S (bO c (by omega)) (bF c (by omega)) (bA u 0 2) (fF c.fStore o.fID (by omega)) (rM (iT o.fID c.fStore.fFiles) u) hk ?_
   first | refine aC (Sees.frz 9 rfl) ?_ | refine aC (Sees.frz 8 rfl) ?_ | refine aC (Sees.frz 7 rfl) ?_ | refine aC (Sees.frz 6 rfl) ?_ | refine aC (Sees.frz 5 rfl) ?_ | refine aC (Sees.frz 4 rfl) ?_
   simp only [go_sem]
   exact aA ⟨⟨_, rfl, by simp only [go_sem, e, List.map_nil]; try simp⟩, by simp [aK]⟩
  ·skip
   have e : fI c u o = (zI c o.fID, a1G c o.fID, true) := by rw [e0]; simp [kM, mH, k3, h1, h2, hB]
   have q0 := @hu; have q1 := @hc; have q2 := @g1; have q3 := @g2; have q4 := @g3; have q5 := @g4; have q6 := @g5; have q7 := @vi; have q8 := @h2; refine b8S (bO c (by omega)) (bF c (by omega)) (bA u 0 2) (fF c.fStore o.fID (by omega)) (rM (iT o.fID c.fStore.fFiles) u) hk ?_
   exact aA ⟨⟨_, rfl, by simp only [go_sem, e, List.map_nil]; try simp⟩, by simp [aK]⟩
 by_cases k4 : o.fKind = 4
 ·skip
  have g1 : decide (o.fKind = 1) = false := by simp [k4]
  have g2 : decide (o.fKind = 2) = false := by simp [k4]
  have g3 : decide (o.fKind = 3) = false := by simp [k4]
  have g4 : decide (o.fKind = 4) = true := by simp [k4]
  have g5 : decide (o.fKind = 5) = false := by simp [k4]
  have hk := zM c o.fDir (by omega)
  cases hB : nQ c o.fDir
  ·obtain ⟨n1, n2⟩ := b8k hB
   rw [hB, n1, n2] at hk
   have e : fI c u o = (c, [], false) := by rw [e0]; simp [kM, mH, k4, hB, n1, n2]
   have q0 := @hu; have q1 := @hc; have q2 := @g1; have q3 := @g2; have q4 := @g3; have q5 := @g4; have q6 := @g5; refine b6f (bO c (by omega)) (bF c (by omega)) (bA u 0 2) hk ?_
   first | refine aC (Sees.frz 9 rfl) ?_ | refine aC (Sees.frz 8 rfl) ?_ | refine aC (Sees.frz 7 rfl) ?_ | refine aC (Sees.frz 6 rfl) ?_ | refine aC (Sees.frz 5 rfl) ?_ | refine aC (Sees.frz 4 rfl) ?_
   simp only [go_sem]
   exact aA ⟨⟨_, rfl, by simp only [go_sem, e, List.map_nil]; try simp⟩, by simp [aK]⟩
  ·rw [hB] at hk
   have e : fI c u o = (vC c o.fDir, xH c o.fDir, true) := by rw [e0]; simp [kM, mH, k4, hB]
   have q0 := @hu; have q1 := @hc; have q2 := @g1; have q3 := @g2; have q4 := @g3; have q5 := @g4; have q6 := @g5; refine b6f (bO c (by omega)) (bF c (by omega)) (bA u 0 2) hk ?_
   exact aA ⟨⟨_, rfl, by simp only [go_sem, e, List.map_nil]; try simp⟩, by simp [aK]⟩
 by_cases k5 : o.fKind = 5
 ·skip
  have g1 : decide (o.fKind = 1) = false := by simp [k5]
  have g2 : decide (o.fKind = 2) = false := by simp [k5]
  have g3 : decide (o.fKind = 3) = false := by simp [k5]
  have g4 : decide (o.fKind = 4) = false := by simp [k5]
  have g5 : decide (o.fKind = 5) = true := by simp [k5]
  have hk := a5x c o.fDir.fName hc (by omega)
  cases hB : wV c o.fDir.fName
  ·obtain ⟨n1, n2⟩ := b8l hB
   rw [hB, n1, n2] at hk
   have e : fI c u o = (c, [], false) := by rw [e0]; simp [kM, mH, k5, hB, n1, n2]
   have q0 := @hu; have q1 := @hc; have q2 := @g1; have q3 := @g2; have q4 := @g3; have q5 := @g4; have q6 := @g5; refine b6f (bO c (by omega)) (bF c (by omega)) (bA u 0 2) hk ?_
   first | refine aC (Sees.frz 9 rfl) ?_ | refine aC (Sees.frz 8 rfl) ?_ | refine aC (Sees.frz 7 rfl) ?_ | refine aC (Sees.frz 6 rfl) ?_ | refine aC (Sees.frz 5 rfl) ?_ | refine aC (Sees.frz 4 rfl) ?_
   simp only [go_sem]
   exact aA ⟨⟨_, rfl, by simp only [go_sem, e, List.map_nil]; try simp⟩, by simp [aK]⟩
  ·rw [hB] at hk
   have e : fI c u o = (a2k c o.fDir.fName, a5c c o.fDir.fName, true) := by rw [e0]; simp [kM, mH, k5, hB]
   have q0 := @hu; have q1 := @hc; have q2 := @g1; have q3 := @g2; have q4 := @g3; have q5 := @g4; have q6 := @g5; refine b6f (bO c (by omega)) (bF c (by omega)) (bA u 0 2) hk ?_
   exact aA ⟨⟨_, rfl, by simp only [go_sem, e, List.map_nil]; try simp⟩, by simp [aK]⟩
 have g1 : decide (o.fKind = 1) = false := by simp [k1]
 have g2 : decide (o.fKind = 2) = false := by simp [k2]
 have g3 : decide (o.fKind = 3) = false := by simp [k3]
 have g4 : decide (o.fKind = 4) = false := by simp [k4]
 have g5 : decide (o.fKind = 5) = false := by simp [k5]
 have e : fI c u o = (c, [], false) := by rw [e0]; simp [kM, mH, k1, k2, k3, k4, k5]
 have q0 := @hu; have q1 := @hc; have q2 := @g1; have q3 := @g2; have q4 := @g3; have q5 := @g4; have q6 := @g5; refine b7L (bO c (by omega)) (bF c (by omega)) (bA u 0 2) ?_
 first | refine aC (Sees.frz 9 rfl) ?_ | refine aC (Sees.frz 8 rfl) ?_ | refine aC (Sees.frz 7 rfl) ?_ | refine aC (Sees.frz 6 rfl) ?_ | refine aC (Sees.frz 5 rfl) ?_ | refine aC (Sees.frz 4 rfl) ?_
 simp only [go_sem]
 exact aA ⟨⟨_, rfl, by simp only [go_sem, e, List.map_nil]; try simp⟩, by simp [aK]⟩
theorem b9g (c : TCatalog) (u : Int) (o : TChange) (h : wCatalog c + wChange o ≤ 1900000) : aL (fI c u o).1.fStore ≤ 8600000 ∧ aP (fI c u o).1.fDirs ≤ 8600000 ∧ aH (fI c u o).1.fResults ≤ 8600000 ∧ fV (fI c u o).2.1 ≤ 8600000 := by
 have hcw : wCatalog c = aL c.fStore + aP c.fDirs + aH c.fResults := rfl
 have how : wChange o = wFile o.fFile + wDir o.fDir := rfl
 have hdw : wDir o.fDir = o.fDir.fName.size + bQ o.fDir.fQuery := rfl
 have hsw : aL c.fStore = aQ c.fStore.fSchema + bU c.fStore.fFiles := rfl
 have h0 : aL c.fStore ≤ 8600000 ∧ aP c.fDirs ≤ 8600000 ∧ aH c.fResults ≤ 8600000 ∧ fV ([] : List TDiff) ≤ 8600000 := ⟨by omega, by omega, by omega, by simp [fV, wsum]⟩
 unfold fI
 split
 ·unfold kM
  repeat' split
  all_goals first | exact h0 | exact b9i c o.fFile (by omega) | exact b9k c o.fFile (by omega) | exact b9j c o.fID (by omega) | exact b6Y c o.fDir (by omega) | exact b9h c o.fDir.fName (by omega)
 ·exact h0
end Go.Proofs.YtddimbdeggomaaaGreat
end
section
set_option maxRecDepth 100000
set_option maxHeartbeats 4000000
namespace Go.Proofs.YtddimbdeggomaaaGreat
open Go Go.Sx Go.RowKit Go.Proofs Go.Sx.Clos
theorem a1E (c : TCatalog) (u : Int) (o : TChange) (hfc : oN c) (hfo : xU o) : FnC Tryz.prog 13 [bH c, oi u, nJ o] (ob true) := by
 refine ent Tryz.func13 rfl Tryz.call13 rfl (fun C => ?_); simp only [go_sem, st0, Tryz.ntmps13]
 have z1 := a1i c 1048576 (by omega) hfc
 by_cases h1 : bP 1048576 (wCatalog c) < 0
 ·have q0 := @h1; refine fE z1 ?_
  exact aA ⟨⟨_, rfl, by simp only [go_sem]⟩, trivial⟩
 have s1 : wCatalog c ≤ 1048576 := by have := a0U h1; omega
 have e1 : bP 1048576 (wCatalog c) = 1048576 - (wCatalog c : Nat) := aY (by omega)
 rw [e1] at z1 h1
 have z2 := a8P o (1048576 - (wCatalog c : Nat)) (by omega) hfo
 by_cases h2 : bP (1048576 - (wCatalog c : Nat)) (wChange o) < 0
 ·have q0 := @h1; have q1 := @h2; refine xG z1 z2 ?_
  exact aA ⟨⟨_, rfl, by simp only [go_sem]⟩, trivial⟩
 have s2 : wCatalog c + wChange o ≤ 1048576 := by have := a0U h2; omega
 have e2 : bP (1048576 - (wCatalog c : Nat)) (wChange o) = 1048576 - (wCatalog c : Nat) - (wChange o : Nat) := aY (by omega)
 rw [e2] at z2 h2
 have b1c : aL c.fStore = aQ c.fStore.fSchema + bU c.fStore.fFiles := rfl
 have b2c : bU c.fStore.fFiles = c.fStore.fFiles.length + wsum wFile c.fStore.fFiles := rfl
 have b3c : c.fStore.fSchema.length ≤ aQ c.fStore.fSchema := by unfold aQ; omega
 have b4c : aP c.fDirs = c.fDirs.length + wsum wDir c.fDirs := rfl
 have b5c : aH c.fResults = c.fResults.length + wsum wResult c.fResults := rfl
 have b6c := yQ c.fStore.fSchema
 have b7c := a1g c.fStore.fFiles
 have b8c := a3j c.fDirs
 have b9c := vS c.fResults
 have b0c : wCatalog c = aL c.fStore + aP c.fDirs + aH c.fResults := rfl
 have f1o := a8L o.fFile.fAttrs
 have f2o : o.fFile.fAttrs.length ≤ wFile o.fFile := by unfold wFile eB; omega
 have f3o := a4p o.fDir.fQuery
 have f4o : o.fDir.fQuery.length ≤ wDir o.fDir := by unfold wDir bQ; omega
 have f5o : wChange o = wFile o.fFile + wDir o.fDir := rfl
 have hi := a7L c u o (by omega)
 have hk := a7M c u o (by omega)
 have hC := b9g c u o (by omega)
 generalize ((fI c u o).1) = X at *
 generalize ((fI c u o).2.1) = Y at *
 generalize ((fI c u o).2.2) = B at *
 obtain ⟨q1, q2, q3, q4⟩ := hC
 have b1X : aL X.fStore = aQ X.fStore.fSchema + bU X.fStore.fFiles := rfl
 have b2X : bU X.fStore.fFiles = X.fStore.fFiles.length + wsum wFile X.fStore.fFiles := rfl
 have b3X : X.fStore.fSchema.length ≤ aQ X.fStore.fSchema := by unfold aQ; omega
 have b4X : aP X.fDirs = X.fDirs.length + wsum wDir X.fDirs := rfl
 have b5X : aH X.fResults = X.fResults.length + wsum wResult X.fResults := rfl
 have b6X := yQ X.fStore.fSchema
 have b7X := a1g X.fStore.fFiles
 have b8X := a3j X.fDirs
 have b9X := vS X.fResults
 have b0X : wCatalog X = aL X.fStore + aP X.fDirs + aH X.fResults := rfl
 have hX : wCatalog X ≤ 67108864 := by unfold wCatalog; omega
 have k1 : ¬ ((1 : Int) + (csum cnField c.fStore.fSchema : Nat) + (csum cnFile c.fStore.fFiles : Nat) + (csum cnDir c.fDirs : Nat) + (csum cnResult c.fResults : Nat) + (csum cnAttr o.fFile.fAttrs : Nat) + (csum cnNode o.fDir.fQuery : Nat) < 0) := by omega
 have k2 : ¬ ((1 : Int) + (csum cnField X.fStore.fSchema : Nat) + (csum cnFile X.fStore.fFiles : Nat) + (csum cnDir X.fDirs : Nat) + (csum cnResult X.fResults : Nat) < 0) := by omega
 have y1 := a8M Y
 have y2 : fV Y = Y.length + wsum tL Y := rfl
 have k3 : ¬ ((1 : Int) + (csum cnField X.fStore.fSchema : Nat) + (csum cnFile X.fStore.fFiles : Nat) + (csum cnDir X.fDirs : Nat) + (csum cnResult X.fResults : Nat) + (csum cnDiff Y : Nat) < 0) := by omega
 have hid : FnC Tryz.prog 73 [bH c, oi u, nJ o] (.t [(true, (bH X).cells), (false, [.d (.sl (Y.map dG))]), (false, [.d (bv B)])]) := hi.pu (by simp only [go_sem, and_self])
 cases B
 all_goals
  have qH := aI @h1 (aI @h2 (aI @k1 (aI @k2 (aI @k3 (aI @Bool.true_beq @Bool.false_beq))))); repeat' (with_reducible first | refine nY ?_ | (refine mX ?_; try simp only [go_sem, qH]) | refine kD ?_ | refine cP z1 ?_ | refine cP z2 ?_ | refine aO ?_ | fail)
  have qH := trivial; repeat' (with_reducible first | refine nX ?_ | (refine mX ?_; try simp only [go_sem]) | refine kD ?_ | (apply rE [1,4,5,10,11] [] [0,2,3] [0,2,3] ((.c 1 [] [2,3] (.c 4 [] [2] (.c 5 [6,7,8,9] [6,7,8,9] (.c 10 [] [6,7,8,9] (.c 11 [12,13] [8,9,12,13] .n .n) .n) (.c 10 [] [2] (.c 5 [6,7,8,9] [6,7,8,9] (.c 11 [12,13] [8,9,12,13] .n .n) .n) .n)) (.c 10 [] [2,3] (.c 4 [] [2] (.c 5 [6,7,8,9] [6,7,8,9] (.c 11 [12,13] [8,9,12,13] .n .n) .n) .n) .n)) (.c 10 [] [0,2,3] (.c 1 [] [2,3] (.c 4 [] [2] (.c 5 [6,7,8,9] [6,7,8,9] (.c 11 [12,13] [8,9,12,13] .n .n) .n) .n) .n) .n))) (by simp only [go_sem]; rfl) (by simp only [go_sem]; rfl) (by simp only [go_sem]; rfl) (by decide +kernel); (focus simp only [go_sem]; done)) | exact dN | refine cB (uX ?_) ?_ | refine cK (aX ?_) ?_ | refine cO (aX ?_) ?_ | exact bZ | exact oH | (refine uA ?_; simp only [go_sem]; (repeat' first | omega | refine And.intro ?_ ?_); done) | refine cP (nI c (by omega)) ?_ | refine cP (a1j o (by omega)) ?_ | refine cP hk ?_ | refine aO ?_ | fail)
  have qH := aI @h1 (aI @h2 (aI @k1 (aI @k2 (aI @k3 (aI @Bool.true_beq @Bool.false_beq))))); repeat' (with_reducible first | refine nY ?_ | (refine mX ?_; try simp only [go_sem, qH]) | refine kD ?_ | (apply rE [1,4,5,10,11] [] [0,2,3] [0,2,3] ((.c 1 [] [2,3] (.c 4 [] [2] (.c 5 [6,7,8,9] [6,7,8,9] (.c 10 [] [6,7,8,9] (.c 11 [12,13] [8,9,12,13] .n .n) .n) (.c 10 [] [2] (.c 5 [6,7,8,9] [6,7,8,9] (.c 11 [12,13] [8,9,12,13] .n .n) .n) .n)) (.c 10 [] [2,3] (.c 4 [] [2] (.c 5 [6,7,8,9] [6,7,8,9] (.c 11 [12,13] [8,9,12,13] .n .n) .n) .n) .n)) (.c 10 [] [0,2,3] (.c 1 [] [2,3] (.c 4 [] [2] (.c 5 [6,7,8,9] [6,7,8,9] (.c 11 [12,13] [8,9,12,13] .n .n) .n) .n) .n) .n))) (by simp only [go_sem]; rfl) (by simp only [go_sem]; rfl) (by simp only [go_sem]; rfl) (by decide +kernel); (focus simp only [go_sem]; done)) | exact dN | refine cB (uX ?_) ?_ | refine cK (aX ?_) ?_ | refine cO (aX ?_) ?_ | exact bZ | exact oH | exact uB | refine rD ?_ | refine vO (mE c (by omega)) ?_ | refine vQ (mE c (by omega)) ?_ | refine vO (xV o (by omega)) ?_ | refine vQ (xV o (by omega)) ?_ | refine vO hi ?_ | refine vQ hi ?_ | refine vO (iG X hX) ?_ | refine vQ (iG X hX) ?_ | refine vO (vT Y (by omega)) ?_ | refine vQ (vT Y (by omega)) ?_ | refine vO (iG c (by omega)) ?_ | refine vQ (iG c (by omega)) ?_ | refine vO (a2x o (by omega)) ?_ | refine vQ (a2x o (by omega)) ?_ | refine vM (lZ c _ (by omega)) ?_ | refine vM (a5p o _ (by omega)) ?_ | refine vM (lZ X _ (by omega)) ?_ | refine vM (a1f Y _ (by omega)) ?_ | refine vO (mD X 1 (by omega)) ?_ | refine vQ (mD X 1 (by omega)) ?_ | refine vO (oK Y ((1 : Int) + (csum cnField X.fStore.fSchema : Nat) + (csum cnFile X.fStore.fFiles : Nat) + (csum cnDir X.fDirs : Nat) + (csum cnResult X.fResults : Nat)) (by omega)) ?_ | refine vQ (oK Y ((1 : Int) + (csum cnField X.fStore.fSchema : Nat) + (csum cnFile X.fStore.fFiles : Nat) + (csum cnDir X.fDirs : Nat) + (csum cnResult X.fResults : Nat)) (by omega)) ?_ | refine cP (nI c (by omega)) ?_ | refine cP (a1j o (by omega)) ?_ | refine cP hid ?_ | refine aO ?_ | fail)
  exact aA ⟨⟨_, rfl, by simp only [go_sem]⟩, trivial⟩
end Go.Proofs.YtddimbdeggomaaaGreat
end
