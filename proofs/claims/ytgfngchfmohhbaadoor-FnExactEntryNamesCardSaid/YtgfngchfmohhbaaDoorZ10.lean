/- Joined texts. -/
import Derived.Test.YtgfngchfmohhbaaDoorZ09
import Derived.Test.YtgfngchfmohhbaaDoorZ06
set_option linter.all false
section
set_option maxRecDepth 100000
set_option maxHeartbeats 4000000
namespace Go.Proofs.YtgfngchfmohhbaaDoor
open Go Go.Sx Go.RowKit Go.Proofs
theorem qD (s : TStore) (ids : List Int) (id : Int) (hf : fG s) (hi : bO ids) : FnC Tryd.prog 5 [bH s, .o (.d (.sl (ids.map bN))), oi id] (ob true) := by
 refine ent Tryd.func5 rfl Tryd.call5 rfl (fun C => ?_); simp only [go_sem, st0, Tryd.ntmps5]
 by_cases g : (1048576 : Int) < (ids.length : Int)
 ·have g' : decide ((1048576 : Int) < (ids.length : Int)) = true := by simp [g]
  have q0 := @g'; have q1 := @bU; refine lC ?_
  exact aA ⟨⟨_, rfl, by simp only [go_sem]⟩, trivial⟩
 have g' : decide ((1048576 : Int) < (ids.length : Int)) = false := by simp [g]
 have hl : ids.length ≤ 1048576 := by omega
 have hz := jN s 1048576 (by omega) hf
 by_cases h : bF 1048576 (aJ s) < 0
 ·have q0 := @g'; have q1 := @h; have q2 := @bU; refine qC hz ?_
  exact aA ⟨⟨_, rfl, by simp only [go_sem]⟩, trivial⟩
 have hs : aJ s ≤ 1048576 := by have := kH h; omega
 have qH := aI @g' (aI @h @bU); repeat' (with_reducible first | refine nY ?_ | (refine mX ?_; try simp only [go_sem, qH]) | refine kD ?_ | refine rD ?_ | refine cP hz ?_ | refine cP (dW s hs) ?_ | refine cP (eZ ids hl) ?_ | refine cP (oU s ids id hs hi hl) ?_ | refine cP (oQ s ids id hs hi hl) ?_ | refine cP (gY s hs) ?_ | refine cP (jL ids hl) ?_ | refine cP (fB s (by omega)) ?_ | refine cP (eD ids (by omega)) ?_ | refine aO ?_ | fail)
 exact aA ⟨⟨_, rfl, by simp only [go_sem]⟩, trivial⟩
theorem nP (s : TStore) (ids : List Int) (name : ByteArray) (hf : fG s) (hi : bO ids) : FnC Tryd.prog 6 [bH s, .o (.d (.sl (ids.map bN))), os name] (ob true) := by
 refine ent Tryd.func6 rfl Tryd.call6 rfl (fun C => ?_); simp only [go_sem, st0, Tryd.ntmps6]
 by_cases g : (1048576 : Int) < (ids.length : Int)
 ·have g' : decide ((1048576 : Int) < (ids.length : Int)) = true := by simp [g]
  have q0 := @g'; have q1 := @bU; refine lC ?_
  exact aA ⟨⟨_, rfl, by simp only [go_sem]⟩, trivial⟩
 have g' : decide ((1048576 : Int) < (ids.length : Int)) = false := by simp [g]
 have hl : ids.length ≤ 1048576 := by omega
 by_cases k : (1048576 : Int) < (name.size : Int)
 ·have k' : decide ((1048576 : Int) < (name.size : Int)) = true := by simp [k]
  have q0 := @g'; have q1 := @k'; have q2 := @bU; refine yS ?_
  exact aA ⟨⟨_, rfl, by simp only [go_sem]⟩, trivial⟩
 have k' : decide ((1048576 : Int) < (name.size : Int)) = false := by simp [k]
 have hz := jN s 1048576 (by omega) hf
 by_cases h : bF 1048576 (aJ s) < 0
 ·have q0 := @g'; have q1 := @k'; have q2 := @h; have q3 := @bU; refine a5f hz ?_
  exact aA ⟨⟨_, rfl, by simp only [go_sem]⟩, trivial⟩
 have hs : aJ s ≤ 1048576 := by have := kH h; omega
 have qH := aI @g' (aI @k' (aI @h @bU)); repeat' (with_reducible first | refine nY ?_ | (refine mX ?_; try simp only [go_sem, qH]) | refine kD ?_ | refine rD ?_ | refine cP hz ?_ | refine cP (dW s hs) ?_ | refine cP (eZ ids hl) ?_ | refine cP (mF s ids name hs hi hl) ?_ | refine cP (mE s ids name hs hi hl) ?_ | refine cP (gY s hs) ?_ | refine cP (jL ids hl) ?_ | refine cP (fB s (by omega)) ?_ | refine cP (eD ids (by omega)) ?_ | refine aO ?_ | fail)
 exact aA ⟨⟨_, rfl, by simp only [go_sem]⟩, trivial⟩
theorem oP (s : TStore) (ids : List Int) (hf : fG s) (hi : bO ids) : FnC Tryd.prog 7 [bH s, .o (.d (.sl (ids.map bN)))] (ob true) := by
 refine ent Tryd.func7 rfl Tryd.call7 rfl (fun C => ?_); simp only [go_sem, st0, Tryd.ntmps7]
 by_cases g : (1048576 : Int) < (ids.length : Int)
 ·have g' : decide ((1048576 : Int) < (ids.length : Int)) = true := by simp [g]
  have q0 := @g'; have q1 := @bU; refine lC ?_
  exact aA ⟨⟨_, rfl, by simp only [go_sem]⟩, trivial⟩
 have g' : decide ((1048576 : Int) < (ids.length : Int)) = false := by simp [g]
 have hl : ids.length ≤ 1048576 := by omega
 have hz := jN s 1048576 (by omega) hf
 by_cases h : bF 1048576 (aJ s) < 0
 ·have q0 := @g'; have q1 := @h; have q2 := @bU; refine qC hz ?_
  exact aA ⟨⟨_, rfl, by simp only [go_sem]⟩, trivial⟩
 have hs : aJ s ≤ 1048576 := by have := kH h; omega
 have hs' := hs
 unfold aJ bL bP at hs'
 have len := fH s ids ids.length
 have hc1 := wG s.fSchema
 have hc2 := zM s.fFiles
 have hc3 := xS ids
 have hr := a3D (enN s ids ids.length)
 have e1 := iA s ids hs hi hl
 have e2 := gZ s ids hs hi hl
 have e3 := dC s ids hs hi hl
 have e4 := dB s ids hs hi hl
 generalize enN s ids ids.length = nm at *
 have hk1 : ¬ ((1 : Int) + (csum cnField s.fSchema : Nat) + (csum cnFile s.fFiles : Nat) + (csum cnInt ids : Nat) < 0) := by omega
 have hk2 : ¬ ((1 : Int) + (csum cnStr nm : Nat) < 0) := by omega
 have qH := aI @g' (aI @h (aI @hk1 (aI @hk2 @bU))); repeat' (with_reducible first | refine nY ?_ | (refine mX ?_; try simp only [go_sem, qH]) | refine kD ?_ | refine rD ?_ | refine cP hz ?_ | refine vO (dW s hs) ?_ | refine vQ (dW s hs) ?_ | refine vO (eZ ids hl) ?_ | refine vQ (eZ ids hl) ?_ | refine vO e1 ?_ | refine vQ e1 ?_ | refine vO e2 ?_ | refine vQ e2 ?_ | refine vO (vR nm (by omega)) ?_ | refine vQ (vR nm (by omega)) ?_ | refine vO (fB s (by omega)) ?_ | refine vQ (fB s (by omega)) ?_ | refine vO (eD ids (by omega)) ?_ | refine vQ (eD ids (by omega)) ?_ | refine vM (nS s _ (by omega)) ?_ | refine vM (kN ids _ (by omega)) ?_ | refine vM (tY nm _ (by omega)) ?_ | refine vO (kP nm 1 (by omega)) ?_ | refine vQ (kP nm 1 (by omega)) ?_ | refine cP (gY s hs) ?_ | refine cP (jL ids hl) ?_ | refine cP e3 ?_ | refine cP e4 ?_ | refine aO ?_ | fail)
 exact aA ⟨⟨_, rfl, by simp only [go_sem]⟩, trivial⟩
end Go.Proofs.YtgfngchfmohhbaaDoor
end
