/- Joined texts. -/
import Derived.Test.YtgpoopjfkplilaaGreatDoorZ19
set_option linter.all false
section
set_option maxRecDepth 100000
set_option maxHeartbeats 4000000
namespace Go.Proofs.YtgpoopjfkplilaaGreatDoor
open Go Go.Sx Go.Wd Go.RowKit Go.Proofs
theorem b3Z (l : List Int) (hl : l.length ≤ 9223372036854775807) : FnC Tryz.prog 19 [.o (.d (.sl (l.map uN)))] (ob (decide ((1048576 : Int) < (l.length : Int)))) := by
 refine ent Tryz.func19 rfl Tryz.call19 rfl (fun C => ?_); simp only [go_sem, st0, Tryz.ntmps19]
 refine aD ?_
 exact aA ⟨⟨_, rfl, by simp only [go_sem]⟩, trivial⟩
theorem a6D (x : TSnapshot) (h0 : gZ x = false) (hw : bM x ≤ 1048576) : FnC Tryz.prog 21 [jC x] (.o (.w 9 1 [])) := by
 refine ent Tryz.func21 rfl Tryz.call21 rfl (fun C => ?_); simp only [go_sem, st0, Tryz.ntmps21]
 have q0 := @h0; refine qY (oO x hw) ?_
 exact aA ⟨⟨_, rfl, by simp only [go_sem]⟩, trivial⟩
theorem a6E (l : List Int) (hf : wfU l) : FnC Tryz.prog 5 [.o (.d (.sl (l.map uN)))] (ob true) := by
 refine ent Tryz.func5 rfl Tryz.call5 rfl (fun C => ?_); simp only [go_sem, st0, Tryz.ntmps5]
 have hbig := b3Z l hf.1
 by_cases g : (1048576 : Int) < (l.length : Int)
 ·have g' : decide ((1048576 : Int) < (l.length : Int)) = true := by simp [g]
  have q0 := @g'; refine qY hbig ?_
  exact aA ⟨⟨_, rfl, by simp only [go_sem]⟩, trivial⟩
 have g' : decide ((1048576 : Int) < (l.length : Int)) = false := by simp [g]
 have hl : iM l := ⟨by omega, hf.2⟩
 have q0 := @g'; refine qY hbig ?_
 refine b7r (a8a hl) rfl rfl ?_
 rintro x ⟨hsA, hd⟩
 have hsw := hsA.w
 have hdw := a9o hd (by decide)
 have hw : bM x ≤ 1048576 := by unfold bM; omega
 clear hsA hd
 simp only [go_sem]
 have cv := a6l x hw
 cases ho : gZ x
 ·have ce : FnC Tryz.prog 21 [jC x] (.o (.d (.sl []))) := (a6D x ho hw).pu (by simp only [go_sem, and_self])
  have cd0 := a2y [sI] (by decide)
  have e0 : dcI [sI] = (x0, false) := a7e []
  rw [e0] at cd0
  have cd : FnC Tryz.prog 22 [.o (.d (.sl [[D.v (.string sI)]]))] (.t [(true, [.w 81 2 [], .w 86 5 [], .d (iv 0), .w 90 2 []]), (false, [.d (bv false)])]) := cd0
  rw [ho] at cv
  have z0 : decide (((0 : Nat) : Int) = 0) = true := rfl
  have qH := aI @z0 (aI @Bool.not_true (aI @Bool.not_false (aI @b6F @decide_true))); repeat' (with_reducible first | refine nY ?_ | (refine mX ?_; try simp only [go_sem, qH]) | refine kD ?_ | refine rD ?_ | refine cP ce ?_ | refine vO cd ?_ | refine vQ cd ?_ | refine cP cv ?_ | refine aO ?_ | fail)
  exact aA ⟨⟨_, rfl, by simp only [go_sem]⟩, trivial⟩
 ·have hx := a3Y ho hw
  have ce := a5x x hx
  have hz := b6g x
  have hc := b0V ho
  have hln := a1A (lnX x)
  generalize lnX x = nm at *
  have hzz : zs (nm ++ [sI]) ≤ 1048576 := by
   rw [zT, jA, wL]
   have : sI.size = 4 := rfl
   omega
  have cd0 := a2y (nm ++ [sI]) hzz
  rw [a7e, List.map_append] at cd0
  have cd : FnC Tryz.prog 22 [.o (.d (.sl (nm.map dL ++ [[D.v (.string sI)]])))] (.t [(true, [.w 81 2 [], .w 86 5 [], .d (iv 0), .w 90 2 []]), (false, [.d (bv false)])]) := cd0
  have d1 : decide (((nm.length : Nat) : Int) = 1 + ((x.fStore.fSchema.length : Nat) : Int) + ((x.fStore.fFiles.length : Nat) : Int) + ((x.fDirs.length : Nat) : Int)) = true := by rw [decide_eq_true_iff]; omega
  have i1 : -9223372036854775808 ≤ 1 + ((x.fStore.fSchema.length : Nat) : Int) := by omega
  have i2 : 1 + ((x.fStore.fSchema.length : Nat) : Int) ≤ 9223372036854775807 := by omega
  have i3 : -9223372036854775808 ≤ 1 + ((x.fStore.fSchema.length : Nat) : Int) + ((x.fStore.fFiles.length : Nat) : Int) := by omega
  have i4 : 1 + ((x.fStore.fSchema.length : Nat) : Int) + ((x.fStore.fFiles.length : Nat) : Int) ≤ 9223372036854775807 := by omega
  have i5 : -9223372036854775808 ≤ 1 + ((x.fStore.fSchema.length : Nat) : Int) + ((x.fStore.fFiles.length : Nat) : Int) + ((x.fDirs.length : Nat) : Int) := by omega
  have i6 : 1 + ((x.fStore.fSchema.length : Nat) : Int) + ((x.fStore.fFiles.length : Nat) : Int) + ((x.fDirs.length : Nat) : Int) ≤ 9223372036854775807 := by omega
  have g1 : nm.length ≤ 140737488355328 := by omega
  have g2 : nm.length * 16 ≤ 140737488355328 := by omega
  have g3 : nm.length + 1 ≤ 140737488355328 := by omega
  have g4 : (nm.length + 1) * 16 ≤ 140737488355328 := by omega
  rw [ho] at cv
  have qH := aI @Bool.not_true (aI @Bool.not_false (aI @d1 (aI @i1 (aI @i2 (aI @i3 (aI @i4 (aI @i5 (aI @i6 (aI @g1 (aI @g2 (aI @g3 (aI @g4 (aI @gI (aI @a2J (aI @b4z @b6F))))))))))))))); repeat' (with_reducible first | refine nY ?_ | (refine mX ?_; try simp only [go_sem, qH]) | refine kD ?_ | refine rD ?_ | refine cP ce ?_ | refine vO cd ?_ | refine vQ cd ?_ | refine cP cv ?_ | refine aO ?_ | fail)
  exact aA ⟨⟨_, rfl, by simp only [go_sem]⟩, trivial⟩
end Go.Proofs.YtgpoopjfkplilaaGreatDoor
end
