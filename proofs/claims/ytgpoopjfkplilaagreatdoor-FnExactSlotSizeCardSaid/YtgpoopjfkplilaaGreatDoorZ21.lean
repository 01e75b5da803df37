/- Joined texts. -/
import Derived.Test.YtgpoopjfkplilaaGreatDoorZ20
set_option linter.all false
section
set_option maxRecDepth 100000
set_option maxHeartbeats 4000000
namespace Go.Proofs.YtgpoopjfkplilaaGreatDoor
open Go Go.Sx Go.Wd Go.RowKit Go.Proofs
theorem a8m (d : TDisk) (x : TSnapshot) (ha : d.fSlotA.size ≤ 1048576) (hb : d.fSlotB.size ≤ 1048576) (hx : SmX x) : FnC Tryz.prog 18 [tK d, dZ x] (oi ((slT ((lsX d).1.1 + 1) x).size : Nat)) := by
 refine ent Tryz.func18 rfl Tryz.call18 rfl (fun C => ?_); simp only [go_sem, st0, Tryz.ntmps18]
 have c := a7Y d x ha hb hx
 generalize slT ((lsX d).1.1 + 1) x = t at *
 generalize lsF d = f at *
 refine lC c ?_
 exact aA ⟨⟨_, rfl, by simp only [go_sem]⟩, trivial⟩
theorem a8n (d : TDisk) (x : TSnapshot) (ha : d.fSlotA.size ≤ 1048576) (hb : d.fSlotB.size ≤ 1048576) (hx : SmX x) : FnC Tryz.prog 16 [tK d, dZ x] (oi ((slT ((lsX d).1.1 + 1) x).size : Nat)) := by
 refine ent Tryz.func16 rfl Tryz.call16 rfl (fun C => ?_); simp only [go_sem, st0, Tryz.ntmps16]
 have c := wR d ha hb
 have hn := (a9B ha hb).2
 generalize lsX d = r at *
 obtain ⟨⟨n, X⟩, p⟩ := r
 simp only at *
 have h1 : -9223372036854775808 ≤ n + 1 := by omega
 have h2 : n + 1 ≤ 9223372036854775807 := by omega
 have cs := a1o (n + 1) x hx (by unfold inR; simp only; omega)
 have q0 := @h1; have q1 := @h2; refine uS c cs ?_
 exact aA ⟨⟨_, rfl, by simp only [go_sem]⟩, trivial⟩
theorem a6z (d : TDisk) (hf : a0B d) : FnC Tryz.prog 3 [tK d] (ob true) := by
 refine ent Tryz.func3 rfl Tryz.call3 rfl (fun C => ?_); simp only [go_sem, st0, Tryz.ntmps3]
 have z1 := a4u d 1048576 (by omega) hf
 by_cases h1 : bV 1048576 (wDisk d) < 0
 ·have q0 := @h1; refine iX z1 ?_
  exact aA ⟨⟨_, rfl, by simp only [go_sem]⟩, trivial⟩
 have s1 : wDisk d ≤ 1048576 := by have := a2K h1; omega
 have s1' := s1
 unfold wDisk at s1'
 have ha : d.fSlotA.size ≤ 1048576 := by omega
 have hb : d.fSlotB.size ≤ 1048576 := by omega
 have hi := a3N d ha hb
 have hk := wR d ha hb
 obtain ⟨hX, hn⟩ := a9B ha hb
 generalize lsX d = r at *
 obtain ⟨⟨n, X⟩, B⟩ := r
 have hX : aK X ≤ 1048576 := hX
 have hq := hX
 unfold aK dC aP fF fK at hq
 have hx1 := a4N X.fStore.fSchema
 have hx2 := a7V X.fStore.fFiles
 have hx3 := b0I X.fDirs
 have k2 : ¬ ((1 : Int) + (csum cnField X.fStore.fSchema : Nat) + (csum cnFile X.fStore.fFiles : Nat) + (csum cnDir X.fDirs : Nat) < 0) := by omega
 cases B
 all_goals
  have q0 := @h1; have q1 := @k2; have q2 := @Bool.true_beq; have q3 := @Bool.false_beq; refine tQ z1 ?_
  repeat' (with_reducible first | refine nX ?_ | (refine mX ?_; try simp only [go_sem]) | refine kD ?_ | refine cP (a0C d s1) ?_ | refine cP hk ?_ | refine aO ?_ | fail)
  have qH := aI @h1 (aI @k2 (aI @Bool.true_beq @Bool.false_beq)); repeat' (with_reducible first | refine nY ?_ | (refine mX ?_; try simp only [go_sem, qH]) | refine kD ?_ | refine rD ?_ | refine cP (a0C d s1) ?_ | refine vO hi ?_ | refine vQ hi ?_ | refine vO (iU X (by omega)) ?_ | refine vQ (iU X (by omega)) ?_ | refine vM (tL X _ (by omega)) ?_ | refine vO (kE X 1 (by omega)) ?_ | refine vQ (kE X 1 (by omega)) ?_ | refine aO ?_ | fail)
  exact aA ⟨⟨_, rfl, by simp only [go_sem]⟩, trivial⟩
theorem a9N (d : TDisk) (x : TSnapshot) (hf : a0B d) (hfx : lT x) : FnC Tryz.prog 4 [tK d, dZ x] (ob true) := by
 refine ent Tryz.func4 rfl Tryz.call4 rfl (fun C => ?_); simp only [go_sem, st0, Tryz.ntmps4]
 have z1 := a4u d 1048576 (by omega) hf
 by_cases h1 : bV 1048576 (wDisk d) < 0
 ·have q0 := @h1; refine iX z1 ?_
  exact aA ⟨⟨_, rfl, by simp only [go_sem]⟩, trivial⟩
 have s1 : wDisk d ≤ 1048576 := by have := a2K h1; omega
 have e1 : bV 1048576 (wDisk d) = 1048576 - (wDisk d : Nat) := bM (by omega)
 rw [e1] at z1 h1
 have z2 := a3B x (1048576 - (wDisk d : Nat)) (by omega) hfx
 by_cases h2 : bV (1048576 - (wDisk d : Nat)) (aK x) < 0
 ·have q0 := @h1; have q1 := @h2; refine uS z1 z2 ?_
  exact aA ⟨⟨_, rfl, by simp only [go_sem]⟩, trivial⟩
 have s2 : wDisk d + aK x ≤ 1048576 := by have := a2K h2; omega
 have s1' := s1
 unfold wDisk at s1'
 have ha : d.fSlotA.size ≤ 1048576 := by omega
 have hb : d.fSlotB.size ≤ 1048576 := by omega
 have hs : aK x ≤ 1048576 := by omega
 have hx : SmX x := ⟨hfx, hs⟩
 have hi := a8m d x ha hb hx
 have hk := a8n d x ha hb hx
 generalize (slT ((lsX d).1.1 + 1) x).size = n at *
 have qH := aI @h1 @h2; repeat' (with_reducible first | refine nY ?_ | (refine mX ?_; try simp only [go_sem, qH]) | refine kD ?_ | refine rD ?_ | refine cP z1 ?_ | refine cP z2 ?_ | refine cP (a0C d s1) ?_ | refine vO (qE x hs) ?_ | refine vQ (qE x hs) ?_ | refine cP hk ?_ | refine vO hi ?_ | refine vQ hi ?_ | refine cP (a2J x hs) ?_ | refine vO (iU x (by omega)) ?_ | refine vQ (iU x (by omega)) ?_ | refine aO ?_ | fail)
 exact aA ⟨⟨_, rfl, by simp only [go_sem]⟩, trivial⟩
end Go.Proofs.YtgpoopjfkplilaaGreatDoor
end
