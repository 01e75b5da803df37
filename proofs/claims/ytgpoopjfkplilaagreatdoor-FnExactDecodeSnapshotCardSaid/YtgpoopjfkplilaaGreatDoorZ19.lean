/- Joined texts. -/
import Derived.Test.YtgpoopjfkplilaaGreatDoorZ18
set_option linter.all false
section
set_option maxRecDepth 100000
set_option maxHeartbeats 4000000
namespace Go.Proofs.YtgpoopjfkplilaaGreatDoor
open Go Go.Sx Go.Wd Go.RowKit Go.Proofs
theorem b0G (s : ByteArray) (c : UInt8) (hs : s.size ≤ 4294967200) : FnC Tryz.prog 62 [os s, os ⟨#[c]⟩] (.o (.d (.sl ((pieces c s).map bD)))) := (b0L s c hs).pu (by simp only [go_sem, and_self])
theorem a2B (w : List ByteArray) : ∀ r ∈ List.map bD w, r.length = 1 := fun r hr => by
 obtain ⟨x, _, rfl⟩ := List.mem_map.1 hr; rfl
theorem a0i {α β : Type} (f : α → β) (l : List α) : (List.map f l).take l.length = List.map f l := List.take_of_length_le (by simp)
theorem b0H (w : List ByteArray) : (List.map bD w).drop 1 = List.map bD w.tail := by rw [← List.map_drop, List.drop_one]
theorem a4a (w : List ByteArray) : (List.map bD w).drop 2 = List.map bD (w.drop 2) := by rw [← List.map_drop]
@[go_sem] def hsX (x : TSnapshot) : List HB := [.box 31 [.s 1, .s 2, .d (iv x.fStore.fNextID), .s 3], .row 81 2 (x.fStore.fSchema.map bF) true, .row 86 5 (x.fStore.fFiles.map dE) true, .row 90 2 (x.fDirs.map dG) true]
theorem a2C {x : TSnapshot} {l : ByteArray} {w : List ByteArray} (h : pieces 32 l = w) : rdI x l =
    if part w 0 = iF ∧ w.length = 3 then (bJ x ⟨part w 1, if part w 2 = vX then 2 else 1⟩, true)
    else if part w 0 = iY ∧ w.length = 2 then (dZ x (pU (part w 1)).1, (pU (part w 1)).2)
    else if part w 0 = wFile' then (dJ x (fileI w.tail).1, (fileI w.tail).2)
    else if part w 0 = wDir' ∧ 2 < w.length then (eF x ⟨part w 1, (pQI (cat 32 (w.drop 2))).1⟩, (pQI (cat 32 (w.drop 2))).2)
    else (x, false) := by subst h; rfl
theorem a6S (x : TSnapshot) (l : ByteArray) (hs : l.size ≤ 2000000) (b1 : x.fStore.fSchema.length ≤ 2000000) (b2 : x.fStore.fFiles.length ≤ 2000000) (b3 : x.fDirs.length ≤ 2000000) :
    FnZ Tryz.prog 52 true (hsX x) [.o (.p 0 0), os l] (fun _ : Unit => True) (fun _ => hsX (rdI x l).1) (fun _ => ob (rdI x l).2) := by
 refine b2B Tryz.func52 rfl Tryz.call52 rfl (fun _ => rfl) (fun _ => ⟨_, _, rfl⟩) (fun C b => ?_)
 simp only [go_sem, Tryz.ntmps52]
 have cs := b0G l 32 (by omega)
 have hne := a9A 32 l
 have hz := sU 32 l
 have hmu := a2C (x := x) (l := l) rfl
 generalize pieces 32 l = w at *
 have l0 : 0 < w.length := List.length_pos_iff.2 hne
 rw [fZ l0] at hmu
 have hzl := wD w
 have hzm : ∀ y ∈ w, y.size ≤ 4300000 := fun y hy => by have := zJ hy; omega
 by_cases hF : w[0] = iF
 ·have dF : decide (w[0] = iF) = true := by simp [hF]
  have dN : decide (w[0] = iY) = false := by rw [hF]; decide
  have dI : decide (w[0] = wFile') = false := by rw [hF]; decide
  have dD : decide (w[0] = wDir') = false := by rw [hF]; decide
  have nN : ¬ w[0] = iY := by simpa using dN
  have nI : ¬ w[0] = wFile' := by simpa using dI
  have nD : ¬ w[0] = wDir' := by simpa using dD
  by_cases h3 : w.length = 3
  ·have d3 : decide (((w.length : Nat) : Int) = 3) = true := by rw [decide_eq_true_iff]; omega
   have l1 : 1 < w.length := by omega
   have l2 : 2 < w.length := by omega
   have g1 : x.fStore.fSchema.length + 1 ≤ 140737488355328 := by omega
   rw [if_pos ⟨hF, h3⟩, fZ l1, fZ l2] at hmu
   clear hF
   by_cases hS : w[2] = vX
   ·have dS : decide (w[2] = vX) = true := by simp [hS]
    have hm : rdI x l = (bJ x ⟨w[1], 2⟩, true) := by rw [hmu, if_pos hS]
    clear hS
    have qH := aI @l0 (aI @l1 (aI @l2 (aI @dF (aI @d3 (aI @dS (aI @g1 @bI)))))); repeat' (with_reducible first | refine nY ?_ | (refine mX ?_; try simp only [go_sem, qH]) | refine kD ?_ | (apply rE [11,12,16] [] [0,1,2,3,4,5,6,7,8,9,10] [0,1,2,3,4,5,6,7,8,9,10] ((.c 11 [] [0,1,2,3,4,5] (.c 12 [13,14,15] [0,13,14,15] (.c 16 [] [] .n .n) .n) .n)) (by simp only [go_sem]; rfl) (by simp only [go_sem]; rfl) (by simp only [go_sem]; rfl) (by decide +kernel); (focus simp only [go_sem]; done)) | exact dR | refine bV (uX ?_) ?_ | refine bW (aX ?_) ?_ | refine bX (aX ?_) ?_ | exact bU | exact oH | exact uB | refine rD ?_ | refine cP cs ?_ | refine aO ?_ | fail)
    exact aQ () trivial (by simp only [go_sem, hm] <;> rfl) trivial (by simp only [go_sem, hm, bJ, dJ, eF, dZ, List.map_append]; simp) rfl rfl
   ·have dS : decide (w[2] = vX) = false := by simp [hS]
    have hm : rdI x l = (bJ x ⟨w[1], 1⟩, true) := by rw [hmu, if_neg hS]
    clear hS
    have qH := aI @l0 (aI @l1 (aI @l2 (aI @dF (aI @d3 (aI @dS (aI @g1 @bI)))))); repeat' (with_reducible first | refine nY ?_ | (refine mX ?_; try simp only [go_sem, qH]) | refine kD ?_ | (apply rE [11,12,16] [] [0,1,2,3,4,5,6,7,8,9,10] [0,1,2,3,4,5,6,7,8,9,10] ((.c 11 [] [0,1,2,3,4,5] (.c 12 [13,14,15] [0,13,14,15] (.c 16 [] [] .n .n) .n) .n)) (by simp only [go_sem]; rfl) (by simp only [go_sem]; rfl) (by simp only [go_sem]; rfl) (by decide +kernel); (focus simp only [go_sem]; done)) | exact dR | refine bV (uX ?_) ?_ | refine bW (aX ?_) ?_ | refine bX (aX ?_) ?_ | exact bU | exact oH | exact uB | refine rD ?_ | refine cP cs ?_ | refine aO ?_ | fail)
    exact aQ () trivial (by simp only [go_sem, hm] <;> rfl) trivial (by simp only [go_sem, hm, bJ, dJ, eF, dZ, List.map_append]; simp) rfl rfl
  ·have d3 : decide (((w.length : Nat) : Int) = 3) = false := by rw [decide_eq_false_iff_not]; omega
   have hm : rdI x l = (x, false) := by rw [hmu, if_neg (fun h => h3 h.2), if_neg (fun h => nN h.1), if_neg nI, if_neg (fun h => nD h.1)]
   clear hF
   have q0 := @l0; have q1 := @dF; have q2 := @d3; have q3 := @dN; have q4 := @dI; have q5 := @dD; have q6 := @bI; refine a4O cs ?_
   exact aQ () trivial (by simp only [go_sem, hm] <;> rfl) trivial (by simp only [go_sem, hm, bJ, dJ, eF, dZ, List.map_append]; simp) rfl rfl
 have dF : decide (w[0] = iF) = false := by simp [hF]
 rw [if_neg (fun h => hF h.1)] at hmu
 by_cases hN : w[0] = iY
 ·have dN : decide (w[0] = iY) = true := by simp [hN]
  have dI : decide (w[0] = wFile') = false := by rw [hN]; decide
  have dD : decide (w[0] = wDir') = false := by rw [hN]; decide
  have nI : ¬ w[0] = wFile' := by simpa using dI
  have nD : ¬ w[0] = wDir' := by simpa using dD
  by_cases h2 : w.length = 2
  ·have d2 : decide (((w.length : Nat) : Int) = 2) = true := by rw [decide_eq_true_iff]; omega
   have l1 : 1 < w.length := by omega
   rw [if_pos ⟨hN, h2⟩, fZ l1] at hmu
   have hm := hmu
   have cu := gV w[1]
   clear hN hF
   have q0 := @l0; have q1 := @l1; have q2 := @dF; have q3 := @dN; have q4 := @d2; have q5 := @bI; refine a1V cs cu ?_
   exact aQ () trivial (by simp only [go_sem, hm] <;> rfl) trivial (by simp only [go_sem, hm, bJ, dJ, eF, dZ, List.map_append]; simp) rfl rfl
  ·have d2 : decide (((w.length : Nat) : Int) = 2) = false := by rw [decide_eq_false_iff_not]; omega
   have hm : rdI x l = (x, false) := by rw [hmu, if_neg (fun h => h2 h.2), if_neg nI, if_neg (fun h => nD h.1)]
   clear hN hF
   have q0 := @l0; have q1 := @dF; have q2 := @dN; have q3 := @d2; have q4 := @dI; have q5 := @dD; have q6 := @bI; refine a4O cs ?_
   exact aQ () trivial (by simp only [go_sem, hm] <;> rfl) trivial (by simp only [go_sem, hm, bJ, dJ, eF, dZ, List.map_append]; simp) rfl rfl
 have dN : decide (w[0] = iY) = false := by simp [hN]
 rw [if_neg (fun h => hN h.1)] at hmu
 by_cases hI : w[0] = wFile'
 ·have dI : decide (w[0] = wFile') = true := by simp [hI]
  rw [if_pos hI] at hmu
  have hm := hmu
  have cf := a2U w.tail (by rw [List.length_tail]; omega) (fun y hy => hzm y (List.mem_of_mem_tail hy))
  have g1 : x.fStore.fFiles.length + 1 ≤ 140737488355328 := by omega
  have sb : (1 : Int) ≤ ((w.length : Nat) : Int) := by omega
  clear hI hN hF
  have qH := aI @l0 (aI @dF (aI @dN (aI @dI (aI @sb (aI @g1 (aI @a0i (aI @b0H (aI @Int.toNat_natCast @bI)))))))); repeat' (with_reducible first | refine nY ?_ | (refine mX ?_; try simp only [go_sem, qH]) | refine kD ?_ | (apply rE [7,8,12] [] [0,1,2,3,4,5,6] [0,1,2,3,4,5,6] ((.c 7 [] [0,1,2,3,4,5] (.c 8 [9,10,11] [0,9,10,11] (.c 12 [] [] .n .n) .n) .n)) (by simp only [go_sem]; rfl) (by simp only [go_sem]; rfl) (by simp only [go_sem]; rfl) (by decide +kernel); (focus simp only [go_sem]; done)) | exact dR | refine bV (uX ?_) ?_ | refine bW (aX ?_) ?_ | refine bX (aX ?_) ?_ | exact bU | exact oH | (refine uA ?_; simp only [go_sem, qH]; (repeat' first | omega | exact a2B w | refine And.intro ?_ ?_); done) | refine rD ?_ | refine And.intro (a2B w) ?_ | refine cP cs ?_ | refine cP cf ?_ | refine aO ?_ | fail)
  exact aQ () trivial (by simp only [go_sem, hm] <;> rfl) trivial (by simp only [go_sem, hm, bJ, dJ, eF, dZ, List.map_append]; simp) rfl rfl
 have dI : decide (w[0] = wFile') = false := by simp [hI]
 rw [if_neg hI] at hmu
 by_cases hD : w[0] = wDir'
 ·have dD : decide (w[0] = wDir') = true := by simp [hD]
  by_cases h2 : 2 < w.length
  ·have d2 : decide ((2 : Int) < ((w.length : Nat) : Int)) = true := by rw [decide_eq_true_iff]; omega
   have l1 : 1 < w.length := by omega
   have sb : (2 : Int) ≤ ((w.length : Nat) : Int) := by omega
   rw [if_pos ⟨hD, h2⟩, fZ l1] at hmu
   have hm := hmu
   have hnd : w.drop 2 ≠ [] := fun e => by have := congrArg List.length e; rw [List.length_drop] at this; simp at this; omega
   have hcs := a8i (w.drop 2)
   have hzd : zs (w.drop 2) ≤ zs w := by have := a1q (w.take 2) (w.drop 2); rw [List.take_append_drop] at this; omega
   have cj := xL (w.drop 2) ⟨#[32]⟩ hnd (by rw [List.length_drop]; omega) (by show (cat 32 (w.drop 2)).size ≤ _; omega)
   have cj : FnC Tryz.prog 92 [.o (.d (.sl ((w.drop 2).map bD))), os ⟨#[32]⟩] (os (cat 32 (w.drop 2))) := cj
   have cq := zF (cat 32 (w.drop 2)) (by omega)
   have g1 : x.fDirs.length + 1 ≤ 140737488355328 := by omega
   clear hD hI hN hF
   generalize cat 32 (w.drop 2) = tx at *
   have qH := aI @l0 (aI @l1 (aI @dF (aI @dN (aI @dI (aI @dD (aI @d2 (aI @sb (aI @g1 (aI @a0i (aI @a4a (aI @Int.toNat_natCast @bI))))))))))); repeat' (with_reducible first | refine nY ?_ | (refine mX ?_; try simp only [go_sem, qH]) | refine kD ?_ | (apply rE [10,11,14] [] [0,1,2,3,4,5,6,7,8,9] [0,1,2,3,4,5,6,7,8,9] ((.c 10 [] [0,1,2,3,4] (.c 11 [12,13] [0,12,13] (.c 14 [] [] .n .n) .n) .n)) (by simp only [go_sem]; rfl) (by simp only [go_sem]; rfl) (by simp only [go_sem]; rfl) (by decide +kernel); (focus simp only [go_sem]; done)) | exact dR | refine bV (uX ?_) ?_ | refine bW (aX ?_) ?_ | refine bX (aX ?_) ?_ | exact bU | exact oH | (refine uA ?_; simp only [go_sem, qH]; (repeat' first | omega | exact a2B w | refine And.intro ?_ ?_); done) | refine rD ?_ | refine And.intro (a2B w) ?_ | refine cP cs ?_ | refine cP cj ?_ | refine cP cq ?_ | refine aO ?_ | fail)
   exact aQ () trivial (by simp only [go_sem, hm] <;> rfl) trivial (by simp only [go_sem, hm, bJ, dJ, eF, dZ, List.map_append]; simp) rfl rfl
  ·have d2 : decide ((2 : Int) < ((w.length : Nat) : Int)) = false := by rw [decide_eq_false_iff_not]; omega
   have hm : rdI x l = (x, false) := by rw [hmu, if_neg (fun h => h2 h.2)]
   clear hD hI hN hF
   have q0 := @l0; have q1 := @dF; have q2 := @dN; have q3 := @d2; have q4 := @dI; have q5 := @dD; have q6 := @bI; refine a4O cs ?_
   exact aQ () trivial (by simp only [go_sem, hm] <;> rfl) trivial (by simp only [go_sem, hm, bJ, dJ, eF, dZ, List.map_append]; simp) rfl rfl
 have dD : decide (w[0] = wDir') = false := by simp [hD]
 have hm : rdI x l = (x, false) := by rw [hmu, if_neg (fun h => hD h.1)]
 clear hD hI hN hF
 have q0 := @l0; have q1 := @dF; have q2 := @dN; have q3 := @dI; have q4 := @dD; have q5 := @bI; refine sK cs ?_
 exact aQ () trivial (by simp only [go_sem, hm] <;> rfl) trivial (by simp only [go_sem, hm, bJ, dJ, eF, dZ, List.map_append]; simp) rfl rfl
end Go.Proofs.YtgpoopjfkplilaaGreatDoor
end
section
set_option maxRecDepth 100000
namespace Go.Proofs.YtgpoopjfkplilaaGreatDoor
open Go Go.Sx Go.Wd Go.RowKit Go.Proofs
theorem wdF : wd iF := ⟨by decide, by decide, by decide⟩
theorem wdN : wd iY := ⟨by decide, by decide, by decide⟩
theorem wdL : wd wFile' := ⟨by decide, by decide, by decide⟩
theorem wdD : wd wDir' := ⟨by decide, by decide, by decide⟩
theorem wdI : wd vY := ⟨by decide, by decide, by decide⟩
theorem wdS : wd vX := ⟨by decide, by decide, by decide⟩
theorem uT {ws : List ByteArray} (h : ∀ w ∈ ws, wd w) (h0 : ws ≠ []) : pieces 32 (cat 32 ws) = ws := a7b 32 ws h0 fun w hw => b2G (h w hw)
theorem dU (w : ByteArray) (l : List ByteArray) : part (w :: l) 0 = w := rfl
theorem lM (w : ByteArray) (l : List ByteArray) (k : Nat) : part (w :: l) (k + 1) = part l k := rfl
theorem a9h {f : TField} (h : aN f.fName 1 = true) (hk : f.fKind = 1 ∨ f.fKind = 2) : fdT f = cat 32 [iF, f.fName, if f.fKind = 1 then vY else vX] := by
 rw [fO _ (by simp), fO _ (by simp), mD]
 unfold fdT
 rw [if_pos h]
 rcases hk with hk | hk
 ·rw [if_pos hk, if_pos hk]
  apply lU; simp
 ·have : ¬ f.fKind = 1 := by omega
  rw [if_neg this, if_neg this, if_pos hk]
  apply lU; simp
theorem b4c {f : TField} (h : aN f.fName 1 = true) : ∀ w ∈ [iF, f.fName, if f.fKind = 1 then vY else vX], wd w := by
 intro w hw
 simp only [List.mem_cons, List.not_mem_nil, or_false] at hw
 rcases hw with rfl | rfl | rfl
 ·exact wdF
 ·exact a5u h
 ·split
  ·exact wdI
  ·exact wdS
theorem b2j {f : TField} (hk : f.fKind = 1 ∨ f.fKind = 2) {n : Int} (h : n = f.fKind) : (⟨f.fName, n⟩ : TField) = f := by subst h; rfl
theorem b5g (x : TSnapshot) {f : TField} (h : aN f.fName 1 = true) (hk : f.fKind = 1 ∨ f.fKind = 2) : rdI x (fdT f) = (bJ x f, true) := by
 rw [a2C (w := [iF, f.fName, if f.fKind = 1 then vY else vX]) (by rw [a9h h hk]; exact uT (b4c h) (by simp))]
 rw [if_pos ⟨rfl, rfl⟩, lM, lM, lM, dU, dU]
 congr 2
 refine b2j hk ?_
 rcases hk with hk | hk
 ·rw [hk]; decide
 ·rw [hk]; decide
theorem a0f {x : TSnapshot} {l : ByteArray} {p : List ByteArray} (h : sfL l = p) : rdS x l =
    if part p 0 = iF then bJ x ⟨part p 1, if part p 2 = vY then 1 else 2⟩
    else if part p 0 = iY then dZ x (pU (part p 1)).1
    else if part p 0 = wFile' then dJ x (fileS p)
    else if part p 0 = wDir' then eF x ⟨part p 1, if 2 < p.length then (pQS (cat 32 (p.drop 2))).1 else []⟩
    else x := by subst h; rfl
theorem b5h (x : TSnapshot) {f : TField} (h : aN f.fName 1 = true) (hk : f.fKind = 1 ∨ f.fKind = 2) : rdS x (fdT f) = bJ x f := by
 rw [a0f (p := [iF, f.fName, if f.fKind = 1 then vY else vX]) (by rw [a9h h hk]; exact (a4f (b4c h) (by simp) (by simp)).2)]
 rw [if_pos (dU _ _), lM, lM, lM, dU, dU]
 congr 1
 refine b2j hk ?_
 rcases hk with hk | hk
 ·rw [hk]; decide
 ·rw [hk]; decide
theorem a9i (n : Int) : nxT n = cat 32 [iY, itoaB n] := by
 rw [fO _ (by simp), mD]
 apply lU; simp [nxT]
theorem b4d {n : Int} (h0 : 0 ≤ n) (h1 : n ≤ 1000000000) : ∀ w ∈ [iY, itoaB n], wd w := by
 intro w hw
 simp only [List.mem_cons, List.not_mem_nil, or_false] at hw
 rcases hw with rfl | rfl
 ·exact wdN
 ·exact xA h0 h1
theorem b5i (x : TSnapshot) {n : Int} (h0 : 0 ≤ n) (h1 : n ≤ 1000000000) : rdI x (nxT n) = (dZ x n, true) := by
 rw [a2C (w := [iY, itoaB n]) (by rw [a9i]; exact uT (b4d h0 h1) (by simp))]
 rw [if_neg (fun h => absurd h.1 (by rw [dU]; decide)), if_pos ⟨rfl, rfl⟩, lM, dU, mW h0 h1 rfl]
theorem b5j (x : TSnapshot) {n : Int} (h0 : 0 ≤ n) (h1 : n ≤ 1000000000) : rdS x (nxT n) = dZ x n := by
 rw [a0f (p := [iY, itoaB n]) (by rw [a9i]; exact (a4f (b4d h0 h1) (by simp) (by simp)).2)]
 rw [if_neg (by rw [dU]; decide), if_pos (dU _ _), lM, dU, mW h0 h1 rfl]
def jH (f : TFile) : List ByteArray := [itoaB f.fID, itoaB f.fOwner, if f.fShared then ⟨#[115]⟩ else ⟨#[111]⟩, itoaB f.fLink] ++ eB f.fAttrs
theorem a6H (f : TFile) : kF f = cat 32 (wFile' :: jH f) := rfl
structure Fl (f : TFile) : Prop where
 i : 0 ≤ f.fID ∧ f.fID ≤ 1000000000
 o : 0 ≤ f.fOwner ∧ f.fOwner ≤ 1000000000
 l : 0 ≤ f.fLink ∧ f.fLink ≤ 1000000000
 n : f.fAttrs.length ≤ 5
 a : ∀ a ∈ f.fAttrs, aN a.fName 1 = true ∧ cB a.fValue = true ∧ a.fValue.fKind ≠ 0
theorem Fl.of {s : List TField} {f : TFile} (h : fC s f = true) : Fl f := by
 have hfew := a3U h
 obtain ⟨a, b, c, hs, e⟩ := rR h
 refine ⟨by omega, by omega, by omega, hfew, fun t ht => ?_⟩
 obtain ⟨k, hk, rfl⟩ := List.getElem_of_mem ht
 obtain ⟨m1, m2, m3, _⟩ := rW hs (e k hk).2
 exact ⟨m3, m1, m2⟩
theorem b2k {l : List TAttr} (h : ∀ a ∈ l, aN a.fName 1 = true ∧ cB a.fValue = true ∧ a.fValue.fKind ≠ 0) : ∀ w ∈ eB l, wd w := by
 intro w hw
 unfold eB at hw
 obtain ⟨a, ha, hw⟩ := List.mem_flatMap.1 hw
 obtain ⟨h1, h2, h3⟩ := h a ha
 simp only [List.mem_cons, List.not_mem_nil, or_false] at hw
 rcases hw with rfl | rfl
 ·exact a5u h1
 ·exact b0M h2 h3
theorem Fl.wd {f : TFile} (h : Fl f) : ∀ w ∈ wFile' :: jH f, wd w := by
 intro w hw
 unfold jH at hw
 simp only [List.mem_cons, List.mem_append, List.not_mem_nil, or_false] at hw
 rcases hw with rfl | (rfl | rfl | rfl | rfl) | hw
 ·exact wdL
 ·exact xA h.i.1 h.i.2
 ·exact xA h.o.1 h.o.2
 ·split
  ·exact ⟨by decide, by decide, by decide⟩
  ·exact ⟨by decide, by decide, by decide⟩
 ·exact xA h.l.1 h.l.2
 ·exact b2k h.a w hw
theorem a0g (f : TFile) : (jH f).length = 4 + 2 * f.fAttrs.length := by
 unfold jH
 rw [List.length_append, wF]; rfl
theorem b0D (l : List TAttr) (j : Nat) (h : j < l.length) : part (eB l) (2 * j) = l[j].fName ∧ part (eB l) (2 * j + 1) = eT l[j].fValue := by
 induction l generalizing j with
 | nil => simp at h
 | cons a l ih =>
  have e : eB (a :: l) = a.fName :: eT a.fValue :: eB l := by unfold eB; rw [List.flatMap_cons]; rfl
  rw [e]
  cases j with
  | zero => exact ⟨rfl, rfl⟩
  | succ j => exact ih j (by simpa using h)
theorem a3Q (pre : List ByteArray) {l : List TAttr} (h : ∀ a ∈ l, aN a.fName 1 = true ∧ cB a.fValue = true ∧ a.fValue.fKind ≠ 0) : atS (pre ++ eB l) pre.length l.length = l ∧ okS (pre ++ eB l) pre.length l.length = true := by
 have key : ∀ j (hj : j < l.length), part (pre ++ eB l) (pre.length + 2 * j) = l[j].fName ∧ pV (part (pre ++ eB l) (pre.length + 2 * j + 1)) = (l[j].fValue, true) := fun j hj => by
  obtain ⟨e1, e2⟩ := b0D l j hj
  obtain ⟨_, h2, h3⟩ := h _ (List.getElem_mem hj)
  refine ⟨by rw [uJ]; exact e1, ?_⟩
  rw [Nat.add_assoc, uJ, e2]
  exact a6X h2 h3
 constructor
 ·apply List.ext_getElem
  ·exact a5o _ _ _
  ·intro j h1 h2
   obtain ⟨e1, e2⟩ := key j h2
   simp only [atS, List.getElem_map, List.getElem_range]
   rw [e1, e2]
 ·unfold okS
  rw [List.all_eq_true]
  intro j hj
  rw [(key j (List.mem_range.1 hj)).2]
theorem Fl.shared (f : TFile) : decide ((if f.fShared then (⟨#[115]⟩ : ByteArray) else ⟨#[111]⟩) = ⟨#[115]⟩) = f.fShared := by
 cases f.fShared <;> decide
theorem Fl.fileI {f : TFile} (h : Fl f) : fileI (jH f) = (f, true) := by
 have hl := a0g f
 have hd : ((jH f).length - 4) / 2 = f.fAttrs.length := by omega
 have ha := a3Q [itoaB f.fID, itoaB f.fOwner, if f.fShared then ⟨#[115]⟩ else ⟨#[111]⟩, itoaB f.fLink] h.a
 have ha : atS (jH f) 4 f.fAttrs.length = f.fAttrs ∧ okS (jH f) 4 f.fAttrs.length = true := ha
 have e0 : part (jH f) 0 = itoaB f.fID := rfl
 have e1 : part (jH f) 1 = itoaB f.fOwner := rfl
 have e2 : part (jH f) 2 = if f.fShared then ⟨#[115]⟩ else ⟨#[111]⟩ := rfl
 have e3 : part (jH f) 3 = itoaB f.fLink := rfl
 unfold Go.Proofs.YtgpoopjfkplilaaGreatDoor.fileI
 rw [if_neg (by omega), hd, ha.1, ha.2, e0, e1, e2, e3, mW h.i.1 h.i.2 rfl, mW h.o.1 h.o.2 rfl, mW h.l.1 h.l.2 rfl, Fl.shared]
 rfl
theorem Fl.fileS {f : TFile} (h : Fl f) : fileS (wFile' :: jH f) = f := by
 have hl := a0g f
 have hd : ((wFile' :: jH f).length - 4) / 2 = f.fAttrs.length := by rw [List.length_cons]; omega
 have ha := a3Q [wFile', itoaB f.fID, itoaB f.fOwner, if f.fShared then ⟨#[115]⟩ else ⟨#[111]⟩, itoaB f.fLink] h.a
 have ha : atS (wFile' :: jH f) 5 f.fAttrs.length = f.fAttrs ∧ _ := ha
 have e0 : part (wFile' :: jH f) 1 = itoaB f.fID := rfl
 have e1 : part (wFile' :: jH f) 2 = itoaB f.fOwner := rfl
 have e2 : part (wFile' :: jH f) 3 = if f.fShared then ⟨#[115]⟩ else ⟨#[111]⟩ := rfl
 have e3 : part (wFile' :: jH f) 4 = itoaB f.fLink := rfl
 unfold Go.Proofs.YtgpoopjfkplilaaGreatDoor.fileS
 rw [hd, ha.1, e0, e1, e2, e3, mW h.i.1 h.i.2 rfl, mW h.o.1 h.o.2 rfl, mW h.l.1 h.l.2 rfl, Fl.shared]
theorem b5k (x : TSnapshot) {f : TFile} (h : Fl f) : rdI x (kF f) = (dJ x f, true) := by
 rw [a2C (w := wFile' :: jH f) (by rw [a6H]; exact uT h.wd (by simp))]
 rw [if_neg (fun h => absurd h.1 (by rw [dU]; decide)), if_neg (fun h => absurd h.1 (by rw [dU]; decide)), if_pos (dU _ _), List.tail_cons, h.fileI]
theorem b5l (x : TSnapshot) {f : TFile} (h : Fl f) : rdS x (kF f) = dJ x f := by
 have hl := a0g f
 have hn := h.n
 rw [a0f (p := wFile' :: jH f) (by rw [a6H]; exact (a4f h.wd (by rw [List.length_cons]; omega) (by simp)).2)]
 rw [if_neg (by rw [dU]; decide), if_neg (by rw [dU]; decide), if_pos (dU _ _), h.fileS]
structure Dr (d : TDir) : Prop where
 n : aN d.fName 6 = true
 q : okQ d.fQuery = true
theorem Dr.cat {d : TDir} (h : Dr d) : drT d = cat 32 (wDir' :: d.fName :: jI d.fQuery) := by
 rw [fO _ (by simp), fO _ (a0N h.q), ← sO h.q]
 apply lU; simp [drT]
theorem Dr.wd {d : TDir} (h : Dr d) : ∀ w ∈ wDir' :: d.fName :: jI d.fQuery, wd w := by
 intro w hw
 simp only [List.mem_cons] at hw
 rcases hw with rfl | rfl | hw
 ·exact wdD
 ·exact a0L h.n
 ·exact a8k h.q w hw
theorem Dr.two {d : TDir} (h : Dr d) : 2 < (wDir' :: d.fName :: jI d.fQuery).length := by
 have := List.length_pos_iff.2 (a0N h.q)
 simp only [List.length_cons]; omega
theorem b2l (x : TSnapshot) {d : TDir} (h : Dr d) : rdI x (drT d) = (eF x ⟨d.fName, (pQI (qtx d.fQuery)).1⟩, (pQI (qtx d.fQuery)).2) := by
 rw [a2C (w := wDir' :: d.fName :: jI d.fQuery) (by rw [h.cat]; exact uT h.wd (by simp))]
 rw [if_neg (fun h => absurd h.1 (by rw [dU]; decide)), if_neg (fun h => absurd h.1 (by rw [dU]; decide)), if_neg (by rw [dU]; decide), if_pos ⟨rfl, h.two⟩]
 rw [List.drop_succ_cons, List.drop_succ_cons, List.drop_zero, ← sO h.q, lM, dU]
theorem b5m (x : TSnapshot) {d : TDir} (h : Dr d) : rdS x (drT d) = if sfO (drT d) then eF x ⟨d.fName, (pQS (qtx d.fQuery)).1⟩ else x := by
 have hf : flds (drT d) = wDir' :: d.fName :: jI d.fQuery := by rw [h.cat]; exact a1r _ fun w hw => b0N (h.wd w hw)
 by_cases ho : sfO (drT d) = true
 ·rw [if_pos ho, a0f (p := wDir' :: d.fName :: jI d.fQuery) (by unfold sfL; rw [if_pos ho, hf])]
  rw [if_neg (by rw [dU]; decide), if_neg (by rw [dU]; decide), if_neg (by rw [dU]; decide), if_pos (dU _ _), if_pos h.two]
  rw [List.drop_succ_cons, List.drop_succ_cons, List.drop_zero, ← sO h.q, lM, dU]
 ·rw [if_neg ho, a0f (p := []) (by unfold sfL; rw [if_neg ho])]
  rw [if_neg (by decide), if_neg (by decide), if_neg (by decide), if_neg (by decide)]
theorem Dr.few {d : TDir} (h : Dr d) (hl : (jI d.fQuery).length ≤ 19) : sfO (drT d) = true := by
 rw [h.cat]
 exact (a4f h.wd (by simp only [List.length_cons]; omega) (by simp)).1
theorem mV : ∀ (a b : List ByteArray) (x y : TSnapshot), bK x a = (y, true) → bK x (a ++ b) = bK y b
 | [], b, x, y, h => by cases h; rfl
 | l :: a, b, x, y, h => by
  unfold bK at h
  split at h
  ·rename_i hc
   rw [List.cons_append, bK, if_pos hc]
   exact mV a b _ y h
  ·cases h
theorem uU (a b : List ByteArray) (x : TSnapshot) : dY x (a ++ b) = dY (dY x a) b := by unfold dY; rw [List.foldl_append]
theorem a6I : ∀ (l : List TField) (x : TSnapshot), (∀ f ∈ l, aN f.fName 1 = true ∧ (f.fKind = 1 ∨ f.fKind = 2)) → bK x (l.map fdT) = (⟨⟨x.fStore.fSchema ++ l, x.fStore.fFiles, x.fStore.fNextID⟩, x.fDirs⟩, true) ∧ dY x (l.map fdT) = ⟨⟨x.fStore.fSchema ++ l, x.fStore.fFiles, x.fStore.fNextID⟩, x.fDirs⟩
 | [], x, _ => by simp [bK, dY]
 | f :: l, x, h => by
  obtain ⟨h1, h2⟩ := h f (by simp)
  obtain ⟨i1, i2⟩ := a6I l (bJ x f) (fun g hg => h g (by simp [hg]))
  refine ⟨?_, ?_⟩
  ·rw [List.map_cons, bK, b5g x h1 h2, if_pos rfl, i1]
   simp [bJ]
  ·show dY (rdS x (fdT f)) (l.map fdT) = _
   rw [b5h x h1 h2, i2]
   simp [bJ]
theorem a6J : ∀ (l : List TFile) (x : TSnapshot), (∀ f ∈ l, Fl f) → bK x (l.map kF) = (⟨⟨x.fStore.fSchema, x.fStore.fFiles ++ l, x.fStore.fNextID⟩, x.fDirs⟩, true) ∧ dY x (l.map kF) = ⟨⟨x.fStore.fSchema, x.fStore.fFiles ++ l, x.fStore.fNextID⟩, x.fDirs⟩
 | [], x, _ => by simp [bK, dY]
 | f :: l, x, h => by
  have h1 := h f (by simp)
  obtain ⟨i1, i2⟩ := a6J l (dJ x f) (fun g hg => h g (by simp [hg]))
  refine ⟨?_, ?_⟩
  ·rw [List.map_cons, bK, b5k x h1, if_pos rfl, i1]
   simp [dJ]
  ·show dY (rdS x (kF f)) (l.map kF) = _
   rw [b5l x h1, i2]
   simp [dJ]
noncomputable def dI (d : TDir) : TDir := ⟨d.fName, (pQI (qtx d.fQuery)).1⟩
noncomputable def dS (d : TDir) : Option TDir := if sfO (drT d) then some ⟨d.fName, (pQS (qtx d.fQuery)).1⟩ else none
theorem a6K : ∀ (l : List TDir) (x : TSnapshot), (∀ d ∈ l, Dr d) → (bK x (l.map drT)).2 = true → (bK x (l.map drT)).1 = ⟨x.fStore, x.fDirs ++ l.map dI⟩ ∧ ∀ d ∈ l, (pQI (qtx d.fQuery)).2 = true
 | [], x, _, _ => by simp [bK]
 | d :: l, x, h, hc => by
  have h1 := b2l x (h d (by simp))
  rw [List.map_cons, bK, h1] at hc ⊢
  split at hc
  ·rename_i hq
   obtain ⟨i1, i2⟩ := a6K l _ (fun g hg => h g (by simp [hg])) hc
   rw [if_pos hq, i1]
   refine ⟨by simp [eF, dI], fun g hg => ?_⟩
   rcases List.mem_cons.1 hg with rfl | hg
   ·exact hq
   ·exact i2 g hg
  ·cases hc
theorem a3R : ∀ (l : List TDir) (x : TSnapshot), (∀ d ∈ l, Dr d) → (∀ d ∈ l, pQI (qtx d.fQuery) = (d.fQuery, true)) → bK x (l.map drT) = (⟨x.fStore, x.fDirs ++ l⟩, true)
 | [], x, _, _ => by simp [bK]
 | d :: l, x, h, hq => by
  have h1 := b2l x (h d (by simp))
  rw [List.map_cons, bK, h1, hq d (by simp), if_pos rfl, a3R l _ (fun g hg => h g (by simp [hg])) (fun g hg => hq g (by simp [hg]))]
  simp [eF]
theorem a2u : ∀ (l : List TDir) (x : TSnapshot), (∀ d ∈ l, Dr d) → dY x (l.map drT) = ⟨x.fStore, x.fDirs ++ l.filterMap dS⟩
 | [], x, _ => by simp [dY]
 | d :: l, x, h => by
  show dY (rdS x (drT d)) (l.map drT) = _
  rw [b5m x (h d (by simp)), a2u l _ (fun g hg => h g (by simp [hg]))]
  by_cases ho : sfO (drT d) = true
  ·rw [if_pos ho, List.filterMap_cons_some (b := ⟨d.fName, (pQS (qtx d.fQuery)).1⟩) (by unfold dS; rw [if_pos ho])]
   simp [eF]
  ·rw [if_neg ho, List.filterMap_cons_none (by unfold dS; rw [if_neg ho])]
theorem a6L {α : Type} {g : α → Option α} : ∀ {l : List α}, l.filterMap g = l → ∀ d ∈ l, g d = some d
 | [], _, d, hd => by cases hd
 | a :: l, h, d, hd => by
  cases ha : g a with
  | none =>
   rw [List.filterMap_cons_none ha] at h
   have := List.length_filterMap_le g l
   rw [h, List.length_cons] at this
   omega
  | some b =>
   rw [List.filterMap_cons_some ha] at h
   obtain ⟨e, h⟩ := List.cons.inj h
   rcases List.mem_cons.1 hd with rfl | hd
   ·rw [ha, e]
   ·exact a6L h d hd
theorem a3S {α : Type} {g : α → Option α} : ∀ {l : List α}, (∀ d ∈ l, g d = some d) → l.filterMap g = l
 | [], _ => rfl
 | a :: l, h => by rw [List.filterMap_cons_some (h a (by simp)), a3S (fun d hd => h d (by simp [hd]))]
theorem a9j {α : Type} {g : α → α} : ∀ {l : List α}, l.map g = l → ∀ d ∈ l, g d = d
 | [], _, d, hd => by cases hd
 | a :: l, h, d, hd => by
  rw [List.map_cons] at h
  obtain ⟨h1, h2⟩ := List.cons.inj h
  rcases List.mem_cons.1 hd with rfl | hd
  ·exact h1
  ·exact a9j h2 d hd
theorem b4e {x : TSnapshot} (hx : eX x = true) : ∀ d ∈ x.fDirs, Dr d := fun d hd => by
 obtain ⟨a, b⟩ := a2w (rX hx).2 hd
 exact ⟨a, b⟩
theorem rP {x : TSnapshot} (hx : eX x = true) (b : List ByteArray) : bK x0 (lnC x ++ b) = bK ⟨x.fStore, []⟩ b ∧ dY x0 (lnC x ++ b) = dY ⟨x.fStore, []⟩ b := by
 obtain ⟨h1, _⟩ := rX hx
 obtain ⟨hs, hn⟩ := uG h1
 obtain ⟨a1, a2⟩ := a6I x.fStore.fSchema x0 (fun f hf => rQ hs hf)
 obtain ⟨c1, c2⟩ := a6J x.fStore.fFiles ⟨⟨x.fStore.fSchema, [], x.fStore.fNextID⟩, []⟩ (fun f hf => Fl.of (yX h1 hf))
 have n1 := b5i ⟨⟨x.fStore.fSchema, [], 0⟩, []⟩ (n := x.fStore.fNextID) (by omega) (by omega)
 have n2 := b5j ⟨⟨x.fStore.fSchema, [], 0⟩, []⟩ (n := x.fStore.fNextID) (by omega) (by omega)
 have n1 : bK ⟨⟨x.fStore.fSchema, [], 0⟩, []⟩ [nxT x.fStore.fNextID] = (⟨⟨x.fStore.fSchema, [], x.fStore.fNextID⟩, []⟩, true) := by
  rw [bK, n1, if_pos rfl]; rfl
 have n2 : dY ⟨⟨x.fStore.fSchema, [], 0⟩, []⟩ [nxT x.fStore.fNextID] = ⟨⟨x.fStore.fSchema, [], x.fStore.fNextID⟩, []⟩ := n2
 have a1 : bK x0 (lnA x) = (⟨⟨x.fStore.fSchema, [], 0⟩, []⟩, true) := a1
 have a2 : dY x0 (lnA x) = ⟨⟨x.fStore.fSchema, [], 0⟩, []⟩ := a2
 unfold lnC lnB
 simp only [List.append_assoc]
 refine ⟨?_, ?_⟩
 ·rw [mV _ _ _ _ a1, mV _ _ _ _ n1, mV _ _ _ _ c1]; rfl
 ·rw [uU, a2, uU, n2, uU, c2]; rfl
theorem b2m {x : TSnapshot} (hx : eX x = true) : lnX x = lnC x ++ x.fDirs.map drT := by unfold lnX; rw [if_pos hx]
theorem b2n {x : TSnapshot} (hx : eX x = true) (h : bK x0 (lnX x) = (x, true)) : dY x0 (lnX x) = x := by
 rw [b2m hx] at h ⊢
 rw [(rP hx _).1] at h
 rw [(rP hx _).2]
 have hd := b4e hx
 obtain ⟨i1, i2⟩ := a6K x.fDirs _ hd (by rw [h])
 rw [h] at i1
 have e : x.fDirs.map dI = x.fDirs := by
  have := congrArg TSnapshot.fDirs i1
  simpa using this.symm
 have hq : ∀ d ∈ x.fDirs, pQI (qtx d.fQuery) = (d.fQuery, true) := fun d hm => Prod.ext (congrArg TDir.fQuery (a9j e d hm)) (i2 d hm)
 rw [a2u _ _ hd]
 have hf : x.fDirs.filterMap dS = x.fDirs := by
  have : ∀ d ∈ x.fDirs, dS d = some d := fun d hm => by
   have q := hq d hm
   have hd' := hd d hm
   unfold dS
   rw [if_pos (hd'.few (b4k hd'.q q)), (a8l hd'.q).1 q]
  exact a3S this
 rw [hf]
 rfl
theorem b2o {x : TSnapshot} (hx : eX x = true) (h : dY x0 (lnX x) = x) : bK x0 (lnX x) = (x, true) := by
 rw [b2m hx] at h ⊢
 rw [(rP hx _).2] at h
 rw [(rP hx _).1]
 have hd := b4e hx
 rw [a2u _ _ hd] at h
 have e : x.fDirs.filterMap dS = x.fDirs := by
  have := congrArg TSnapshot.fDirs h
  simpa using this
 rw [a3R _ _ hd]
 ·rfl
 intro d hm
 have h1 := a6L e d hm
 have hd' := hd d hm
 unfold dS at h1
 split at h1
 ·have h2 : (pQS (qtx d.fQuery)).1 = d.fQuery := congrArg TDir.fQuery (Option.some.inj h1)
  refine (a8l hd'.q).2 (Prod.ext h2 ?_)
  have hl := fJ hd'.q
  show (pQS (qtx d.fQuery)).2 = true
  cases hb : (pQS (qtx d.fQuery)).2 with
  | true => rfl
  | false =>
   exfalso
   have : (pQS (qtx d.fQuery)).1 = [] := by
    unfold pQS at hb ⊢
    simp only at hb ⊢
    split at hb
    ·cases hb
    ·rename_i hc; rw [if_neg hc]
   rw [this] at h2
   rw [← h2] at hl
   simp at hl
 ·cases h1
theorem b3H (ls : List ByteArray) : dcI ls = dcS ls := by
 by_cases h : (bK x0 ls).2 = true ∧ eX (bK x0 ls).1 = true ∧ lnX (bK x0 ls).1 = ls
 ·obtain ⟨h1, h2, h3⟩ := h
  have hf : bK x0 ls = ((bK x0 ls).1, true) := Prod.ext rfl h1
  have hs : dY x0 ls = (bK x0 ls).1 := by
   generalize (bK x0 ls).1 = x at *
   subst h3
   exact b2n h2 hf
  unfold dcI dcS
  rw [hs, h1, h2, decide_eq_true h3]
  rfl
 ·by_cases h' : eX (dY x0 ls) = true ∧ lnX (dY x0 ls) = ls
  ·exfalso
   obtain ⟨h2, h3⟩ := h'
   apply h
   have : bK x0 ls = (dY x0 ls, true) := by
    have hf : dY x0 ls = dY x0 ls := rfl
    generalize hx : dY x0 ls = x at *
    subst h3
    exact b2o h2 hx
   rw [this]
   exact ⟨rfl, h2, h3⟩
  ·have n1 : ¬ ((bK x0 ls).2 && (eX (bK x0 ls).1 && decide (lnX (bK x0 ls).1 = ls))) = true := by
    simpa only [Bool.and_eq_true, decide_eq_true_eq] using h
   have n2 : ¬ (eX (dY x0 ls) && decide (lnX (dY x0 ls) = ls)) = true := by
    simpa only [Bool.and_eq_true, decide_eq_true_eq] using h'
   unfold dcI dcS
   rw [if_neg n1, if_neg n2]
theorem b5n {ls : List ByteArray} (h : (dcI ls).2 = true) (hz : zs ls ≤ 1048576) : SmX (dcI ls).1 := by
 unfold dcI at h ⊢
 split at h
 ·rename_i hc
  rw [if_pos hc]
  simp only [Bool.and_eq_true, decide_eq_true_eq] at hc
  have := a5n ls x0 hc.1
  rw [b3I] at this
  exact a0h hc.2.1 (by show aR (bK x0 ls).1 ≤ _; omega)
 ·cases h
end Go.Proofs.YtgpoopjfkplilaaGreatDoor
end
section
set_option maxRecDepth 100000
set_option maxHeartbeats 4000000
namespace Go.Proofs.YtgpoopjfkplilaaGreatDoor
open Go Go.Sx Go.Wd Go.RowKit Go.Proofs
def eqZ {α : Type} (p : α → α → Bool) : List α → List α → Bool
 | [], [] => true
 | x :: xs, y :: ys => p x y && eqZ p xs ys
 | _, _ => false
theorem a5k {α : Type} (p : α → α → Bool) : ∀ {a b : List α}, a.length ≠ b.length → eqZ p a b = false
 | [], [], h => absurd rfl h
 | x :: xs, y :: ys, h => by
  have := a5k p (a := xs) (b := ys) (by simpa using h)
  simp [eqZ, this]
 | [], y :: ys, _ => rfl
 | x :: xs, [], _ => rfl
def yV (a b : ByteArray) : Bool := decide (a = b)
theorem a8g : ∀ a b : List ByteArray, eqZ yV a b = decide (a = b)
 | [], [] => by simp [eqZ]
 | x :: xs, y :: ys => by
  rw [eqZ, a8g xs ys]
  simp only [yV, List.cons.injEq, Bool.decide_and]
 | [], y :: ys => by simp [eqZ]
 | x :: xs, [] => by simp [eqZ]
theorem a2S (a b : List ByteArray) (ha : a.length ≤ 4300000) : FnC Tryz.prog 53 [.o (.d (.sl (a.map bD))), .o (.d (.sl (b.map bD)))] (ob (eqZ yV a b)) := by
 have hal : a.length ≤ 4300000 := by omega
 refine ent Tryz.func53 rfl Tryz.call53 rfl (fun C => ?_); simp only [go_sem, st0, Tryz.ntmps53]
 refine aJ ?_
 refine cnd rfl (fun h0 => ?_) (fun h0 => ?_)
 ·have e : eqZ yV a b = false := a5k _ (by simp only [Bool.not_eq_true', decide_eq_false_iff_not] at h0; omega)
  refine aJ ?_
  exact aA ⟨⟨_, rfl, by simp only [go_sem, e]⟩, trivial⟩
 have h0 : a.length = b.length := by simpa [Int.ofNat_inj] using h0
 refine aJ ?_
 refine bE (α := Nat) (fun k => [(13, oi k)]) (fun _ => []) (fun k => k ≤ a.length ∧ eqZ yV a b = eqZ yV (a.drop k) (b.drop k)) (fun k => a.length - k) 0 (fun _ => ?_) ?_ ?_ (fun k hk => ?_)
 ·simp only [go_sem]
 ·simp only [go_sem]; simp
 ·simp
 ·obtain ⟨hk, hq⟩ := hk
  simp only [go_sem]
  refine aJ ?_
  refine cnd rfl (fun h => ?_) (fun h => ?_)
  ·simp only [decide_eq_true_eq, Int.ofNat_lt] at h
   have hb : k < b.length := by omega
   rw [List.drop_eq_getElem_cons h, List.drop_eq_getElem_cons hb, eqZ] at hq
   have q0 := @h; have q1 := @hb; refine jN ?_
   refine cnd (b := !(yV a[k] b[k])) (by simp [yV]; try rfl) (fun h2 => ?_) (fun h2 => ?_)
   ·simp only [Bool.not_eq_true'] at h2
    rw [h2, Bool.false_and] at hq
    refine aJ ?_
    exact aA ⟨⟨_, rfl, by simp only [go_sem, hq]⟩, trivial⟩
   ·simp only [Bool.not_eq_false'] at h2
    rw [h2, Bool.true_and] at hq
    refine aJ ?_
    refine aH (k + 1) ?_ ?_ ?_
    ·simp only [go_sem]; simp
    ·exact ⟨h, hq⟩
    ·omega
  ·simp only [decide_eq_false_iff_not] at h
   have e : k = a.length := by omega
   subst e
   rw [List.drop_length, List.drop_of_length_le (by omega), eqZ] at hq
   refine aJ ?_
   exact aA ⟨⟨_, rfl, by simp only [go_sem, hq]⟩, trivial⟩
theorem a2T (a b : List ByteArray) (ha : a.length ≤ 4300000) : FnC Tryz.prog 57 [.o (.d (.sl (a.map bD))), .o (.d (.sl (b.map bD)))] (ob (eqZ yV a b)) := by
 have hal : a.length ≤ 4300000 := by omega
 refine ent Tryz.func57 rfl Tryz.call57 rfl (fun C => ?_); simp only [go_sem, st0, Tryz.ntmps57]
 refine aJ ?_
 refine cnd rfl (fun h0 => ?_) (fun h0 => ?_)
 ·have e : eqZ yV a b = false := a5k _ (by simp only [Bool.not_eq_true', decide_eq_false_iff_not] at h0; omega)
  refine aJ ?_
  exact aA ⟨⟨_, rfl, by simp only [go_sem, e]⟩, trivial⟩
 have h0 : a.length = b.length := by simpa [Int.ofNat_inj] using h0
 refine aJ ?_
 refine bE (α := Nat) (fun k => [(5, oi k)]) (fun _ => []) (fun k => k ≤ a.length ∧ eqZ yV a b = eqZ yV (a.drop k) (b.drop k)) (fun k => a.length - k) 0 (fun _ => ?_) ?_ ?_ (fun k hk => ?_)
 ·simp only [go_sem]
 ·simp only [go_sem]; simp
 ·simp
 ·obtain ⟨hk, hq⟩ := hk
  simp only [go_sem]
  refine aJ ?_
  refine cnd rfl (fun h => ?_) (fun h => ?_)
  ·simp only [decide_eq_true_eq, Int.ofNat_lt] at h
   have hb : k < b.length := by omega
   rw [List.drop_eq_getElem_cons h, List.drop_eq_getElem_cons hb, eqZ] at hq
   have q0 := @h; have q1 := @hb; refine jN ?_
   refine cnd (b := !(yV a[k] b[k])) (by simp [yV]; try rfl) (fun h2 => ?_) (fun h2 => ?_)
   ·simp only [Bool.not_eq_true'] at h2
    rw [h2, Bool.false_and] at hq
    refine aJ ?_
    exact aA ⟨⟨_, rfl, by simp only [go_sem, hq]⟩, trivial⟩
   ·simp only [Bool.not_eq_false'] at h2
    rw [h2, Bool.true_and] at hq
    refine aJ ?_
    refine aH (k + 1) ?_ ?_ ?_
    ·simp only [go_sem]; simp
    ·exact ⟨h, hq⟩
    ·omega
  ·simp only [decide_eq_false_iff_not] at h
   have e : k = a.length := by omega
   subst e
   rw [List.drop_length, List.drop_of_length_le (by omega), eqZ] at hq
   refine aJ ?_
   exact aA ⟨⟨_, rfl, by simp only [go_sem, hq]⟩, trivial⟩
theorem a5l (a b : List ByteArray) (ha : a.length ≤ 4300000) : FnC Tryz.prog 53 [.o (.d (.sl (a.map bD))), .o (.d (.sl (b.map bD)))] (ob (decide (a = b))) := by
 have := a2S a b ha
 rw [a8g] at this; exact this
theorem a5m (a b : List ByteArray) (ha : a.length ≤ 4300000) : FnC Tryz.prog 57 [.o (.d (.sl (a.map bD))), .o (.d (.sl (b.map bD)))] (ob (decide (a = b))) := by
 have := a2T a b ha
 rw [a8g] at this; exact this
theorem a2t (x : TSnapshot) : (lnX x).length ≤ aR x + 1 := by
 unfold lnX
 split
 ·unfold lnC lnB lnA aR fV bA jU iT
  simp only [List.length_append, List.length_map, List.length_cons, List.length_nil]
  omega
 ·simp
theorem b0C {a b : List ByteArray} {l : ByteArray} {x y : TSnapshot} (h : bK x a = (y, true)) (hl : (rdI y l).2 = false) : (bK x (a ++ l :: b)).2 = false := by
 rw [mV a _ x y h, bK, hl]; rfl
noncomputable abbrev rDX (r : TSnapshot × Bool) : SV := .t [(true, [.w 81 2 (r.1.fStore.fSchema.map bF), .w 86 5 (r.1.fStore.fFiles.map dE), .d (iv r.1.fStore.fNextID), .w 90 2 (r.1.fDirs.map dG)]), (false, [.d (bv r.2)])]
theorem a8h (ls : List ByteArray) (hz : zs ls ≤ 1048576) : FnC Tryz.prog 22 [.o (.d (.sl (ls.map bD)))] (rDX (dcI ls)) := by
 refine ent Tryz.func22 rfl Tryz.call22 rfl (fun C => ?_); simp only [go_sem, st0, Tryz.ntmps22]
 have hzl := wD ls
 have q0 := @bI; refine oV ?_
 refine nW 1 0 81 2 rfl rfl ?_
 simp only [go_sem]
 refine nW 1 1 86 5 rfl rfl ?_
 simp only [go_sem]
 refine nW 1 3 90 2 rfl rfl ?_
 simp only [go_sem]
 refine b4f [(0,1),(1,2),(2,3),(3,4)] rfl ?_
 simp only [go_sem]
 refine bE (α := Nat) (fun k => [(10, oi k), (6, .o .u)]) (fun k => [(0, .box 31 [.s 1, .s 2, .d (iv (bK x0 (ls.take k)).1.fStore.fNextID), .s 3]), (1, .row 81 2 ((bK x0 (ls.take k)).1.fStore.fSchema.map bF) true), (2, .row 86 5 ((bK x0 (ls.take k)).1.fStore.fFiles.map dE) true), (3, .row 90 2 ((bK x0 (ls.take k)).1.fDirs.map dG) true)]) (fun k => k ≤ ls.length ∧ (bK x0 (ls.take k)).2 = true) (fun k => ls.length - k) 0 (fun _ => ?_) ?_ ?_ (fun k hk => ?_)
 ·simp only [go_sem]
 ·simp only [go_sem]; simp [bK, x0]
 ·simp [bK]
 obtain ⟨hk, hq⟩ := hk
 have hf : bK x0 (ls.take k) = ((bK x0 (ls.take k)).1, true) := Prod.ext rfl hq
 have hw := a5n (ls.take k) x0 hq
 rw [b3I] at hw
 have hzt : zs (ls.take k) ≤ zs ls := by have := a1q (ls.take k) (ls.drop k); rw [List.take_append_drop] at this; omega
 simp only [go_sem]
 generalize hX : (bK x0 (ls.take k)).1 = x at *
 have q0 := @bI; refine oV ?_
 refine cnd rfl (fun h => ?_) (fun h => ?_)
 ·simp only [decide_eq_true_eq, Int.ofNat_lt] at h
  have hsz := zJ (List.getElem_mem h)
  have hw' := hw
  unfold aR fV bA jU iT at hw'
  have cr := a6S x ls[k] (by omega) (by omega) (by omega) (by omega)
  have hnx : ls.take (k + 1) = ls.take k ++ [ls[k]] := List.take_succ_eq_append_getElem h
  have hsp : ls = ls.take k ++ ls[k] :: ls.drop (k + 1) := by rw [← List.drop_eq_getElem_cons h, List.take_append_drop]
  cases hr : (rdI x ls[k]).2
  ·have hb : (bK x0 ls).2 = false := by rw [hsp]; exact b0C hf hr
   have e : dcI ls = (x0, false) := by unfold dcI; rw [hb]; rfl
   rw [hr] at cr
   have q0 := @h; have q1 := @bI; refine jN ?_
   refine iK cr _ rfl rfl rfl ?_
   rintro ⟨⟩ _
   simp only [go_sem]
   have q0 := @Bool.not_false; refine oV ?_
   exact aA ⟨⟨_, rfl, by simp only [go_sem, e, x0]⟩, by simp [aM]⟩
  ·have hnf : bK x0 (ls.take (k + 1)) = ((rdI x ls[k]).1, true) := by
    rw [hnx, mV _ _ _ _ hf, bK, hr, if_pos rfl]; rfl
   rw [hr] at cr
   generalize rdI x ls[k] = y at *
   have hy : (bK x0 (ls.take (k + 1))).1 = y.1 := by rw [hnf]
   have q0 := @h; have q1 := @bI; refine jN ?_
   refine iK cr _ rfl rfl rfl ?_
   rintro ⟨⟩ _
   simp only [go_sem]
   have q0 := @Bool.not_true; refine oV ?_
   refine aH (k + 1) ?_ ?_ ?_
   ·simp only [go_sem, hy]; simp
   ·exact ⟨h, by rw [hnf]⟩
   ·omega
 ·simp only [decide_eq_false_iff_not, Int.ofNat_lt] at h
  have ek : k = ls.length := by omega
  subst ek
  rw [List.take_length] at hf hX
  have cv := tY x (by omega)
  have hd : dcI ls = if eX x && decide (lnX x = ls) then (x, true) else (x0, false) := by unfold dcI; rw [hf, Bool.true_and]
  cases ho : eX x
  ·have e : dcI ls = (x0, false) := by rw [hd, ho]; rfl
   rw [ho] at cv
   have qH := @Bool.not_false; repeat' (with_reducible first | refine nY ?_ | (refine mX ?_; try simp only [go_sem, qH]) | refine kD ?_ | refine rD ?_ | refine vL cv ?_ | refine aO ?_ | fail)
   exact aA ⟨⟨_, rfl, by simp only [go_sem, e, x0]⟩, by simp [aM]⟩
  ·have hx := a0h ho (by omega)
   have ce := a7c x hx
   have hln := a2t x
   have ct := a5l (lnX x) ls (by omega)
   rw [ho] at cv
   cases hq2 : decide (lnX x = ls)
   ·have e : dcI ls = (x0, false) := by rw [hd, ho, hq2]; rfl
    rw [hq2] at ct
    generalize lnX x = lx at *
    have qH := aI @Bool.not_false @Bool.not_true; repeat' (with_reducible first | refine nY ?_ | (refine mX ?_; try simp only [go_sem, qH]) | refine kD ?_ | refine rD ?_ | refine vL cv ?_ | refine vL ce ?_ | refine vL ct ?_ | refine aO ?_ | fail)
    exact aA ⟨⟨_, rfl, by simp only [go_sem, e, x0]⟩, by simp [aM]⟩
   ·have e : dcI ls = (x, true) := by rw [hd, ho, hq2]; rfl
    rw [hq2] at ct
    generalize lnX x = lx at *
    have qH := aI @Bool.not_false @Bool.not_true; repeat' (with_reducible first | refine nY ?_ | (refine mX ?_; try simp only [go_sem, qH]) | refine kD ?_ | refine rD ?_ | refine vL cv ?_ | refine vL ce ?_ | refine vL ct ?_ | refine aO ?_ | fail)
    exact aA ⟨⟨_, rfl, by simp only [go_sem, e]⟩, by simp [aM]⟩
theorem a0e (p : List ByteArray) (i : Nat) (hi : i ≤ 4000000) : FnC Tryz.prog 102 [.o (.d (.sl (p.map bD))), oi i] (oi (pU (part p i)).1) := by
 refine ent Tryz.func102 rfl Tryz.call102 rfl (fun C => ?_); simp only [go_sem, st0, Tryz.ntmps102]
 have c := eG p i (by omega)
 have u := qI (part p i)
 refine b4O c u ?_
 exact aA ⟨⟨_, rfl, by simp only [go_sem]⟩, trivial⟩
@[go_sem] def hsS (x : TSnapshot) : List HB := [.row 81 2 (x.fStore.fSchema.map bF) true, .row 86 5 (x.fStore.fFiles.map dE) true, .row 90 2 (x.fDirs.map dG) true]
theorem a8f (x : TSnapshot) (l : ByteArray) (hs : l.size ≤ 2000000) (b1 : x.fStore.fSchema.length ≤ 2000000) (b2 : x.fStore.fFiles.length ≤ 2000000) (b3 : x.fDirs.length ≤ 2000000) :
    FnZ Tryz.prog 56 false (hsS x) [.g [.s 0, .s 1, .d (iv x.fStore.fNextID), .s 2], os l] (fun _ : Unit => True) (fun _ => hsS (rdS x l)) (fun _ => .g [.s 0, .s 1, .d (iv (rdS x l).fStore.fNextID), .s 2]) := by
 refine b2B Tryz.func56 rfl Tryz.call56 rfl (fun _ => rfl) (fun h => by cases h) (fun C b => ?_)
 simp only [go_sem, Tryz.ntmps56]
 have cs := uH l (by omega)
 have hlen := a0M l
 have hzm : ∀ w ∈ sfL l, w.size ≤ 600 := fun w hw => a5p hw
 have hmu := a0f (x := x) (l := l) rfl
 generalize sfO l = so at *
 generalize sfL l = p at *
 have hps : ∀ i, (part p i).size ≤ 600 := a4b hzm
 have c0 : FnC Tryz.prog 101 [.o (.d (.sl (p.map bD))), oi 0] (os (part p 0)) := eG p 0 (by omega)
 have c1 : FnC Tryz.prog 101 [.o (.d (.sl (p.map bD))), oi 1] (os (part p 1)) := eG p 1 (by omega)
 have c2 : FnC Tryz.prog 101 [.o (.d (.sl (p.map bD))), oi 2] (os (part p 2)) := eG p 2 (by omega)
 have c3 : FnC Tryz.prog 101 [.o (.d (.sl (p.map bD))), oi 3] (os (part p 3)) := eG p 3 (by omega)
 have n1 : FnC Tryz.prog 102 [.o (.d (.sl (p.map bD))), oi 1] (oi (pU (part p 1)).1) := a0e p 1 (by omega)
 have n2 : FnC Tryz.prog 102 [.o (.d (.sl (p.map bD))), oi 2] (oi (pU (part p 2)).1) := a0e p 2 (by omega)
 have n4 : FnC Tryz.prog 102 [.o (.d (.sl (p.map bD))), oi 4] (oi (pU (part p 4)).1) := a0e p 4 (by omega)
 by_cases hF : part p 0 = iF
 ·have dF : decide (part p 0 = iF) = true := by simp [hF]
  have g1 : x.fStore.fSchema.length + 1 ≤ 140737488355328 := by omega
  rw [if_pos hF] at hmu
  clear hF
  by_cases hS : part p 2 = vY
  ·have dS : decide (part p 2 = vY) = true := by simp [hS]
   have hm : rdS x l = bJ x ⟨part p 1, 1⟩ := by rw [hmu, if_pos hS]
   clear hS
   have q0 := @dF; have q1 := @dS; have q2 := @g1; have q3 := @bI; refine b1D cs c0 c1 c2 ?_
   exact aQ () trivial (by simp only [go_sem, hm] <;> rfl) (by simp [aM]) (by simp only [go_sem, hm, bJ, dJ, eF, dZ, List.map_append]; simp) rfl rfl
  ·have dS : decide (part p 2 = vY) = false := by simp [hS]
   have hm : rdS x l = bJ x ⟨part p 1, 2⟩ := by rw [hmu, if_neg hS]
   clear hS
   have q0 := @dF; have q1 := @dS; have q2 := @g1; have q3 := @bI; refine b1D cs c0 c1 c2 ?_
   exact aQ () trivial (by simp only [go_sem, hm] <;> rfl) (by simp [aM]) (by simp only [go_sem, hm, bJ, dJ, eF, dZ, List.map_append]; simp) rfl rfl
 have dF : decide (part p 0 = iF) = false := by simp [hF]
 rw [if_neg hF] at hmu
 clear hF
 by_cases hN : part p 0 = iY
 ·have dN : decide (part p 0 = iY) = true := by simp [hN]
  rw [if_pos hN] at hmu
  have hm := hmu
  clear hN
  have q0 := @dF; have q1 := @dN; have q2 := @bI; refine b6X cs c0 n1 ?_
  exact aQ () trivial (by simp only [go_sem, hm] <;> rfl) (by simp [aM]) (by simp only [go_sem, hm, bJ, dJ, eF, dZ, List.map_append]; simp) rfl rfl
 have dN : decide (part p 0 = iY) = false := by simp [hN]
 rw [if_neg hN] at hmu
 clear hN
 by_cases hI : part p 0 = wFile'
 ·have dI : decide (part p 0 = wFile') = true := by simp [hI]
  have l0 : 0 < p.length := yZ (by rw [hI]; decide)
  rw [if_pos hI] at hmu
  have hm := hmu
  clear hI
  have g1 : x.fStore.fFiles.length + 1 ≤ 140737488355328 := by omega
  have q0 := @dF; have q1 := @dN; have q2 := @dI; have q3 := @bI; refine b6Y cs c0 n1 n2 c3 n4 ?_
  refine nW 5 4 124 4 rfl rfl ?_
  simp only [go_sem]
  refine bE (α := Nat) (fun k => [(9, oi ((5 + 2 * k : Nat) : Int)), (10, .o .u), (11, .o .u)]) (fun k => [(6, .row 124 4 ((atS p 5 k).map fE) true)]) (fun k => k ≤ (p.length - 4) / 2) (fun k => (p.length - 4) / 2 - k) 0 (fun _ => ?_) ?_ ?_ (fun k hk => ?_)
  ·simp only [go_sem]
  ·simp only [go_sem]; simp [atS]
  ·omega
  simp only [go_sem]
  have q0 := @bI; refine oV ?_
  refine cnd rfl (fun h => ?_) (fun h => ?_)
  ·simp only [decide_eq_true_eq] at h
   have m0 : 5 + 2 * k < p.length := by omega
   have ec : (((5 + 2 * k : Nat) : Int) + 1) = ((5 + 2 * k + 1 : Nat) : Int) := by omega
   have ec2 : (((5 + 2 * k : Nat) : Int) + 2) = ((5 + 2 * (k + 1) : Nat) : Int) := by omega
   have hin : inR .i64 ((5 + 2 * (k + 1) : Nat) : Int) := by unfold inR; simp only; omega
   have ck : FnC Tryz.prog 101 [.o (.d (.sl (p.map bD))), oi (((5 + 2 * k : Nat) : Int) + 1)] (os (part p (5 + 2 * k + 1))) := by rw [ec]; exact eG p (5 + 2 * k + 1) (by omega)
   have cv := kR (part p (5 + 2 * k + 1)) (by have := hps (5 + 2 * k + 1); omega)
   have hn := a2y p 5 k
   rw [fZ m0] at hn
   have hlen2 := a5o p 5 k
   have g2 : (atS p 5 k).length + 1 ≤ 140737488355328 := by omega
   have hpw := b3T (part p (5 + 2 * k + 1))
   generalize hP : pV (part p (5 + 2 * k + 1)) = pv at *
   obtain ⟨pv1, pv2⟩ := pv
   have qH := aI @m0 (aI @g2 (aI @hP (aI @ec2 (aI @hin @bI)))); repeat' (with_reducible first | refine nY ?_ | (refine mX ?_; try simp only [go_sem, qH]) | refine kD ?_ | (apply rE [8,9,11] [] [0,1,2,3,4,5,6,7] [0,1,2,3,4,5,6,7] ((.c 8 [] [0,1] (.c 9 [10] [10] (.c 11 [] [] .n .n) .n) .n)) (by simp only [go_sem]; rfl) (by simp only [go_sem]; rfl) (by simp only [go_sem]; rfl) (by decide +kernel); (focus simp only [go_sem]; done)) | exact dR | refine bV (uX ?_) ?_ | refine bW (aX ?_) ?_ | refine bX (aX ?_) ?_ | exact bU | exact oH | exact uB | refine rD ?_ | refine cP ck ?_ | refine cP cv ?_ | refine aO ?_ | fail)
   refine aH (k + 1) ?_ ?_ ?_
   ·simp only [go_sem, hn, List.map_append]; simp
   ·omega
   ·omega
  ·simp only [decide_eq_false_iff_not] at h
   have ek : k = (p.length - 4) / 2 := by omega
   subst ek
   have hfs : fileS p = ⟨(pU (part p 1)).1, (pU (part p 2)).1, decide (part p 3 = ⟨#[115]⟩), (pU (part p 4)).1, atS p 5 ((p.length - 4) / 2)⟩ := rfl
   rw [hfs] at hm
   generalize atS p 5 ((p.length - 4) / 2) = al at *
   have q0 := @g1; have q1 := @bI; refine jN ?_
   exact aQ () trivial (by simp only [go_sem, hm] <;> rfl) (by simp [aM]) (by simp only [go_sem, hm, bJ, dJ, eF, dZ, List.map_append]; simp) rfl rfl
 have dI : decide (part p 0 = wFile') = false := by simp [hI]
 rw [if_neg hI] at hmu
 clear hI
 by_cases hD : part p 0 = wDir'
 ·have dD : decide (part p 0 = wDir') = true := by simp [hD]
  rw [if_pos hD] at hmu
  clear hD
  have g1 : x.fDirs.length + 1 ≤ 140737488355328 := by omega
  by_cases h2 : 2 < p.length
  ·have d2 : decide ((2 : Int) < ((p.length : Nat) : Int)) = true := by rw [decide_eq_true_iff]; omega
   have sb : (2 : Int) ≤ ((p.length : Nat) : Int) := by omega
   have hm : rdS x l = eF x ⟨part p 1, (pQS (cat 32 (p.drop 2))).1⟩ := by rw [hmu, if_pos h2]
   have hzd : zs (p.drop 2) ≤ zs p := by have := a1q (p.take 2) (p.drop 2); rw [List.take_append_drop] at this; omega
   have cj := a2z (p.drop 2) (by omega)
   have hcs := a8i (p.drop 2)
   have cq := zG (cat 32 (p.drop 2)) (by omega)
   generalize cat 32 (p.drop 2) = tx at *
   have qH := aI @dF (aI @dN (aI @dI (aI @dD (aI @d2 (aI @sb (aI @g1 (aI @a0i (aI @a4a (aI @Int.toNat_natCast @bI))))))))); repeat' (with_reducible first | refine nY ?_ | (refine mX ?_; try simp only [go_sem, qH]) | refine kD ?_ | refine rD ?_ | refine And.intro (a2B p) ?_ | refine cP cs ?_ | refine cP c0 ?_ | refine cP c1 ?_ | refine cP cj ?_ | refine cP cq ?_ | refine aO ?_ | fail)
   exact aQ () trivial (by simp only [go_sem, hm] <;> rfl) (by simp [aM]) (by simp only [go_sem, hm, bJ, dJ, eF, dZ, List.map_append]; simp) rfl rfl
  ·have d2 : decide ((2 : Int) < ((p.length : Nat) : Int)) = false := by rw [decide_eq_false_iff_not]; omega
   have hm : rdS x l = eF x ⟨part p 1, []⟩ := by rw [hmu, if_neg h2]
   have q0 := @dF; have q1 := @dN; have q2 := @dI; have q3 := @dD; have q4 := @d2; have q5 := @g1; have q6 := @bI; refine b7b cs c0 c1 ?_
   exact aQ () trivial (by simp only [go_sem, hm] <;> rfl) (by simp [aM]) (by simp only [go_sem, hm, bJ, dJ, eF, dZ, List.map_append]; simp) rfl rfl
 have dD : decide (part p 0 = wDir') = false := by simp [hD]
 have hm : rdS x l = x := by rw [hmu, if_neg hD]
 clear hD
 have q0 := @dF; have q1 := @dN; have q2 := @dI; have q3 := @dD; have q4 := @bI; refine a7H cs c0 ?_
 exact aQ () trivial (by simp only [go_sem, hm] <;> rfl) (by simp [aM]) (by simp only [go_sem, hm, bJ, dJ, eF, dZ, List.map_append]; simp) rfl rfl
theorem a8e (ls : List ByteArray) (hz : zs ls ≤ 1048576) : FnC Tryz.prog 25 [.o (.d (.sl (ls.map bD)))] (rDX (dcS ls)) := by
 refine ent Tryz.func25 rfl Tryz.call25 rfl (fun C => ?_); simp only [go_sem, st0, Tryz.ntmps25]
 have hzl := wD ls
 have q0 := @bI; refine oV ?_
 refine nW 1 0 81 2 rfl rfl ?_
 simp only [go_sem]
 refine nW 1 1 86 5 rfl rfl ?_
 simp only [go_sem]
 refine nW 1 3 90 2 rfl rfl ?_
 simp only [go_sem]
 refine b4f [(0,2),(1,3),(2,4)] rfl ?_
 simp only [go_sem]
 refine bE (α := Nat) (fun k => [(5, oi k)]) (fun k => [(0, .row 81 2 ((dY x0 (ls.take k)).fStore.fSchema.map bF) true), (1, .row 86 5 ((dY x0 (ls.take k)).fStore.fFiles.map dE) true), (2, .row 90 2 ((dY x0 (ls.take k)).fDirs.map dG) true), (3, .box 31 [.s 0, .s 1, .d (iv (dY x0 (ls.take k)).fStore.fNextID), .s 2])]) (fun k => k ≤ ls.length) (fun k => ls.length - k) 0 (fun _ => ?_) ?_ ?_ (fun k hk => ?_)
 ·simp only [go_sem]
 ·simp only [go_sem]; simp [dY, x0]
 ·omega
 have hw := a9k (ls.take k) x0
 rw [b3I] at hw
 have hzt : zs (ls.take k) ≤ zs ls := by have := a1q (ls.take k) (ls.drop k); rw [List.take_append_drop] at this; omega
 simp only [go_sem]
 generalize hX : dY x0 (ls.take k) = x at *
 have q0 := @bI; refine oV ?_
 refine cnd rfl (fun h => ?_) (fun h => ?_)
 ·simp only [decide_eq_true_eq, Int.ofNat_lt] at h
  have hsz := zJ (List.getElem_mem h)
  have hw' := hw
  unfold aR fV bA jU iT at hw'
  have cr := a8f x ls[k] (by omega) (by omega) (by omega) (by omega)
  have hnx : ls.take (k + 1) = ls.take k ++ [ls[k]] := List.take_succ_eq_append_getElem h
  have hy : dY x0 (ls.take (k + 1)) = rdS x ls[k] := by rw [hnx, uU, hX]; rfl
  generalize rdS x ls[k] = y at *
  have qH := aI @h @bI; repeat' (with_reducible first | refine nY ?_ | (refine mX ?_; try simp only [go_sem, qH]) | refine kD ?_ | (apply b5E 7 [(0, .node [(1, .node [(2, .node [(3, .node [(4, .node [(5, .node [(6, .node [])])])])])]), (2, .node [(1, .node [(3, .node [(4, .node [(5, .node [(6, .node [])])])])])])]), (1, .node [(0, .node [(2, .node [(3, .node [(4, .node [(5, .node [(6, .node [])])])])])]), (2, .node [(0, .node [(3, .node [(4, .node [(5, .node [(6, .node [])])])])]), (3, .node [(0, .node [(4, .node [(5, .node [(6, .node [])])])]), (4, .node [(0, .node [(5, .node [(6, .node [])])])])])])]), (2, .node [(0, .node [(1, .node [(3, .node [(4, .node [(5, .node [(6, .node [])])])])])]), (1, .node [(0, .node [(3, .node [(4, .node [(5, .node [(6, .node [])])])])]), (3, .node [(0, .node [(4, .node [(5, .node [(6, .node [])])])]), (4, .node [(0, .node [(5, .node [(6, .node [])])])])])])])] (by kernel_rfl) (by kernel_rfl)) | exact b1y | refine a8G (uX ?_) ?_ | refine a8F ?_ | (refine a4H ?_; exact rfl) | refine a4H ?_ | refine rD ?_ | refine aO ?_ | fail)
  all_goals
   refine iK cr _ rfl rfl rfl ?_
   rintro ⟨⟩ _
   simp only [go_sem]
   have qH := aI @h @bI; repeat' (with_reducible first | refine nY ?_ | (refine mX ?_; try simp only [go_sem, qH]) | refine kD ?_ | (apply b5E 7 [(0, .node [(1, .node [(2, .node [(3, .node [(4, .node [(5, .node [(6, .node [])])])])])]), (2, .node [(1, .node [(3, .node [(4, .node [(5, .node [(6, .node [])])])])])])]), (1, .node [(0, .node [(2, .node [(3, .node [(4, .node [(5, .node [(6, .node [])])])])])]), (2, .node [(0, .node [(3, .node [(4, .node [(5, .node [(6, .node [])])])])]), (3, .node [(0, .node [(4, .node [(5, .node [(6, .node [])])])]), (4, .node [(0, .node [(5, .node [(6, .node [])])])])])])]), (2, .node [(0, .node [(1, .node [(3, .node [(4, .node [(5, .node [(6, .node [])])])])])]), (1, .node [(0, .node [(3, .node [(4, .node [(5, .node [(6, .node [])])])])]), (3, .node [(0, .node [(4, .node [(5, .node [(6, .node [])])])]), (4, .node [(0, .node [(5, .node [(6, .node [])])])])])])])] (by kernel_rfl) (by kernel_rfl)) | exact b1y | refine a8G (uX ?_) ?_ | refine a8F ?_ | (refine a4H ?_; exact rfl) | refine a4H ?_ | refine rD ?_ | refine aO ?_ | fail)
   refine aH (k + 1) ?_ ?_ ?_
   ·simp only [go_sem, hy]; simp
   ·exact h
   ·omega
 ·simp only [decide_eq_false_iff_not, Int.ofNat_lt] at h
  have ek : k = ls.length := by omega
  subst ek
  rw [List.take_length] at hX
  have cv := tZ x (by omega)
  have hd : dcS ls = if eX x && decide (lnX x = ls) then (x, true) else (x0, false) := by unfold dcS; rw [hX]
  cases ho : eX x
  ·have e : dcS ls = (x0, false) := by rw [hd, ho]; rfl
   rw [ho] at cv
   have qH := @Bool.not_false; repeat' (with_reducible first | refine nY ?_ | (refine mX ?_; try simp only [go_sem, qH]) | refine kD ?_ | refine rD ?_ | refine vL cv ?_ | refine aO ?_ | fail)
   exact aA ⟨⟨_, rfl, by simp only [go_sem, e, x0]⟩, by simp [aM]⟩
  ·have hx := a0h ho (by omega)
   have ce := a7d x hx
   have hln := a2t x
   have ct := a5m (lnX x) ls (by omega)
   rw [ho] at cv
   cases hq2 : decide (lnX x = ls)
   ·have e : dcS ls = (x0, false) := by rw [hd, ho, hq2]; rfl
    rw [hq2] at ct
    generalize lnX x = lx at *
    have qH := aI @Bool.not_false @Bool.not_true; repeat' (with_reducible first | refine nY ?_ | (refine mX ?_; try simp only [go_sem, qH]) | refine kD ?_ | refine rD ?_ | refine vL cv ?_ | refine vL ce ?_ | refine vL ct ?_ | refine aO ?_ | fail)
    exact aA ⟨⟨_, rfl, by simp only [go_sem, e, x0]⟩, by simp [aM]⟩
   ·have e : dcS ls = (x, true) := by rw [hd, ho, hq2]; rfl
    rw [hq2] at ct
    generalize lnX x = lx at *
    have qH := aI @Bool.not_false @Bool.not_true; repeat' (with_reducible first | refine nY ?_ | (refine mX ?_; try simp only [go_sem, qH]) | refine kD ?_ | refine rD ?_ | refine vL cv ?_ | refine vL ce ?_ | refine vL ct ?_ | refine aO ?_ | fail)
    exact aA ⟨⟨_, rfl, by simp only [go_sem, e]⟩, by simp [aM]⟩
theorem b6m (l : List ByteArray) : fB l = zs l := by
 unfold fB
 induction l with
 | nil => rfl
 | cons x l ih => rw [jO, ← ih]; simp only [eQ, List.length_cons]; omega
theorem b5f {ls : List ByteArray} (hz : zs ls ≤ 1048576) : aR (dcI ls).1 ≤ 1048576 := by
 cases h : (dcI ls).2 with
 | true => exact (b5n h hz).sm
 | false =>
  have : (dcI ls).1 = x0 := by
   unfold dcI at h ⊢
   split at h
   ·cases h
   ·rename_i hc; rw [if_neg hc]
  rw [this, b3I]; omega
theorem b0B (l : List ByteArray) (hf : uO l) : FnC Tryz.prog 6 [.o (.d (.sl (l.map bD)))] (ob true) := by
 refine ent Tryz.func6 rfl Tryz.call6 rfl (fun C => ?_); simp only [go_sem, st0, Tryz.ntmps6]
 have z1 := a4P l 1048576 (by omega) hf
 by_cases h1 : yM 1048576 (fB l) < 0
 ·have q0 := @h1; refine kM z1 ?_
  exact aA ⟨⟨_, rfl, by simp only [go_sem]⟩, trivial⟩
 have s1 : fB l ≤ 1048576 := by have := b1J h1; omega
 have sz : zs l ≤ 1048576 := by rw [← b6m]; exact s1
 have hi := a8h l sz
 have hk := a8e l sz
 rw [← b3H] at hk
 have hX := b5f sz
 have hll : l.length ≤ 1048576 := by have := wD l; omega
 have hcs := b3F l
 generalize dcI l = r at *
 obtain ⟨X, B⟩ := r
 have hX : aR X ≤ 1048576 := hX
 have hq := hX
 unfold aR fV bA jU iT at hq
 have hx1 := b0x X.fStore.fSchema
 have hx2 := b2h X.fStore.fFiles
 have hx3 := b3G X.fDirs
 have k1 : ¬ ((1 : Int) + (csum cnStr l : Nat) < 0) := by omega
 have k2 : ¬ ((1 : Int) + (csum cnField X.fStore.fSchema : Nat) + (csum cnFile X.fStore.fFiles : Nat) + (csum cnDir X.fDirs : Nat) < 0) := by omega
 have hid : FnC Tryz.prog 22 [.o (.d (.sl (l.map bD)))] (.t [(true, (jX X).cells), (false, [.d (bv B)])]) := hi.pu (by simp only [go_sem, and_self])
 have hkd : FnC Tryz.prog 25 [.o (.d (.sl (l.map bD)))] (.t [(true, (jX X).cells), (false, [.d (bv B)])]) := hk.pu (by simp only [go_sem, and_self])
 cases B
 all_goals
  have q0 := @h1; have q1 := @k1; have q2 := @k2; have q3 := @Bool.true_beq; have q4 := @Bool.false_beq; refine nT z1 ?_
  repeat' (with_reducible first | refine nX ?_ | (refine mX ?_; try simp only [go_sem]) | refine kD ?_ | refine cP (vH l s1) ?_ | refine cP hk ?_ | refine aO ?_ | fail)
  have qH := aI @h1 (aI @k1 (aI @k2 (aI @Bool.true_beq @Bool.false_beq))); repeat' (with_reducible first | refine nY ?_ | (refine mX ?_; try simp only [go_sem, qH]) | refine kD ?_ | refine rD ?_ | refine vO (qZ l s1) ?_ | refine vQ (qZ l s1) ?_ | refine vO hi ?_ | refine vQ hi ?_ | refine vO (vG X (by omega)) ?_ | refine vQ (vG X (by omega)) ?_ | refine vO (yL l (by omega)) ?_ | refine vQ (yL l (by omega)) ?_ | refine vM (a2l l _ (by omega)) ?_ | refine vM (a0J X _ (by omega)) ?_ | refine vO (sG X 1 (by omega)) ?_ | refine vQ (sG X 1 (by omega)) ?_ | refine cP (vH l s1) ?_ | refine aO ?_ | fail)
  exact aA ⟨⟨_, rfl, by simp only [go_sem]⟩, trivial⟩
end Go.Proofs.YtgpoopjfkplilaaGreatDoor
end
