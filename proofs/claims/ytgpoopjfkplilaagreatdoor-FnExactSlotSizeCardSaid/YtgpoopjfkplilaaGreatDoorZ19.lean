/- Joined texts. -/
import Derived.Test.YtgpoopjfkplilaaGreatDoorZ18
import Derived.Test.YtgpoopjfkplilaaGreatDoorZ01
set_option linter.all false
section
set_option maxRecDepth 100000
set_option maxHeartbeats 4000000
namespace Go.Proofs.YtgpoopjfkplilaaGreatDoor
open Go Go.Sx Go.Wd Go.RowKit Go.Proofs
theorem a5b (s : ByteArray) (c : UInt8) (hs : s.size ≤ 4294967200) : FnC Tryz.prog 62 [os s, os ⟨#[c]⟩] (.o (.d (.sl ((pieces c s).map bN)))) := (b2q s c hs).pu (by simp only [go_sem, and_self])
theorem lH (w : List ByteArray) : ∀ r ∈ List.map bN w, r.length = 1 := fun r hr => by
 obtain ⟨x, _, rfl⟩ := List.mem_map.1 hr; rfl
theorem nR {α β : Type} (f : α → β) (l : List α) : (List.map f l).take l.length = List.map f l := List.take_of_length_le (by simp)
theorem a5c (w : List ByteArray) : (List.map bN w).drop 1 = List.map bN w.tail := by rw [← List.map_drop, List.drop_one]
theorem a5d (w : List ByteArray) : (List.map bN w).drop 2 = List.map bN (w.drop 2) := by rw [← List.map_drop]
@[go_sem] def hsX (x : TSnapshot) : List HB := [.box 31 [.s 1, .s 2, .d (iv x.fStore.fNextID), .s 3], .row 81 2 (x.fStore.fSchema.map aY) true, .row 86 5 (x.fStore.fFiles.map bR) true, .row 90 2 (x.fDirs.map bX) true]
theorem a3v {x : TSnapshot} {l : ByteArray} {w : List ByteArray} (h : pieces 32 l = w) : rdI x l =
    if part w 0 = iM ∧ w.length = 3 then (bP x ⟨part w 1, if part w 2 = wT then 2 else 1⟩, true)
    else if part w 0 = jI ∧ w.length = 2 then (eX x (pU (part w 1)).1, (pU (part w 1)).2)
    else if part w 0 = wFile' then (dU x (fileI w.tail).1, (fileI w.tail).2)
    else if part w 0 = wDir' ∧ 2 < w.length then (fA x ⟨part w 1, (pQI (cat 32 (w.drop 2))).1⟩, (pQI (cat 32 (w.drop 2))).2)
    else (x, false) := by subst h; rfl
theorem a8k (x : TSnapshot) (l : ByteArray) (hs : l.size ≤ 2000000) (b1 : x.fStore.fSchema.length ≤ 2000000) (b2 : x.fStore.fFiles.length ≤ 2000000) (b3 : x.fDirs.length ≤ 2000000) :
    FnZ Tryz.prog 52 true (hsX x) [.o (.p 0 0), os l] (fun _ : Unit => True) (fun _ => hsX (rdI x l).1) (fun _ => ob (rdI x l).2) := by
 refine b4j Tryz.func52 rfl Tryz.call52 rfl (fun _ => rfl) (fun _ => ⟨_, _, rfl⟩) (fun C b => ?_)
 simp only [go_sem, Tryz.ntmps52]
 have cs := a5b l 32 (by omega)
 have hne := b1f 32 l
 have hz := kJ 32 l
 have hmu := a3v (x := x) (l := l) rfl
 generalize pieces 32 l = w at *
 have l0 : 0 < w.length := List.length_pos_iff.2 hne
 rw [fB l0] at hmu
 have hzl := uF w
 have hzm : ∀ y ∈ w, y.size ≤ 4300000 := fun y hy => by have := a0q hy; omega
 by_cases hF : w[0] = iM
 ·have dF : decide (w[0] = iM) = true := by simp [hF]
  have dN : decide (w[0] = jI) = false := by rw [hF]; decide
  have dI : decide (w[0] = wFile') = false := by rw [hF]; decide
  have dD : decide (w[0] = wDir') = false := by rw [hF]; decide
  have nN : ¬ w[0] = jI := by simpa using dN
  have nI : ¬ w[0] = wFile' := by simpa using dI
  have nD : ¬ w[0] = wDir' := by simpa using dD
  by_cases h3 : w.length = 3
  ·have d3 : decide (((w.length : Nat) : Int) = 3) = true := by rw [decide_eq_true_iff]; omega
   have l1 : 1 < w.length := by omega
   have l2 : 2 < w.length := by omega
   have g1 : x.fStore.fSchema.length + 1 ≤ 140737488355328 := by omega
   rw [if_pos ⟨hF, h3⟩, fB l1, fB l2] at hmu
   clear hF
   by_cases hS : w[2] = wT
   ·have dS : decide (w[2] = wT) = true := by simp [hS]
    have hm : rdI x l = (bP x ⟨w[1], 2⟩, true) := by rw [hmu, if_pos hS]
    clear hS
    have qH := aI @l0 (aI @l1 (aI @l2 (aI @dF (aI @d3 (aI @dS (aI @g1 @bH)))))); repeat' (with_reducible first | refine nY ?_ | (refine mX ?_; try simp only [go_sem, qH]) | refine kD ?_ | (apply rE [11,12,16] [] [0,1,2,3,4,5,6,7,8,9,10] [0,1,2,3,4,5,6,7,8,9,10] ((.c 11 [] [0,1,2,3,4,5] (.c 12 [13,14,15] [0,13,14,15] (.c 16 [] [] .n .n) .n) .n)) (by simp only [go_sem]; rfl) (by simp only [go_sem]; rfl) (by simp only [go_sem]; rfl) (by decide +kernel); (focus simp only [go_sem]; done)) | exact bY | refine bJ (uX ?_) ?_ | refine bK (aX ?_) ?_ | refine bL (aX ?_) ?_ | exact bI | exact oH | exact uB | refine rD ?_ | refine cP cs ?_ | refine aO ?_ | fail)
    exact aT () trivial (by simp only [go_sem, hm] <;> rfl) trivial (by simp only [go_sem, hm, bP, dU, fA, eX, List.map_append]; simp) rfl rfl
   ·have dS : decide (w[2] = wT) = false := by simp [hS]
    have hm : rdI x l = (bP x ⟨w[1], 1⟩, true) := by rw [hmu, if_neg hS]
    clear hS
    have qH := aI @l0 (aI @l1 (aI @l2 (aI @dF (aI @d3 (aI @dS (aI @g1 @bH)))))); repeat' (with_reducible first | refine nY ?_ | (refine mX ?_; try simp only [go_sem, qH]) | refine kD ?_ | (apply rE [11,12,16] [] [0,1,2,3,4,5,6,7,8,9,10] [0,1,2,3,4,5,6,7,8,9,10] ((.c 11 [] [0,1,2,3,4,5] (.c 12 [13,14,15] [0,13,14,15] (.c 16 [] [] .n .n) .n) .n)) (by simp only [go_sem]; rfl) (by simp only [go_sem]; rfl) (by simp only [go_sem]; rfl) (by decide +kernel); (focus simp only [go_sem]; done)) | exact bY | refine bJ (uX ?_) ?_ | refine bK (aX ?_) ?_ | refine bL (aX ?_) ?_ | exact bI | exact oH | exact uB | refine rD ?_ | refine cP cs ?_ | refine aO ?_ | fail)
    exact aT () trivial (by simp only [go_sem, hm] <;> rfl) trivial (by simp only [go_sem, hm, bP, dU, fA, eX, List.map_append]; simp) rfl rfl
  ·have d3 : decide (((w.length : Nat) : Int) = 3) = false := by rw [decide_eq_false_iff_not]; omega
   have hm : rdI x l = (x, false) := by rw [hmu, if_neg (fun h => h3 h.2), if_neg (fun h => nN h.1), if_neg nI, if_neg (fun h => nD h.1)]
   clear hF
   have q0 := @l0; have q1 := @dF; have q2 := @d3; have q3 := @dN; have q4 := @dI; have q5 := @dD; have q6 := @bH; refine a5V cs ?_
   exact aT () trivial (by simp only [go_sem, hm] <;> rfl) trivial (by simp only [go_sem, hm, bP, dU, fA, eX, List.map_append]; simp) rfl rfl
 have dF : decide (w[0] = iM) = false := by simp [hF]
 rw [if_neg (fun h => hF h.1)] at hmu
 by_cases hN : w[0] = jI
 ·have dN : decide (w[0] = jI) = true := by simp [hN]
  have dI : decide (w[0] = wFile') = false := by rw [hN]; decide
  have dD : decide (w[0] = wDir') = false := by rw [hN]; decide
  have nI : ¬ w[0] = wFile' := by simpa using dI
  have nD : ¬ w[0] = wDir' := by simpa using dD
  by_cases h2 : w.length = 2
  ·have d2 : decide (((w.length : Nat) : Int) = 2) = true := by rw [decide_eq_true_iff]; omega
   have l1 : 1 < w.length := by omega
   rw [if_pos ⟨hN, h2⟩, fB l1] at hmu
   have hm := hmu
   have cu := gF w[1]
   clear hN hF
   have q0 := @l0; have q1 := @l1; have q2 := @dF; have q3 := @dN; have q4 := @d2; have q5 := @bH; refine a2H cs cu ?_
   exact aT () trivial (by simp only [go_sem, hm] <;> rfl) trivial (by simp only [go_sem, hm, bP, dU, fA, eX, List.map_append]; simp) rfl rfl
  ·have d2 : decide (((w.length : Nat) : Int) = 2) = false := by rw [decide_eq_false_iff_not]; omega
   have hm : rdI x l = (x, false) := by rw [hmu, if_neg (fun h => h2 h.2), if_neg nI, if_neg (fun h => nD h.1)]
   clear hN hF
   have q0 := @l0; have q1 := @dF; have q2 := @dN; have q3 := @d2; have q4 := @dI; have q5 := @dD; have q6 := @bH; refine a5V cs ?_
   exact aT () trivial (by simp only [go_sem, hm] <;> rfl) trivial (by simp only [go_sem, hm, bP, dU, fA, eX, List.map_append]; simp) rfl rfl
 have dN : decide (w[0] = jI) = false := by simp [hN]
 rw [if_neg (fun h => hN h.1)] at hmu
 by_cases hI : w[0] = wFile'
 ·have dI : decide (w[0] = wFile') = true := by simp [hI]
  rw [if_pos hI] at hmu
  have hm := hmu
  have cf := a3R w.tail (by rw [List.length_tail]; omega) (fun y hy => hzm y (List.mem_of_mem_tail hy))
  have g1 : x.fStore.fFiles.length + 1 ≤ 140737488355328 := by omega
  have sb : (1 : Int) ≤ ((w.length : Nat) : Int) := by omega
  clear hI hN hF
  have qH := aI @l0 (aI @dF (aI @dN (aI @dI (aI @sb (aI @g1 (aI @nR (aI @a5c (aI @Int.toNat_natCast @bH)))))))); repeat' (with_reducible first | refine nY ?_ | (refine mX ?_; try simp only [go_sem, qH]) | refine kD ?_ | (apply rE [7,8,12] [] [0,1,2,3,4,5,6] [0,1,2,3,4,5,6] ((.c 7 [] [0,1,2,3,4,5] (.c 8 [9,10,11] [0,9,10,11] (.c 12 [] [] .n .n) .n) .n)) (by simp only [go_sem]; rfl) (by simp only [go_sem]; rfl) (by simp only [go_sem]; rfl) (by decide +kernel); (focus simp only [go_sem]; done)) | exact bY | refine bJ (uX ?_) ?_ | refine bK (aX ?_) ?_ | refine bL (aX ?_) ?_ | exact bI | exact oH | (refine uA ?_; simp only [go_sem, qH]; (repeat' first | omega | exact lH w | refine And.intro ?_ ?_); done) | refine rD ?_ | refine And.intro (lH w) ?_ | refine cP cs ?_ | refine cP cf ?_ | refine aO ?_ | fail)
  exact aT () trivial (by simp only [go_sem, hm] <;> rfl) trivial (by simp only [go_sem, hm, bP, dU, fA, eX, List.map_append]; simp) rfl rfl
 have dI : decide (w[0] = wFile') = false := by simp [hI]
 rw [if_neg hI] at hmu
 by_cases hD : w[0] = wDir'
 ·have dD : decide (w[0] = wDir') = true := by simp [hD]
  by_cases h2 : 2 < w.length
  ·have d2 : decide ((2 : Int) < ((w.length : Nat) : Int)) = true := by rw [decide_eq_true_iff]; omega
   have l1 : 1 < w.length := by omega
   have sb : (2 : Int) ≤ ((w.length : Nat) : Int) := by omega
   rw [if_pos ⟨hD, h2⟩, fB l1] at hmu
   have hm := hmu
   have hnd : w.drop 2 ≠ [] := fun e => by have := congrArg List.length e; rw [List.length_drop] at this; simp at this; omega
   have hcs := a9K (w.drop 2)
   have hzd : zs (w.drop 2) ≤ zs w := by have := a0p (w.take 2) (w.drop 2); rw [List.take_append_drop] at this; omega
   have cj := yK (w.drop 2) ⟨#[32]⟩ hnd (by rw [List.length_drop]; omega) (by show (cat 32 (w.drop 2)).size ≤ _; omega)
   have cj : FnC Tryz.prog 92 [.o (.d (.sl ((w.drop 2).map bN))), os ⟨#[32]⟩] (os (cat 32 (w.drop 2))) := cj
   have cq := a0g (cat 32 (w.drop 2)) (by omega)
   have g1 : x.fDirs.length + 1 ≤ 140737488355328 := by omega
   clear hD hI hN hF
   generalize cat 32 (w.drop 2) = tx at *
   have qH := aI @l0 (aI @l1 (aI @dF (aI @dN (aI @dI (aI @dD (aI @d2 (aI @sb (aI @g1 (aI @nR (aI @a5d (aI @Int.toNat_natCast @bH))))))))))); repeat' (with_reducible first | refine nY ?_ | (refine mX ?_; try simp only [go_sem, qH]) | refine kD ?_ | (apply rE [10,11,14] [] [0,1,2,3,4,5,6,7,8,9] [0,1,2,3,4,5,6,7,8,9] ((.c 10 [] [0,1,2,3,4] (.c 11 [12,13] [0,12,13] (.c 14 [] [] .n .n) .n) .n)) (by simp only [go_sem]; rfl) (by simp only [go_sem]; rfl) (by simp only [go_sem]; rfl) (by decide +kernel); (focus simp only [go_sem]; done)) | exact bY | refine bJ (uX ?_) ?_ | refine bK (aX ?_) ?_ | refine bL (aX ?_) ?_ | exact bI | exact oH | (refine uA ?_; simp only [go_sem, qH]; (repeat' first | omega | exact lH w | refine And.intro ?_ ?_); done) | refine rD ?_ | refine And.intro (lH w) ?_ | refine cP cs ?_ | refine cP cj ?_ | refine cP cq ?_ | refine aO ?_ | fail)
   exact aT () trivial (by simp only [go_sem, hm] <;> rfl) trivial (by simp only [go_sem, hm, bP, dU, fA, eX, List.map_append]; simp) rfl rfl
  ·have d2 : decide ((2 : Int) < ((w.length : Nat) : Int)) = false := by rw [decide_eq_false_iff_not]; omega
   have hm : rdI x l = (x, false) := by rw [hmu, if_neg (fun h => h2 h.2)]
   clear hD hI hN hF
   have q0 := @l0; have q1 := @dF; have q2 := @dN; have q3 := @d2; have q4 := @dI; have q5 := @dD; have q6 := @bH; refine a5V cs ?_
   exact aT () trivial (by simp only [go_sem, hm] <;> rfl) trivial (by simp only [go_sem, hm, bP, dU, fA, eX, List.map_append]; simp) rfl rfl
 have dD : decide (w[0] = wDir') = false := by simp [hD]
 have hm : rdI x l = (x, false) := by rw [hmu, if_neg (fun h => hD h.1)]
 clear hD hI hN hF
 have q0 := @l0; have q1 := @dF; have q2 := @dN; have q3 := @dI; have q4 := @dD; have q5 := @bH; refine tV cs ?_
 exact aT () trivial (by simp only [go_sem, hm] <;> rfl) trivial (by simp only [go_sem, hm, bP, dU, fA, eX, List.map_append]; simp) rfl rfl
end Go.Proofs.YtgpoopjfkplilaaGreatDoor
end
section
set_option maxRecDepth 100000
namespace Go.Proofs.YtgpoopjfkplilaaGreatDoor
open Go Go.Sx Go.Wd Go.RowKit Go.Proofs
theorem wdF : wd iM := ⟨by decide, by decide, by decide⟩
theorem wdN : wd jI := ⟨by decide, by decide, by decide⟩
theorem wdL : wd wFile' := ⟨by decide, by decide, by decide⟩
theorem wdD : wd wDir' := ⟨by decide, by decide, by decide⟩
theorem wdI : wd wU := ⟨by decide, by decide, by decide⟩
theorem wdS : wd wT := ⟨by decide, by decide, by decide⟩
theorem vY {ws : List ByteArray} (h : ∀ w ∈ ws, wd w) (h0 : ws ≠ []) : pieces 32 (cat 32 ws) = ws := a8v 32 ws h0 fun w hw => b4o (h w hw)
theorem eG (w : ByteArray) (l : List ByteArray) : part (w :: l) 0 = w := rfl
theorem mG (w : ByteArray) (l : List ByteArray) (k : Nat) : part (w :: l) (k + 1) = part l k := rfl
theorem b0M {f : TField} (h : aQ f.fName 1 = true) (hk : f.fKind = 1 ∨ f.fKind = 2) : fdT f = cat 32 [iM, f.fName, if f.fKind = 1 then wU else wT] := by
 rw [gG _ (by simp), gG _ (by simp), mW]
 unfold fdT
 rw [if_pos h]
 rcases hk with hk | hk
 ·rw [if_pos hk, if_pos hk]
  apply mM; simp
 ·have : ¬ f.fKind = 1 := by omega
  rw [if_neg this, if_neg this, if_pos hk]
  apply mM; simp
theorem b5H {f : TField} (h : aQ f.fName 1 = true) : ∀ w ∈ [iM, f.fName, if f.fKind = 1 then wU else wT], wd w := by
 intro w hw
 simp only [List.mem_cons, List.not_mem_nil, or_false] at hw
 rcases hw with rfl | rfl | rfl
 ·exact wdF
 ·exact a6E h
 ·split
  ·exact wdI
  ·exact wdS
theorem b3Q {f : TField} (hk : f.fKind = 1 ∨ f.fKind = 2) {n : Int} (h : n = f.fKind) : (⟨f.fName, n⟩ : TField) = f := by subst h; rfl
theorem b6M (x : TSnapshot) {f : TField} (h : aQ f.fName 1 = true) (hk : f.fKind = 1 ∨ f.fKind = 2) : rdI x (fdT f) = (bP x f, true) := by
 rw [a3v (w := [iM, f.fName, if f.fKind = 1 then wU else wT]) (by rw [b0M h hk]; exact vY (b5H h) (by simp))]
 rw [if_pos ⟨rfl, rfl⟩, mG, mG, mG, eG, eG]
 congr 2
 refine b3Q hk ?_
 rcases hk with hk | hk
 ·rw [hk]; decide
 ·rw [hk]; decide
theorem a0M {x : TSnapshot} {l : ByteArray} {p : List ByteArray} (h : sfL l = p) : rdS x l =
    if part p 0 = iM then bP x ⟨part p 1, if part p 2 = wU then 1 else 2⟩
    else if part p 0 = jI then eX x (pU (part p 1)).1
    else if part p 0 = wFile' then dU x (fileS p)
    else if part p 0 = wDir' then fA x ⟨part p 1, if 2 < p.length then (pQS (cat 32 (p.drop 2))).1 else []⟩
    else x := by subst h; rfl
theorem b6N (x : TSnapshot) {f : TField} (h : aQ f.fName 1 = true) (hk : f.fKind = 1 ∨ f.fKind = 2) : rdS x (fdT f) = bP x f := by
 rw [a0M (p := [iM, f.fName, if f.fKind = 1 then wU else wT]) (by rw [b0M h hk]; exact (a5l (b5H h) (by simp) (by simp)).2)]
 rw [if_pos (eG _ _), mG, mG, mG, eG, eG]
 congr 1
 refine b3Q hk ?_
 rcases hk with hk | hk
 ·rw [hk]; decide
 ·rw [hk]; decide
theorem b0N (n : Int) : nxT n = cat 32 [jI, itoaB n] := by
 rw [gG _ (by simp), mW]
 apply mM; simp [nxT]
theorem b5I {n : Int} (h0 : 0 ≤ n) (h1 : n ≤ 1000000000) : ∀ w ∈ [jI, itoaB n], wd w := by
 intro w hw
 simp only [List.mem_cons, List.not_mem_nil, or_false] at hw
 rcases hw with rfl | rfl
 ·exact wdN
 ·exact xY h0 h1
theorem b6O (x : TSnapshot) {n : Int} (h0 : 0 ≤ n) (h1 : n ≤ 1000000000) : rdI x (nxT n) = (eX x n, true) := by
 rw [a3v (w := [jI, itoaB n]) (by rw [b0N]; exact vY (b5I h0 h1) (by simp))]
 rw [if_neg (fun h => absurd h.1 (by rw [eG]; decide)), if_pos ⟨rfl, rfl⟩, mG, eG, nS h0 h1 rfl]
theorem b6P (x : TSnapshot) {n : Int} (h0 : 0 ≤ n) (h1 : n ≤ 1000000000) : rdS x (nxT n) = eX x n := by
 rw [a0M (p := [jI, itoaB n]) (by rw [b0N]; exact (a5l (b5I h0 h1) (by simp) (by simp)).2)]
 rw [if_neg (by rw [eG]; decide), if_pos (eG _ _), mG, eG, nS h0 h1 rfl]
def jS (f : TFile) : List ByteArray := [itoaB f.fID, itoaB f.fOwner, if f.fShared then ⟨#[115]⟩ else ⟨#[111]⟩, itoaB f.fLink] ++ eB f.fAttrs
theorem a7Z (f : TFile) : jW f = cat 32 (wFile' :: jS f) := rfl
structure Fl (f : TFile) : Prop where
 i : 0 ≤ f.fID ∧ f.fID ≤ 1000000000
 o : 0 ≤ f.fOwner ∧ f.fOwner ≤ 1000000000
 l : 0 ≤ f.fLink ∧ f.fLink ≤ 1000000000
 n : f.fAttrs.length ≤ 5
 a : ∀ a ∈ f.fAttrs, aQ a.fName 1 = true ∧ dH a.fValue = true ∧ a.fValue.fKind ≠ 0
theorem Fl.of {s : List TField} {f : TFile} (h : fP s f = true) : Fl f := by
 have hfew := a4V h
 obtain ⟨a, b, c, hs, e⟩ := sW h
 refine ⟨by omega, by omega, by omega, hfew, fun t ht => ?_⟩
 obtain ⟨k, hk, rfl⟩ := List.getElem_of_mem ht
 obtain ⟨m1, m2, m3, _⟩ := sZ hs (e k hk).2
 exact ⟨m3, m1, m2⟩
theorem b3R {l : List TAttr} (h : ∀ a ∈ l, aQ a.fName 1 = true ∧ dH a.fValue = true ∧ a.fValue.fKind ≠ 0) : ∀ w ∈ eB l, wd w := by
 intro w hw
 unfold eB at hw
 obtain ⟨a, ha, hw⟩ := List.mem_flatMap.1 hw
 obtain ⟨h1, h2, h3⟩ := h a ha
 simp only [List.mem_cons, List.not_mem_nil, or_false] at hw
 rcases hw with rfl | rfl
 ·exact a6E h1
 ·exact b2r h2 h3
theorem Fl.wd {f : TFile} (h : Fl f) : ∀ w ∈ wFile' :: jS f, wd w := by
 intro w hw
 unfold jS at hw
 simp only [List.mem_cons, List.mem_append, List.not_mem_nil, or_false] at hw
 rcases hw with rfl | (rfl | rfl | rfl | rfl) | hw
 ·exact wdL
 ·exact xY h.i.1 h.i.2
 ·exact xY h.o.1 h.o.2
 ·split
  ·exact ⟨by decide, by decide, by decide⟩
  ·exact ⟨by decide, by decide, by decide⟩
 ·exact xY h.l.1 h.l.2
 ·exact b3R h.a w hw
theorem a0N (f : TFile) : (jS f).length = 4 + 2 * f.fAttrs.length := by
 unfold jS
 rw [List.length_append, wZ]; rfl
theorem b2i (l : List TAttr) (j : Nat) (h : j < l.length) : part (eB l) (2 * j) = l[j].fName ∧ part (eB l) (2 * j + 1) = fH l[j].fValue := by
 induction l generalizing j with
 | nil => simp at h
 | cons a l ih =>
  have e : eB (a :: l) = a.fName :: fH a.fValue :: eB l := by unfold eB; rw [List.flatMap_cons]; rfl
  rw [e]
  cases j with
  | zero => exact ⟨rfl, rfl⟩
  | succ j => exact ih j (by simpa using h)
theorem a4R (pre : List ByteArray) {l : List TAttr} (h : ∀ a ∈ l, aQ a.fName 1 = true ∧ dH a.fValue = true ∧ a.fValue.fKind ≠ 0) : atS (pre ++ eB l) pre.length l.length = l ∧ okS (pre ++ eB l) pre.length l.length = true := by
 have key : ∀ j (hj : j < l.length), part (pre ++ eB l) (pre.length + 2 * j) = l[j].fName ∧ pV (part (pre ++ eB l) (pre.length + 2 * j + 1)) = (l[j].fValue, true) := fun j hj => by
  obtain ⟨e1, e2⟩ := b2i l j hj
  obtain ⟨_, h2, h3⟩ := h _ (List.getElem_mem hj)
  refine ⟨by rw [vF]; exact e1, ?_⟩
  rw [Nat.add_assoc, vF, e2]
  exact a8s h2 h3
 constructor
 ·apply List.ext_getElem
  ·exact a6v _ _ _
  ·intro j h1 h2
   obtain ⟨e1, e2⟩ := key j h2
   simp only [atS, List.getElem_map, List.getElem_range]
   rw [e1, e2]
 ·unfold okS
  rw [List.all_eq_true]
  intro j hj
  rw [(key j (List.mem_range.1 hj)).2]
theorem Fl.shared (f : TFile) : decide ((if f.fShared then (⟨#[115]⟩ : ByteArray) else ⟨#[111]⟩) = ⟨#[115]⟩) = f.fShared := by
 cases f.fShared <;> decide
theorem Fl.fileI {f : TFile} (h : Fl f) : fileI (jS f) = (f, true) := by
 have hl := a0N f
 have hd : ((jS f).length - 4) / 2 = f.fAttrs.length := by omega
 have ha := a4R [itoaB f.fID, itoaB f.fOwner, if f.fShared then ⟨#[115]⟩ else ⟨#[111]⟩, itoaB f.fLink] h.a
 have ha : atS (jS f) 4 f.fAttrs.length = f.fAttrs ∧ okS (jS f) 4 f.fAttrs.length = true := ha
 have e0 : part (jS f) 0 = itoaB f.fID := rfl
 have e1 : part (jS f) 1 = itoaB f.fOwner := rfl
 have e2 : part (jS f) 2 = if f.fShared then ⟨#[115]⟩ else ⟨#[111]⟩ := rfl
 have e3 : part (jS f) 3 = itoaB f.fLink := rfl
 unfold Go.Proofs.YtgpoopjfkplilaaGreatDoor.fileI
 rw [if_neg (by omega), hd, ha.1, ha.2, e0, e1, e2, e3, nS h.i.1 h.i.2 rfl, nS h.o.1 h.o.2 rfl, nS h.l.1 h.l.2 rfl, Fl.shared]
 rfl
theorem Fl.fileS {f : TFile} (h : Fl f) : fileS (wFile' :: jS f) = f := by
 have hl := a0N f
 have hd : ((wFile' :: jS f).length - 4) / 2 = f.fAttrs.length := by rw [List.length_cons]; omega
 have ha := a4R [wFile', itoaB f.fID, itoaB f.fOwner, if f.fShared then ⟨#[115]⟩ else ⟨#[111]⟩, itoaB f.fLink] h.a
 have ha : atS (wFile' :: jS f) 5 f.fAttrs.length = f.fAttrs ∧ _ := ha
 have e0 : part (wFile' :: jS f) 1 = itoaB f.fID := rfl
 have e1 : part (wFile' :: jS f) 2 = itoaB f.fOwner := rfl
 have e2 : part (wFile' :: jS f) 3 = if f.fShared then ⟨#[115]⟩ else ⟨#[111]⟩ := rfl
 have e3 : part (wFile' :: jS f) 4 = itoaB f.fLink := rfl
 unfold Go.Proofs.YtgpoopjfkplilaaGreatDoor.fileS
 rw [hd, ha.1, e0, e1, e2, e3, nS h.i.1 h.i.2 rfl, nS h.o.1 h.o.2 rfl, nS h.l.1 h.l.2 rfl, Fl.shared]
theorem b6Q (x : TSnapshot) {f : TFile} (h : Fl f) : rdI x (jW f) = (dU x f, true) := by
 rw [a3v (w := wFile' :: jS f) (by rw [a7Z]; exact vY h.wd (by simp))]
 rw [if_neg (fun h => absurd h.1 (by rw [eG]; decide)), if_neg (fun h => absurd h.1 (by rw [eG]; decide)), if_pos (eG _ _), List.tail_cons, h.fileI]
theorem b6R (x : TSnapshot) {f : TFile} (h : Fl f) : rdS x (jW f) = dU x f := by
 have hl := a0N f
 have hn := h.n
 rw [a0M (p := wFile' :: jS f) (by rw [a7Z]; exact (a5l h.wd (by rw [List.length_cons]; omega) (by simp)).2)]
 rw [if_neg (by rw [eG]; decide), if_neg (by rw [eG]; decide), if_pos (eG _ _), h.fileS]
structure Dr (d : TDir) : Prop where
 n : aQ d.fName 6 = true
 q : okQ d.fQuery = true
theorem Dr.cat {d : TDir} (h : Dr d) : drT d = cat 32 (wDir' :: d.fName :: jT d.fQuery) := by
 rw [gG _ (by simp), gG _ (a1x h.q), ← tZ h.q]
 apply mM; simp [drT]
theorem Dr.wd {d : TDir} (h : Dr d) : ∀ w ∈ wDir' :: d.fName :: jT d.fQuery, wd w := by
 intro w hw
 simp only [List.mem_cons] at hw
 rcases hw with rfl | rfl | hw
 ·exact wdD
 ·exact a1v h.n
 ·exact a9O h.q w hw
theorem Dr.two {d : TDir} (h : Dr d) : 2 < (wDir' :: d.fName :: jT d.fQuery).length := by
 have := List.length_pos_iff.2 (a1x h.q)
 simp only [List.length_cons]; omega
theorem b3S (x : TSnapshot) {d : TDir} (h : Dr d) : rdI x (drT d) = (fA x ⟨d.fName, (pQI (qtx d.fQuery)).1⟩, (pQI (qtx d.fQuery)).2) := by
 rw [a3v (w := wDir' :: d.fName :: jT d.fQuery) (by rw [h.cat]; exact vY h.wd (by simp))]
 rw [if_neg (fun h => absurd h.1 (by rw [eG]; decide)), if_neg (fun h => absurd h.1 (by rw [eG]; decide)), if_neg (by rw [eG]; decide), if_pos ⟨rfl, h.two⟩]
 rw [List.drop_succ_cons, List.drop_succ_cons, List.drop_zero, ← tZ h.q, mG, eG]
theorem b6S (x : TSnapshot) {d : TDir} (h : Dr d) : rdS x (drT d) = if sfO (drT d) then fA x ⟨d.fName, (pQS (qtx d.fQuery)).1⟩ else x := by
 have hf : flds (drT d) = wDir' :: d.fName :: jT d.fQuery := by rw [h.cat]; exact a2c _ fun w hw => b2s (h.wd w hw)
 by_cases ho : sfO (drT d) = true
 ·rw [if_pos ho, a0M (p := wDir' :: d.fName :: jT d.fQuery) (by unfold sfL; rw [if_pos ho, hf])]
  rw [if_neg (by rw [eG]; decide), if_neg (by rw [eG]; decide), if_neg (by rw [eG]; decide), if_pos (eG _ _), if_pos h.two]
  rw [List.drop_succ_cons, List.drop_succ_cons, List.drop_zero, ← tZ h.q, mG, eG]
 ·rw [if_neg ho, a0M (p := []) (by unfold sfL; rw [if_neg ho])]
  rw [if_neg (by decide), if_neg (by decide), if_neg (by decide), if_neg (by decide)]
theorem Dr.few {d : TDir} (h : Dr d) (hl : (jT d.fQuery).length ≤ 19) : sfO (drT d) = true := by
 rw [h.cat]
 exact (a5l h.wd (by simp only [List.length_cons]; omega) (by simp)).1
theorem nQ : ∀ (a b : List ByteArray) (x y : TSnapshot), bQ x a = (y, true) → bQ x (a ++ b) = bQ y b
 | [], b, x, y, h => by cases h; rfl
 | l :: a, b, x, y, h => by
  unfold bQ at h
  split at h
  ·rename_i hc
   rw [List.cons_append, bQ, if_pos hc]
   exact nQ a b _ y h
  ·cases h
theorem vZ (a b : List ByteArray) (x : TSnapshot) : eU x (a ++ b) = eU (eU x a) b := by unfold eU; rw [List.foldl_append]
theorem a8a : ∀ (l : List TField) (x : TSnapshot), (∀ f ∈ l, aQ f.fName 1 = true ∧ (f.fKind = 1 ∨ f.fKind = 2)) → bQ x (l.map fdT) = (⟨⟨x.fStore.fSchema ++ l, x.fStore.fFiles, x.fStore.fNextID⟩, x.fDirs⟩, true) ∧ eU x (l.map fdT) = ⟨⟨x.fStore.fSchema ++ l, x.fStore.fFiles, x.fStore.fNextID⟩, x.fDirs⟩
 | [], x, _ => by simp [bQ, eU]
 | f :: l, x, h => by
  obtain ⟨h1, h2⟩ := h f (by simp)
  obtain ⟨i1, i2⟩ := a8a l (bP x f) (fun g hg => h g (by simp [hg]))
  refine ⟨?_, ?_⟩
  ·rw [List.map_cons, bQ, b6M x h1 h2, if_pos rfl, i1]
   simp [bP]
  ·show eU (rdS x (fdT f)) (l.map fdT) = _
   rw [b6N x h1 h2, i2]
   simp [bP]
theorem a8b : ∀ (l : List TFile) (x : TSnapshot), (∀ f ∈ l, Fl f) → bQ x (l.map jW) = (⟨⟨x.fStore.fSchema, x.fStore.fFiles ++ l, x.fStore.fNextID⟩, x.fDirs⟩, true) ∧ eU x (l.map jW) = ⟨⟨x.fStore.fSchema, x.fStore.fFiles ++ l, x.fStore.fNextID⟩, x.fDirs⟩
 | [], x, _ => by simp [bQ, eU]
 | f :: l, x, h => by
  have h1 := h f (by simp)
  obtain ⟨i1, i2⟩ := a8b l (dU x f) (fun g hg => h g (by simp [hg]))
  refine ⟨?_, ?_⟩
  ·rw [List.map_cons, bQ, b6Q x h1, if_pos rfl, i1]
   simp [dU]
  ·show eU (rdS x (jW f)) (l.map jW) = _
   rw [b6R x h1, i2]
   simp [dU]
noncomputable def dI (d : TDir) : TDir := ⟨d.fName, (pQI (qtx d.fQuery)).1⟩
noncomputable def dS (d : TDir) : Option TDir := if sfO (drT d) then some ⟨d.fName, (pQS (qtx d.fQuery)).1⟩ else none
theorem a8c : ∀ (l : List TDir) (x : TSnapshot), (∀ d ∈ l, Dr d) → (bQ x (l.map drT)).2 = true → (bQ x (l.map drT)).1 = ⟨x.fStore, x.fDirs ++ l.map dI⟩ ∧ ∀ d ∈ l, (pQI (qtx d.fQuery)).2 = true
 | [], x, _, _ => by simp [bQ]
 | d :: l, x, h, hc => by
  have h1 := b3S x (h d (by simp))
  rw [List.map_cons, bQ, h1] at hc ⊢
  split at hc
  ·rename_i hq
   obtain ⟨i1, i2⟩ := a8c l _ (fun g hg => h g (by simp [hg])) hc
   rw [if_pos hq, i1]
   refine ⟨by simp [fA, dI], fun g hg => ?_⟩
   rcases List.mem_cons.1 hg with rfl | hg
   ·exact hq
   ·exact i2 g hg
  ·cases hc
theorem a4S : ∀ (l : List TDir) (x : TSnapshot), (∀ d ∈ l, Dr d) → (∀ d ∈ l, pQI (qtx d.fQuery) = (d.fQuery, true)) → bQ x (l.map drT) = (⟨x.fStore, x.fDirs ++ l⟩, true)
 | [], x, _, _ => by simp [bQ]
 | d :: l, x, h, hq => by
  have h1 := b3S x (h d (by simp))
  rw [List.map_cons, bQ, h1, hq d (by simp), if_pos rfl, a4S l _ (fun g hg => h g (by simp [hg])) (fun g hg => hq g (by simp [hg]))]
  simp [fA]
theorem a3o : ∀ (l : List TDir) (x : TSnapshot), (∀ d ∈ l, Dr d) → eU x (l.map drT) = ⟨x.fStore, x.fDirs ++ l.filterMap dS⟩
 | [], x, _ => by simp [eU]
 | d :: l, x, h => by
  show eU (rdS x (drT d)) (l.map drT) = _
  rw [b6S x (h d (by simp)), a3o l _ (fun g hg => h g (by simp [hg]))]
  by_cases ho : sfO (drT d) = true
  ·rw [if_pos ho, List.filterMap_cons_some (b := ⟨d.fName, (pQS (qtx d.fQuery)).1⟩) (by unfold dS; rw [if_pos ho])]
   simp [fA]
  ·rw [if_neg ho, List.filterMap_cons_none (by unfold dS; rw [if_neg ho])]
theorem a8d {α : Type} {g : α → Option α} : ∀ {l : List α}, l.filterMap g = l → ∀ d ∈ l, g d = some d
 | [], _, d, hd => by cases hd
 | a :: l, h, d, hd => by
  cases ha : g a with
  | none =>
   rw [List.filterMap_cons_none ha] at h
   have := List.length_filterMap_le g l
   rw [h, List.length_cons] at this
   omega
  | some b =>
   rw [List.filterMap_cons_some ha] at h
   obtain ⟨e, h⟩ := List.cons.inj h
   rcases List.mem_cons.1 hd with rfl | hd
   ·rw [ha, e]
   ·exact a8d h d hd
theorem a4T {α : Type} {g : α → Option α} : ∀ {l : List α}, (∀ d ∈ l, g d = some d) → l.filterMap g = l
 | [], _ => rfl
 | a :: l, h => by rw [List.filterMap_cons_some (h a (by simp)), a4T (fun d hd => h d (by simp [hd]))]
theorem b0O {α : Type} {g : α → α} : ∀ {l : List α}, l.map g = l → ∀ d ∈ l, g d = d
 | [], _, d, hd => by cases hd
 | a :: l, h, d, hd => by
  rw [List.map_cons] at h
  obtain ⟨h1, h2⟩ := List.cons.inj h
  rcases List.mem_cons.1 hd with rfl | hd
  ·exact h1
  ·exact b0O h2 d hd
theorem b5J {x : TSnapshot} (hx : eY x = true) : ∀ d ∈ x.fDirs, Dr d := fun d hd => by
 obtain ⟨a, b⟩ := a3q (tC hx).2 hd
 exact ⟨a, b⟩
theorem sU {x : TSnapshot} (hx : eY x = true) (b : List ByteArray) : bQ x0 (lnC x ++ b) = bQ ⟨x.fStore, []⟩ b ∧ eU x0 (lnC x ++ b) = eU ⟨x.fStore, []⟩ b := by
 obtain ⟨h1, _⟩ := tC hx
 obtain ⟨hs, hn⟩ := vB h1
 obtain ⟨a1, a2⟩ := a8a x.fStore.fSchema x0 (fun f hf => sV hs hf)
 obtain ⟨c1, c2⟩ := a8b x.fStore.fFiles ⟨⟨x.fStore.fSchema, [], x.fStore.fNextID⟩, []⟩ (fun f hf => Fl.of (a0b h1 hf))
 have n1 := b6O ⟨⟨x.fStore.fSchema, [], 0⟩, []⟩ (n := x.fStore.fNextID) (by omega) (by omega)
 have n2 := b6P ⟨⟨x.fStore.fSchema, [], 0⟩, []⟩ (n := x.fStore.fNextID) (by omega) (by omega)
 have n1 : bQ ⟨⟨x.fStore.fSchema, [], 0⟩, []⟩ [nxT x.fStore.fNextID] = (⟨⟨x.fStore.fSchema, [], x.fStore.fNextID⟩, []⟩, true) := by
  rw [bQ, n1, if_pos rfl]; rfl
 have n2 : eU ⟨⟨x.fStore.fSchema, [], 0⟩, []⟩ [nxT x.fStore.fNextID] = ⟨⟨x.fStore.fSchema, [], x.fStore.fNextID⟩, []⟩ := n2
 have a1 : bQ x0 (lnA x) = (⟨⟨x.fStore.fSchema, [], 0⟩, []⟩, true) := a1
 have a2 : eU x0 (lnA x) = ⟨⟨x.fStore.fSchema, [], 0⟩, []⟩ := a2
 unfold lnC lnB
 simp only [List.append_assoc]
 refine ⟨?_, ?_⟩
 ·rw [nQ _ _ _ _ a1, nQ _ _ _ _ n1, nQ _ _ _ _ c1]; rfl
 ·rw [vZ, a2, vZ, n2, vZ, c2]; rfl
theorem b3T {x : TSnapshot} (hx : eY x = true) : lnX x = lnC x ++ x.fDirs.map drT := by unfold lnX; rw [if_pos hx]
theorem b3U {x : TSnapshot} (hx : eY x = true) (h : bQ x0 (lnX x) = (x, true)) : eU x0 (lnX x) = x := by
 rw [b3T hx] at h ⊢
 rw [(sU hx _).1] at h
 rw [(sU hx _).2]
 have hd := b5J hx
 obtain ⟨i1, i2⟩ := a8c x.fDirs _ hd (by rw [h])
 rw [h] at i1
 have e : x.fDirs.map dI = x.fDirs := by
  have := congrArg TSnapshot.fDirs i1
  simpa using this.symm
 have hq : ∀ d ∈ x.fDirs, pQI (qtx d.fQuery) = (d.fQuery, true) := fun d hm => Prod.ext (congrArg TDir.fQuery (b0O e d hm)) (i2 d hm)
 rw [a3o _ _ hd]
 have hf : x.fDirs.filterMap dS = x.fDirs := by
  have : ∀ d ∈ x.fDirs, dS d = some d := fun d hm => by
   have q := hq d hm
   have hd' := hd d hm
   unfold dS
   rw [if_pos (hd'.few (b5P hd'.q q)), (a9P hd'.q).1 q]
  exact a4T this
 rw [hf]
 rfl
theorem b3V {x : TSnapshot} (hx : eY x = true) (h : eU x0 (lnX x) = x) : bQ x0 (lnX x) = (x, true) := by
 rw [b3T hx] at h ⊢
 rw [(sU hx _).2] at h
 rw [(sU hx _).1]
 have hd := b5J hx
 rw [a3o _ _ hd] at h
 have e : x.fDirs.filterMap dS = x.fDirs := by
  have := congrArg TSnapshot.fDirs h
  simpa using this
 rw [a4S _ _ hd]
 ·rfl
 intro d hm
 have h1 := a8d e d hm
 have hd' := hd d hm
 unfold dS at h1
 split at h1
 ·have h2 : (pQS (qtx d.fQuery)).1 = d.fQuery := congrArg TDir.fQuery (Option.some.inj h1)
  refine (a9P hd'.q).2 (Prod.ext h2 ?_)
  have hl := gD hd'.q
  show (pQS (qtx d.fQuery)).2 = true
  cases hb : (pQS (qtx d.fQuery)).2 with
  | true => rfl
  | false =>
   exfalso
   have : (pQS (qtx d.fQuery)).1 = [] := by
    unfold pQS at hb ⊢
    simp only at hb ⊢
    split at hb
    ·cases hb
    ·rename_i hc; rw [if_neg hc]
   rw [this] at h2
   rw [← h2] at hl
   simp at hl
 ·cases h1
theorem b5n (ls : List ByteArray) : dcI ls = dcS ls := by
 by_cases h : (bQ x0 ls).2 = true ∧ eY (bQ x0 ls).1 = true ∧ lnX (bQ x0 ls).1 = ls
 ·obtain ⟨h1, h2, h3⟩ := h
  have hf : bQ x0 ls = ((bQ x0 ls).1, true) := Prod.ext rfl h1
  have hs : eU x0 ls = (bQ x0 ls).1 := by
   generalize (bQ x0 ls).1 = x at *
   subst h3
   exact b3U h2 hf
  unfold dcI dcS
  rw [hs, h1, h2, decide_eq_true h3]
  rfl
 ·by_cases h' : eY (eU x0 ls) = true ∧ lnX (eU x0 ls) = ls
  ·exfalso
   obtain ⟨h2, h3⟩ := h'
   apply h
   have : bQ x0 ls = (eU x0 ls, true) := by
    have hf : eU x0 ls = eU x0 ls := rfl
    generalize hx : eU x0 ls = x at *
    subst h3
    exact b3V h2 hx
   rw [this]
   exact ⟨rfl, h2, h3⟩
  ·have n1 : ¬ ((bQ x0 ls).2 && (eY (bQ x0 ls).1 && decide (lnX (bQ x0 ls).1 = ls))) = true := by
    simpa only [Bool.and_eq_true, decide_eq_true_eq] using h
   have n2 : ¬ (eY (eU x0 ls) && decide (lnX (eU x0 ls) = ls)) = true := by
    simpa only [Bool.and_eq_true, decide_eq_true_eq] using h'
   unfold dcI dcS
   rw [if_neg n1, if_neg n2]
theorem a9J {ls : List ByteArray} (h : (dcI ls).2 = true) (hz : zs ls ≤ 1048576) : SmX (dcI ls).1 := by
 unfold dcI at h ⊢
 split at h
 ·rename_i hc
  rw [if_pos hc]
  simp only [Bool.and_eq_true, decide_eq_true_eq] at hc
  have := a6u ls x0 hc.1
  rw [b4a] at this
  exact a0O hc.2.1 (by show aK (bQ x0 ls).1 ≤ _; omega)
 ·cases h
end Go.Proofs.YtgpoopjfkplilaaGreatDoor
end
section
set_option maxRecDepth 100000
set_option maxHeartbeats 4000000
namespace Go.Proofs.YtgpoopjfkplilaaGreatDoor
open Go Go.Sx Go.Wd Go.RowKit Go.Proofs
def eqZ {α : Type} (p : α → α → Bool) : List α → List α → Bool
 | [], [] => true
 | x :: xs, y :: ys => p x y && eqZ p xs ys
 | _, _ => false
theorem a6r {α : Type} (p : α → α → Bool) : ∀ {a b : List α}, a.length ≠ b.length → eqZ p a b = false
 | [], [], h => absurd rfl h
 | x :: xs, y :: ys, h => by
  have := a6r p (a := xs) (b := ys) (by simpa using h)
  simp [eqZ, this]
 | [], y :: ys, _ => rfl
 | x :: xs, [], _ => rfl
def a0a (a b : ByteArray) : Bool := decide (a = b)
theorem a9H : ∀ a b : List ByteArray, eqZ a0a a b = decide (a = b)
 | [], [] => by simp [eqZ]
 | x :: xs, y :: ys => by
  rw [eqZ, a9H xs ys]
  simp only [a0a, List.cons.injEq, Bool.decide_and]
 | [], y :: ys => by simp [eqZ]
 | x :: xs, [] => by simp [eqZ]
theorem a3P (a b : List ByteArray) (ha : a.length ≤ 4300000) : FnC Tryz.prog 53 [.o (.d (.sl (a.map bN))), .o (.d (.sl (b.map bN)))] (ob (eqZ a0a a b)) := by
 have hal : a.length ≤ 4300000 := by omega
 refine ent Tryz.func53 rfl Tryz.call53 rfl (fun C => ?_); simp only [go_sem, st0, Tryz.ntmps53]
 refine aH ?_
 refine cnd rfl (fun h0 => ?_) (fun h0 => ?_)
 ·have e : eqZ a0a a b = false := a6r _ (by simp only [Bool.not_eq_true', decide_eq_false_iff_not] at h0; omega)
  refine aH ?_
  exact aA ⟨⟨_, rfl, by simp only [go_sem, e]⟩, trivial⟩
 have h0 : a.length = b.length := by simpa [Int.ofNat_inj] using h0
 refine aH ?_
 refine bD (α := Nat) (fun k => [(13, oi k)]) (fun _ => []) (fun k => k ≤ a.length ∧ eqZ a0a a b = eqZ a0a (a.drop k) (b.drop k)) (fun k => a.length - k) 0 (fun _ => ?_) ?_ ?_ (fun k hk => ?_)
 ·simp only [go_sem]
 ·simp only [go_sem]; simp
 ·simp
 ·obtain ⟨hk, hq⟩ := hk
  simp only [go_sem]
  refine aH ?_
  refine cnd rfl (fun h => ?_) (fun h => ?_)
  ·simp only [decide_eq_true_eq, Int.ofNat_lt] at h
   have hb : k < b.length := by omega
   rw [List.drop_eq_getElem_cons h, List.drop_eq_getElem_cons hb, eqZ] at hq
   have q0 := @h; have q1 := @hb; refine kC ?_
   refine cnd (b := !(a0a a[k] b[k])) (by simp [a0a]; try rfl) (fun h2 => ?_) (fun h2 => ?_)
   ·simp only [Bool.not_eq_true'] at h2
    rw [h2, Bool.false_and] at hq
    refine aH ?_
    exact aA ⟨⟨_, rfl, by simp only [go_sem, hq]⟩, trivial⟩
   ·simp only [Bool.not_eq_false'] at h2
    rw [h2, Bool.true_and] at hq
    refine aH ?_
    refine aD (k + 1) ?_ ?_ ?_
    ·simp only [go_sem]; simp
    ·exact ⟨h, hq⟩
    ·omega
  ·simp only [decide_eq_false_iff_not] at h
   have e : k = a.length := by omega
   subst e
   rw [List.drop_length, List.drop_of_length_le (by omega), eqZ] at hq
   refine aH ?_
   exact aA ⟨⟨_, rfl, by simp only [go_sem, hq]⟩, trivial⟩
theorem a3Q (a b : List ByteArray) (ha : a.length ≤ 4300000) : FnC Tryz.prog 57 [.o (.d (.sl (a.map bN))), .o (.d (.sl (b.map bN)))] (ob (eqZ a0a a b)) := by
 have hal : a.length ≤ 4300000 := by omega
 refine ent Tryz.func57 rfl Tryz.call57 rfl (fun C => ?_); simp only [go_sem, st0, Tryz.ntmps57]
 refine aH ?_
 refine cnd rfl (fun h0 => ?_) (fun h0 => ?_)
 ·have e : eqZ a0a a b = false := a6r _ (by simp only [Bool.not_eq_true', decide_eq_false_iff_not] at h0; omega)
  refine aH ?_
  exact aA ⟨⟨_, rfl, by simp only [go_sem, e]⟩, trivial⟩
 have h0 : a.length = b.length := by simpa [Int.ofNat_inj] using h0
 refine aH ?_
 refine bD (α := Nat) (fun k => [(5, oi k)]) (fun _ => []) (fun k => k ≤ a.length ∧ eqZ a0a a b = eqZ a0a (a.drop k) (b.drop k)) (fun k => a.length - k) 0 (fun _ => ?_) ?_ ?_ (fun k hk => ?_)
 ·simp only [go_sem]
 ·simp only [go_sem]; simp
 ·simp
 ·obtain ⟨hk, hq⟩ := hk
  simp only [go_sem]
  refine aH ?_
  refine cnd rfl (fun h => ?_) (fun h => ?_)
  ·simp only [decide_eq_true_eq, Int.ofNat_lt] at h
   have hb : k < b.length := by omega
   rw [List.drop_eq_getElem_cons h, List.drop_eq_getElem_cons hb, eqZ] at hq
   have q0 := @h; have q1 := @hb; refine kC ?_
   refine cnd (b := !(a0a a[k] b[k])) (by simp [a0a]; try rfl) (fun h2 => ?_) (fun h2 => ?_)
   ·simp only [Bool.not_eq_true'] at h2
    rw [h2, Bool.false_and] at hq
    refine aH ?_
    exact aA ⟨⟨_, rfl, by simp only [go_sem, hq]⟩, trivial⟩
   ·simp only [Bool.not_eq_false'] at h2
    rw [h2, Bool.true_and] at hq
    refine aH ?_
    refine aD (k + 1) ?_ ?_ ?_
    ·simp only [go_sem]; simp
    ·exact ⟨h, hq⟩
    ·omega
  ·simp only [decide_eq_false_iff_not] at h
   have e : k = a.length := by omega
   subst e
   rw [List.drop_length, List.drop_of_length_le (by omega), eqZ] at hq
   refine aH ?_
   exact aA ⟨⟨_, rfl, by simp only [go_sem, hq]⟩, trivial⟩
theorem a6s (a b : List ByteArray) (ha : a.length ≤ 4300000) : FnC Tryz.prog 53 [.o (.d (.sl (a.map bN))), .o (.d (.sl (b.map bN)))] (ob (decide (a = b))) := by
 have := a3P a b ha
 rw [a9H] at this; exact this
theorem a6t (a b : List ByteArray) (ha : a.length ≤ 4300000) : FnC Tryz.prog 57 [.o (.d (.sl (a.map bN))), .o (.d (.sl (b.map bN)))] (ob (decide (a = b))) := by
 have := a3Q a b ha
 rw [a9H] at this; exact this
theorem a3n (x : TSnapshot) : (lnX x).length ≤ aK x + 1 := by
 unfold lnX
 split
 ·unfold lnC lnB lnA aK dC aP fF fK
  simp only [List.length_append, List.length_map, List.length_cons, List.length_nil]
  omega
 ·simp
theorem b2h {a b : List ByteArray} {l : ByteArray} {x y : TSnapshot} (h : bQ x a = (y, true)) (hl : (rdI y l).2 = false) : (bQ x (a ++ l :: b)).2 = false := by
 rw [nQ a _ x y h, bQ, hl]; rfl
noncomputable abbrev rDX (r : TSnapshot × Bool) : SV := .t [(true, [.w 81 2 (r.1.fStore.fSchema.map aY), .w 86 5 (r.1.fStore.fFiles.map bR), .d (iv r.1.fStore.fNextID), .w 90 2 (r.1.fDirs.map bX)]), (false, [.d (bv r.2)])]
theorem a9I (ls : List ByteArray) (hz : zs ls ≤ 1048576) : FnC Tryz.prog 22 [.o (.d (.sl (ls.map bN)))] (rDX (dcI ls)) := by
 refine ent Tryz.func22 rfl Tryz.call22 rfl (fun C => ?_); simp only [go_sem, st0, Tryz.ntmps22]
 have hzl := uF ls
 have q0 := @bH; refine iG ?_
 refine pE 1 0 81 2 rfl rfl ?_
 simp only [go_sem]
 refine pE 1 1 86 5 rfl rfl ?_
 simp only [go_sem]
 refine pE 1 3 90 2 rfl rfl ?_
 simp only [go_sem]
 refine b5K [(0,1),(1,2),(2,3),(3,4)] rfl ?_
 simp only [go_sem]
 refine bD (α := Nat) (fun k => [(10, oi k), (6, .o .u)]) (fun k => [(0, .box 31 [.s 1, .s 2, .d (iv (bQ x0 (ls.take k)).1.fStore.fNextID), .s 3]), (1, .row 81 2 ((bQ x0 (ls.take k)).1.fStore.fSchema.map aY) true), (2, .row 86 5 ((bQ x0 (ls.take k)).1.fStore.fFiles.map bR) true), (3, .row 90 2 ((bQ x0 (ls.take k)).1.fDirs.map bX) true)]) (fun k => k ≤ ls.length ∧ (bQ x0 (ls.take k)).2 = true) (fun k => ls.length - k) 0 (fun _ => ?_) ?_ ?_ (fun k hk => ?_)
 ·simp only [go_sem]
 ·simp only [go_sem]; simp [bQ, x0]
 ·simp [bQ]
 obtain ⟨hk, hq⟩ := hk
 have hf : bQ x0 (ls.take k) = ((bQ x0 (ls.take k)).1, true) := Prod.ext rfl hq
 have hw := a6u (ls.take k) x0 hq
 rw [b4a] at hw
 have hzt : zs (ls.take k) ≤ zs ls := by have := a0p (ls.take k) (ls.drop k); rw [List.take_append_drop] at this; omega
 simp only [go_sem]
 generalize hX : (bQ x0 (ls.take k)).1 = x at *
 have q0 := @bH; refine iG ?_
 refine cnd rfl (fun h => ?_) (fun h => ?_)
 ·simp only [decide_eq_true_eq, Int.ofNat_lt] at h
  have hsz := a0q (List.getElem_mem h)
  have hw' := hw
  unfold aK dC aP fF fK at hw'
  have cr := a8k x ls[k] (by omega) (by omega) (by omega) (by omega)
  have hnx : ls.take (k + 1) = ls.take k ++ [ls[k]] := List.take_succ_eq_append_getElem h
  have hsp : ls = ls.take k ++ ls[k] :: ls.drop (k + 1) := by rw [← List.drop_eq_getElem_cons h, List.take_append_drop]
  cases hr : (rdI x ls[k]).2
  ·have hb : (bQ x0 ls).2 = false := by rw [hsp]; exact b2h hf hr
   have e : dcI ls = (x0, false) := by unfold dcI; rw [hb]; rfl
   rw [hr] at cr
   have q0 := @h; have q1 := @bH; refine kC ?_
   refine iP cr _ rfl rfl rfl ?_
   rintro ⟨⟩ _
   simp only [go_sem]
   have q0 := @Bool.not_false; refine iG ?_
   exact aA ⟨⟨_, rfl, by simp only [go_sem, e, x0]⟩, by simp [aL]⟩
  ·have hnf : bQ x0 (ls.take (k + 1)) = ((rdI x ls[k]).1, true) := by
    rw [hnx, nQ _ _ _ _ hf, bQ, hr, if_pos rfl]; rfl
   rw [hr] at cr
   generalize rdI x ls[k] = y at *
   have hy : (bQ x0 (ls.take (k + 1))).1 = y.1 := by rw [hnf]
   have q0 := @h; have q1 := @bH; refine kC ?_
   refine iP cr _ rfl rfl rfl ?_
   rintro ⟨⟩ _
   simp only [go_sem]
   have q0 := @Bool.not_true; refine iG ?_
   refine aD (k + 1) ?_ ?_ ?_
   ·simp only [go_sem, hy]; simp
   ·exact ⟨h, by rw [hnf]⟩
   ·omega
 ·simp only [decide_eq_false_iff_not, Int.ofNat_lt] at h
  have ek : k = ls.length := by omega
  subst ek
  rw [List.take_length] at hf hX
  have cv := kN x (by omega)
  have hd : dcI ls = if eY x && decide (lnX x = ls) then (x, true) else (x0, false) := by unfold dcI; rw [hf, Bool.true_and]
  cases ho : eY x
  ·have e : dcI ls = (x0, false) := by rw [hd, ho]; rfl
   rw [ho] at cv
   have qH := @Bool.not_false; repeat' (with_reducible first | refine nY ?_ | (refine mX ?_; try simp only [go_sem, qH]) | refine kD ?_ | refine rD ?_ | refine vL cv ?_ | refine aO ?_ | fail)
   exact aA ⟨⟨_, rfl, by simp only [go_sem, e, x0]⟩, by simp [aL]⟩
  ·have hx := a0O ho (by omega)
   have ce := a2d x hx
   have hln := a3n x
   have ct := a6s (lnX x) ls (by omega)
   rw [ho] at cv
   cases hq2 : decide (lnX x = ls)
   ·have e : dcI ls = (x0, false) := by rw [hd, ho, hq2]; rfl
    rw [hq2] at ct
    generalize lnX x = lx at *
    have qH := aI @Bool.not_false @Bool.not_true; repeat' (with_reducible first | refine nY ?_ | (refine mX ?_; try simp only [go_sem, qH]) | refine kD ?_ | refine rD ?_ | refine vL cv ?_ | refine vL ce ?_ | refine vL ct ?_ | refine aO ?_ | fail)
    exact aA ⟨⟨_, rfl, by simp only [go_sem, e, x0]⟩, by simp [aL]⟩
   ·have e : dcI ls = (x, true) := by rw [hd, ho, hq2]; rfl
    rw [hq2] at ct
    generalize lnX x = lx at *
    have qH := aI @Bool.not_false @Bool.not_true; repeat' (with_reducible first | refine nY ?_ | (refine mX ?_; try simp only [go_sem, qH]) | refine kD ?_ | refine rD ?_ | refine vL cv ?_ | refine vL ce ?_ | refine vL ct ?_ | refine aO ?_ | fail)
    exact aA ⟨⟨_, rfl, by simp only [go_sem, e]⟩, by simp [aL]⟩
theorem a0L (p : List ByteArray) (i : Nat) (hi : i ≤ 4000000) : FnC Tryz.prog 102 [.o (.d (.sl (p.map bN))), oi i] (oi (pU (part p i)).1) := by
 refine ent Tryz.func102 rfl Tryz.call102 rfl (fun C => ?_); simp only [go_sem, st0, Tryz.ntmps102]
 have c := fC p i (by omega)
 have u := lZ (part p i)
 refine b3h c u ?_
 exact aA ⟨⟨_, rfl, by simp only [go_sem]⟩, trivial⟩
@[go_sem] def hsS (x : TSnapshot) : List HB := [.row 81 2 (x.fStore.fSchema.map aY) true, .row 86 5 (x.fStore.fFiles.map bR) true, .row 90 2 (x.fDirs.map bX) true]
theorem a9G (x : TSnapshot) (l : ByteArray) (hs : l.size ≤ 2000000) (b1 : x.fStore.fSchema.length ≤ 2000000) (b2 : x.fStore.fFiles.length ≤ 2000000) (b3 : x.fDirs.length ≤ 2000000) :
    FnZ Tryz.prog 56 false (hsS x) [.g [.s 0, .s 1, .d (iv x.fStore.fNextID), .s 2], os l] (fun _ : Unit => True) (fun _ => hsS (rdS x l)) (fun _ => .g [.s 0, .s 1, .d (iv (rdS x l).fStore.fNextID), .s 2]) := by
 refine b4j Tryz.func56 rfl Tryz.call56 rfl (fun _ => rfl) (fun h => by cases h) (fun C b => ?_)
 simp only [go_sem, Tryz.ntmps56]
 have cs := vC l (by omega)
 have hlen := a1w l
 have hzm : ∀ w ∈ sfL l, w.size ≤ 600 := fun w hw => a6w hw
 have hmu := a0M (x := x) (l := l) rfl
 generalize sfO l = so at *
 generalize sfL l = p at *
 have hps : ∀ i, (part p i).size ≤ 600 := a5e hzm
 have c0 : FnC Tryz.prog 101 [.o (.d (.sl (p.map bN))), oi 0] (os (part p 0)) := fC p 0 (by omega)
 have c1 : FnC Tryz.prog 101 [.o (.d (.sl (p.map bN))), oi 1] (os (part p 1)) := fC p 1 (by omega)
 have c2 : FnC Tryz.prog 101 [.o (.d (.sl (p.map bN))), oi 2] (os (part p 2)) := fC p 2 (by omega)
 have c3 : FnC Tryz.prog 101 [.o (.d (.sl (p.map bN))), oi 3] (os (part p 3)) := fC p 3 (by omega)
 have n1 : FnC Tryz.prog 102 [.o (.d (.sl (p.map bN))), oi 1] (oi (pU (part p 1)).1) := a0L p 1 (by omega)
 have n2 : FnC Tryz.prog 102 [.o (.d (.sl (p.map bN))), oi 2] (oi (pU (part p 2)).1) := a0L p 2 (by omega)
 have n4 : FnC Tryz.prog 102 [.o (.d (.sl (p.map bN))), oi 4] (oi (pU (part p 4)).1) := a0L p 4 (by omega)
 by_cases hF : part p 0 = iM
 ·have dF : decide (part p 0 = iM) = true := by simp [hF]
  have g1 : x.fStore.fSchema.length + 1 ≤ 140737488355328 := by omega
  rw [if_pos hF] at hmu
  clear hF
  by_cases hS : part p 2 = wU
  ·have dS : decide (part p 2 = wU) = true := by simp [hS]
   have hm : rdS x l = bP x ⟨part p 1, 1⟩ := by rw [hmu, if_pos hS]
   clear hS
   have q0 := @dF; have q1 := @dS; have q2 := @g1; have q3 := @bH; refine a8Y cs c0 c1 c2 ?_
   exact aT () trivial (by simp only [go_sem, hm] <;> rfl) (by simp [aL]) (by simp only [go_sem, hm, bP, dU, fA, eX, List.map_append]; simp) rfl rfl
  ·have dS : decide (part p 2 = wU) = false := by simp [hS]
   have hm : rdS x l = bP x ⟨part p 1, 2⟩ := by rw [hmu, if_neg hS]
   clear hS
   have q0 := @dF; have q1 := @dS; have q2 := @g1; have q3 := @bH; refine a8Y cs c0 c1 c2 ?_
   exact aT () trivial (by simp only [go_sem, hm] <;> rfl) (by simp [aL]) (by simp only [go_sem, hm, bP, dU, fA, eX, List.map_append]; simp) rfl rfl
 have dF : decide (part p 0 = iM) = false := by simp [hF]
 rw [if_neg hF] at hmu
 clear hF
 by_cases hN : part p 0 = jI
 ·have dN : decide (part p 0 = jI) = true := by simp [hN]
  rw [if_pos hN] at hmu
  have hm := hmu
  clear hN
  have q0 := @dF; have q1 := @dN; have q2 := @bH; refine b8y cs c0 n1 ?_
  exact aT () trivial (by simp only [go_sem, hm] <;> rfl) (by simp [aL]) (by simp only [go_sem, hm, bP, dU, fA, eX, List.map_append]; simp) rfl rfl
 have dN : decide (part p 0 = jI) = false := by simp [hN]
 rw [if_neg hN] at hmu
 clear hN
 by_cases hI : part p 0 = wFile'
 ·have dI : decide (part p 0 = wFile') = true := by simp [hI]
  have l0 : 0 < p.length := a0d (by rw [hI]; decide)
  rw [if_pos hI] at hmu
  have hm := hmu
  clear hI
  have g1 : x.fStore.fFiles.length + 1 ≤ 140737488355328 := by omega
  have q0 := @dF; have q1 := @dN; have q2 := @dI; have q3 := @bH; refine b8z cs c0 n1 n2 c3 n4 ?_
  refine pE 5 4 124 4 rfl rfl ?_
  simp only [go_sem]
  refine bD (α := Nat) (fun k => [(9, oi ((5 + 2 * k : Nat) : Int)), (10, .o .u), (11, .o .u)]) (fun k => [(6, .row 124 4 ((atS p 5 k).map dL) true)]) (fun k => k ≤ (p.length - 4) / 2) (fun k => (p.length - 4) / 2 - k) 0 (fun _ => ?_) ?_ ?_ (fun k hk => ?_)
  ·simp only [go_sem]
  ·simp only [go_sem]; simp [atS]
  ·omega
  simp only [go_sem]
  have q0 := @bH; refine iG ?_
  refine cnd rfl (fun h => ?_) (fun h => ?_)
  ·simp only [decide_eq_true_eq] at h
   have m0 : 5 + 2 * k < p.length := by omega
   have ec : (((5 + 2 * k : Nat) : Int) + 1) = ((5 + 2 * k + 1 : Nat) : Int) := by omega
   have ec2 : (((5 + 2 * k : Nat) : Int) + 2) = ((5 + 2 * (k + 1) : Nat) : Int) := by omega
   have hin : inR .i64 ((5 + 2 * (k + 1) : Nat) : Int) := by unfold inR; simp only; omega
   have ck : FnC Tryz.prog 101 [.o (.d (.sl (p.map bN))), oi (((5 + 2 * k : Nat) : Int) + 1)] (os (part p (5 + 2 * k + 1))) := by rw [ec]; exact fC p (5 + 2 * k + 1) (by omega)
   have cv := lG (part p (5 + 2 * k + 1)) (by have := hps (5 + 2 * k + 1); omega)
   have hn := a3s p 5 k
   rw [fB m0] at hn
   have hlen2 := a6v p 5 k
   have g2 : (atS p 5 k).length + 1 ≤ 140737488355328 := by omega
   have hpw := b5A (part p (5 + 2 * k + 1))
   generalize hP : pV (part p (5 + 2 * k + 1)) = pv at *
   obtain ⟨pv1, pv2⟩ := pv
   have qH := aI @m0 (aI @g2 (aI @hP (aI @ec2 (aI @hin @bH)))); repeat' (with_reducible first | refine nY ?_ | (refine mX ?_; try simp only [go_sem, qH]) | refine kD ?_ | (apply rE [8,9,11] [] [0,1,2,3,4,5,6,7] [0,1,2,3,4,5,6,7] ((.c 8 [] [0,1] (.c 9 [10] [10] (.c 11 [] [] .n .n) .n) .n)) (by simp only [go_sem]; rfl) (by simp only [go_sem]; rfl) (by simp only [go_sem]; rfl) (by decide +kernel); (focus simp only [go_sem]; done)) | exact bY | refine bJ (uX ?_) ?_ | refine bK (aX ?_) ?_ | refine bL (aX ?_) ?_ | exact bI | exact oH | exact uB | refine rD ?_ | refine cP ck ?_ | refine cP cv ?_ | refine aO ?_ | fail)
   refine aD (k + 1) ?_ ?_ ?_
   ·simp only [go_sem, hn, List.map_append]; simp
   ·omega
   ·omega
  ·simp only [decide_eq_false_iff_not] at h
   have ek : k = (p.length - 4) / 2 := by omega
   subst ek
   have hfs : fileS p = ⟨(pU (part p 1)).1, (pU (part p 2)).1, decide (part p 3 = ⟨#[115]⟩), (pU (part p 4)).1, atS p 5 ((p.length - 4) / 2)⟩ := rfl
   rw [hfs] at hm
   generalize atS p 5 ((p.length - 4) / 2) = al at *
   have q0 := @g1; have q1 := @bH; refine kC ?_
   exact aT () trivial (by simp only [go_sem, hm] <;> rfl) (by simp [aL]) (by simp only [go_sem, hm, bP, dU, fA, eX, List.map_append]; simp) rfl rfl
 have dI : decide (part p 0 = wFile') = false := by simp [hI]
 rw [if_neg hI] at hmu
 clear hI
 by_cases hD : part p 0 = wDir'
 ·have dD : decide (part p 0 = wDir') = true := by simp [hD]
  rw [if_pos hD] at hmu
  clear hD
  have g1 : x.fDirs.length + 1 ≤ 140737488355328 := by omega
  by_cases h2 : 2 < p.length
  ·have d2 : decide ((2 : Int) < ((p.length : Nat) : Int)) = true := by rw [decide_eq_true_iff]; omega
   have sb : (2 : Int) ≤ ((p.length : Nat) : Int) := by omega
   have hm : rdS x l = fA x ⟨part p 1, (pQS (cat 32 (p.drop 2))).1⟩ := by rw [hmu, if_pos h2]
   have hzd : zs (p.drop 2) ≤ zs p := by have := a0p (p.take 2) (p.drop 2); rw [List.take_append_drop] at this; omega
   have cj := a3t (p.drop 2) (by omega)
   have hcs := a9K (p.drop 2)
   have cq := a0h (cat 32 (p.drop 2)) (by omega)
   generalize cat 32 (p.drop 2) = tx at *
   have qH := aI @dF (aI @dN (aI @dI (aI @dD (aI @d2 (aI @sb (aI @g1 (aI @nR (aI @a5d (aI @Int.toNat_natCast @bH))))))))); repeat' (with_reducible first | refine nY ?_ | (refine mX ?_; try simp only [go_sem, qH]) | refine kD ?_ | refine rD ?_ | refine And.intro (lH p) ?_ | refine cP cs ?_ | refine cP c0 ?_ | refine cP c1 ?_ | refine cP cj ?_ | refine cP cq ?_ | refine aO ?_ | fail)
   exact aT () trivial (by simp only [go_sem, hm] <;> rfl) (by simp [aL]) (by simp only [go_sem, hm, bP, dU, fA, eX, List.map_append]; simp) rfl rfl
  ·have d2 : decide ((2 : Int) < ((p.length : Nat) : Int)) = false := by rw [decide_eq_false_iff_not]; omega
   have hm : rdS x l = fA x ⟨part p 1, []⟩ := by rw [hmu, if_neg h2]
   have q0 := @dF; have q1 := @dN; have q2 := @dI; have q3 := @dD; have q4 := @d2; have q5 := @g1; have q6 := @bH; refine b8C cs c0 c1 ?_
   exact aT () trivial (by simp only [go_sem, hm] <;> rfl) (by simp [aL]) (by simp only [go_sem, hm, bP, dU, fA, eX, List.map_append]; simp) rfl rfl
 have dD : decide (part p 0 = wDir') = false := by simp [hD]
 have hm : rdS x l = x := by rw [hmu, if_neg hD]
 clear hD
 have q0 := @dF; have q1 := @dN; have q2 := @dI; have q3 := @dD; have q4 := @bH; refine a8Z cs c0 ?_
 exact aT () trivial (by simp only [go_sem, hm] <;> rfl) (by simp [aL]) (by simp only [go_sem, hm, bP, dU, fA, eX, List.map_append]; simp) rfl rfl
theorem a9F (ls : List ByteArray) (hz : zs ls ≤ 1048576) : FnC Tryz.prog 25 [.o (.d (.sl (ls.map bN)))] (rDX (dcS ls)) := by
 refine ent Tryz.func25 rfl Tryz.call25 rfl (fun C => ?_); simp only [go_sem, st0, Tryz.ntmps25]
 have hzl := uF ls
 have q0 := @bH; refine iG ?_
 refine pE 1 0 81 2 rfl rfl ?_
 simp only [go_sem]
 refine pE 1 1 86 5 rfl rfl ?_
 simp only [go_sem]
 refine pE 1 3 90 2 rfl rfl ?_
 simp only [go_sem]
 refine b5K [(0,2),(1,3),(2,4)] rfl ?_
 simp only [go_sem]
 refine bD (α := Nat) (fun k => [(5, oi k)]) (fun k => [(0, .row 81 2 ((eU x0 (ls.take k)).fStore.fSchema.map aY) true), (1, .row 86 5 ((eU x0 (ls.take k)).fStore.fFiles.map bR) true), (2, .row 90 2 ((eU x0 (ls.take k)).fDirs.map bX) true), (3, .box 31 [.s 0, .s 1, .d (iv (eU x0 (ls.take k)).fStore.fNextID), .s 2])]) (fun k => k ≤ ls.length) (fun k => ls.length - k) 0 (fun _ => ?_) ?_ ?_ (fun k hk => ?_)
 ·simp only [go_sem]
 ·simp only [go_sem]; simp [eU, x0]
 ·omega
 have hw := b0P (ls.take k) x0
 rw [b4a] at hw
 have hzt : zs (ls.take k) ≤ zs ls := by have := a0p (ls.take k) (ls.drop k); rw [List.take_append_drop] at this; omega
 simp only [go_sem]
 generalize hX : eU x0 (ls.take k) = x at *
 have q0 := @bH; refine iG ?_
 refine cnd rfl (fun h => ?_) (fun h => ?_)
 ·simp only [decide_eq_true_eq, Int.ofNat_lt] at h
  have hsz := a0q (List.getElem_mem h)
  have hw' := hw
  unfold aK dC aP fF fK at hw'
  have cr := a9G x ls[k] (by omega) (by omega) (by omega) (by omega)
  have hnx : ls.take (k + 1) = ls.take k ++ [ls[k]] := List.take_succ_eq_append_getElem h
  have hy : eU x0 (ls.take (k + 1)) = rdS x ls[k] := by rw [hnx, vZ, hX]; rfl
  generalize rdS x ls[k] = y at *
  have qH := aI @h @bH; repeat' (with_reducible first | refine nY ?_ | (refine mX ?_; try simp only [go_sem, qH]) | refine kD ?_ | (apply b7i 7 [(0, .node [(1, .node [(2, .node [(3, .node [(4, .node [(5, .node [(6, .node [])])])])])]), (2, .node [(1, .node [(3, .node [(4, .node [(5, .node [(6, .node [])])])])])])]), (1, .node [(0, .node [(2, .node [(3, .node [(4, .node [(5, .node [(6, .node [])])])])])]), (2, .node [(0, .node [(3, .node [(4, .node [(5, .node [(6, .node [])])])])]), (3, .node [(0, .node [(4, .node [(5, .node [(6, .node [])])])]), (4, .node [(0, .node [(5, .node [(6, .node [])])])])])])]), (2, .node [(0, .node [(1, .node [(3, .node [(4, .node [(5, .node [(6, .node [])])])])])]), (1, .node [(0, .node [(3, .node [(4, .node [(5, .node [(6, .node [])])])])]), (3, .node [(0, .node [(4, .node [(5, .node [(6, .node [])])])]), (4, .node [(0, .node [(5, .node [(6, .node [])])])])])])])] (by kernel_rfl) (by kernel_rfl)) | exact b3c | refine b0m (uX ?_) ?_ | refine b0l ?_ | (refine a5O ?_; exact rfl) | refine a5O ?_ | refine rD ?_ | refine aO ?_ | fail)
  all_goals
   refine iP cr _ rfl rfl rfl ?_
   rintro ⟨⟩ _
   simp only [go_sem]
   have qH := aI @h @bH; repeat' (with_reducible first | refine nY ?_ | (refine mX ?_; try simp only [go_sem, qH]) | refine kD ?_ | (apply b7i 7 [(0, .node [(1, .node [(2, .node [(3, .node [(4, .node [(5, .node [(6, .node [])])])])])]), (2, .node [(1, .node [(3, .node [(4, .node [(5, .node [(6, .node [])])])])])])]), (1, .node [(0, .node [(2, .node [(3, .node [(4, .node [(5, .node [(6, .node [])])])])])]), (2, .node [(0, .node [(3, .node [(4, .node [(5, .node [(6, .node [])])])])]), (3, .node [(0, .node [(4, .node [(5, .node [(6, .node [])])])]), (4, .node [(0, .node [(5, .node [(6, .node [])])])])])])]), (2, .node [(0, .node [(1, .node [(3, .node [(4, .node [(5, .node [(6, .node [])])])])])]), (1, .node [(0, .node [(3, .node [(4, .node [(5, .node [(6, .node [])])])])]), (3, .node [(0, .node [(4, .node [(5, .node [(6, .node [])])])]), (4, .node [(0, .node [(5, .node [(6, .node [])])])])])])])] (by kernel_rfl) (by kernel_rfl)) | exact b3c | refine b0m (uX ?_) ?_ | refine b0l ?_ | (refine a5O ?_; exact rfl) | refine a5O ?_ | refine rD ?_ | refine aO ?_ | fail)
   refine aD (k + 1) ?_ ?_ ?_
   ·simp only [go_sem, hy]; simp
   ·exact h
   ·omega
 ·simp only [decide_eq_false_iff_not, Int.ofNat_lt] at h
  have ek : k = ls.length := by omega
  subst ek
  rw [List.take_length] at hX
  have cv := kP x (by omega)
  have hd : dcS ls = if eY x && decide (lnX x = ls) then (x, true) else (x0, false) := by unfold dcS; rw [hX]
  cases ho : eY x
  ·have e : dcS ls = (x0, false) := by rw [hd, ho]; rfl
   rw [ho] at cv
   have qH := @Bool.not_false; repeat' (with_reducible first | refine nY ?_ | (refine mX ?_; try simp only [go_sem, qH]) | refine kD ?_ | refine rD ?_ | refine vL cv ?_ | refine aO ?_ | fail)
   exact aA ⟨⟨_, rfl, by simp only [go_sem, e, x0]⟩, by simp [aL]⟩
  ·have hx := a0O ho (by omega)
   have ce := a2e x hx
   have hln := a3n x
   have ct := a6t (lnX x) ls (by omega)
   rw [ho] at cv
   cases hq2 : decide (lnX x = ls)
   ·have e : dcS ls = (x0, false) := by rw [hd, ho, hq2]; rfl
    rw [hq2] at ct
    generalize lnX x = lx at *
    have qH := aI @Bool.not_false @Bool.not_true; repeat' (with_reducible first | refine nY ?_ | (refine mX ?_; try simp only [go_sem, qH]) | refine kD ?_ | refine rD ?_ | refine vL cv ?_ | refine vL ce ?_ | refine vL ct ?_ | refine aO ?_ | fail)
    exact aA ⟨⟨_, rfl, by simp only [go_sem, e, x0]⟩, by simp [aL]⟩
   ·have e : dcS ls = (x, true) := by rw [hd, ho, hq2]; rfl
    rw [hq2] at ct
    generalize lnX x = lx at *
    have qH := aI @Bool.not_false @Bool.not_true; repeat' (with_reducible first | refine nY ?_ | (refine mX ?_; try simp only [go_sem, qH]) | refine kD ?_ | refine rD ?_ | refine vL cv ?_ | refine vL ce ?_ | refine vL ct ?_ | refine aO ?_ | fail)
    exact aA ⟨⟨_, rfl, by simp only [go_sem, e]⟩, by simp [aL]⟩
theorem b6L {ls : List ByteArray} (hz : zs ls ≤ 1048576) : aK (dcI ls).1 ≤ 1048576 := by
 cases h : (dcI ls).2 with
 | true => exact (a9J h hz).sm
 | false =>
  have : (dcI ls).1 = x0 := by
   unfold dcI at h ⊢
   split at h
   ·cases h
   ·rename_i hc; rw [if_neg hc]
  rw [this, b4a]; omega
end Go.Proofs.YtgpoopjfkplilaaGreatDoor
end
section
namespace Go.Wd
open Go
def b5y (x : UInt8) : List (List UInt8) → List (List UInt8)
 | [] => [[x]]
 | [w] => [w ++ [x]]
 | p :: q :: r => p :: b5y x (q :: r)
theorem a5f (x : UInt8) (w : List UInt8) : ∀ O : List (List UInt8), b5y x (O ++ [w]) = O ++ [w ++ [x]]
 | [] => rfl
 | [p] => rfl
 | p :: q :: r => by
  have := a5f x w (q :: r)
  show p :: b5y x (q :: r ++ [w]) = _
  rw [this]; rfl
theorem a9M (c x : UInt8) : splitL c [x] = if x = c then [[], []] else [[x]] := by
 unfold splitL
 simp only [splitL]
theorem vE (c x : UInt8) : ∀ m, splitL c (m ++ [x]) = if x = c then splitL c m ++ [[]] else b5y x (splitL c m)
 | [] => by
  rw [List.nil_append, a9M]
  split <;> rfl
 | y :: m => by
  have ih := vE c x m
  by_cases hy : y = c
  ·have e1 : splitL c (y :: m) = [] :: splitL c m := by rw [splitL, if_pos hy]
   have e2 : splitL c (y :: m ++ [x]) = [] :: splitL c (m ++ [x]) := by rw [List.cons_append, splitL, if_pos hy]
   rw [e1, e2, ih]
   split
   ·rfl
   ·cases hs : splitL c m with
    | nil => exact absurd hs (a0o c m)
    | cons p ps => rfl
  ·obtain ⟨p, ps, e1, e2⟩ := mH hy m
   obtain ⟨p', ps', e3, e4⟩ := mH hy (m ++ [x])
   rw [List.cons_append, e4, e2]
   rw [ih, e1] at e3
   split at e3
   ·rename_i hx
    rw [List.cons_append] at e3
    cases e3
    rw [if_pos hx]; rfl
   ·rename_i hx
    rw [if_neg hx]
    cases ps with
    | nil =>
     cases e3
     rfl
    | cons q r =>
     cases e3
     rfl
def cutS (c : UInt8) (l : List UInt8) : Nat → List (List UInt8) × Nat
 | 0 => ([], 0)
 | k + 1 => if l[k]? = some c then ((cutS c l k).1 ++ [(l.take k).drop (cutS c l k).2], k + 1) else cutS c l k
theorem a6x (c : UInt8) (l : List UInt8) : ∀ k, k ≤ l.length → splitL c (l.take k) = (cutS c l k).1 ++ [(l.take k).drop (cutS c l k).2] ∧ (cutS c l k).2 ≤ k
 | 0, _ => by simp [cutS, splitL]
 | k + 1, h => by
  obtain ⟨i1, i2⟩ := a6x c l k (by omega)
  have hk : k < l.length := by omega
  have e : l.take (k + 1) = l.take k ++ [l[k]] := List.take_succ_eq_append_getElem hk
  have hlen : (l.take k).length = k := by rw [List.length_take]; omega
  unfold cutS
  rw [List.getElem?_eq_getElem hk]
  by_cases hc : l[k] = c
  ·rw [if_pos (by rw [hc])]
   refine ⟨?_, Nat.le_refl _⟩
   rw [e, vE, if_pos hc, i1]
   congr 1
   have : (l.take k ++ [l[k]]).drop (k + 1) = [] := List.drop_of_length_le (by rw [List.length_append, hlen]; simp)
   rw [this]
  ·rw [if_neg (by intro h; exact hc (Option.some.inj h))]
   refine ⟨?_, by omega⟩
   rw [e, vE, if_neg hc, i1, a5f]
   congr 2
   rw [List.drop_append_of_le_length (by omega)]
theorem b4k (c : UInt8) (s : ByteArray) : ofL (cutS c s.data.toList s.data.toList.length).1 = (pieces c s).dropLast := by
 have := (a6x c s.data.toList s.data.toList.length (Nat.le_refl _)).1
 rw [List.take_length] at this
 unfold pieces ofL
 rw [this, List.map_append]
 simp
theorem a6y (s : ByteArray) (b k : Nat) : s.extract b k = ⟨((s.data.toList.take k).drop b).toArray⟩ := by
 apply b5B
 simp only [ByteArray.data_extract, Array.toList_extract, List.extract]
 rw [List.drop_take]
theorem b5z (a b : List (List UInt8)) : ofL (a ++ b) = ofL a ++ ofL b := by simp [ofL]
theorem b0T (a : List (List UInt8)) : (ofL a).length = a.length := by simp [ofL]
theorem a8l (c : UInt8) (l : List UInt8) : ∀ k, (cutS c l k).1.length ≤ k
 | 0 => by simp [cutS]
 | k + 1 => by
  have := a8l c l k
  unfold cutS
  split
  ·simp only [List.length_append, List.length_cons, List.length_nil]; omega
  ·omega
end Go.Wd
end
