/- Joined texts. -/
import Derived.Test.YtolgdibgnndoaaaGreatZ14
import Derived.Test.YtolgdibgnndoaaaGreatZ16
import Derived.Test.YtolgdibgnndoaaaGreatZ15
import Derived.Test.YtolgdibgnndoaaaGreatZ12
import Derived.Test.YtolgdibgnndoaaaGreatZ11
set_option linter.all false
section
set_option maxRecDepth 100000
set_option maxHeartbeats 4000000
namespace Go.Proofs.YtolgdibgnndoaaaGreat
open Go Go.Sx Go.RowKit Go.Proofs Go.Sx.Clos
theorem a4i (s : TStore) (d : List TDir) (hs : bW s ≤ 4300000) (hd : dK d ≤ 4300000) : FnC Tryz.prog 22 [gY s, .o (.d (.sl (d.map bD)))] (.t [(false, [.d (.sl ((evX s d [] (dirNs d)).1.map bX))]), (false, [.d (bv (evB s d))])]) := (nN s d hs hd).pu (by simp only [go_sem, and_self])
theorem a5R (l : List Int) (hl : l.length ≤ 67108864) : FnC Tryz.prog 23 [.o (.d (slI l)), .o (.d (slI l))] (ob true) := by
 refine ent Tryz.func23 rfl Tryz.call23 rfl (fun C => ?_); simp only [go_sem, st0, Tryz.ntmps23]
 have h0 : decide ((l.length : Int) = (l.length : Int)) = true := by simp
 have q0 := @h0; have q1 := @a8z; refine gT ?_
 refine bB (α := Nat) (fun k => [(5, oi k)]) (fun _ => []) (fun k => k ≤ l.length) (fun k => l.length - k) 0 (fun _ => ?_) ?_ ?_ (fun k hk => ?_)
 ·simp only [go_sem]
 ·simp only [go_sem]; simp
 ·simp
 ·simp only [go_sem]
  refine aB ?_
  refine cnd rfl (fun h => ?_) (fun h => ?_)
  ·simp only [decide_eq_true_eq, Int.ofNat_lt] at h
   have q0 := @h; refine dZ ?_
   refine aD (k + 1) ?_ ?_ ?_
   ·simp only [go_sem]; simp
   ·exact h
   ·omega
  ·refine aB ?_
   exact aA ⟨⟨_, rfl, by simp only [go_sem]⟩, trivial⟩
structure affC (x : List TDir × TFile × TFile) : Prop where
 di : dirsD 6 x.1
 a : aW x.2.1 ≤ 80
 b : aW x.2.2 ≤ 80
theorem b3E (a : TFile) (nm : ByteArray) (v : TValue) : aW (setF a nm v) ≤ aW a + nm.size + v.fStr.size + 2 := by
 have h := b0F nm v a.fAttrs
 unfold setF aW
 simp only
 unfold jP nU at h
 simp only at h
 omega
theorem qG {l : List Int} (hl : fA l) : Drw l 49 [] (fun x : List TDir × TFile × TFile => affC x) (fun x => .t [(false, [.d (.sl (x.1.map bD))]), (true, (qZ x.2.1).cells), (true, (qZ x.2.2).cells)]) := by
 intro i h hi hh; refine kN Tryz.func49 rfl Tryz.call49 rfl (fun C b => ?_); simp only [go_sem, Tryz.ntmps49]
 refine aB ?_
 first | (refine aJ (fU hl 2 i h hi hh) ⟨rfl, rfl⟩ ?_ rfl ?_; (focus first | rfl | (simp only [go_sem]; done))) | (refine hZ (fU hl 2 i h hi hh) ⟨rfl, rfl⟩ ?_ rfl ?_; (focus first | rfl | (simp only [go_sem]; done)))
 clear hi hh; rintro ⟨a, i, h⟩ ⟨ha, hi, hh⟩; simp only at ha hi hh; simp only [go_sem]
 have haw := (tV ha).1
 have hal : a.fAttrs.length ≤ 4200000 := by unfold aW eB at haw; omega
 have qH := trivial; repeat' (with_reducible first | refine nY ?_ | (refine mX ?_; try simp only [go_sem]) | refine kD ?_ | (apply rF [2,3,5,6,7,8] [] [0,1,4] [0,1,4] ((.c 2 [] [0,1,4] (.c 3 [] [0,4] (.c 5 [] [0] (.c 6 [] [] (.c 7 [] [] (.c 8 [] [] .n .n) .n) (.c 7 [] [0] (.c 6 [] [] (.c 8 [] [] .n .n) .n) .n)) (.c 7 [] [0,4] (.c 5 [] [0] (.c 6 [] [] (.c 8 [] [] .n .n) .n) .n) .n)) (.c 7 [] [0,1,4] (.c 3 [] [0,4] (.c 5 [] [0] (.c 6 [] [] (.c 8 [] [] .n .n) .n) .n) .n) .n)) (.c 7 [] [0,1,4] (.c 2 [] [0,1,4] (.c 3 [] [0,4] (.c 5 [] [0] (.c 6 [] [] (.c 8 [] [] .n .n) .n) .n) .n) .n) .n))) (by simp only [go_sem]; rfl) (by simp only [go_sem]; rfl) (by simp only [go_sem]; rfl) (by decide +kernel); (focus simp only [go_sem]; done)) | exact aQ | refine aK (uX ?_) ?_ | refine aL (aX ?_) ?_ | refine aM (aX ?_) ?_ | exact bE | exact oH | (refine uA ?_; simp only [go_sem]; (repeat' first | omega | refine And.intro ?_ ?_); done) | refine rD ?_ | refine aO ?_ | fail)
 all_goals
  skip
  first | (refine aJ (bK hl nmF (by decide) (by decide) i h hi hh) ⟨rfl, rfl⟩ ?_ rfl ?_; (focus first | rfl | (simp only [go_sem]; done))) | (refine hZ (bK hl nmF (by decide) (by decide) i h hi hh) ⟨rfl, rfl⟩ ?_ rfl ?_; (focus first | rfl | (simp only [go_sem]; done)))
  clear hi hh; rintro ⟨nm, i, h⟩ ⟨hnm, hi, hh⟩; simp only at hnm hi hh; simp only [go_sem]
  have hnw := (by decide +kernel : ∀ s ∈ nmF, s.size ≤ 7) nm hnm
  have qH := @hal; repeat' (with_reducible first | refine nY ?_ | (refine mX ?_; try simp only [go_sem, qH]) | refine kD ?_ | exact aQ | refine aK (uX ?_) ?_ | refine aL (aX ?_) ?_ | refine aM (aX ?_) ?_ | exact uB | refine rD ?_ | refine aO ?_ | fail)
  all_goals
   skip
   first | (refine aJ (nI hl i h hi hh) ⟨rfl, rfl⟩ ?_ rfl ?_; (focus first | rfl | (simp only [go_sem]; done))) | (refine hZ (nI hl i h hi hh) ⟨rfl, rfl⟩ ?_ rfl ?_; (focus first | rfl | (simp only [go_sem]; done)))
   clear hi hh; rintro ⟨v, i, h⟩ ⟨hv, hi, hh⟩; simp only at hv hi hh; simp only [go_sem]
   have hvw := hv.w
   have hsa := bN a nm v hal
   have hbw : aW (setF a nm v) ≤ 80 := by have := b3E a nm v; omega
   generalize setF a nm v = b1 at *
   have qH := @hal; repeat' (with_reducible first | refine nY ?_ | (refine mX ?_; try simp only [go_sem, qH]) | refine kD ?_ | exact aQ | refine aK (uX ?_) ?_ | refine aL (aX ?_) ?_ | refine aM (aX ?_) ?_ | exact uB | refine rD ?_ | refine hR hsa ?_ | refine vR hsa ?_ | refine vD hsa ?_ | refine aO ?_ | fail)
   all_goals
    skip
    first | (refine aJ (bU hl 3 (by decide) (by decide) i h hi hh) ⟨rfl, rfl⟩ ?_ rfl ?_; (focus first | rfl | (simp only [go_sem]; done))) | (refine hZ (bU hl 3 (by decide) (by decide) i h hi hh) ⟨rfl, rfl⟩ ?_ rfl ?_; (focus first | rfl | (simp only [go_sem]; done)))
    clear hi hh; rintro ⟨c1, i, h⟩ ⟨q1, hi, hh⟩; simp only at q1 hi hh; simp only [go_sem]
    cases c1
    case false =>
     refine aB ?_
     first | (refine aJ (bU hl 8 (by decide) (by decide) i h hi hh) ⟨rfl, rfl⟩ ?_ rfl ?_; (focus first | rfl | (simp only [go_sem]; done))) | (refine hZ (bU hl 8 (by decide) (by decide) i h hi hh) ⟨rfl, rfl⟩ ?_ rfl ?_; (focus first | rfl | (simp only [go_sem]; done)))
     clear hi hh; rintro ⟨c2, i, h⟩ ⟨q2, hi, hh⟩; simp only at q2 hi hh; simp only [go_sem]
     cases c2
     case false =>
      have qH := trivial; repeat' (with_reducible first | refine nY ?_ | (refine mX ?_; try simp only [go_sem]) | refine kD ?_ | (apply rF [1,5,6] [] [0,2,3] [0,2,3] ((.c 1 [4] [2,3,4] (.c 5 [] [3] (.c 6 [] [] .n .n) .n) .n)) (by simp only [go_sem]; rfl) (by simp only [go_sem]; rfl) (by simp only [go_sem]; rfl) (by decide +kernel); (focus simp only [go_sem]; done)) | exact aQ | refine aK (uX ?_) ?_ | refine aL (aX ?_) ?_ | refine aM (aX ?_) ?_ | exact bE | exact oH | (refine uA ?_; simp only [go_sem]; (repeat' first | omega | refine And.intro ?_ ?_); done) | refine rD ?_ | refine aO ?_ | fail)
      first | (refine aJ (fM hl i h hi hh) ⟨rfl, rfl⟩ ?_ rfl ?_; (focus first | rfl | (simp only [go_sem]; done))) | (refine hZ (fM hl i h hi hh) ⟨rfl, rfl⟩ ?_ rfl ?_; (focus first | rfl | (simp only [go_sem]; done)))
      clear hi hh; rintro ⟨d, i, h⟩ ⟨hd, hi, hh⟩; simp only at hd hi hh; simp only [go_sem]
      have qH := trivial; repeat' (with_reducible first | refine nY ?_ | (refine mX ?_; try simp only [go_sem]) | refine kD ?_ | exact aQ | refine aK (uX ?_) ?_ | refine aL (aX ?_) ?_ | refine aM (aX ?_) ?_ | (refine uA ?_; simp only [go_sem]; (repeat' first | omega | refine And.intro ?_ ?_); done) | refine rD ?_ | refine aO ?_ | fail)
      exact aF ((d, a, b1), i, h) ⟨⟨_, rfl, by simp only [go_sem]; try simp⟩, by simp [dF]⟩ ⟨(show affC (d, a, b1) from ⟨hd, by simp only; omega, hbw⟩), ⟨hi, hh⟩⟩ (by simp only [go_sem])
     case true =>
      refine aB ?_
      first | (refine aJ (gW hl i h hi hh) ⟨rfl, rfl⟩ ?_ rfl ?_; (focus first | rfl | (simp only [go_sem]; done))) | (refine hZ (gW hl i h hi hh) ⟨rfl, rfl⟩ ?_ rfl ?_; (focus first | rfl | (simp only [go_sem]; done)))
      clear hi hh; rintro ⟨b2, i, h⟩ ⟨hb2, hi, hh⟩; simp only at hb2 hi hh; simp only [go_sem]
      have qH := trivial; repeat' (with_reducible first | refine nY ?_ | (refine mX ?_; try simp only [go_sem]) | refine kD ?_ | (apply rF [1,5,6] [] [0,2,3] [0,2,3] ((.c 1 [4] [2,3,4] (.c 5 [] [3] (.c 6 [] [] .n .n) .n) .n)) (by simp only [go_sem]; rfl) (by simp only [go_sem]; rfl) (by simp only [go_sem]; rfl) (by decide +kernel); (focus simp only [go_sem]; done)) | exact aQ | refine aK (uX ?_) ?_ | refine aL (aX ?_) ?_ | refine aM (aX ?_) ?_ | exact bE | exact oH | (refine uA ?_; simp only [go_sem]; (repeat' first | omega | refine And.intro ?_ ?_); done) | refine rD ?_ | refine aO ?_ | fail)
      first | (refine aJ (fM hl i h hi hh) ⟨rfl, rfl⟩ ?_ rfl ?_; (focus first | rfl | (simp only [go_sem]; done))) | (refine hZ (fM hl i h hi hh) ⟨rfl, rfl⟩ ?_ rfl ?_; (focus first | rfl | (simp only [go_sem]; done)))
      clear hi hh; rintro ⟨d, i, h⟩ ⟨hd, hi, hh⟩; simp only at hd hi hh; simp only [go_sem]
      have qH := trivial; repeat' (with_reducible first | refine nY ?_ | (refine mX ?_; try simp only [go_sem]) | refine kD ?_ | exact aQ | refine aK (uX ?_) ?_ | refine aL (aX ?_) ?_ | refine aM (aX ?_) ?_ | (refine uA ?_; simp only [go_sem]; (repeat' first | omega | refine And.intro ?_ ?_); done) | refine rD ?_ | refine aO ?_ | fail)
      exact aF ((d, a, b2), i, h) ⟨⟨_, rfl, by simp only [go_sem]; try simp⟩, by simp [dF]⟩ ⟨(show affC (d, a, b2) from ⟨hd, by simp only; omega, hb2.w⟩), ⟨hi, hh⟩⟩ (by simp only [go_sem])
    case true =>
     refine aB ?_
     first | (refine aJ (aC hl 5 (by decide) (by decide) i h hi hh) ⟨rfl, rfl⟩ ?_ rfl ?_; (focus first | rfl | (simp only [go_sem]; done))) | (refine hZ (aC hl 5 (by decide) (by decide) i h hi hh) ⟨rfl, rfl⟩ ?_ rfl ?_; (focus first | rfl | (simp only [go_sem]; done)))
     clear hi hh; rintro ⟨lk, i, h⟩ ⟨hlk, hi, hh⟩; simp only at hlk hi hh; simp only [go_sem]
     refine aB ?_
     first | (refine aJ (bU hl 8 (by decide) (by decide) i h hi hh) ⟨rfl, rfl⟩ ?_ rfl ?_; (focus first | rfl | (simp only [go_sem]; done))) | (refine hZ (bU hl 8 (by decide) (by decide) i h hi hh) ⟨rfl, rfl⟩ ?_ rfl ?_; (focus first | rfl | (simp only [go_sem]; done)))
     clear hi hh; rintro ⟨c2, i, h⟩ ⟨q2, hi, hh⟩; simp only at q2 hi hh; simp only [go_sem]
     cases c2
     case false =>
      have qH := trivial; repeat' (with_reducible first | refine nY ?_ | (refine mX ?_; try simp only [go_sem]) | refine kD ?_ | (apply rF [1,5,6] [] [0,2,3] [0,2,3] ((.c 1 [4] [2,3,4] (.c 5 [] [3] (.c 6 [] [] .n .n) .n) .n)) (by simp only [go_sem]; rfl) (by simp only [go_sem]; rfl) (by simp only [go_sem]; rfl) (by decide +kernel); (focus simp only [go_sem]; done)) | exact aQ | refine aK (uX ?_) ?_ | refine aL (aX ?_) ?_ | refine aM (aX ?_) ?_ | exact bE | exact oH | (refine uA ?_; simp only [go_sem]; (repeat' first | omega | refine And.intro ?_ ?_); done) | refine rD ?_ | refine aO ?_ | fail)
      first | (refine aJ (fM hl i h hi hh) ⟨rfl, rfl⟩ ?_ rfl ?_; (focus first | rfl | (simp only [go_sem]; done))) | (refine hZ (fM hl i h hi hh) ⟨rfl, rfl⟩ ?_ rfl ?_; (focus first | rfl | (simp only [go_sem]; done)))
      clear hi hh; rintro ⟨d, i, h⟩ ⟨hd, hi, hh⟩; simp only at hd hi hh; simp only [go_sem]
      have qH := trivial; repeat' (with_reducible first | refine nY ?_ | (refine mX ?_; try simp only [go_sem]) | refine kD ?_ | exact aQ | refine aK (uX ?_) ?_ | refine aL (aX ?_) ?_ | refine aM (aX ?_) ?_ | (refine uA ?_; simp only [go_sem]; (repeat' first | omega | refine And.intro ?_ ?_); done) | refine rD ?_ | refine aO ?_ | fail)
      exact aF ((d, a, ⟨b1.fID, b1.fOwner, b1.fShared, lk, b1.fAttrs⟩), i, h) ⟨⟨_, rfl, by simp only [go_sem]; try simp⟩, by simp [dF]⟩ ⟨(show affC (d, a, ⟨b1.fID, b1.fOwner, b1.fShared, lk, b1.fAttrs⟩) from ⟨hd, by simp only; omega, hbw⟩), ⟨hi, hh⟩⟩ (by simp only [go_sem])
     case true =>
      refine aB ?_
      first | (refine aJ (gW hl i h hi hh) ⟨rfl, rfl⟩ ?_ rfl ?_; (focus first | rfl | (simp only [go_sem]; done))) | (refine hZ (gW hl i h hi hh) ⟨rfl, rfl⟩ ?_ rfl ?_; (focus first | rfl | (simp only [go_sem]; done)))
      clear hi hh; rintro ⟨b2, i, h⟩ ⟨hb2, hi, hh⟩; simp only at hb2 hi hh; simp only [go_sem]
      have qH := trivial; repeat' (with_reducible first | refine nY ?_ | (refine mX ?_; try simp only [go_sem]) | refine kD ?_ | (apply rF [1,5,6] [] [0,2,3] [0,2,3] ((.c 1 [4] [2,3,4] (.c 5 [] [3] (.c 6 [] [] .n .n) .n) .n)) (by simp only [go_sem]; rfl) (by simp only [go_sem]; rfl) (by simp only [go_sem]; rfl) (by decide +kernel); (focus simp only [go_sem]; done)) | exact aQ | refine aK (uX ?_) ?_ | refine aL (aX ?_) ?_ | refine aM (aX ?_) ?_ | exact bE | exact oH | (refine uA ?_; simp only [go_sem]; (repeat' first | omega | refine And.intro ?_ ?_); done) | refine rD ?_ | refine aO ?_ | fail)
      first | (refine aJ (fM hl i h hi hh) ⟨rfl, rfl⟩ ?_ rfl ?_; (focus first | rfl | (simp only [go_sem]; done))) | (refine hZ (fM hl i h hi hh) ⟨rfl, rfl⟩ ?_ rfl ?_; (focus first | rfl | (simp only [go_sem]; done)))
      clear hi hh; rintro ⟨d, i, h⟩ ⟨hd, hi, hh⟩; simp only at hd hi hh; simp only [go_sem]
      have qH := trivial; repeat' (with_reducible first | refine nY ?_ | (refine mX ?_; try simp only [go_sem]) | refine kD ?_ | exact aQ | refine aK (uX ?_) ?_ | refine aL (aX ?_) ?_ | refine aM (aX ?_) ?_ | (refine uA ?_; simp only [go_sem]; (repeat' first | omega | refine And.intro ?_ ?_); done) | refine rD ?_ | refine aO ?_ | fail)
      exact aF ((d, a, b2), i, h) ⟨⟨_, rfl, by simp only [go_sem]; try simp⟩, by simp [dF]⟩ ⟨(show affC (d, a, b2) from ⟨hd, by simp only; omega, hb2.w⟩), ⟨hi, hh⟩⟩ (by simp only [go_sem])
theorem a6v {l : List Int} (hl : fA l) : FnX Tryz.prog 8 [.o (.d (.sl (l.map kM)))] (fun x : List TDir × TFile × TFile => affC x) (fun x => .t [(false, [.d (.sl (x.1.map bD))]), (true, (qZ x.2.1).cells), (true, (qZ x.2.2).cells)]) := by
 refine a8I Tryz.func8 rfl Tryz.call8 rfl (fun C => ?_); simp only [go_sem, st0, Tryz.ntmps8]
 refine aB ?_
 refine a5a (oU l hl.1 hl.2) rfl rfl ?_
 intro h hh
 simp only [go_sem]
 refine aB ?_
 first | (refine aJ (qG hl 0 h (Nat.zero_le _) hh) ⟨rfl, rfl⟩ ?_ rfl ?_; (focus first | rfl | (simp only [go_sem]; done))) | (refine hZ (qG hl 0 h (Nat.zero_le _) hh) ⟨rfl, rfl⟩ ?_ rfl ?_; (focus first | rfl | (simp only [go_sem]; done)))
 clear hh; rintro ⟨⟨d, a, b⟩, i, h⟩ ⟨hA, hi, hh⟩; simp only at hA hi hh; simp only [go_sem]
 refine aB ?_
 exact kH (d, a, b) ⟨⟨_, rfl, by simp only [go_sem]; try simp⟩, by simp [dF]⟩ hA
theorem a6w {l : List Int} (hl : fA l) : FnX Tryz.prog 10 [.o (.d (.sl (l.map kM)))] (fun x : List TDir × TFile × TFile => affC x) (fun x => .t [(false, [.d (.sl (x.1.map bD))]), (true, (qZ x.2.1).cells), (true, (qZ x.2.2).cells)]) := by
 refine a8I Tryz.func10 rfl Tryz.call10 rfl (fun C => ?_); simp only [go_sem, st0, Tryz.ntmps10]
 refine aB ?_
 refine a5a (oU l hl.1 hl.2) rfl rfl ?_
 intro h hh
 simp only [go_sem]
 refine aB ?_
 first | (refine aJ (qG hl 0 h (Nat.zero_le _) hh) ⟨rfl, rfl⟩ ?_ rfl ?_; (focus first | rfl | (simp only [go_sem]; done))) | (refine hZ (qG hl 0 h (Nat.zero_le _) hh) ⟨rfl, rfl⟩ ?_ rfl ?_; (focus first | rfl | (simp only [go_sem]; done)))
 clear hh; rintro ⟨⟨d, a, b⟩, i, h⟩ ⟨hA, hi, hh⟩; simp only at hA hi hh; simp only [go_sem]
 refine aB ?_
 exact kH (d, a, b) ⟨⟨_, rfl, by simp only [go_sem]; try simp⟩, by simp [dF]⟩ hA
theorem a8D {l : List Int} (hl : fA l) : FnX Tryz.prog 52 [.o (.d (.sl (l.map kM)))] (fun x : List TDir × List ByteArray => dirsD 6 x.1 ∧ x.2.length ≤ 3) (fun x => .t [(false, [.d (.sl (x.1.map bD))]), (false, [.w 9 1 (x.2.map bH)])]) := by
 refine a8I Tryz.func52 rfl Tryz.call52 rfl (fun C => ?_); simp only [go_sem, st0, Tryz.ntmps52]
 refine aB ?_
 refine a5a (oU l hl.1 hl.2) rfl rfl ?_
 intro h hh
 simp only [go_sem]
 refine aB ?_
 first | (refine aJ (fM hl 0 h (Nat.zero_le _) hh) ⟨rfl, rfl⟩ ?_ rfl ?_; (focus first | rfl | (simp only [go_sem]; done))) | (refine hZ (fM hl 0 h (Nat.zero_le _) hh) ⟨rfl, rfl⟩ ?_ rfl ?_; (focus first | rfl | (simp only [go_sem]; done)))
 clear hh; rintro ⟨d, i, h⟩ ⟨hd, hi, hh⟩; simp only at hd hi hh; simp only [go_sem]
 refine aB ?_
 refine bB (α := Nat × List ByteArray × Nat × Int) (fun x => [(6, .o (.s 1)), (7, oi x.1), (12, .o .u)]) (fun x => [(0, .box 158 [.d (.sl (l.map kM)), .d (iv x.2.2.1), .d (iv x.2.2.2)]), (1, .row 9 1 (x.2.1.map bH) true)]) (fun x => (x.1 ≤ 3 ∧ x.2.1.length = x.1) ∧ (x.2.2.1 ≤ l.length ∧ inR .i64 x.2.2.2)) (fun x => 4 - x.1) (0, [], i, h) (fun _ => ?_) ?_ ?_ (fun x hx => ?_)
 ·simp only [go_sem]
 ·simp only [go_sem]; simp
 ·exact ⟨⟨Nat.zero_le _, rfl⟩, hi, hh⟩
 ·clear hi hh
  obtain ⟨k, ns, i, h⟩ := x
  obtain ⟨⟨k3, hk⟩, hi, hh⟩ := hx
  simp only at k3 hk hi hh
  simp only [go_sem]
  refine aB ?_
  first | (refine aJ (aC hl 3 (by decide) (by decide) i h hi hh) ⟨rfl, rfl⟩ ?_ rfl ?_; (focus first | rfl | (simp only [go_sem]; done))) | (refine hZ (aC hl 3 (by decide) (by decide) i h hi hh) ⟨rfl, rfl⟩ ?_ rfl ?_; (focus first | rfl | (simp only [go_sem]; done)))
  clear hi hh; rintro ⟨x, i, h⟩ ⟨hx, hi, hh⟩; simp only at hx hi hh; simp only [go_sem]
  refine aB ?_
  refine cnd rfl (fun hlt => ?_) (fun hlt => ?_)
  ·simp only [decide_eq_true_eq] at hlt
   have hq1 : ns.length + 1 ≤ 140737488355328 := by omega
   have hq2 : (ns.length + 1) * 16 ≤ 140737488355328 := by omega
   refine aB ?_
   first | (refine aJ (a1c hl i h hi hh) ⟨rfl, rfl⟩ ?_ rfl ?_; (focus first | rfl | (simp only [go_sem]; done))) | (refine hZ (a1c hl i h hi hh) ⟨rfl, rfl⟩ ?_ rfl ?_; (focus first | rfl | (simp only [go_sem]; done)))
   clear hi hh; rintro ⟨nm, i, h⟩ ⟨hnm, hi, hh⟩; simp only at hnm hi hh; simp only [go_sem]
   have q0 := @hq1; have q1 := @hq2; refine gT ?_
   refine aD (k + 1, ns ++ [nm], i, h) ?_ ?_ ?_
   ·simp only [go_sem, List.map_append, List.map_cons, List.map_nil]; simp
   ·exact ⟨⟨by simp only; omega, by simp [hk]⟩, hi, hh⟩
   ·simp only; omega
  ·refine aB ?_
   exact kH (d, ns) ⟨⟨_, rfl, by simp only [go_sem]; try simp⟩, by simp [dF]⟩ ⟨hd, by simp only; omega⟩
theorem a8E {l : List Int} (hl : fA l) : FnX Tryz.prog 11 [.o (.d (.sl (l.map kM)))] (fun x : List TDir × List ByteArray => dirsD 6 x.1 ∧ x.2.length ≤ 3) (fun x => .t [(false, [.d (.sl (x.1.map bD))]), (false, [.w 9 1 (x.2.map bH)])]) := by
 refine a8I Tryz.func11 rfl Tryz.call11 rfl (fun C => ?_); simp only [go_sem, st0, Tryz.ntmps11]
 refine aB ?_
 refine a5b (a8D hl) rfl rfl ?_
 rintro ⟨d, ns⟩ ⟨hd, hn⟩
 simp only at hd hn
 simp only [go_sem]
 refine aB ?_
 exact kH (d, ns) ⟨⟨_, rfl, by simp only [go_sem]; try simp⟩, by simp [dF]⟩ ⟨hd, hn⟩
theorem qI (l : List ByteArray) (hl : l.length ≤ 67108864) : FnC Tryz.prog 12 [.o (.d (.sl (l.map bH))), .o (.d (.sl (l.map bH)))] (ob true) := by
 refine ent Tryz.func12 rfl Tryz.call12 rfl (fun C => ?_); simp only [go_sem, st0, Tryz.ntmps12]
 have h0 : decide ((l.length : Int) = (l.length : Int)) = true := by simp
 have q0 := @h0; have q1 := @a8z; refine gT ?_
 refine bB (α := Nat) (fun k => [(5, oi k)]) (fun _ => []) (fun k => k ≤ l.length) (fun k => l.length - k) 0 (fun _ => ?_) ?_ ?_ (fun k hk => ?_)
 ·simp only [go_sem]
 ·simp only [go_sem]; simp
 ·simp
 ·simp only [go_sem]
  refine aB ?_
  refine cnd rfl (fun h => ?_) (fun h => ?_)
  ·simp only [decide_eq_true_eq, Int.ofNat_lt] at h
   have q0 := @h; refine dZ ?_
   refine aD (k + 1) ?_ ?_ ?_
   ·simp only [go_sem]; simp
   ·exact h
   ·omega
  ·refine aB ?_
   exact aA ⟨⟨_, rfl, by simp only [go_sem]⟩, trivial⟩
theorem a8F (s : TStore) (id : Int) (h : bW s ≤ 4300000) : FnC Tryz.prog 19 [gY s, oi id] (dQ (kS id s.fFiles)) := by
 have hf := (a5m s id h).pu (res' := .t [(true, (dQ (kS id s.fFiles)).cells), (false, [.d (bv (decide (0 ≤ ixF id s.fFiles)))])]) (by simp only [go_sem, and_self])
 refine ent Tryz.func19 rfl Tryz.call19 rfl (fun C => ?_); simp only [go_sem, st0, Tryz.ntmps19]
 refine iV hf ?_
 exact aA ⟨⟨_, rfl, by simp only [go_sem]⟩, trivial⟩
theorem zS (l : List TDir) (a b : TFile) (h : dK l + (aW a + aW b) ≤ 4300000) : FnC Tryz.prog 9 [.o (.d (.sl (l.map bD))), dQ a, dQ b] (.o (.d (.sl ((vY a b l).map bH)))) := (a6Y l a b h).pu (by simp only [go_sem, and_self])
theorem a4L (l : List TDir) (a b : TFile) (h : dK l + (aW a + aW b) ≤ 4300000) : FnC Tryz.prog 13 [.o (.d (.sl (l.map bD))), dQ a, dQ b] (.o (.d (.sl ((vY a b l).map bH)))) := (a6Z l a b h).pu (by simp only [go_sem, and_self])
theorem a2p (a b : TFile) (l : List TDir) : (vY a b l).length ≤ dK l := by have := b4v a b l; unfold oV at this; omega
theorem a8G (a b : TFile) (l : List TDir) : (qW a b l).length ≤ l.length := by
 unfold qW
 split
 ·exact yC a b l
 ·simp [dirNs]
theorem b0i (a b : List TResult) (h : eqL fC a b = true) : a = b := by
 induction a generalizing b with
 | nil => cases b with
  | nil => rfl
  | cons y b => simp [eqL] at h
 | cons x a ih =>
  cases b with
  | nil => simp [eqL] at h
  | cons y b =>
   simp only [eqL, fC, a3W, Bool.and_eq_true, decide_eq_true_eq] at h
   obtain ⟨⟨e1, e2⟩, e3⟩ := h
   rw [ih b e3]
   cases x; cases y; simp only at e1 e2; subst e1; subst e2; rfl
theorem a8H (l : List Int) (hf : wfU l) : FnC Tryz.prog 3 [.o (.d (.sl (l.map kM)))] (ob true) := by
 refine ent Tryz.func3 rfl Tryz.call3 rfl (fun C => ?_); simp only [go_sem, st0, Tryz.ntmps3]
 have hbig := b4y l hf.1
 by_cases g : (1048576 : Int) < (l.length : Int)
 ·have g' : decide ((1048576 : Int) < (l.length : Int)) = true := by simp [g]
  have q0 := @g'; refine jB hbig ?_
  exact aA ⟨⟨_, rfl, by simp only [go_sem]⟩, trivial⟩
 have g' : decide ((1048576 : Int) < (l.length : Int)) = false := by simp [g]
 have hl : fA l := ⟨by omega, hf.2⟩
 have q0 := @g'; refine jB hbig ?_
 refine a5b (a6v hl) rfl rfl ?_
 rintro ⟨d, a, b⟩ ⟨hd, ha, hb⟩
 simp only at hd ha hb
 simp only [go_sem]
 have hdw := xF hd (by decide)
 have c1 := zS d a b (by omega)
 have c2 := a4L d a b (by omega)
 refine iV c1 ?_
 refine a5b (a6w hl) rfl rfl ?_
 rintro ⟨e, f, g⟩ ⟨he, hf2, hg⟩
 simp only at he hf2 hg
 simp only [go_sem]
 have hew := xF he (by decide)
 have c3 := tH e f g (by omega)
 have c4 := tJ e f g (by omega)
 refine aB ?_
 refine a5b (a8E hl) rfl rfl ?_
 rintro ⟨h, ns⟩ ⟨hh, hn⟩
 simp only at hh hn
 simp only [go_sem]
 have hhl := hh.hi
 have c5 := uV h ns (by omega) (by omega)
 have c6 := a1U h ns (by omega) (by omega)
 have n1 : (vY a b d).length ≤ 67108864 := by have := a2p a b d; omega
 have n2 : (qW f g e).length ≤ 67108864 := by have := a8G f g e; have := he.hi; omega
 have n3 : (uD ns h).length ≤ 67108864 := by have := a6P ns h; omega
 have s1 := qI (vY a b d) n1
 have s2 := qI (qW f g e) n2
 have s3 := qI (uD ns h) n3
 repeat' (with_reducible first | refine nX ?_ | (refine mX ?_; try simp only [go_sem]) | refine kD ?_ | refine aO ?_ | fail)
 refine WP.sees (Sees.frz 4 rfl) ?_
 simp only [go_sem]
 refine WP.sees (Sees.frz 5 rfl) ?_
 simp only [go_sem]
 refine WP.sees (Sees.frz 8 rfl) ?_
 simp only [go_sem]
 have qH := trivial; repeat' (with_reducible first | refine nY ?_ | (refine mX ?_; try simp only [go_sem]) | refine kD ?_ | refine rT [28] [] ?_ | refine xA (aX ?_) (uX ?_) | refine a0X (aX ?_) ?_ | (refine uA ?_; simp only [go_sem]; (repeat' first | omega | refine And.intro ?_ ?_ | refine cP c2 ?_ | refine cP c3 ?_ | refine cP c4 ?_ | refine cP c5 ?_ | refine cP c6 ?_ | refine cP s1 ?_ | refine cP s2 ?_ | refine cP s3 ?_ | (refine mX ?_; simp only [go_sem] <;> fail)); done) | refine rD ?_ | refine cP c2 ?_ | refine cP c3 ?_ | refine cP c4 ?_ | refine cP c5 ?_ | refine cP c6 ?_ | refine cP s1 ?_ | refine cP s2 ?_ | refine cP s3 ?_ | refine aO ?_ | fail)
 refine a5b (a6x hl) rfl rfl ?_
 rintro ⟨c, x⟩ ⟨hc, hx⟩
 simp only at hc hx
 simp only [go_sem]
 have hsw := hc.st.w
 have hxw := hx.w
 have hdw2 := xF hc.di (by decide)
 have hrw := hc.rw_
 have f1 := a8F c.fStore x.fID (by omega)
 have r1 := (a1m c.fStore x (by omega) (by omega)).pu (res' := .t [(true, (gY (qO c.fStore x)).cells), (false, [.d (bv (kT c.fStore x))])]) (by simp only [go_sem, and_self])
 have k1 := a6R c (by unfold xO; omega)
 cases hr : kT c.fStore x
 ·rw [hr] at r1
  refine b4S f1 r1 k1 ?_
  exact aA ⟨⟨_, rfl, by simp only [go_sem]⟩, trivial⟩
 cases hk : b2C c
 ·rw [hr] at r1
  rw [hk] at k1
  refine b4S f1 r1 k1 ?_
  exact aA ⟨⟨_, rfl, by simp only [go_sem]⟩, trivial⟩
 rw [hr] at r1
 rw [hk] at k1
 have hk2 := hk
 unfold b2C at hk2
 rw [Bool.and_eq_true] at hk2
 obtain ⟨hev, heq⟩ := hk2
 have hres : (evX c.fStore c.fDirs [] (dirNs c.fDirs)).1 = c.fResults := b0i _ _ heq
 have hv : ∀ i, (hi : i < c.fDirs.length) → okQ c.fDirs[i].fQuery = true := fun i hi => by
  unfold evB at hev
  rw [Bool.and_eq_true] at hev
  exact lH (pM hev.1).1 i hi
 have hlaw := b2M hv hev hr
 rw [hres] at hlaw
 have hrep := b4i c.fStore x
 have hfw : aW (kS x.fID c.fStore.fFiles) ≤ 2000 := by
  have := b2x x.fID c.fStore.fFiles
  unfold bW at hsw
  omega
 have ev := a4i (qO c.fStore x) c.fDirs (by omega) (by omega)
 have ew := b3b (qO c.fStore x) c.fDirs
 have ul := a6P (vY (kS x.fID c.fStore.fFiles) x c.fDirs) c.fDirs
 have dl := hc.di.hi
 have al := a2p (kS x.fID c.fStore.fFiles) x c.fDirs
 have a1 := zS c.fDirs (kS x.fID c.fStore.fFiles) x (by omega)
 have u1 := uV c.fDirs (vY (kS x.fID c.fStore.fFiles) x c.fDirs) (by omega) (by omega)
 generalize (evX (qO c.fStore x) c.fDirs [] (dirNs c.fDirs)).1 = R at *
 generalize uD (vY (kS x.fID c.fStore.fFiles) x c.fDirs) c.fDirs = N at *
 have qH := trivial; repeat' (with_reducible first | refine nY ?_ | (refine mX ?_; try simp only [go_sem]) | refine kD ?_ | (apply rE [6,7] [] [0,1,2,3,4,5] [0,1,2,3,4,5] ((.c 6 [] [0,1] (.c 7 [8] [8] .n .n) .n)) (by simp only [go_sem]; rfl) (by simp only [go_sem]; rfl) (by simp only [go_sem]; rfl) (by decide +kernel); (focus simp only [go_sem]; done)) | exact aQ | refine aK (uX ?_) ?_ | refine aL (aX ?_) ?_ | refine aM (aX ?_) ?_ | exact bE | exact oH | (refine uA ?_; simp only [go_sem]; (repeat' first | omega | refine And.intro ?_ ?_); done) | refine rD ?_ | refine cP f1 ?_ | refine cP r1 ?_ | refine cP k1 ?_ | refine cP ev ?_ | refine cP a1 ?_ | refine cP u1 ?_ | refine aO ?_ | fail)
 refine bB (α := Nat) (fun k => [(20, oi k)]) (fun _ => []) (fun k => k ≤ N.length) (fun k => N.length - k) 0 (fun _ => ?_) ?_ ?_ (fun k hk => ?_)
 ·simp only [go_sem]
 ·simp only [go_sem]; simp
 ·simp
 ·simp only [go_sem]
  refine aB ?_
  refine cnd rfl (fun hlt => ?_) (fun hlt => ?_)
  ·simp only [decide_eq_true_eq, Int.ofNat_lt] at hlt
   have hR := hlaw N[k] (List.getElem_mem hlt)
   have p1 := iI R N[k] (by omega)
   have p2 := iI c.fResults N[k] (by omega)
   rw [hR] at p1
   have hil := qR N[k] c.fResults
   have s4 : FnC Tryz.prog 23 [.o (.d (.sl ((bO N[k] c.fResults).map jH))), .o (.d (.sl ((bO N[k] c.fResults).map jH)))] (ob true) := a5R (bO N[k] c.fResults) (by omega)
   have qH := @hlt; repeat' (with_reducible first | refine nY ?_ | (refine mX ?_; try simp only [go_sem, qH]) | refine kD ?_ | (apply rE [5,12,13] [] [0,1,2,3,4,6,7,8,9,10,11] [0,1,2,3,4,6,7,8,9,10,11] ((.c 5 [] [6,7,8,9,10,11] (.c 12 [] [] (.c 13 [14] [14] .n .n) .n) .n)) (by simp only [go_sem]; rfl) (by simp only [go_sem]; rfl) (by simp only [go_sem]; rfl) (by decide +kernel); (focus simp only [go_sem]; done)) | exact aQ | refine aK (uX ?_) ?_ | refine aL (aX ?_) ?_ | refine aM (aX ?_) ?_ | exact bE | exact oH | exact uB | refine rD ?_ | refine cP p1 ?_ | refine cP p2 ?_ | refine cP s4 ?_ | refine aO ?_ | fail)
   refine aD (k + 1) ?_ ?_ ?_
   ·simp only [go_sem]; simp
   ·exact hlt
   ·omega
  ·refine aB ?_
   exact aA ⟨⟨_, rfl, by simp only [go_sem]⟩, trivial⟩
end Go.Proofs.YtolgdibgnndoaaaGreat
end
