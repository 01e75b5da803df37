/- Joined texts. -/
import Derived.Test.YtlmpmpddakhfnaaDoorZ11
set_option linter.all false
section
set_option maxRecDepth 100000
set_option maxHeartbeats 4000000
namespace Go.Proofs.YtlmpmpddakhfnaaDoor
open Go Go.Sx Go.RowKit Go.Proofs
theorem iT {ids : List Int} (h : idsD 8 ids) : dX ids := ⟨by have := h.len; omega, fun y hy => by have := h.lo y hy; simp only [inR]; omega⟩
theorem a2U {l : List Int} (hl : gW l) : FnX Tryd.prog 15 [.o (.d (.sl (l.map lQ)))] (fun p : TStore × List Int => storeD 7 p.1 ∧ idsD 8 p.2) (fun p => .t [(true, (rR p.1).cells), (false, [.w 3 1 (p.2.map dK)])]) := by
 refine a5C Tryd.func15 rfl Tryd.call15 rfl (fun C => ?_); simp only [go_sem, st0, Tryd.ntmps15]
 refine aF ?_
 refine a2f (nD l hl.1 hl.2) rfl rfl ?_
 intro h hh
 simp only [go_sem]
 refine aF ?_
 first | (refine bB (fP hl 0 h (Nat.zero_le _) hh) ⟨rfl, rfl⟩ ?_ rfl ?_; (focus first | rfl | (simp only [go_sem]; done))) | (refine hZ (fP hl 0 h (Nat.zero_le _) hh) ⟨rfl, rfl⟩ ?_ rfl ?_; (focus first | rfl | (simp only [go_sem]; done)))
 clear hh; rintro ⟨s, i, h⟩ ⟨hs, hi, hh⟩; simp only at hs hi hh; simp only [go_sem]
 refine aF ?_
 first | (refine bB (iH hl i h hi hh) ⟨rfl, rfl⟩ ?_ rfl ?_; (focus first | rfl | (simp only [go_sem]; done))) | (refine hZ (iH hl i h hi hh) ⟨rfl, rfl⟩ ?_ rfl ?_; (focus first | rfl | (simp only [go_sem]; done)))
 clear hi hh; rintro ⟨ids, i, h⟩ ⟨hid, hi, hh⟩; simp only at hid hi hh; simp only [go_sem]
 refine aF ?_
 exact jW (s, ids) ⟨⟨_, rfl, by simp only [go_sem]; try simp⟩, by simp [dP]⟩ ⟨hs, hid⟩
theorem a4c {l : List Int} (hl : gW l) : FnX Tryd.prog 20 [.o (.d (.sl (l.map lQ)))] (fun p : TStore × List Int × Int => storeD 7 p.1 ∧ idsD 8 p.2.1) (fun p => .t [(true, (rR p.1).cells), (false, [.w 3 1 (p.2.1.map dK)]), (false, [.d (iv p.2.2)])]) := by
 refine a5C Tryd.func20 rfl Tryd.call20 rfl (fun C => ?_); simp only [go_sem, st0, Tryd.ntmps20]
 refine aF ?_
 refine a2f (nD l hl.1 hl.2) rfl rfl ?_
 intro h hh
 simp only [go_sem]
 refine aF ?_
 first | (refine bB (fP hl 0 h (Nat.zero_le _) hh) ⟨rfl, rfl⟩ ?_ rfl ?_; (focus first | rfl | (simp only [go_sem]; done))) | (refine hZ (fP hl 0 h (Nat.zero_le _) hh) ⟨rfl, rfl⟩ ?_ rfl ?_; (focus first | rfl | (simp only [go_sem]; done)))
 clear hh; rintro ⟨s, i, h⟩ ⟨hs, hi, hh⟩; simp only at hs hi hh; simp only [go_sem]
 refine aF ?_
 first | (refine bB (iH hl i h hi hh) ⟨rfl, rfl⟩ ?_ rfl ?_; (focus first | rfl | (simp only [go_sem]; done))) | (refine hZ (iH hl i h hi hh) ⟨rfl, rfl⟩ ?_ rfl ?_; (focus first | rfl | (simp only [go_sem]; done)))
 clear hi hh; rintro ⟨ids, i, h⟩ ⟨hid, hi, hh⟩; simp only at hid hi hh; simp only [go_sem]
 refine aF ?_
 first | (refine bB (a0t hl i h hi hh) ⟨rfl, rfl⟩ ?_ rfl ?_; (focus first | rfl | (simp only [go_sem]; done))) | (refine hZ (a0t hl i h hi hh) ⟨rfl, rfl⟩ ?_ rfl ?_; (focus first | rfl | (simp only [go_sem]; done)))
 clear hi hh; rintro ⟨id, i, h⟩ ⟨hidq, hi, hh⟩; simp only at hidq hi hh; simp only [go_sem]
 refine aF ?_
 exact jW (s, ids, id) ⟨⟨_, rfl, by simp only [go_sem]; try simp⟩, by simp [dP]⟩ ⟨hs, hid⟩
theorem a2V {l : List Int} (hl : gW l) : FnX Tryd.prog 27 [.o (.d (.sl (l.map lQ)))] (fun f : TFile => fileA f) (fun f => sG f) := by
 refine a5C Tryd.func27 rfl Tryd.call27 rfl (fun C => ?_); simp only [go_sem, st0, Tryd.ntmps27]
 refine aF ?_
 refine a2f (nD l hl.1 hl.2) rfl rfl ?_
 intro h hh
 simp only [go_sem]
 refine aF ?_
 first | (refine bB (xI hl 0 h (Nat.zero_le _) hh) ⟨rfl, rfl⟩ ?_ rfl ?_; (focus first | rfl | (simp only [go_sem]; done))) | (refine hZ (xI hl 0 h (Nat.zero_le _) hh) ⟨rfl, rfl⟩ ?_ rfl ?_; (focus first | rfl | (simp only [go_sem]; done)))
 clear hh; rintro ⟨f, i, h⟩ ⟨hf, hi, hh⟩; simp only at hf hi hh; simp only [go_sem]
 refine aF ?_
 exact jW f ⟨⟨_, rfl, by simp only [go_sem]; try simp⟩, trivial⟩ hf
@[go_sem] def nmR : List ByteArray := [⟨#[105, 110, 107]⟩, ⟨#[105, 110, 107, 46, 50]⟩, ⟨#[102, 105, 108, 101]⟩, ⟨#[102, 105, 108, 101, 46, 49]⟩, ⟨#[115, 101, 97, 46]⟩, ⟨#[]⟩]
theorem a2W {l : List Int} (hl : gW l) : FnX Tryd.prog 17 [.o (.d (.sl (l.map lQ)))] (fun p : TStore × List Int × ByteArray => storeD 7 p.1 ∧ idsD 8 p.2.1) (fun p => .t [(true, (cB p.1).cells), (false, [.d (.sl (p.2.1.map dK))]), (false, [.d (sv p.2.2)])]) := by
 refine a5C Tryd.func17 rfl Tryd.call17 rfl (fun C => ?_); simp only [go_sem, st0, Tryd.ntmps17]
 refine aF ?_
 refine a2f (nD l hl.1 hl.2) rfl rfl ?_
 intro h hh
 simp only [go_sem]
 refine aF ?_
 first | (refine bB (fP hl 0 h (Nat.zero_le _) hh) ⟨rfl, rfl⟩ ?_ rfl ?_; (focus first | rfl | (simp only [go_sem]; done))) | (refine hZ (fP hl 0 h (Nat.zero_le _) hh) ⟨rfl, rfl⟩ ?_ rfl ?_; (focus first | rfl | (simp only [go_sem]; done)))
 clear hh; rintro ⟨s, i, h⟩ ⟨hs, hi, hh⟩; simp only at hs hi hh; simp only [go_sem]
 refine aF ?_
 first | (refine bB (iH hl i h hi hh) ⟨rfl, rfl⟩ ?_ rfl ?_; (focus first | rfl | (simp only [go_sem]; done))) | (refine hZ (iH hl i h hi hh) ⟨rfl, rfl⟩ ?_ rfl ?_; (focus first | rfl | (simp only [go_sem]; done)))
 clear hi hh; rintro ⟨ids, i, h⟩ ⟨hid, hi, hh⟩; simp only at hid hi hh; simp only [go_sem]
 have hsw := mI hs
 have hlen := hid.len
 have en := dD s ids (by omega) (iT hid) (by omega)
 have enl := fI s ids ids.length
 generalize enN s ids ids.length = N at *
 by_cases hp : 0 < N.length
 ·have hpi : ((0 : Int) < (N.length : Int)) = True := by simp only [eq_iff_iff, iff_true]; omega
  have q0 := @hpi; have q1 := @decide_true; refine a5i en ?_
  first | (refine bB (bQ hl 4 (by decide) (by decide) i h hi hh) ⟨rfl, rfl⟩ ?_ rfl ?_; (focus first | rfl | (simp only [go_sem]; done))) | (refine hZ (bQ hl 4 (by decide) (by decide) i h hi hh) ⟨rfl, rfl⟩ ?_ rfl ?_; (focus first | rfl | (simp only [go_sem]; done)))
  clear hi hh; rintro ⟨c1, i, h⟩ ⟨q1, hi, hh⟩; simp only at q1 hi hh; simp only [go_sem]
  cases c1
  case true =>
   have qH := trivial; repeat' (with_reducible first | refine nY ?_ | (refine mX ?_; try simp only [go_sem]) | refine kD ?_ | (apply rF [3,4,5] [] [0,1,2] [0,1,2] ((.c 3 [] [0,1,2] (.c 4 [] [0,1] (.c 5 [6,7] [1,6,7] .n .n) .n) .n)) (by simp only [go_sem]; rfl) (by simp only [go_sem]; rfl) (by simp only [go_sem]; rfl) (by decide +kernel); (focus simp only [go_sem]; done)) | exact bN | refine bE (uX ?_) ?_ | refine bF (aX ?_) ?_ | refine bG (aX ?_) ?_ | exact dE | exact oH | (refine uA ?_; simp only [go_sem]; (repeat' first | omega | refine And.intro ?_ ?_); done) | refine rD ?_ | refine aO ?_ | fail)
   first | (refine bB (cK hl nmR (by decide) (by decide) i h hi hh) ⟨rfl, rfl⟩ ?_ rfl ?_; (focus first | rfl | (simp only [go_sem]; done))) | (refine hZ (cK hl nmR (by decide) (by decide) i h hi hh) ⟨rfl, rfl⟩ ?_ rfl ?_; (focus first | rfl | (simp only [go_sem]; done)))
   clear hi hh; rintro ⟨nm, i, h⟩ ⟨hnm, hi, hh⟩; simp only at hnm hi hh; simp only [go_sem]
   have qH := trivial; repeat' (with_reducible first | refine nY ?_ | (refine mX ?_; try simp only [go_sem]) | refine kD ?_ | exact bN | refine bE (uX ?_) ?_ | refine bF (aX ?_) ?_ | refine bG (aX ?_) ?_ | (refine uA ?_; simp only [go_sem]; (repeat' first | omega | refine And.intro ?_ ?_); done) | refine rD ?_ | refine aO ?_ | fail)
   exact jW (s, ids, nm) ⟨⟨_, rfl, by simp only [go_sem]; try simp⟩, by simp [dP]⟩ ⟨hs, hid⟩
  case false =>
   have qH := @hp; repeat' (with_reducible first | refine nY ?_ | (refine mX ?_; try simp only [go_sem, qH]) | refine kD ?_ | (apply rF [6,9] [] [0,1,2,3,4,5] [0,1,2,3,4,5] ((.c 6 [7,8] [0,1,2,7,8] (.c 9 [10,11] [1,2,7,8,10,11] .n .n) .n)) (by simp only [go_sem]; rfl) (by simp only [go_sem]; rfl) (by simp only [go_sem]; rfl) (by decide +kernel); (focus simp only [go_sem]; done)) | exact bN | refine bE (uX ?_) ?_ | refine bF (aX ?_) ?_ | refine bG (aX ?_) ?_ | exact dE | exact oH | exact uB | refine rD ?_ | refine aO ?_ | fail)
   first | (refine bB (aL hl (N.length : Int) (by omega) (by omega) i h hi hh) ⟨rfl, rfl⟩ ?_ rfl ?_; (focus first | rfl | (simp only [go_sem]; done))) | (refine hZ (aL hl (N.length : Int) (by omega) (by omega) i h hi hh) ⟨rfl, rfl⟩ ?_ rfl ?_; (focus first | rfl | (simp only [go_sem]; done)))
   clear hi hh; rintro ⟨x, i, h⟩ ⟨hx, hi, hh⟩; simp only at hx hi hh; simp only [go_sem]
   obtain ⟨k, rfl⟩ := Int.eq_ofNat_of_zero_le hx.1
   have hk : k < N.length := by omega
   have qH := @hk; repeat' (with_reducible first | refine nY ?_ | (refine mX ?_; try simp only [go_sem, qH]) | refine kD ?_ | exact bN | refine bE (uX ?_) ?_ | refine bF (aX ?_) ?_ | refine bG (aX ?_) ?_ | exact uB | refine rD ?_ | refine aO ?_ | fail)
   exact jW (s, ids, N[k]) ⟨⟨_, rfl, by simp only [go_sem]; try simp⟩, by simp [dP]⟩ ⟨hs, hid⟩
 ·have hpi : ((0 : Int) < (N.length : Int)) = False := by simp only [eq_iff_iff, iff_false]; omega
  have qH := aI @hpi @decide_false; repeat' (with_reducible first | refine nY ?_ | (refine mX ?_; try simp only [go_sem, qH]) | refine kD ?_ | (apply rF [3,4,5] [] [0,1,2] [0,1,2] ((.c 3 [] [0,1,2] (.c 4 [] [0,1] (.c 5 [6,7] [1,6,7] .n .n) .n) .n)) (by simp only [go_sem]; rfl) (by simp only [go_sem]; rfl) (by simp only [go_sem]; rfl) (by decide +kernel); (focus simp only [go_sem]; done)) | exact bN | refine bE (uX ?_) ?_ | refine bF (aX ?_) ?_ | refine bG (aX ?_) ?_ | exact dE | exact oH | exact uB | refine rD ?_ | refine cP en ?_ | refine aO ?_ | fail)
  first | (refine bB (cK hl nmR (by decide) (by decide) i h hi hh) ⟨rfl, rfl⟩ ?_ rfl ?_; (focus first | rfl | (simp only [go_sem]; done))) | (refine hZ (cK hl nmR (by decide) (by decide) i h hi hh) ⟨rfl, rfl⟩ ?_ rfl ?_; (focus first | rfl | (simp only [go_sem]; done)))
  clear hi hh; rintro ⟨nm, i, h⟩ ⟨hnm, hi, hh⟩; simp only at hnm hi hh; simp only [go_sem]
  have qH := trivial; repeat' (with_reducible first | refine nY ?_ | (refine mX ?_; try simp only [go_sem]) | refine kD ?_ | exact bN | refine bE (uX ?_) ?_ | refine bF (aX ?_) ?_ | refine bG (aX ?_) ?_ | (refine uA ?_; simp only [go_sem]; (repeat' first | omega | refine And.intro ?_ ?_); done) | refine rD ?_ | refine aO ?_ | fail)
  exact jW (s, ids, nm) ⟨⟨_, rfl, by simp only [go_sem]; try simp⟩, by simp [dP]⟩ ⟨hs, hid⟩
theorem vW (l : List ByteArray) (hl : l.length ≤ 67108864) : FnC Tryd.prog 21 [.o (.d (.sl (l.map nO))), .o (.d (.sl (l.map nO)))] (ob true) := by
 refine ent Tryd.func21 rfl Tryd.call21 rfl (fun C => ?_); simp only [go_sem, st0, Tryd.ntmps21]
 have h0 : decide ((l.length : Int) = (l.length : Int)) = true := by simp
 have q0 := @h0; have q1 := @fG; refine lN ?_
 refine dG (α := Nat) (fun k => [(5, oi k)]) (fun _ => []) (fun k => k ≤ l.length) (fun k => l.length - k) 0 (fun _ => ?_) ?_ ?_ (fun k hk => ?_)
 ·simp only [go_sem]
 ·simp only [go_sem]; simp
 ·simp
 ·simp only [go_sem]
  refine aF ?_
  refine cnd rfl (fun h => ?_) (fun h => ?_)
  ·simp only [decide_eq_true_eq, Int.ofNat_lt] at h
   have q0 := @h; refine jL ?_
   refine aU (k + 1) ?_ ?_ ?_
   ·simp only [go_sem]; simp
   ·exact h
   ·omega
  ·refine aF ?_
   exact aA ⟨⟨_, rfl, by simp only [go_sem]⟩, trivial⟩
theorem yT (l : List Int) (hl : l.length ≤ 67108864) : FnC Tryd.prog 12 [.o (.d (slI l)), .o (.d (slI l))] (ob true) := by
 refine ent Tryd.func12 rfl Tryd.call12 rfl (fun C => ?_); simp only [go_sem, st0, Tryd.ntmps12]
 have h0 : decide ((l.length : Int) = (l.length : Int)) = true := by simp
 have q0 := @h0; have q1 := @fG; refine lN ?_
 refine dG (α := Nat) (fun k => [(5, oi k)]) (fun _ => []) (fun k => k ≤ l.length) (fun k => l.length - k) 0 (fun _ => ?_) ?_ ?_ (fun k hk => ?_)
 ·simp only [go_sem]
 ·simp only [go_sem]; simp
 ·simp
 ·simp only [go_sem]
  refine aF ?_
  refine cnd rfl (fun h => ?_) (fun h => ?_)
  ·simp only [decide_eq_true_eq, Int.ofNat_lt] at h
   have q0 := @h; refine jL ?_
   refine aU (k + 1) ?_ ?_ ?_
   ·simp only [go_sem]; simp
   ·exact h
   ·omega
  ·refine aF ?_
   exact aA ⟨⟨_, rfl, by simp only [go_sem]⟩, trivial⟩
theorem a5s (l : List Int) (hl : l.length ≤ 9223372036854775807) : FnC Tryd.prog 5 [.o (.d (.sl (l.map lQ)))] (ob (decide ((1048576 : Int) < (l.length : Int)))) := by
 refine ent Tryd.func5 rfl Tryd.call5 rfl (fun C => ?_); simp only [go_sem, st0, Tryd.ntmps5]
 refine aF ?_
 exact aA ⟨⟨_, rfl, by simp only [go_sem]⟩, trivial⟩
theorem yU (l : List Int) (hf : wfU l) : FnC Tryd.prog 4 [.o (.d (.sl (l.map lQ)))] (ob true) := by
 refine ent Tryd.func4 rfl Tryd.call4 rfl (fun C => ?_); simp only [go_sem, st0, Tryd.ntmps4]
 have hbig := a5s l hf.1
 by_cases g : (1048576 : Int) < (l.length : Int)
 ·have g' : decide ((1048576 : Int) < (l.length : Int)) = true := by simp [g]
  have q0 := @g'; refine vV hbig ?_
  exact aA ⟨⟨_, rfl, by simp only [go_sem]⟩, trivial⟩
 have g' : decide ((1048576 : Int) < (l.length : Int)) = false := by simp [g]
 have hl : gW l := ⟨by omega, hf.2⟩
 have q0 := @g'; refine vV hbig ?_
 refine a2g (a2U hl) rfl rfl ?_
 rintro ⟨s, ids⟩ ⟨hs, hi⟩
 simp only at hs hi
 simp only [go_sem]
 have hsw := mI hs
 have hil := hi.len
 have c1 := eB s ids (by omega) (iT hi) (by omega)
 have c2 := dD s ids (by omega) (iT hi) (by omega)
 have c9 := a0F s ids (by omega) (iT hi) (by omega)
 have c10 := a0G s ids (by omega) (iT hi) (by omega)
 have enl := fI s ids ids.length
 have dsl : (disL s ids).length ≤ 67108864 := by have := vM (enN s ids ids.length) ids ids.length; unfold disL; omega
 have s1 := vW (enN s ids ids.length) (by omega)
 have s2 : FnC Tryd.prog 12 [.o (.d (.sl ((disL s ids).map dK))), .o (.d (.sl ((disL s ids).map dK)))] (ob true) := yT (disL s ids) dsl
 have hat := fun (i k : Nat) (h1 : k < i) (h2 : i < ids.length) (h3 : i < (enN s ids ids.length).length) (h4 : k < (enN s ids ids.length).length) => (show (enN s ids ids.length)[i] ≠ (enN s ids ids.length)[k] by
  rw [vO s ids ids.length i h2, vO s ids ids.length k (by omega)]
  exact uV hs hi h1 h2)
 have hrn := fun (i : Nat) (h2 : i < ids.length) (h3 : i < (enN s ids ids.length).length) => a7K hs hi h2 h3
 have hen := fun (i : Nat) (h2 : i < ids.length) (h3 : i < (enN s ids ids.length).length) => a7L (s := s) hi h2 h3
 have crn := fun (i : Nat) (h3 : i < (enN s ids ids.length).length) => iW s ids (enN s ids ids.length)[i] (by omega) (iT hi) (by omega)
 have cen := fun (i : Nat) (h2 : i < ids.length) => kE s ids ids[i] (by omega) (iT hi) (by omega)
 generalize hN : enN s ids ids.length = N at *
 generalize disL s ids = DI at *
 refine sQ c1 ?_
 refine a2g (a2W hl) rfl rfl ?_
 rintro ⟨s2', ids2, nm2⟩ ⟨hs2, hi2⟩
 simp only at hs2 hi2
 simp only [go_sem]
 have hsw2 := mI hs2
 have hil2 := hi2.len
 have c3 := iW s2' ids2 nm2 (by omega) (iT hi2) (by omega)
 have c4 := oU s2' ids2 nm2 (by omega) (iT hi2) (by omega)
 generalize rnI s2' ids2 nm2 = V at *
 generalize rnB s2' ids2 nm2 = B at *
 refine a6p c3 c4 ?_
 refine a2g (a4c hl) rfl rfl ?_
 rintro ⟨s3, ids3, id3⟩ ⟨hs3, hi3⟩
 simp only at hs3 hi3
 simp only [go_sem]
 have hsw3 := mI hs3
 have hil3 := hi3.len
 have c5 := kE s3 ids3 id3 (by omega) (iT hi3) (by omega)
 have c6 := rU s3 ids3 id3 (by omega) (iT hi3) (by omega)
 generalize enOf s3 ids3 id3 = E3 at *
 repeat' (with_reducible first | refine nX ?_ | (refine mX ?_; try simp only [go_sem]) | refine kD ?_ | refine aO ?_ | fail)
 refine WP.sees (Sees.frz 4 rfl) ?_
 simp only [go_sem]
 refine WP.sees (Sees.frz 5 rfl) ?_
 simp only [go_sem]
 have qH := @decide_true; repeat' (with_reducible first | refine nY ?_ | (refine mX ?_; try simp only [go_sem, qH]) | refine kD ?_ | refine rT [36] [] ?_ | refine yO (aX ?_) (uX ?_) | refine a1p (aX ?_) ?_ | (refine uA ?_; simp only [go_sem, qH]; (repeat' first | omega | refine And.intro ?_ ?_ | refine cP c2 ?_ | refine cP c3 ?_ | refine cP c4 ?_ | refine cP c5 ?_ | refine cP c6 ?_ | refine cP c9 ?_ | refine cP c10 ?_ | refine cP s1 ?_ | refine cP s2 ?_ | (refine mX ?_; simp only [go_sem, qH] <;> fail)); done) | refine rD ?_ | refine cP c2 ?_ | refine cP c3 ?_ | refine cP c4 ?_ | refine cP c5 ?_ | refine cP c6 ?_ | refine cP c9 ?_ | refine cP c10 ?_ | refine cP s1 ?_ | refine cP s2 ?_ | refine aO ?_ | fail)
 refine dG (α := Nat) (fun k => [(16, oi k)]) (fun _ => []) (fun k => k ≤ N.length) (fun k => N.length - k) 0 (fun _ => ?_) ?_ ?_ (fun k hk => ?_)
 ·simp only [go_sem]
 ·simp only [go_sem]; simp
 ·simp
 ·simp only [go_sem]
  refine aF ?_
  refine cnd rfl (fun hlt => ?_) (fun hlt => ?_)
  ·simp only [decide_eq_true_eq, Int.ofNat_lt] at hlt
   have hki : k < ids.length := by omega
   refine aF ?_
   refine dG (α := Nat) (fun m => [(17, oi m)]) (fun _ => []) (fun m => m ≤ k) (fun m => k - m) 0 (fun _ => ?_) ?_ ?_ (fun m hm => ?_)
   ·simp only [go_sem]
   ·simp only [go_sem]; simp
   ·simp
   ·simp only [go_sem]
    refine aF ?_
    refine cnd rfl (fun hlm => ?_) (fun hlm => ?_)
    ·simp only [decide_eq_true_eq, Int.ofNat_lt] at hlm
     have hml : m < N.length := by omega
     have hne : decide (N[k] = N[m]) = false := by simp only [decide_eq_false_iff_not]; exact hat k m hlm hki hlt hml
     have q0 := @hlt; have q1 := @hml; have q2 := @hne; refine oN ?_
     refine aU (m + 1) ?_ ?_ ?_
     ·simp only [go_sem]; simp
     ·exact hlm
     ·omega
    ·have d1 := crn k hlt
     rw [(hrn k hki hlt).1, (hrn k hki hlt).2] at d1
     have d2 := cen k hki
     rw [hen k hki hlt] at d2
     have qH := aI @hlt (aI @hki @decide_true); repeat' (with_reducible first | refine nY ?_ | (refine mX ?_; try simp only [go_sem, qH]) | refine kD ?_ | refine rT [23] [] ?_ | refine yO (aX ?_) (uX ?_) | refine a1p (aX ?_) ?_ | (apply rE [6] [] [0,1,2,3,4,5] [0,1,2,3,4,5] ((.c 6 [7,8,9,10,11] [7,8,9,10,11] .n .n)) (by simp only [go_sem]; rfl) (by simp only [go_sem]; rfl) (by simp only [go_sem]; rfl) (by decide +kernel); (focus simp only [go_sem]; done)) | exact bN | refine bE (uX ?_) ?_ | refine bF (aX ?_) ?_ | refine bG (aX ?_) ?_ | exact dE | exact oH | exact uB | refine rD ?_ | refine cP d1 ?_ | refine cP d2 ?_ | refine aO ?_ | fail)
     refine aU (k + 1) ?_ ?_ ?_
     ·simp only [go_sem]; simp
     ·exact hlt
     ·omega
  ·refine aF ?_
   refine a2g (a2V hl) rfl rfl ?_
   intro f hfA
   simp only [go_sem]
   have hfw := hfA.w
   have b1 := lI f (by omega)
   have b2 := lH f (by omega)
   repeat' (with_reducible first | refine nX ?_ | (refine mX ?_; try simp only [go_sem]) | refine kD ?_ | refine aO ?_ | fail)
   refine WP.sees (Sees.frz 7 rfl) ?_
   simp only [go_sem]
   have z : decide ((N.length : Int) = (ids.length : Int)) = true := by simp [enl]
   have qH := aI @z @decide_true; repeat' (with_reducible first | refine nY ?_ | (refine mX ?_; try simp only [go_sem, qH]) | refine kD ?_ | refine rT [12] [] ?_ | refine yO (aX ?_) (uX ?_) | refine a1p (aX ?_) ?_ | (refine uA ?_; simp only [go_sem, qH]; (repeat' first | omega | refine And.intro ?_ ?_ | refine cP b1 ?_ | refine cP b2 ?_ | (refine mX ?_; simp only [go_sem, qH] <;> fail)); done) | refine rD ?_ | refine cP b1 ?_ | refine cP b2 ?_ | refine aO ?_ | fail)
   exact aA ⟨⟨_, rfl, by simp only [go_sem]⟩, trivial⟩
end Go.Proofs.YtlmpmpddakhfnaaDoor
end
