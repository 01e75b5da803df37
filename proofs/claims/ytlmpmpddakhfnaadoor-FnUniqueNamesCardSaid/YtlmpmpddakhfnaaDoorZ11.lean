/- Joined texts. -/
import Derived.Test.YtlmpmpddakhfnaaDoorZ10
import Derived.Test.YtlmpmpddakhfnaaDoorZ07
import Derived.Test.YtlmpmpddakhfnaaDoorZ09
import Derived.Test.YtlmpmpddakhfnaaDoorZ08
import Derived.Test.YtlmpmpddakhfnaaDoorZ06
import Derived.Lib.IndexAny
set_option linter.all false
section
set_option maxRecDepth 100000
set_option maxHeartbeats 4000000
namespace Go.Proofs.YtlmpmpddakhfnaaDoor
open Go Go.Sx Go.RowKit Go.Proofs
@[go_sem] def vi5 : List Int := [-1, 0, 999, 1000, 9223372036854775807]
@[go_sem] def vs5 : List ByteArray := [⟨#[]⟩, ⟨#[65]⟩, ⟨#[97, 98, 99, 100, 101, 102, 103]⟩, ⟨#[97, 98, 99, 100, 101, 102]⟩, ⟨#[97, 32, 98]⟩]
theorem xH {l : List Int} (hl : gW l) : Drw l 83 [] (fun v : TValue => valD v) (fun v => kV v) := by
 intro i h hi hh; refine rJ Tryd.func83 rfl Tryd.call83 rfl (fun C b => ?_); simp only [go_sem, Tryd.ntmps83]
 refine aF ?_
 first | (refine bB (sI hl i h hi hh) ⟨rfl, rfl⟩ ?_ rfl ?_; (focus first | rfl | (simp only [go_sem]; done))) | (refine hZ (sI hl i h hi hh) ⟨rfl, rfl⟩ ?_ rfl ?_; (focus first | rfl | (simp only [go_sem]; done)))
 clear hi hh; rintro ⟨v, i, h⟩ ⟨hv, hi, hh⟩; simp only at hv hi hh; simp only [go_sem]
 refine aF ?_
 first | (refine bB (aL hl 10 (by decide) (by decide) i h hi hh) ⟨rfl, rfl⟩ ?_ rfl ?_; (focus first | rfl | (simp only [go_sem]; done))) | (refine hZ (aL hl 10 (by decide) (by decide) i h hi hh) ⟨rfl, rfl⟩ ?_ rfl ?_; (focus first | rfl | (simp only [go_sem]; done)))
 clear hi hh; rintro ⟨k, i, h⟩ ⟨hk, hi, hh⟩; simp only at hk hi hh; simp only [go_sem]
 have h3 : k = 0 ∨ k = 1 ∨ k = 2 ∨ (¬ k = 0 ∧ ¬ k = 1 ∧ ¬ k = 2) := by omega
 rcases h3 with rfl | rfl | rfl | ⟨k0, k1, k2⟩
 ·refine aF ?_
  first | (refine bB (aL hl 5 (by decide) (by decide) i h hi hh) ⟨rfl, rfl⟩ ?_ rfl ?_; (focus first | rfl | (simp only [go_sem]; done))) | (refine hZ (aL hl 5 (by decide) (by decide) i h hi hh) ⟨rfl, rfl⟩ ?_ rfl ?_; (focus first | rfl | (simp only [go_sem]; done)))
  clear hi hh; rintro ⟨x, i, h⟩ ⟨hx, hi, hh⟩; simp only at hx hi hh; simp only [go_sem]
  refine aF ?_
  exact aN (⟨x - 1, v.fInt, v.fStr⟩, i, h) ⟨⟨_, rfl, by simp only [go_sem]⟩, trivial⟩ ⟨(show valD ⟨x - 1, v.fInt, v.fStr⟩ from ⟨hv.w, by simp only [inR]; omega, hv.n⟩), ⟨hi, hh⟩⟩ (by simp only [go_sem])
 ·refine aF ?_
  first | (refine bB (dL hl vi5 (by decide) (by decide) i h hi hh) ⟨rfl, rfl⟩ ?_ rfl ?_; (focus first | rfl | (simp only [go_sem]; done))) | (refine hZ (dL hl vi5 (by decide) (by decide) i h hi hh) ⟨rfl, rfl⟩ ?_ rfl ?_; (focus first | rfl | (simp only [go_sem]; done)))
  clear hi hh; rintro ⟨x, i, h⟩ ⟨hx, hi, hh⟩; simp only at hx hi hh; simp only [go_sem]
  have hx2 := (by decide : ∀ n ∈ vi5, -1 ≤ n ∧ n ≤ 9223372036854775807) x hx
  refine aF ?_
  exact aN (⟨v.fKind, x, v.fStr⟩, i, h) ⟨⟨_, rfl, by simp only [go_sem]⟩, trivial⟩ ⟨(show valD ⟨v.fKind, x, v.fStr⟩ from ⟨hv.w, hv.k, by simp only [inR]; omega⟩), ⟨hi, hh⟩⟩ (by simp only [go_sem])
 ·refine aF ?_
  first | (refine bB (cK hl vs5 (by decide) (by decide) i h hi hh) ⟨rfl, rfl⟩ ?_ rfl ?_; (focus first | rfl | (simp only [go_sem]; done))) | (refine hZ (cK hl vs5 (by decide) (by decide) i h hi hh) ⟨rfl, rfl⟩ ?_ rfl ?_; (focus first | rfl | (simp only [go_sem]; done)))
  clear hi hh; rintro ⟨x, i, h⟩ ⟨hx, hi, hh⟩; simp only at hx hi hh; simp only [go_sem]
  have hx2 := (by decide +kernel : ∀ n ∈ vs5, n.size ≤ 7) x hx
  refine aF ?_
  exact aN (⟨v.fKind, v.fInt, x⟩, i, h) ⟨⟨_, rfl, by simp only [go_sem]⟩, trivial⟩ ⟨(show valD ⟨v.fKind, v.fInt, x⟩ from ⟨hx2, hv.k, hv.n⟩), ⟨hi, hh⟩⟩ (by simp only [go_sem])
 ·have q0 := @k0; have q1 := @k1; have q2 := @k2; have q3 := @decide_false; refine kU ?_
  exact aN (v, i, h) ⟨⟨_, rfl, by simp only [go_sem]⟩, trivial⟩ ⟨hv, ⟨hi, hh⟩⟩ (by simp only [go_sem])
structure fileA (f : TFile) : Prop where
 w : bM f ≤ 80
 wf : a1t f
theorem a4z {id : Int} {f : TFile} (h : fileD id f) (hi : inR .i64 id) : fileA f := by
 obtain ⟨h1, h2, _⟩ := tQ h
 have h3 := h.ow
 have h4 := h.lk
 exact ⟨by omega, by rw [h.id]; exact hi, by simp only [inR]; omega, trivial, by simp only [inR]; omega, h2⟩
@[go_sem] def fi4 : List Int := [0, 60, 61, -1]
@[go_sem] def fo3 : List Int := [-1, 2, 3]
@[go_sem] def fl4 : List Int := [-1, 60, 61, 9223372036854775807]
theorem a6X {f : TFile} (h : nC f.fAttrs) (hl : f.fAttrs.length ≤ 100) {s : ByteArray} {v : TValue} (hs : w1 s) (hv : valD v) : nC (f.fAttrs ++ [⟨s, v⟩]) := by
 unfold w1 at hs
 have := hv.w
 refine ⟨by simp; omega, fun y hy => ?_⟩
 rcases List.mem_append.1 hy with hy | hy
 ·exact h.2 y hy
 ·simp only [List.mem_singleton] at hy
  subst hy
  exact ⟨by simp only; omega, hv.k, hv.n, by simp only; omega⟩
theorem a6Y {f : TFile} {s : ByteArray} {v : TValue} (hs : w1 s) (hv : valD v) (hw : bM f ≤ 40) : bM { f with fAttrs := f.fAttrs ++ [⟨s, v⟩] } ≤ 80 := by
 unfold w1 at hs
 have := hv.w
 unfold bM dC at hw ⊢
 rw [qM]
 simp only [List.length_append, List.length_cons, List.length_nil, dB, gD, kW]
 omega
theorem xI {l : List Int} (hl : gW l) : Drw l 61 [] (fun f : TFile => fileA f) (fun f => sG f) := by
 intro i h hi hh; refine rJ Tryd.func61 rfl Tryd.call61 rfl (fun C b => ?_); simp only [go_sem, Tryd.ntmps61]
 refine aF ?_
 first | (refine bB (aL hl 7 (by decide) (by decide) i h hi hh) ⟨rfl, rfl⟩ ?_ rfl ?_; (focus first | rfl | (simp only [go_sem]; done))) | (refine hZ (aL hl 7 (by decide) (by decide) i h hi hh) ⟨rfl, rfl⟩ ?_ rfl ?_; (focus first | rfl | (simp only [go_sem]; done)))
 clear hi hh; rintro ⟨fid, i, h⟩ ⟨hfid, hi, hh⟩; simp only at hfid hi hh; simp only [go_sem]
 refine aF ?_
 first | (refine bB (kX hl ((1 : Int) + fid) i h hi hh) ⟨rfl, rfl⟩ ?_ rfl ?_; (focus first | rfl | (simp only [go_sem]; done))) | (refine hZ (kX hl ((1 : Int) + fid) i h hi hh) ⟨rfl, rfl⟩ ?_ rfl ?_; (focus first | rfl | (simp only [go_sem]; done)))
 clear hi hh; rintro ⟨f, i, h⟩ ⟨hf, hi, hh⟩; simp only at hf hi hh; simp only [go_sem]
 have hfA := a4z hf (by simp only [inR]; omega)
 obtain ⟨hw, hwf, _⟩ := tQ hf
 have hlen : f.fAttrs.length ≤ 40 := by unfold bM dC at hw; omega
 have how := hf.ow
 have hlk := hf.lk
 clear hf
 refine aF ?_
 first | (refine bB (aL hl 14 (by decide) (by decide) i h hi hh) ⟨rfl, rfl⟩ ?_ rfl ?_; (focus first | rfl | (simp only [go_sem]; done))) | (refine hZ (aL hl 14 (by decide) (by decide) i h hi hh) ⟨rfl, rfl⟩ ?_ rfl ?_; (focus first | rfl | (simp only [go_sem]; done)))
 clear hi hh; rintro ⟨k, i, h⟩ ⟨hk, hi, hh⟩; simp only at hk hi hh; simp only [go_sem]
 have h5 : k = 0 ∨ k = 1 ∨ k = 2 ∨ k = 3 ∨ k = 4 ∨ (¬ k = 0 ∧ ¬ k = 1 ∧ ¬ k = 2 ∧ ¬ k = 3 ∧ ¬ k = 4) := by omega
 have q1 := hfA.wf.1
 have q2 := hfA.wf.2.1
 have q4 := hfA.wf.2.2.2.1
 rcases h5 with rfl | rfl | rfl | rfl | rfl | ⟨k0, k1, k2, k3, k4⟩
 ·refine aF ?_
  first | (refine bB (dL hl fi4 (by decide) (by decide) i h hi hh) ⟨rfl, rfl⟩ ?_ rfl ?_; (focus first | rfl | (simp only [go_sem]; done))) | (refine hZ (dL hl fi4 (by decide) (by decide) i h hi hh) ⟨rfl, rfl⟩ ?_ rfl ?_; (focus first | rfl | (simp only [go_sem]; done)))
  clear hi hh; rintro ⟨x, i, h⟩ ⟨hx, hi, hh⟩; simp only at hx hi hh; simp only [go_sem]
  have hx2 := (by decide : ∀ n ∈ fi4, -1 ≤ n ∧ n ≤ 61) x hx
  refine aF ?_
  exact aN (⟨x, f.fOwner, f.fShared, f.fLink, f.fAttrs⟩, i, h) ⟨⟨_, rfl, by simp only [go_sem]⟩, trivial⟩ ⟨(show fileA ⟨x, f.fOwner, f.fShared, f.fLink, f.fAttrs⟩ from ⟨hfA.w, by simp only [inR]; omega, q2, trivial, q4, hwf⟩), ⟨hi, hh⟩⟩ (by simp only [go_sem])
 ·refine aF ?_
  first | (refine bB (dL hl fo3 (by decide) (by decide) i h hi hh) ⟨rfl, rfl⟩ ?_ rfl ?_; (focus first | rfl | (simp only [go_sem]; done))) | (refine hZ (dL hl fo3 (by decide) (by decide) i h hi hh) ⟨rfl, rfl⟩ ?_ rfl ?_; (focus first | rfl | (simp only [go_sem]; done)))
  clear hi hh; rintro ⟨x, i, h⟩ ⟨hx, hi, hh⟩; simp only at hx hi hh; simp only [go_sem]
  have hx2 := (by decide : ∀ n ∈ fo3, -1 ≤ n ∧ n ≤ 3) x hx
  refine aF ?_
  exact aN (⟨f.fID, x, f.fShared, f.fLink, f.fAttrs⟩, i, h) ⟨⟨_, rfl, by simp only [go_sem]⟩, trivial⟩ ⟨(show fileA ⟨f.fID, x, f.fShared, f.fLink, f.fAttrs⟩ from ⟨hfA.w, q1, by simp only [inR]; omega, trivial, q4, hwf⟩), ⟨hi, hh⟩⟩ (by simp only [go_sem])
 ·refine aF ?_
  first | (refine bB (dL hl fl4 (by decide) (by decide) i h hi hh) ⟨rfl, rfl⟩ ?_ rfl ?_; (focus first | rfl | (simp only [go_sem]; done))) | (refine hZ (dL hl fl4 (by decide) (by decide) i h hi hh) ⟨rfl, rfl⟩ ?_ rfl ?_; (focus first | rfl | (simp only [go_sem]; done)))
  clear hi hh; rintro ⟨x, i, h⟩ ⟨hx, hi, hh⟩; simp only at hx hi hh; simp only [go_sem]
  have hx2 := (by decide : ∀ n ∈ fl4, -1 ≤ n ∧ n ≤ 9223372036854775807) x hx
  refine aF ?_
  exact aN (⟨f.fID, f.fOwner, f.fShared, x, f.fAttrs⟩, i, h) ⟨⟨_, rfl, by simp only [go_sem]⟩, trivial⟩ ⟨(show fileA ⟨f.fID, f.fOwner, f.fShared, x, f.fAttrs⟩ from ⟨hfA.w, q1, q2, trivial, by simp only [inR]; omega, hwf⟩), ⟨hi, hh⟩⟩ (by simp only [go_sem])
 ·have hl1 : f.fAttrs.length + 1 ≤ 140737488355328 := by omega
  have hl2 : (f.fAttrs.length + 1) * 48 ≤ 140737488355328 := by omega
  have qH := aI @hl1 @hl2; repeat' (with_reducible first | refine nY ?_ | (refine mX ?_; try simp only [go_sem, qH]) | refine kD ?_ | (apply rF [3,5,7,8,10] [] [0,1,2,4] [0,1,2,4] ((.c 3 [] [0,1,4] (.c 5 [6] [0,1,6] (.c 7 [] [0,1] (.c 8 [9] [9] (.c 10 [] [] .n .n) .n) .n) .n) .n)) (by simp only [go_sem]; rfl) (by simp only [go_sem]; rfl) (by simp only [go_sem]; rfl) (by decide +kernel); (focus simp only [go_sem]; done)) | exact bN | refine bE (uX ?_) ?_ | refine bF (aX ?_) ?_ | refine bG (aX ?_) ?_ | exact dE | exact oH | exact uB | refine rD ?_ | refine aO ?_ | fail)
  first | (refine bB (uY hl i h hi hh) ⟨rfl, rfl⟩ ?_ rfl ?_; (focus first | rfl | (simp only [go_sem]; done))) | (refine hZ (uY hl i h hi hh) ⟨rfl, rfl⟩ ?_ rfl ?_; (focus first | rfl | (simp only [go_sem]; done)))
  clear hi hh; rintro ⟨nm, i, h⟩ ⟨hnm, hi, hh⟩; simp only at hnm hi hh; simp only [go_sem]
  have qH := aI @hl1 @hl2; repeat' (with_reducible first | refine nY ?_ | (refine mX ?_; try simp only [go_sem, qH]) | refine kD ?_ | exact bN | refine bE (uX ?_) ?_ | refine bF (aX ?_) ?_ | refine bG (aX ?_) ?_ | exact uB | refine rD ?_ | refine aO ?_ | fail)
  first | (refine bB (xH hl i h hi hh) ⟨rfl, rfl⟩ ?_ rfl ?_; (focus first | rfl | (simp only [go_sem]; done))) | (refine hZ (xH hl i h hi hh) ⟨rfl, rfl⟩ ?_ rfl ?_; (focus first | rfl | (simp only [go_sem]; done)))
  clear hi hh; rintro ⟨v, i, h⟩ ⟨hv, hi, hh⟩; simp only at hv hi hh; simp only [go_sem]
  have qH := aI @hl1 @hl2; repeat' (with_reducible first | refine nY ?_ | (refine mX ?_; try simp only [go_sem, qH]) | refine kD ?_ | exact bN | refine bE (uX ?_) ?_ | refine bF (aX ?_) ?_ | refine bG (aX ?_) ?_ | exact uB | refine rD ?_ | refine aO ?_ | fail)
  exact aN ({ f with fAttrs := f.fAttrs ++ [⟨nm, v⟩] }, i, h) ⟨⟨_, rfl, by simp only [go_sem, List.map_append]⟩, trivial⟩ ⟨⟨a6Y hnm hv hw, q1, q2, trivial, q4, a6X hwf (by omega) hnm hv⟩, ⟨hi, hh⟩⟩ (by simp only [go_sem])
 ·have hc := aT f ⟨#[97]⟩ ⟨2, 0, ⟨#[114, 101, 100]⟩⟩ (by omega)
  have hws := a6P ⟨#[97]⟩ ⟨2, 0, ⟨#[114, 101, 100]⟩⟩ f.fAttrs
  have e8 : gD ⟨⟨#[97]⟩, ⟨2, 0, ⟨#[114, 101, 100]⟩⟩⟩ = 4 := by decide +kernel
  have hwf2 : nC (lS ⟨#[97]⟩ ⟨2, 0, ⟨#[114, 101, 100]⟩⟩ f.fAttrs) := by
   have hsl := a4s ⟨#[97]⟩ ⟨2, 0, ⟨#[114, 101, 100]⟩⟩ f.fAttrs
   refine ⟨by omega, fun y hy => ?_⟩
   unfold lS jI at hy
   rw [if_neg (by decide)] at hy
   have hdel : ∀ z ∈ iA ⟨#[97]⟩ f.fAttrs, a1s z := fun z hz => hwf.2 z ((List.mem_filter.1 hz).1)
   rcases List.mem_append.1 hy with hy | hy
   ·exact hdel y (List.mem_of_mem_take hy)
   ·rcases List.mem_cons.1 hy with rfl | hy
    ·exact ⟨by decide, in2, in0, by decide⟩
    ·exact hdel y (List.mem_of_mem_drop hy)
  have qH := trivial; repeat' (with_reducible first | refine nY ?_ | (refine mX ?_; try simp only [go_sem]) | refine kD ?_ | (apply rF [1,2,3] [] [0] [0] ((.c 1 [] [0] (.c 2 [] [] (.c 3 [] [] .n .n) .n) .n)) (by simp only [go_sem]; rfl) (by simp only [go_sem]; rfl) (by simp only [go_sem]; rfl) (by decide +kernel); (focus simp only [go_sem]; done)) | exact bN | refine bE (uX ?_) ?_ | refine bF (aX ?_) ?_ | refine bG (aX ?_) ?_ | exact dE | exact oH | (refine uA ?_; simp only [go_sem]; (repeat' first | omega | refine And.intro ?_ ?_); done) | refine rD ?_ | refine cP (mJ ⟨#[114, 101, 100]⟩) ?_ | refine hR hc ?_ | refine vR hc ?_ | refine vD hc ?_ | refine aO ?_ | fail)
  exact aN (kY f ⟨#[97]⟩ ⟨2, 0, ⟨#[114, 101, 100]⟩⟩, i, h) ⟨⟨_, rfl, by simp only [go_sem]⟩, trivial⟩ ⟨(show fileA (kY f ⟨#[97]⟩ ⟨2, 0, ⟨#[114, 101, 100]⟩⟩) from ⟨by have h40 : dC f.fAttrs ≤ 40 := hw; unfold bM kY; simp only; omega, q1, q2, trivial, q4, hwf2⟩), ⟨hi, hh⟩⟩ (by simp only [go_sem])
 ·have q0 := @k0; have q1 := @k1; have q2 := @k2; have q3 := @k3; have q4 := @k4; have q5 := @decide_false; refine a6s ?_
  exact aN (f, i, h) ⟨⟨_, rfl, by simp only [go_sem]⟩, trivial⟩ ⟨hfA, ⟨hi, hh⟩⟩ (by simp only [go_sem])
structure idsD (k : Nat) (x : List Int) : Prop where
 up : x.Pairwise (· < ·)
 lo : ∀ y ∈ x, 1 ≤ y ∧ y < k
 len : x.length < k
theorem a3h {k : Nat} {x : List Int} (h : idsD k x) : idsD (k + 1) x := ⟨h.up, fun y hy => by have := h.lo y hy; omega, by have := h.len; omega⟩
theorem a4A {k : Nat} {x : List Int} (hk : 1 ≤ k) (h : idsD k x) : idsD (k + 1) (x ++ [(k : Int)]) := by
 refine ⟨?_, fun y hy => ?_, by have := h.len; simp; omega⟩
 ·rw [List.pairwise_append]
  refine ⟨h.up, List.pairwise_singleton _ _, fun y hy z hz => ?_⟩
  simp only [List.mem_singleton] at hz
  subst hz
  exact (h.lo y hy).2
 ·rcases List.mem_append.1 hy with hy | hy
  ·have := h.lo y hy; omega
  ·simp only [List.mem_singleton] at hy; omega
theorem iH {l : List Int} (hl : gW l) : Drw l 32 [] (fun x : List Int => idsD 8 x) (fun x => .o (.w 3 1 (x.map dK))) := by
 intro i h hi hh; refine rJ Tryd.func32 rfl Tryd.call32 rfl (fun C b => ?_); simp only [go_sem, Tryd.ntmps32]
 refine aF ?_
 refine dG (α := Nat × List Int × Nat × Int) (fun x => [(3, .o (.s 1)), (4, oi x.1), (12, .o .u), (5, .o .u)]) (fun x => [(0, .pin b 89 [.sl (l.map lQ), iv x.2.2.1, iv x.2.2.2]), (1, .row 3 1 (x.2.1.map dK) true)]) (fun x => (1 ≤ x.1 ∧ x.1 ≤ 8 ∧ idsD x.1 x.2.1) ∧ (x.2.2.1 ≤ l.length ∧ inR .i64 x.2.2.2)) (fun x => 8 - x.1) (1, [], i, h) (fun _ => ?_) ?_ ?_ (fun x hx => ?_)
 ·simp only [go_sem]
 ·simp only [go_sem]; simp
 ·exact ⟨⟨Nat.le_refl _, by simp only; omega, List.Pairwise.nil, fun y hy => by simp at hy, by simp⟩, hi, hh⟩
 ·obtain ⟨k, x, i, h⟩ := x
  obtain ⟨⟨k1, k8, hx⟩, hi, hh⟩ := hx
  simp only at k1 k8 hx hi hh
  have hlen := hx.len
  have hl1 : x.length + 1 ≤ 140737488355328 := by omega
  have hl2 : (x.length + 1) * 8 ≤ 140737488355328 := by omega
  simp only [go_sem]
  refine aF ?_
  refine cnd rfl (fun hlt => ?_) (fun hlt => ?_)
  ·simp only [decide_eq_true_eq] at hlt
   refine aF ?_
   first | (refine bB (bQ hl 2 (by decide) (by decide) i h hi hh) ⟨rfl, rfl⟩ ?_ rfl ?_; (focus first | rfl | (simp only [go_sem]; done))) | (refine hZ (bQ hl 2 (by decide) (by decide) i h hi hh) ⟨rfl, rfl⟩ ?_ rfl ?_; (focus first | rfl | (simp only [go_sem]; done)))
   clear hi hh; rintro ⟨c1, i, h⟩ ⟨q1, hi, hh⟩; simp only at q1 hi hh; simp only [go_sem]
   cases c1
   ·refine aF ?_
    refine aU (k + 1, x, i, h) ?_ ?_ ?_
    ·simp only [go_sem]; simp
    ·exact ⟨⟨by simp only; omega, by simp only; omega, a3h hx⟩, hi, hh⟩
    ·simp only; omega
   ·have q0 := @hl1; have q1 := @hl2; refine lN ?_
    refine aU (k + 1, x ++ [(k : Int)], i, h) ?_ ?_ ?_
    ·simp only [go_sem]; simp [dK]
    ·exact ⟨⟨by simp only; omega, by simp only; omega, a4A k1 hx⟩, hi, hh⟩
    ·simp only; omega
  ·simp only [decide_eq_false_iff_not] at hlt
   have e : k = 8 := by omega
   subst e
   refine aF ?_
   exact aN (x, i, h) ⟨⟨_, rfl, by simp only [go_sem]⟩, trivial⟩ ⟨hx, ⟨hi, hh⟩⟩ (by simp only [go_sem])
theorem Done.same {V : View} {w w' : World} {x : Value} (hs : scalar x = true) (hm : Mod V w) (hb : Below w.heap.size w w') : Done V w (.o (.d (.v x))) x w' := by
 refine ⟨⟨V, [], View.le.refl V, ?_, (fun b cs h1 h2 => by rw [h1] at h2; cases h2), ?_, List.nodup_nil, (fun b hb => by cases hb)⟩, hb⟩
 ·intro b cs hbc
  obtain ⟨c, ty, fz, h1, h2⟩ := hm b cs hbc
  exact ⟨c, ty, fz, by rw [← h1]; exact hb.block b (Array.getElem?_eq_some_iff.1 h1).1, h2⟩
 ·refine ⟨[x], rfl, [[]], rfl, rfl, rfl, fun k a y s h1 h2 h3 => ?_⟩
  match k, h1, h2, h3 with
  | 0, rfl, rfl, rfl => exact ⟨rfl, [], .v _ hs⟩
def a9J (s : ByteArray) (c : UInt8) : Bool := s.data.toList.contains c
theorem a0K (s : ByteArray) (c : UInt8) : FnC Tryd.prog 60 [os s, os ⟨#[c]⟩] (ob (decide (0 ≤ Lib.indexByte s.data.toList c))) := by
 refine ⟨Tryd.call60, fun V w vs htab hm hargs => ?_⟩
 obtain ⟨hn, hv⟩ := hargs
 match vs, hn with
 | [y, z], _ =>
  obtain ⟨rfl, _⟩ := aG (hv 1 (os ⟨#[c]⟩) z rfl rfl)
  obtain ⟨rfl, _⟩ := aG (hv 0 (os s) y rfl rfl)
  refine (Any.strings_Contains_one Tryd.laysContains s c w).mono ?_
  rintro e w' ⟨rfl, rfl⟩
  exact ⟨_, rfl, Done.same rfl hm (Below.refl _ _)⟩
end Go.Proofs.YtlmpmpddakhfnaaDoor
end
section
namespace Go.Proofs.YtlmpmpddakhfnaaDoor
open Go Go.Sx Go.RowKit Go.Proofs
def eG (x : TFile) : ByteArray := if (bP ⟨#[110]⟩ x.fAttrs).fKind = 2 then (bP ⟨#[110]⟩ x.fAttrs).fStr else ⟨#[102, 105, 108, 101]⟩
theorem lH (x : TFile) (h : bM x ≤ 1048576) : FnC Tryd.prog 29 [lD x] (os (eG x)) := by
 refine ent Tryd.func29 rfl Tryd.call29 rfl (fun C => ?_); simp only [go_sem, st0, Tryd.ntmps29]
 by_cases h1 : (bP ⟨#[110]⟩ x.fAttrs).fKind = 2
 all_goals
  have q0 := @h1; refine vV (vH x ⟨#[110]⟩ (by omega)) ?_
  exact aA ⟨⟨_, rfl, by simp only [go_sem, eG, h1]⟩, trivial⟩
theorem lI (x : TFile) (h : bM x ≤ 1048576) : FnC Tryd.prog 28 [lD x] (os (eG x)) := by
 refine ent Tryd.func28 rfl Tryd.call28 rfl (fun C => ?_); simp only [go_sem, st0, Tryd.ntmps28]
 by_cases h1 : (bP ⟨#[110]⟩ x.fAttrs).fKind = 2
 all_goals
  have q0 := @h1; refine vV (vF x ⟨#[110]⟩ (by omega)) ?_
  exact aA ⟨⟨_, rfl, by simp only [go_sem, eG, h1]⟩, trivial⟩
end Go.Proofs.YtlmpmpddakhfnaaDoor
end
section
set_option maxRecDepth 100000
set_option maxHeartbeats 4000000
namespace Go.Proofs.YtlmpmpddakhfnaaDoor
open Go Go.Sx Go.RowKit Go.Proofs
def sV (l : List ByteArray) (s : ByteArray) : Bool := l.any fun x => decide (x = s)
theorem xK (l : List ByteArray) (s : ByteArray) (hl : l.length ≤ 4300000) : FnC Tryd.prog 55 [.o (.d (.sl (l.map nO))), os s] (oi (eF (fun x => decide (s = x)) l 0)) := by
 refine ent Tryd.func55 rfl Tryd.call55 rfl (fun C => ?_); simp only [go_sem, st0, Tryd.ntmps55]
 refine aF ?_
 refine dG (α := Nat) (fun k => [(8, oi k)]) (fun _ => []) (fun k => k ≤ l.length ∧ eF (fun x => decide (s = x)) l 0 = eF (fun x => decide (s = x)) (l.drop k) k) (fun k => l.length - k) 0 (fun _ => ?_) ?_ ?_ (fun k hk => ?_)
 ·simp only [go_sem]
 ·simp only [go_sem]; simp
 ·simp
 ·obtain ⟨hk, hq⟩ := hk
  simp only [go_sem]
  refine aF ?_
  refine cnd rfl (fun h => ?_) (fun h => ?_)
  ·simp only [decide_eq_true_eq, Int.ofNat_lt] at h
   have hd := List.drop_eq_getElem_cons h
   rw [hd, eF] at hq
   have q0 := @h; refine jL ?_
   refine cnd rfl (fun h2 => ?_) (fun h2 => ?_)
   ·refine aF ?_
    exact aA ⟨⟨_, rfl, by simp only [go_sem, hq, h2]⟩, trivial⟩
   ·refine aF ?_
    refine aU (k + 1) ?_ ?_ ?_
    ·simp only [go_sem]; simp
    ·rw [hq, h2]; exact ⟨h, by simp⟩
    ·omega
  ·simp only [decide_eq_false_iff_not] at h
   have e : k = l.length := by omega
   subst e
   simp only [List.drop_length, eF] at hq
   refine aF ?_
   exact aA ⟨⟨_, rfl, by simp only [go_sem, hq]⟩, trivial⟩
theorem a0L {α : Type} (p : α → Bool) : ∀ (l : List α) (k : Nat), decide (0 ≤ eF p l k) = l.any p
 | [], _ => by simp [eF]
 | x :: xs, k => by
  simp only [eF, List.any_cons]
  by_cases h : p x = true
  ·simp [h]
  ·rw [Bool.not_eq_true] at h
   simpa [h] using a0L p xs (k + 1)
theorem a4C (l : List ByteArray) (s : ByteArray) : decide (0 ≤ eF (fun x => decide (s = x)) l 0) = sV l s := by
 rw [a0L]; unfold sV
 congr 1; funext x; congr 1; exact propext eq_comm
theorem zG (l : List ByteArray) (s : ByteArray) (hl : l.length ≤ 4300000) : FnC Tryd.prog 50 [.o (.d (.sl (l.map nO))), os s] (ob (sV l s)) := by
 refine ent Tryd.func50 rfl Tryd.call50 rfl (fun C => ?_); simp only [go_sem, st0, Tryd.ntmps50]
 refine sQ (xK l s hl) ?_
 exact aA ⟨⟨_, rfl, by simp only [go_sem, a4C]⟩, trivial⟩
def a8g (l : List TDir) : List ByteArray := l.map TDir.fName
def uD (names : List ByteArray) (l : List TDir) : List ByteArray := (a8g l).filter fun n => !sV names n
theorem a3i (l : List Int) (s : Int) (hl : l.length ≤ 67108864) : FnC Tryd.prog 59 [.o (.d (.sl (l.map dK))), oi s] (oi (eF (fun x => decide (s = x)) l 0)) := by
 refine ent Tryd.func59 rfl Tryd.call59 rfl (fun C => ?_); simp only [go_sem, st0, Tryd.ntmps59]
 refine aF ?_
 refine dG (α := Nat) (fun k => [(8, oi k)]) (fun _ => []) (fun k => k ≤ l.length ∧ eF (fun x => decide (s = x)) l 0 = eF (fun x => decide (s = x)) (l.drop k) k) (fun k => l.length - k) 0 (fun _ => ?_) ?_ ?_ (fun k hk => ?_)
 ·simp only [go_sem]
 ·simp only [go_sem]; simp
 ·simp
 ·obtain ⟨hk, hq⟩ := hk
  simp only [go_sem]
  refine aF ?_
  refine cnd rfl (fun h => ?_) (fun h => ?_)
  ·simp only [decide_eq_true_eq, Int.ofNat_lt] at h
   have hd := List.drop_eq_getElem_cons h
   rw [hd, eF] at hq
   have q0 := @h; refine jL ?_
   refine cnd (b := decide (s = l[k])) rfl (fun h2 => ?_) (fun h2 => ?_)
   ·rw [if_pos h2] at hq
    refine aF ?_
    exact aA ⟨⟨_, rfl, by simp only [go_sem, hq]⟩, trivial⟩
   ·rw [if_neg (by simp [h2])] at hq
    refine aF ?_
    refine aU (k + 1) ?_ ?_ ?_
    ·simp only [go_sem]; simp
    ·rw [hq]; exact ⟨h, by simp⟩
    ·omega
  ·simp only [decide_eq_false_iff_not] at h
   have e : k = l.length := by omega
   subst e
   simp only [List.drop_length, eF] at hq
   refine aF ?_
   exact aA ⟨⟨_, rfl, by simp only [go_sem, hq]⟩, trivial⟩
theorem vN (n : Int) (hn : inR .i64 n) : (itoaB n).size ≤ 20 := by
 unfold inR at hn
 simp only at hn
 by_cases h0 : n = 0
 ·subst h0
  have e : itoaB 0 = ⟨#[48]⟩ := by simp [itoaB, Lib.itoa, Lib.decDigits]
  rw [e]; decide
 ·have hL : (lJ n.natAbs).length ≤ 19 := tV 19 _ (by omega)
  have e : (itoaB n).size = (Lib.itoa n).length := rfl
  rw [e, wG h0]
  split
  ·rw [List.length_cons]; omega
  ·omega
theorem qO (n : ByteArray) : ∀ l : List TAttr, (bP n l).fStr.size ≤ dB gD l
 | [] => by show (⟨#[]⟩ : ByteArray).size ≤ 0; decide
 | a :: l => by
  have ih := qO n l
  unfold bP dB
  split
  ·unfold gD kW; omega
  ·omega
theorem wD (x : TFile) : (eG x).size ≤ 4 + bM x := by
 have h := qO ⟨#[110]⟩ x.fAttrs
 unfold eG
 split
 ·unfold bM dC; omega
 ·have : (⟨#[102, 105, 108, 101]⟩ : ByteArray).size = 4 := rfl
  omega
def bn (s : TStore) (id : Int) : ByteArray := eG (findF id s.fFiles)
theorem zD (s : TStore) (id : Int) (hs : aV s ≤ 1048576) : (bn s id).size ≤ 1048580 := by
 have h1 := a2p id s.fFiles
 have h2 := wD (findF id s.fFiles)
 unfold aV at hs
 unfold bn
 omega
theorem a0H (s : TStore) (id : Int) (hs : aV s ≤ 1048576) : bM (findF id s.fFiles) ≤ 1048576 := by
 have h1 := a2p id s.fFiles
 unfold aV at hs
 omega
def nmK (s : TStore) (ids : List Int) (id : Int) (k : Nat) : ByteArray := if sV ((ids.take k).map (bn s)) (bn s id) then bn s id ++ ⟨#[46]⟩ ++ itoaB id else bn s id
def enN (s : TStore) (ids : List Int) (k : Nat) : List ByteArray := (List.range k).map fun i => nmK s ids (ids.getD i 0) i
theorem fI (s : TStore) (ids : List Int) (k : Nat) : (enN s ids k).length = k := by simp [enN]
theorem a0I (s : TStore) (ids : List Int) (k : Nat) (h : k < ids.length) : enN s ids (k + 1) = enN s ids k ++ [nmK s ids ids[k] k] := by
 unfold enN
 rw [List.range_succ, List.map_append, List.map_cons, List.map_nil]
 have e : ids.getD k 0 = ids[k] := by simp [List.getD, h]
 rw [e]
theorem vO (s : TStore) (ids : List Int) (n k : Nat) (h : k < n) (hk : k < (enN s ids n).length) : (enN s ids n)[k] = nmK s ids (ids.getD k 0) k := by simp [enN]
theorem a3j (l : List ByteArray) (x s : ByteArray) : sV (l ++ [x]) s = (sV l s || decide (x = s)) := by unfold sV; rw [List.any_append]; simp
theorem nS (s : TStore) (ids : List Int) (k : Nat) (h : k < ids.length) : (ids.take (k + 1)).map (bn s) = (ids.take k).map (bn s) ++ [bn s ids[k]] := by
 rw [List.take_succ_eq_append_getElem h, List.map_append]; rfl
theorem a0J {ids : List Int} (h : dX ids) {k : Nat} (hk : k < ids.length) : inR .i64 ids[k] := h.2 _ (List.getElem_mem hk)
theorem vP (s : TStore) (id : Int) (hs : aV s ≤ 1048576) : FnC Tryd.prog 57 [cB s, oi id] (os (bn s id)) := by
 have hf := a0H s id hs
 have c := lH (findF id s.fFiles) hf
 have fin : eG (findF id s.fFiles) = bn s id := rfl
 have cf := a0E s id (by omega)
 generalize findF id s.fFiles = f at *
 refine ent Tryd.func57 rfl Tryd.call57 rfl (fun C => ?_); simp only [go_sem, st0, Tryd.ntmps57]
 refine a6p cf c ?_
 exact aA ⟨⟨_, rfl, by simp only [go_sem, fin]⟩, trivial⟩
theorem qP (s : TStore) (ids : List Int) (hs : aV s ≤ 1048576) (hi : dX ids) (hl : ids.length ≤ 1048576) : FnC Tryd.prog 16 [cB s, .o (.d (.sl (ids.map dK)))] (.o (.w 9 1 ((enN s ids ids.length).map nO))) := by
 refine ent Tryd.func16 rfl Tryd.call16 rfl (fun C => ?_); simp only [go_sem, st0, Tryd.ntmps16]
 have q0 := @fG; refine jL ?_
 refine dG (α := Nat) (fun k => [(5, .o (.s 1)), (12, .o .u), (6, .o (.s 2)), (13, .o .u), (16, oi k)]) (fun k => [(1, .row 9 1 (((ids.take k).map (bn s)).map nO) true), (2, .row 9 1 ((enN s ids k).map nO) true)]) (fun k => k ≤ ids.length) (fun k => ids.length - k) 0 (fun _ => ?_) ?_ ?_ (fun k hk => ?_)
 ·simp only [go_sem]
 ·simp only [go_sem]; simp [enN]
 ·simp
 ·simp only [go_sem]
  refine aF ?_
  refine cnd rfl (fun h => ?_) (fun h => ?_)
  ·simp only [decide_eq_true_eq, Int.ofNat_lt] at h
   have hf := a0H s ids[k] hs
   have c := lI (findF ids[k] s.fFiles) hf
   have cf := a0D s ids[k] (by omega)
   have ci := qU ids[k] (a0J hi h)
   have eb : eG (findF ids[k] s.fFiles) = bn s ids[k] := rfl
   rw [eb] at c
   have hbs := zD s ids[k] hs
   have hiz := vN ids[k] (a0J hi h)
   have hn := a0I s ids k h
   have hb := nS s ids k h
   have l1 : ((ids.take k).map (bn s)).length = k := by simp; omega
   have l2 := fI s ids k
   have e1 : (⟨#[46]⟩ : ByteArray).size = 1 := rfl
   have m1 : (bn s ids[k]).size + (⟨#[46]⟩ : ByteArray).size ≤ maxLen := by unfold maxLen; omega
   have m2 : (bn s ids[k] ++ ⟨#[46]⟩).size + (itoaB ids[k]).size ≤ maxLen := by unfold maxLen; rw [ByteArray.size_append]; omega
   have hq : nmK s ids ids[k] k = if sV ((ids.take k).map (bn s)) (bn s ids[k]) then bn s ids[k] ++ ⟨#[46]⟩ ++ itoaB ids[k] else bn s ids[k] := rfl
   have cc := zG ((ids.take k).map (bn s)) (bn s ids[k]) (by rw [l1]; omega)
   generalize findF ids[k] s.fFiles = f at *
   generalize (ids.take k).map (bn s) = bs at *
   generalize enN s ids k = out at *
   generalize bn s ids[k] = b at *
   generalize itoaB ids[k] = z at *
   have g1 : bs.length + 1 ≤ 140737488355328 := by omega
   have g2 : (bs.length + 1) * 16 ≤ 140737488355328 := by omega
   have g3 : out.length + 1 ≤ 140737488355328 := by omega
   have g4 : (out.length + 1) * 16 ≤ 140737488355328 := by omega
   cases hc : sV bs b
   ·rw [hc] at hq
    simp only [Bool.false_eq_true, if_false] at hq
    rw [hc] at cc
    have qH := aI @h (aI @g1 (aI @g2 (aI @g3 (aI @g4 @fG)))); repeat' (with_reducible first | refine nY ?_ | (refine mX ?_; try simp only [go_sem, qH]) | refine kD ?_ | refine rD ?_ | refine cP cf ?_ | refine cP c ?_ | refine vL cc ?_ | refine aO ?_ | fail)
    refine aU (k + 1) ?_ ?_ ?_
    ·simp only [go_sem, hn, hb, hq, List.map_append]; simp [nO]
    ·exact h
    ·omega
   ·rw [hc] at hq
    simp only [if_true] at hq
    rw [hc] at cc
    have qH := aI @h (aI @g1 (aI @g2 (aI @g3 (aI @g4 (aI @m1 (aI @m2 @fG)))))); repeat' (with_reducible first | refine nY ?_ | (refine mX ?_; try simp only [go_sem, qH]) | refine kD ?_ | refine rD ?_ | refine cP cf ?_ | refine cP c ?_ | refine vL cc ?_ | refine cP ci ?_ | refine aO ?_ | fail)
    refine aU (k + 1) ?_ ?_ ?_
    ·simp only [go_sem, hn, hb, hq, List.map_append]; simp [nO]
    ·exact h
    ·omega
  ·simp only [decide_eq_false_iff_not] at h
   have e : k = ids.length := by omega
   subst e
   refine aF ?_
   exact aA ⟨⟨_, rfl, by simp only [go_sem]⟩, trivial⟩
theorem qQ (s : TStore) (ids : List Int) (hs : aV s ≤ 1048576) (hi : dX ids) (hl : ids.length ≤ 1048576) : FnC Tryd.prog 22 [cB s, .o (.d (.sl (ids.map dK)))] (.o (.w 9 1 ((enN s ids ids.length).map nO))) := by
 refine ent Tryd.func22 rfl Tryd.call22 rfl (fun C => ?_); simp only [go_sem, st0, Tryd.ntmps22]
 have q0 := @fG; refine jL ?_
 refine dG (α := Nat) (fun k => [(5, .o (.s 1)), (10, .o .u), (6, oi k)]) (fun k => [(1, .row 9 1 ((enN s ids k).map nO) true)]) (fun k => k ≤ ids.length) (fun k => ids.length - k) 0 (fun _ => ?_) ?_ ?_ (fun i hi' => ?_)
 ·simp only [go_sem]
 ·simp only [go_sem]; simp [enN]
 ·simp
 ·simp only [go_sem]
  refine aF ?_
  refine cnd rfl (fun h => ?_) (fun h => ?_)
  ·simp only [decide_eq_true_eq, Int.ofNat_lt] at h
   have c := vP s ids[i] hs
   have ci := qV ids[i] (a0J hi h)
   have hbs := zD s ids[i] hs
   have hiz := vN ids[i] (a0J hi h)
   have hn := a0I s ids i h
   have l2 := fI s ids i
   have e1 : (⟨#[46]⟩ : ByteArray).size = 1 := rfl
   have m1 : (bn s ids[i]).size + (⟨#[46]⟩ : ByteArray).size ≤ maxLen := by unfold maxLen; omega
   have m2 : (bn s ids[i] ++ ⟨#[46]⟩).size + (itoaB ids[i]).size ≤ maxLen := by unfold maxLen; rw [ByteArray.size_append]; omega
   have g3 : (enN s ids i).length + 1 ≤ 140737488355328 := by omega
   have g4 : ((enN s ids i).length + 1) * 16 ≤ 140737488355328 := by omega
   have q0 := @h; have q1 := @fG; refine a5i c ?_
   refine dG (α := Nat) (fun k => [(8, os (nmK s ids ids[i] k)), (9, oi k)]) (fun _ => []) (fun k => k ≤ i) (fun k => i - k) 0 (fun _ => ?_) ?_ ?_ (fun k hk => ?_)
   ·simp only [go_sem]
   ·simp only [go_sem]; simp [nmK, sV]
   ·simp
   ·simp only [go_sem]
    refine aF ?_
    refine cnd rfl (fun h2 => ?_) (fun h2 => ?_)
    ·simp only [decide_eq_true_eq, Int.ofNat_lt] at h2
     have hk' : k < ids.length := by omega
     have c2 := vP s ids[k] hs
     have hsn := nS s ids k hk'
     have hnk : nmK s ids ids[i] (k + 1) = if bn s ids[k] = bn s ids[i] then bn s ids[i] ++ ⟨#[46]⟩ ++ itoaB ids[i] else nmK s ids ids[i] k := by
      unfold nmK
      rw [hsn, a3j]
      by_cases hh : bn s ids[k] = bn s ids[i]
      ·simp [hh]
      ·simp [hh]
     by_cases hh : bn s ids[k] = bn s ids[i]
     ·rw [if_pos hh] at hnk
      have gg : decide (bn s ids[k] = bn s ids[i]) = true := by simp [hh]
      have q0 := @h; have q1 := @hk'; have q2 := @gg; have q3 := @m1; have q4 := @m2; have q5 := @fG; refine a7s c2 ci ?_
      refine aU (k + 1) ?_ ?_ ?_
      ·simp only [go_sem, hnk]; try simp
      ·omega
      ·omega
     ·rw [if_neg hh] at hnk
      have gg : decide (bn s ids[k] = bn s ids[i]) = false := by simp [hh]
      have q0 := @h; have q1 := @hk'; have q2 := @gg; have q3 := @fG; refine a6r c2 ?_
      refine aU (k + 1) ?_ ?_ ?_
      ·simp only [go_sem, hnk]; try simp
      ·omega
      ·omega
    ·simp only [decide_eq_false_iff_not] at h2
     have e : k = i := by omega
     subst e
     have q0 := @g3; have q1 := @g4; have q2 := @fG; refine oN ?_
     refine aU (k + 1) ?_ ?_ ?_
     ·simp only [go_sem, hn, List.map_append]; simp [nO]
     ·omega
     ·omega
  ·simp only [decide_eq_false_iff_not] at h
   have e : i = ids.length := by omega
   subst e
   refine aF ?_
   exact aA ⟨⟨_, rfl, by simp only [go_sem]⟩, trivial⟩
theorem eB (s : TStore) (ids : List Int) (hs : aV s ≤ 1048576) (hi : dX ids) (hl : ids.length ≤ 1048576) : FnC Tryd.prog 16 [cB s, .o (.d (.sl (ids.map dK)))] (.o (.d (.sl ((enN s ids ids.length).map nO)))) := (qP s ids hs hi hl).pu (by simp only [go_sem, and_self])
theorem dD (s : TStore) (ids : List Int) (hs : aV s ≤ 1048576) (hi : dX ids) (hl : ids.length ≤ 1048576) : FnC Tryd.prog 22 [cB s, .o (.d (.sl (ids.map dK)))] (.o (.d (.sl ((enN s ids ids.length).map nO)))) := (qQ s ids hs hi hl).pu (by simp only [go_sem, and_self])
def ixI (id : Int) (l : List Int) : Int := eF (fun x => decide (id = x)) l 0
theorem ixI_cases (id : Int) (l : List Int) : (ixI id l = -1) ∨ ∃ p : Nat, ixI id l = p ∧ p < l.length := by
 rcases idxP_spec (fun x : Int => decide (id = x)) l 0 with h | ⟨k, e1, e2, e5, e6⟩
 ·exact .inl h.1
 ·exact .inr ⟨k, by unfold ixI; rw [e1]; simp, e2⟩
def enOf (s : TStore) (ids : List Int) (id : Int) : ByteArray := if ixI id ids < 0 then ⟨#[]⟩ else (enN s ids ids.length).getD (ixI id ids).toNat ⟨#[]⟩
theorem kE (s : TStore) (ids : List Int) (id : Int) (hs : aV s ≤ 1048576) (hi : dX ids) (hl : ids.length ≤ 1048576) : FnC Tryd.prog 23 [cB s, .o (.d (.sl (ids.map dK))), oi id] (os (enOf s ids id)) := by
 have c := eB s ids hs hi hl
 have ci := a3i ids id (by omega)
 have el : eF (fun x => decide (id = x)) ids 0 = ixI id ids := rfl
 rw [el] at ci
 have len := fI s ids ids.length
 have fin : enOf s ids id = if ixI id ids < 0 then ⟨#[]⟩ else (enN s ids ids.length).getD (ixI id ids).toNat ⟨#[]⟩ := rfl
 generalize enN s ids ids.length = nm at *
 refine ent Tryd.func23 rfl Tryd.call23 rfl (fun C => ?_); simp only [go_sem, st0, Tryd.ntmps23]
 rcases ixI_cases id ids with e | ⟨p, e, hp⟩
 ·rw [e] at ci fin
  have g : decide ((-1 : Int) < 0) = true := rfl
  have q0 := @g; refine vV ci ?_
  exact aA ⟨⟨_, rfl, by simp only [go_sem, fin]⟩, trivial⟩
 ·rw [e] at ci fin
  have g : decide ((p : Int) < 0) = false := by simp
  have hp' : p < nm.length := by omega
  have fin' : enOf s ids id = nm[p] := by rw [fin, if_neg (by omega)]; simp [List.getD, hp']
  have q0 := @g; have q1 := @hp'; have q2 := @fG; have q3 := @Int.toNat_natCast; refine a1q ci c ?_
  exact aA ⟨⟨_, rfl, by simp only [go_sem, fin']⟩, trivial⟩
theorem rU (s : TStore) (ids : List Int) (id : Int) (hs : aV s ≤ 1048576) (hi : dX ids) (hl : ids.length ≤ 1048576) : FnC Tryd.prog 24 [cB s, .o (.d (.sl (ids.map dK))), oi id] (os (enOf s ids id)) := by
 have c := dD s ids hs hi hl
 have len := fI s ids ids.length
 have fin : enOf s ids id = if ixI id ids < 0 then ⟨#[]⟩ else (enN s ids ids.length).getD (ixI id ids).toNat ⟨#[]⟩ := rfl
 generalize enN s ids ids.length = nm at *
 refine ent Tryd.func24 rfl Tryd.call24 rfl (fun C => ?_); simp only [go_sem, st0, Tryd.ntmps24]
 have q0 := @fG; refine vV c ?_
 refine dG (α := Nat) (fun k => [(8, oi k)]) (fun _ => []) (fun k => k ≤ ids.length ∧ ixI id ids = eF (fun x => decide (id = x)) (ids.drop k) k) (fun k => ids.length - k) 0 (fun _ => ?_) ?_ ?_ (fun k hk => ?_)
 ·simp only [go_sem]
 ·simp only [go_sem]; simp
 ·simp [ixI]
 ·obtain ⟨hk, hq⟩ := hk
  simp only [go_sem]
  have q0 := @fG; refine jL ?_
  refine cnd rfl (fun h => ?_) (fun h => ?_)
  ·simp only [decide_eq_true_eq, Int.ofNat_lt] at h
   have h' : k < ids.length := by omega
   rw [List.drop_eq_getElem_cons h', eF] at hq
   by_cases h2 : ids[k] = id
   ·rw [if_pos (by simp [h2])] at hq
    have g : decide (ids[k] = id) = true := by simp [h2]
    have fin' : enOf s ids id = nm[k] := by rw [fin, hq, if_neg (by omega)]; simp [List.getD, h]
    have q0 := @h; have q1 := @h'; have q2 := @g; have q3 := @fG; refine kU ?_
    exact aA ⟨⟨_, rfl, by simp only [go_sem, fin']⟩, trivial⟩
   ·rw [if_neg (by simp only [decide_eq_true_eq]; exact fun e => h2 e.symm)] at hq
    have g : decide (ids[k] = id) = false := by simp [h2]
    have q0 := @h; have q1 := @h'; have q2 := @g; have q3 := @fG; refine kU ?_
    refine aU (k + 1) ?_ ?_ ?_
    ·simp only [go_sem]; simp
    ·rw [hq]; exact ⟨h', by simp⟩
    ·omega
  ·simp only [decide_eq_false_iff_not] at h
   have e : k = ids.length := by omega
   subst e
   simp only [List.drop_length, eF] at hq
   have fin' : enOf s ids id = ⟨#[]⟩ := by rw [fin, hq, if_pos (by omega)]
   refine aF ?_
   exact aA ⟨⟨_, rfl, by simp only [go_sem, fin']⟩, trivial⟩
def ixS (name : ByteArray) (l : List ByteArray) : Int := eF (fun x => decide (name = x)) l 0
theorem ixS_cases (name : ByteArray) (l : List ByteArray) : (ixS name l = -1) ∨ ∃ p : Nat, ixS name l = p ∧ p < l.length := by
 rcases idxP_spec (fun x : ByteArray => decide (name = x)) l 0 with h | ⟨k, e1, e2, e5, e6⟩
 ·exact .inl h.1
 ·exact .inr ⟨k, by unfold ixS; rw [e1]; simp, e2⟩
def rnI (s : TStore) (ids : List Int) (name : ByteArray) : Int := if ixS name (enN s ids ids.length) < 0 then 0 else ids.getD (ixS name (enN s ids ids.length)).toNat 0
def rnB (s : TStore) (ids : List Int) (name : ByteArray) : Bool := decide (0 ≤ ixS name (enN s ids ids.length))
theorem iW (s : TStore) (ids : List Int) (name : ByteArray) (hs : aV s ≤ 1048576) (hi : dX ids) (hl : ids.length ≤ 1048576) : FnC Tryd.prog 18 [cB s, .o (.d (.sl (ids.map dK))), os name] (.t [(false, [.d (iv (rnI s ids name))]), (false, [.d (bv (rnB s ids name))])]) := by
 have c := eB s ids hs hi hl
 have len := fI s ids ids.length
 have ci := xK (enN s ids ids.length) name (by omega)
 have el : eF (fun x => decide (name = x)) (enN s ids ids.length) 0 = ixS name (enN s ids ids.length) := rfl
 rw [el] at ci
 have f1 : rnI s ids name = if ixS name (enN s ids ids.length) < 0 then 0 else ids.getD (ixS name (enN s ids ids.length)).toNat 0 := rfl
 have f2 : rnB s ids name = decide (0 ≤ ixS name (enN s ids ids.length)) := rfl
 generalize enN s ids ids.length = nm at *
 refine ent Tryd.func18 rfl Tryd.call18 rfl (fun C => ?_); simp only [go_sem, st0, Tryd.ntmps18]
 rcases ixS_cases name nm with e | ⟨p, e, hp⟩
 ·rw [e] at ci f1 f2
  have g : decide ((-1 : Int) < 0) = true := rfl
  have f1' : rnI s ids name = 0 := by rw [f1, if_pos (by omega)]
  have f2' : rnB s ids name = false := by rw [f2]; rfl
  have q0 := @g; refine a8I c ci ?_
  exact aA ⟨⟨_, rfl, by simp only [go_sem, f1', f2']; try simp⟩, by simp [dP]⟩
 ·rw [e] at ci f1 f2
  have g : decide ((p : Int) < 0) = false := by simp
  have hp' : p < ids.length := by omega
  have f1' : rnI s ids name = ids[p] := by rw [f1, if_neg (by omega)]; simp [List.getD, hp']
  have f2' : rnB s ids name = true := by rw [f2]; simp
  have q0 := @g; have q1 := @hp'; have q2 := @fG; have q3 := @Int.toNat_natCast; refine a1q c ci ?_
  exact aA ⟨⟨_, rfl, by simp only [go_sem, f1', f2']; try simp⟩, by simp [dP]⟩
theorem oU (s : TStore) (ids : List Int) (name : ByteArray) (hs : aV s ≤ 1048576) (hi : dX ids) (hl : ids.length ≤ 1048576) : FnC Tryd.prog 19 [cB s, .o (.d (.sl (ids.map dK))), os name] (.t [(false, [.d (iv (rnI s ids name))]), (false, [.d (bv (rnB s ids name))])]) := by
 have c := dD s ids hs hi hl
 have len := fI s ids ids.length
 have f1 : rnI s ids name = if ixS name (enN s ids ids.length) < 0 then 0 else ids.getD (ixS name (enN s ids ids.length)).toNat 0 := rfl
 have f2 : rnB s ids name = decide (0 ≤ ixS name (enN s ids ids.length)) := rfl
 generalize enN s ids ids.length = nm at *
 refine ent Tryd.func19 rfl Tryd.call19 rfl (fun C => ?_); simp only [go_sem, st0, Tryd.ntmps19]
 have q0 := @fG; refine vV c ?_
 refine dG (α := Nat) (fun k => [(9, oi k)]) (fun _ => []) (fun k => k ≤ nm.length ∧ ixS name nm = eF (fun x => decide (name = x)) (nm.drop k) k) (fun k => nm.length - k) 0 (fun _ => ?_) ?_ ?_ (fun k hk => ?_)
 ·simp only [go_sem]
 ·simp only [go_sem]; simp
 ·simp [ixS]
 ·obtain ⟨hk, hq⟩ := hk
  simp only [go_sem]
  have q0 := @fG; refine jL ?_
  refine cnd rfl (fun h => ?_) (fun h => ?_)
  ·simp only [decide_eq_true_eq, Int.ofNat_lt] at h
   have h' : k < ids.length := by omega
   rw [List.drop_eq_getElem_cons h, eF] at hq
   by_cases h2 : nm[k] = name
   ·rw [if_pos (by simp [h2])] at hq
    have g : decide (nm[k] = name) = true := by simp [h2]
    have f1' : rnI s ids name = ids[k] := by rw [f1, hq, if_neg (by omega)]; simp [List.getD, h']
    have f2' : rnB s ids name = true := by rw [f2, hq]; simp
    have q0 := @h; have q1 := @h'; have q2 := @g; have q3 := @fG; refine kU ?_
    exact aA ⟨⟨_, rfl, by simp only [go_sem, f1', f2']; try simp⟩, by simp [dP]⟩
   ·rw [if_neg (by simp only [decide_eq_true_eq]; exact fun e => h2 e.symm)] at hq
    have g : decide (nm[k] = name) = false := by simp [h2]
    have q0 := @h; have q1 := @h'; have q2 := @g; have q3 := @fG; refine kU ?_
    refine aU (k + 1) ?_ ?_ ?_
    ·simp only [go_sem]; simp
    ·rw [hq]; exact ⟨h, by simp⟩
    ·omega
  ·simp only [decide_eq_false_iff_not] at h
   have e : k = nm.length := by omega
   subst e
   simp only [List.drop_length, eF] at hq
   have f1' : rnI s ids name = 0 := by rw [f1, hq, if_pos (by omega)]
   have f2' : rnB s ids name = false := by rw [f2, hq]; rfl
   refine aF ?_
   exact aA ⟨⟨_, rfl, by simp only [go_sem, f1', f2']; try simp⟩, by simp [dP]⟩
def mQ (x : ByteArray) (k : Nat) : Bool := decide (fZ x k = 46)
def sU (x : ByteArray) : Bool := (List.range x.size).any (mQ x)
theorem vK (x : ByteArray) (k : Nat) (h : k < x.data.toList.length) : mQ x k = (x.data.toList[k] == 46) := by
 have e : fZ x k = (x.data.toList[k].toNat : Int) := by unfold fZ; rw [List.getD_eq_getElem?_getD, List.getElem?_eq_getElem h]; rfl
 unfold mQ
 rw [e]
 rw [Bool.eq_iff_iff]
 simp only [decide_eq_true_eq, beq_iff_eq]
 constructor
 ·intro h1
  apply UInt8.toNat.inj
  have : (46 : UInt8).toNat = 46 := rfl
  omega
 ·intro h1
  rw [h1]; rfl
theorem a5H (x : ByteArray) : sU x = decide (0 ≤ Lib.indexByte x.data.toList 46) := by
 rw [← Lib.contains_iff_indexByte, Bool.eq_iff_iff]
 unfold sU
 rw [List.any_eq_true, List.contains_iff_exists_mem_beq]
 have hs : x.size = x.data.toList.length := rfl
 constructor
 ·rintro ⟨k, hk, h⟩
  have hk' : k < x.data.toList.length := by rw [← hs]; exact List.mem_range.1 hk
  rw [vK x k hk'] at h
  exact ⟨_, List.getElem_mem hk', by rw [beq_iff_eq] at h ⊢; exact h.symm⟩
 ·rintro ⟨b, hb, h⟩
  obtain ⟨k, hk, rfl⟩ := List.getElem_of_mem hb
  refine ⟨k, List.mem_range.2 (by rw [hs]; exact hk), ?_⟩
  rw [vK x k hk]
  rw [beq_iff_eq] at h ⊢
  exact h.symm
def mR (nm : List ByteArray) (ids : List Int) (k : Nat) : List Int := ((List.range k).filter fun i => sU (nm.getD i ⟨#[]⟩)).map fun i => ids.getD i 0
theorem vM (nm : List ByteArray) (ids : List Int) (k : Nat) : (mR nm ids k).length ≤ k := by
 unfold mR
 rw [List.length_map]
 have := List.length_filter_le (fun i => sU (nm.getD i ⟨#[]⟩)) (List.range k)
 simpa using this
theorem xJ (nm : List ByteArray) (ids : List Int) (k : Nat) (h : k < nm.length) (h' : k < ids.length) : mR nm ids (k + 1) = if sU nm[k] then mR nm ids k ++ [ids[k]] else mR nm ids k := by
 unfold mR
 rw [List.range_succ, List.filter_append, List.map_append]
 have e1 : nm.getD k ⟨#[]⟩ = nm[k] := by simp [List.getD, h]
 have e2 : ids.getD k 0 = ids[k] := by simp [List.getD, h']
 cases hd : sU nm[k]
 ·simp only [Bool.false_eq_true, if_false]
  have : List.filter (fun i => sU (nm.getD i ⟨#[]⟩)) [k] = [] := by rw [List.filter_cons, e1, hd]; rfl
  rw [this]; simp
 ·simp only [if_true]
  have : List.filter (fun i => sU (nm.getD i ⟨#[]⟩)) [k] = [k] := by rw [List.filter_cons, e1, hd]; rfl
  rw [this, List.map_cons, List.map_nil, e2]
theorem a4B (s : TStore) (ids : List Int) (hs : aV s ≤ 1048576) (hi : dX ids) (n : Nat) (hn : n ≤ ids.length) : ∀ (i : Nat) (h : i < (enN s ids n).length), (enN s ids n)[i].size ≤ 1048700 := by
 intro i h
 have h1 : i < n := by rw [fI] at h; exact h
 rw [vO s ids n i h1 h]
 have e : ids.getD i 0 = ids[i] := by simp [List.getD, show i < ids.length by omega]
 rw [e]
 have hbs := zD s ids[i] hs
 have hiz := vN ids[i] (a0J hi (by omega))
 have e1 : (⟨#[46]⟩ : ByteArray).size = 1 := rfl
 unfold nmK
 split
 ·simp only [ByteArray.size_append]; omega
 ·omega
def disL (s : TStore) (ids : List Int) : List Int := mR (enN s ids ids.length) ids ids.length
theorem a6Z (x : ByteArray) : FnC Tryd.prog 60 [os x, os ⟨#[46]⟩] (ob (sU x)) := by
 rw [a5H]
 exact a0K x 46
theorem a1L (s : TStore) (ids : List Int) (hs : aV s ≤ 1048576) (hi : dX ids) (hl : ids.length ≤ 1048576) : FnC Tryd.prog 25 [cB s, .o (.d (.sl (ids.map dK)))] (.o (.w 3 1 ((disL s ids).map dK))) := by
 have c := eB s ids hs hi hl
 have len := fI s ids ids.length
 have fin : mR (enN s ids ids.length) ids ids.length = disL s ids := rfl
 generalize enN s ids ids.length = nm at *
 refine ent Tryd.func25 rfl Tryd.call25 rfl (fun C => ?_); simp only [go_sem, st0, Tryd.ntmps25]
 have q0 := @fG; refine vV c ?_
 refine dG (α := Nat) (fun k => [(5, .o (.s 1)), (8, .o .u), (13, oi k)]) (fun k => [(1, .row 3 1 ((mR nm ids k).map dK) true)]) (fun k => k ≤ nm.length) (fun k => nm.length - k) 0 (fun _ => ?_) ?_ ?_ (fun k hk => ?_)
 ·simp only [go_sem]
 ·simp only [go_sem]; simp [mR]
 ·simp
 ·simp only [go_sem]
  refine aF ?_
  refine cnd rfl (fun h => ?_) (fun h => ?_)
  ·simp only [decide_eq_true_eq, Int.ofNat_lt] at h
   have h' : k < ids.length := by omega
   have hn := xJ nm ids k h h'
   have hdl := vM nm ids k
   have g1 : (mR nm ids k).length + 1 ≤ 140737488355328 := by omega
   have g2 : ((mR nm ids k).length + 1) * 8 ≤ 140737488355328 := by omega
   have cd := a6Z nm[k]
   cases hd : sU nm[k]
   ·rw [hd] at hn cd
    simp only [Bool.false_eq_true, if_false] at hn
    have q0 := @h; have q1 := @h'; have q2 := @g1; have q3 := @g2; have q4 := @fG; refine a2Q cd ?_
    refine aU (k + 1) ?_ ?_ ?_
    ·simp only [go_sem, hn]; try simp
    ·exact h
    ·omega
   ·rw [hd] at hn cd
    simp only [if_true] at hn
    have q0 := @h; have q1 := @h'; have q2 := @g1; have q3 := @g2; have q4 := @fG; refine a2Q cd ?_
    refine aU (k + 1) ?_ ?_ ?_
    ·simp only [go_sem, hn, List.map_append]; simp [dK]
    ·exact h
    ·omega
  ·simp only [decide_eq_false_iff_not] at h
   have e : k = ids.length := by omega
   subst e
   refine aF ?_
   exact aA ⟨⟨_, rfl, by simp only [go_sem, fin]⟩, trivial⟩
theorem a1M (s : TStore) (ids : List Int) (hs : aV s ≤ 1048576) (hi : dX ids) (hl : ids.length ≤ 1048576) : FnC Tryd.prog 26 [cB s, .o (.d (.sl (ids.map dK)))] (.o (.w 3 1 ((disL s ids).map dK))) := by
 have c := dD s ids hs hi hl
 have len := fI s ids ids.length
 have fin : mR (enN s ids ids.length) ids ids.length = disL s ids := rfl
 have hsz := a4B s ids hs hi ids.length (Nat.le_refl _)
 generalize enN s ids ids.length = nm at *
 refine ent Tryd.func26 rfl Tryd.call26 rfl (fun C => ?_); simp only [go_sem, st0, Tryd.ntmps26]
 have q0 := @fG; refine vV c ?_
 refine dG (α := Nat) (fun k => [(5, .o (.s 1)), (10, .o .u), (7, oi k)]) (fun k => [(1, .row 3 1 ((mR nm ids k).map dK) true)]) (fun k => k ≤ nm.length) (fun k => nm.length - k) 0 (fun _ => ?_) ?_ ?_ (fun i hi' => ?_)
 ·simp only [go_sem]
 ·simp only [go_sem]; simp [mR]
 ·simp
 ·simp only [go_sem]
  have q0 := @fG; refine jL ?_
  refine cnd rfl (fun h => ?_) (fun h => ?_)
  ·simp only [decide_eq_true_eq, Int.ofNat_lt] at h
   have h' : i < ids.length := by omega
   have hn := xJ nm ids i h h'
   have hdl := vM nm ids i
   have hsi := hsz i h
   have g1 : (mR nm ids i).length + 1 ≤ 140737488355328 := by omega
   have g2 : ((mR nm ids i).length + 1) * 8 ≤ 140737488355328 := by omega
   have q0 := @h; have q1 := @fG; refine lN ?_
   refine dG (α := Nat) (fun k => [(8, ob ((List.range k).any (mQ nm[i]))), (9, oi k)]) (fun _ => []) (fun k => k ≤ nm[i].size) (fun k => nm[i].size - k) 0 (fun _ => ?_) ?_ ?_ (fun k hk => ?_)
   ·simp only [go_sem]
   ·simp only [go_sem]; try simp
   ·simp
   ·simp only [go_sem]
    have q0 := @h; have q1 := @fG; refine lN ?_
    refine cnd rfl (fun h2 => ?_) (fun h2 => ?_)
    ·simp only [decide_eq_true_eq, Int.ofNat_lt] at h2
     have hnx : (List.range (k + 1)).any (mQ nm[i]) = ((List.range k).any (mQ nm[i]) || decide (fZ nm[i] k = 46)) := by
      rw [List.range_succ, List.any_append]; simp [mQ]
     cases ha : (List.range k).any (mQ nm[i])
     ·rw [ha, Bool.false_or] at hnx
      have q0 := @h; have q1 := @h2; have q2 := @ha; have q3 := @fG; refine kU ?_
      refine aU (k + 1) ?_ ?_ ?_
      ·simp only [go_sem, hnx]; try simp [ha, mQ]
      ·omega
      ·omega
     ·rw [ha, Bool.true_or] at hnx
      have q0 := @h; have q1 := @h2; have q2 := @ha; have q3 := @fG; refine kU ?_
      refine aU (k + 1) ?_ ?_ ?_
      ·simp only [go_sem, hnx]; try simp [ha, mQ]
      ·omega
      ·omega
    ·simp only [decide_eq_false_iff_not] at h2
     have e : k = nm[i].size := by omega
     subst e
     have hdd : (List.range nm[i].size).any (mQ nm[i]) = sU nm[i] := rfl
     cases hd : sU nm[i]
     ·rw [hd] at hn hdd
      simp only [Bool.false_eq_true, if_false] at hn
      have q0 := @h; have q1 := @h'; have q2 := @hdd; have q3 := @g1; have q4 := @g2; have q5 := @fG; refine a6s ?_
      refine aU (i + 1) ?_ ?_ ?_
      ·simp only [go_sem, hn]; try simp
      ·exact h
      ·omega
     ·rw [hd] at hn hdd
      simp only [if_true] at hn
      have q0 := @h; have q1 := @h'; have q2 := @hdd; have q3 := @g1; have q4 := @g2; have q5 := @fG; refine a6s ?_
      refine aU (i + 1) ?_ ?_ ?_
      ·simp only [go_sem, hn, List.map_append]; simp [dK]
      ·exact h
      ·omega
  ·simp only [decide_eq_false_iff_not] at h
   have e : i = ids.length := by omega
   subst e
   refine aF ?_
   exact aA ⟨⟨_, rfl, by simp only [go_sem, fin]⟩, trivial⟩
theorem a0F (s : TStore) (ids : List Int) (hs : aV s ≤ 1048576) (hi : dX ids) (hl : ids.length ≤ 1048576) : FnC Tryd.prog 25 [cB s, .o (.d (.sl (ids.map dK)))] (.o (.d (.sl ((disL s ids).map dK)))) := (a1L s ids hs hi hl).pu (by simp only [go_sem, and_self])
theorem a0G (s : TStore) (ids : List Int) (hs : aV s ≤ 1048576) (hi : dX ids) (hl : ids.length ≤ 1048576) : FnC Tryd.prog 26 [cB s, .o (.d (.sl (ids.map dK)))] (.o (.d (.sl ((disL s ids).map dK)))) := (a1M s ids hs hi hl).pu (by simp only [go_sem, and_self])
def uT (s : ByteArray) : Prop := (46 : UInt8) ∉ s.data.toList
theorem a0g : ∀ s ∈ words, uT s := by unfold uT; decide +kernel
theorem uU : uT ⟨#[102, 105, 108, 101]⟩ := by unfold uT; decide +kernel
theorem a4d (a b n t : Option TValue) : bP ⟨#[110]⟩ (pcs a b n t) = n.getD ⟨0, 0, ⟨#[]⟩⟩ := by
 have h1 : (⟨#[97]⟩ : ByteArray) ≠ ⟨#[110]⟩ := by decide
 have h2 : (⟨#[98]⟩ : ByteArray) ≠ ⟨#[110]⟩ := by decide
 have h3 : (⟨#[116]⟩ : ByteArray) ≠ ⟨#[110]⟩ := by decide
 cases a <;> cases b <;> cases n <;> cases t <;> simp [pcs, pc, bP, h1, h2, h3]
theorem a1w {id : Int} {f : TFile} (h : fileD id f) : uT (eG f) := by
 obtain ⟨a, b, n, t, e, _, _, hn, _⟩ := h.at_
 unfold eG
 rw [e, a4d]
 cases n with
 | none => exact uU
 | some v =>
  obtain ⟨s, rfl, hs⟩ := hn v rfl
  exact a0g s hs
theorem a1x : uT (eG zF) := uU
theorem a0h {k : Nat} {s : TStore} (h : storeD k s) (id : Int) : uT (bn s id) := by
 unfold bn
 rcases ixF_cases id s.fFiles with e | ⟨p, e, hp, _⟩
 ·rw [qN e]; exact a1x
 ·rw [nG e hp]
  obtain ⟨i, hf⟩ := h.fl _ (List.getElem_mem hp)
  exact a1w hf
theorem a5N (a b : ByteArray) : (a ++ b).data.toList = a.data.toList ++ b.data.toList := by simp
theorem wY {α : Type} {c : α} : ∀ {a b x y : List α}, c ∉ a → c ∉ b → a ++ c :: x = b ++ c :: y → a = b ∧ x = y
 | [], [], x, y, _, _, h => ⟨rfl, by simpa using h⟩
 | [], z :: b, x, y, _, hb, h => by simp at h; exact absurd h.1 (fun e => hb (by simp [e]))
 | z :: a, [], x, y, ha, _, h => by simp at h; exact absurd h.1.symm (fun e => ha (by simp [e]))
 | z :: a, w :: b, x, y, ha, hb, h => by
  simp only [List.cons_append, List.cons.injEq] at h
  obtain ⟨h1, h2⟩ := wY (fun m => ha (List.mem_cons_of_mem _ m)) (fun m => hb (List.mem_cons_of_mem _ m)) h.2
  exact ⟨by rw [h.1, h1], h2⟩
theorem a7J : ∀ i : Fin 8, ∀ j : Fin 8, itoaB (i.val : Int) = itoaB (j.val : Int) → i = j := by decide +kernel
theorem a4e {a b : Int} (ha : 1 ≤ a ∧ a < 8) (hb : 1 ≤ b ∧ b < 8) (h : itoaB a = itoaB b) : a = b := by
 obtain ⟨i, rfl⟩ := Int.eq_ofNat_of_zero_le (show 0 ≤ a by omega)
 obtain ⟨j, rfl⟩ := Int.eq_ofNat_of_zero_le (show 0 ≤ b by omega)
 have := a7J ⟨i, by omega⟩ ⟨j, by omega⟩ h
 simp at this
 omega
theorem a4f {a x : ByteArray} : (46 : UInt8) ∈ (a ++ ⟨#[46]⟩ ++ x).data.toList := by simp [a5N]
theorem uV {m : Nat} {s : TStore} {ids : List Int} (hs : storeD m s) (hi : idsD 8 ids) {i k : Nat} (hk : k < i) (hl : i < ids.length) :
    nmK s ids (ids.getD i 0) i ≠ nmK s ids (ids.getD k 0) k := by
 have hl2 : k < ids.length := by omega
 have gi : ids.getD i 0 = ids[i] := by simp [hl]
 have gk : ids.getD k 0 = ids[k] := by simp [hl2]
 rw [gi, gk]
 have hlt : ids[k] < ids[i] := List.pairwise_iff_getElem.1 hi.up k i hl2 hl hk
 have ri := hi.lo _ (List.getElem_mem hl)
 have rk := hi.lo _ (List.getElem_mem hl2)
 have ni := a0h hs ids[i]
 have nk := a0h hs ids[k]
 unfold nmK
 intro h
 split at h
 ·rename_i c1
  split at h
  ·have h' := congrArg (fun x : ByteArray => x.data.toList) h
   simp only [a5N, List.append_assoc, List.cons_append, List.nil_append] at h'
   have h2 := wY ni nk h'
   have h3 : itoaB ids[i] = itoaB ids[k] := by
    have := h2.2
    cases h4 : itoaB ids[i]; cases h5 : itoaB ids[k]
    rw [h4, h5] at this
    simp only [ByteArray.mk.injEq]
    exact Array.ext' this
   have := a4e ⟨by omega, by omega⟩ ⟨by omega, by omega⟩ h3
   omega
  ·exact nk (by rw [← h]; exact a4f)
 ·rename_i c1
  split at h
  ·exact ni (by rw [h]; exact a4f)
  ·apply c1
   unfold sV
   rw [List.any_eq_true]
   refine ⟨bn s ids[k], List.mem_map.2 ⟨ids[k], ?_, rfl⟩, by simp [h]⟩
   rw [List.mem_take_iff_getElem]
   exact ⟨k, by omega, rfl⟩
theorem a2d {α : Type} (p : α → Bool) (l : List α) (i : Nat) (h : i < l.length) (hp : p l[i] = true) (hu : ∀ (j : Nat) (hj : j < l.length), p l[j] = true → j = i) : eF p l 0 = (i : Int) := by
 rcases idxP_spec p l 0 with ⟨_, e⟩ | ⟨k0, e1, e2, e3, _⟩
 ·have := e l[i] (List.getElem_mem h); rw [hp] at this; cases this
 ·have := hu k0 e2 e3
  rw [e1, this]; simp
theorem a2X {m : Nat} {s : TStore} {ids : List Int} (hs : storeD m s) (hi : idsD 8 ids) {i : Nat} (hl : i < ids.length) (hl2 : i < (enN s ids ids.length).length) : ixS (enN s ids ids.length)[i] (enN s ids ids.length) = (i : Int) := by
 unfold ixS
 refine a2d _ _ i hl2 (by simp) fun j hj e => ?_
 have hjl : j < ids.length := by rw [fI] at hj; exact hj
 simp only [decide_eq_true_eq] at e
 rw [vO s ids ids.length i hl, vO s ids ids.length j hjl] at e
 rcases Nat.lt_trichotomy i j with h | h | h
 ·exact absurd e.symm (uV hs hi h hjl)
 ·exact h.symm
 ·exact absurd e (uV hs hi h hl)
theorem a5t {ids : List Int} (hi : idsD 8 ids) {i : Nat} (hl : i < ids.length) : ixI ids[i] ids = (i : Int) := by
 unfold ixI
 refine a2d _ _ i hl (by simp) fun j hj e => ?_
 simp only [decide_eq_true_eq] at e
 rcases Nat.lt_trichotomy i j with h | h | h
 ·have := List.pairwise_iff_getElem.1 hi.up i j hl hj h; omega
 ·exact h.symm
 ·have := List.pairwise_iff_getElem.1 hi.up j i hj hl h; omega
theorem a7K {m : Nat} {s : TStore} {ids : List Int} (hs : storeD m s) (hi : idsD 8 ids) {i : Nat} (hl : i < ids.length) (hl2 : i < (enN s ids ids.length).length) : rnI s ids (enN s ids ids.length)[i] = ids[i] ∧ rnB s ids (enN s ids ids.length)[i] = true := by
 have e := a2X hs hi hl hl2
 unfold rnI rnB
 rw [e]
 refine ⟨?_, by simp⟩
 rw [if_neg (by omega)]
 simp [hl]
theorem a7L {s : TStore} {ids : List Int} (hi : idsD 8 ids) {i : Nat} (hl : i < ids.length) (hl2 : i < (enN s ids ids.length).length) : enOf s ids ids[i] = (enN s ids ids.length)[i] := by
 have e := a5t hi hl
 unfold enOf
 rw [e, if_neg (by omega)]
 simp only [Int.toNat_natCast]
 simp [List.getD_eq_getElem?_getD, hl2]
end Go.Proofs.YtlmpmpddakhfnaaDoor
end
