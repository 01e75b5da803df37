/- Joined texts. -/
import Derived.Test.YtakopfjdmmnjcaaDoorZ10
import Derived.Test.YtakopfjdmmnjcaaDoorZ08
import Derived.Test.YtakopfjdmmnjcaaDoorZ01
import Derived.Test.YtakopfjdmmnjcaaDoorZ09
import Derived.Test.YtakopfjdmmnjcaaDoorZ07
import Derived.Sort.Walk0
import Derived.Test.YtakopfjdmmnjcaaDoorZ06
import Derived.Test.YtakopfjdmmnjcaaDoorZ05
set_option linter.all false
section
set_option maxRecDepth 100000
set_option maxHeartbeats 4000000
namespace Go.Proofs.YtakopfjdmmnjcaaDoor
open Go Go.Sx Go.RowKit Go.Proofs
theorem a3I (l : List TFile) : ∀ r ∈ l.map cZ, r.length = 5 := by intro r hr; obtain ⟨x, _, rfl⟩ := List.mem_map.1 hr; rfl
@[go_sem] def xB (x : TStore) : SV := .g [.d (.sl (x.fSchema.map bZ)), .m 50 5 (x.fFiles.map cZ), .d (iv x.fNextID)]
theorem xC (s : TStore) (id : Int) (hs : bM s ≤ 4300000) (hd : uC s id = true) : FnC Tryd.prog 40 [fA s, oi id] (.t [(true, (xB (delS s id)).cells), (false, [.d (bv true)])]) := by
 have h2 : s.fFiles.length ≤ 4300000 := by unfold bM gV at hs; omega
 have hk := nL s id h2
 have hcp : FnC Tryd.prog 55 [fA s] (fA s) := (nK s hs).pu (by simp only [go_sem, and_self])
 have hv : bV s = true := by unfold uC at hd; rw [Bool.and_eq_true] at hd; exact hd.1
 rcases ixF_cases id s.fFiles with ei | ⟨p, ei, hp, _⟩
 ·unfold uC at hd
  rw [ei] at hd
  simp at hd
 ·refine ent Tryd.func40 rfl Tryd.call40 rfl (fun C => ?_); simp only [go_sem, st0, Tryd.ntmps40]
  have hy : ¬ (p : Int) < 0 := by omega
  rw [ei] at hk
  have hpn : ((p : Int) + 1).toNat = p + 1 := by omega
  have hT : List.take s.fFiles.length (List.map cZ s.fFiles) = List.map cZ s.fFiles := List.take_of_length_le (by simp)
  have hTk : List.take p (List.map cZ s.fFiles) = (s.fFiles.take p).map cZ := List.map_take.symm
  have hDp : List.drop (p + 1) (List.map cZ s.fFiles) = (s.fFiles.drop (p + 1)).map cZ := List.map_drop.symm
  have qH := aI @hv (aI @hy (aI @hp (aI @hpn (aI @hT (aI @hTk (aI @hDp (aI @rH (aI @rJ (aI @a0k (aI @decide_false (aI @Int.toNat_natCast @a7L))))))))))); repeat' (with_reducible first | refine nY ?_ | (refine mX ?_; try simp only [go_sem, qH]) | refine kD ?_ | (apply rE [0,5,11,13] [] [1,2,3,4,6,7,8,9,10] [1,2,3,4,6,7,8,9,10] ((.c 0 [] [1,2,3,4,6,7,8,9,10] (.c 5 [] [6,7,8,9,10] (.c 11 [12] [12] (.c 13 [] [] .n .n) .n) .n) .n)) (by simp only [go_sem]; rfl) (by simp only [go_sem]; rfl) (by simp only [go_sem]; rfl) (by decide +kernel); (focus simp only [go_sem]; done)) | exact bQ | refine bC (uX ?_) ?_ | refine bD (aX ?_) ?_ | refine bE (aX ?_) ?_ | exact dA | exact oH | (refine uA ?_; simp only [go_sem, qH]; (repeat' first | omega | exact a3I _ | refine And.intro ?_ ?_); done) | refine rD ?_ | refine And.intro (a3I _) ?_ | refine cP hcp ?_ | refine cP hk ?_ | refine cP (bW s hs) ?_ | refine aO ?_ | fail)
  exact aA ⟨⟨_, rfl, by simp only [go_sem, delS, hd, ei, Int.toNat_natCast, if_true, mJ, List.map_append]; try simp⟩, by simp [fK]⟩
theorem a1q : FnC Tryd.prog 35 [] (.o (.w 88 2 (iG.map bZ))) := by
 refine ent Tryd.func35 rfl Tryd.call35 rfl (fun C => ?_); simp only [go_sem, st0, Tryd.ntmps35]
 refine aL ?_
 exact aA ⟨⟨_, rfl, by simp only [go_sem, iG, List.map_cons, List.map_nil]⟩, trivial⟩
theorem a1r (s : List TField) (hs : s.length ≤ 1048576) : FnC Tryd.prog 34 [.o (.d (.sl (s.map bZ)))] (a2H ⟨s, [], 1⟩) := by
 have hl1 : s.length ≤ 140737488355328 := by omega
 have hl2 : s.length * 24 ≤ 140737488355328 := by omega
 refine ent Tryd.func34 rfl Tryd.call34 rfl (fun C => ?_); simp only [go_sem, st0, Tryd.ntmps34]
 have q0 := @hl1; have q1 := @hl2; refine iK ?_
 exact aA ⟨⟨_, rfl, by simp only [go_sem, List.map_nil]⟩, trivial⟩
structure storeD (k : Nat) (s : TStore) : Prop where
 sch : s.fSchema = iG
 ok : bV s = true
 nx : s.fNextID ≤ 1 + k
 ln : s.fFiles.length ≤ k
 fl : ∀ f ∈ s.fFiles, ∃ id, fileD id f
theorem a5z : okSchema iG = true := by decide +kernel
theorem a5A {id : Int} {f : TFile} (h : fileD id f) (k : Int) (hk : 1 ≤ k ∧ k ≤ 60) : dX iG { f with fID := k } = true := by
 obtain ⟨a, b, n, t, e, h1, h2, h3, h4⟩ := h.at_
 have h0 := a8e h1 h2 h3 h4
 unfold dX
 simp only [e, h0, a5z, Bool.true_and, Bool.and_true, inB, Bool.and_eq_true, decide_eq_true_eq]
 exact ⟨hk, h.ow, h.lk⟩
theorem a2J : storeD 0 ⟨iG, [], 1⟩ := ⟨rfl, by decide +kernel, by simp, by simp, fun f hf => by simp at hf⟩
theorem a2K {k : Nat} {s : TStore} {id : Int} {f : TFile} (h : storeD k s) (hf : fileD id f) (hk : k ≤ 40) (hl : s.fFiles.length < 12) : iH s f = true ∧ storeD (k + 1) (creS s f) ∧ (creS s f).fFiles.length = s.fFiles.length + 1 := by
 have hb := fB.1 h.ok
 have h1 := h.nx
 have hok : iH s f = true := yZ.2 ⟨h.ok, hl, by rw [h.sch]; exact a5A hf s.fNextID (by omega)⟩
 have hs := a8s hok
 refine ⟨hok, ⟨?_, hs, ?_, ?_, ?_⟩, ?_⟩
 ·unfold creS; rw [if_pos hok]; exact h.sch
 ·unfold creS; rw [if_pos hok]; simp only; omega
 ·unfold creS; rw [if_pos hok]; have := h.ln; simp; omega
 ·unfold creS; rw [if_pos hok]
  intro x hx
  rcases List.mem_append.1 hx with hx | hx
  ·exact h.fl x hx
  ·simp only [List.mem_singleton] at hx
   subst hx
   exact ⟨s.fNextID, rfl, hf.ow, hf.lk, hf.at_⟩
 ·unfold creS; rw [if_pos hok]; simp
theorem a1s {α : Type} (w : α → Nat) (c : Nat) : ∀ (l : List α), (∀ x ∈ l, w x ≤ c) → bL w l ≤ l.length * c
 | [], _ => by simp [bL]
 | x :: l, h => by
  have h1 := h x List.mem_cons_self
  have h2 := a1s w c l fun y hy => h y (List.mem_cons_of_mem _ hy)
  simp only [bL, List.length_cons, Nat.add_mul]
  omega
theorem a1t {k : Nat} {s : TStore} (h : storeD k s) : bM s ≤ 600 := by
 have hl : s.fFiles.length ≤ 12 := (fB.1 h.ok).2.2.1
 have h1 := a1s dC 40 s.fFiles fun f hf => by obtain ⟨id, hd⟩ := h.fl f hf; exact (a3u hd).1
 have h2 : bR iG = 8 := by decide +kernel
 unfold bM gV
 rw [h.sch, h2]
 omega
theorem a0v : FnC Tryd.prog 34 [.o (.d (.sl (iG.map bZ)))] (xB ⟨iG, [], 1⟩) :=
 (a1r iG (by decide)).re [0] rfl rfl (by simp only [go_sem, and_self]) (by simp only [go_sem]; try simp) trivial
theorem wP (s : TStore) (f : TFile) (hs : bM s ≤ 4300000) (hf : dC f ≤ 4300000) : FnC Tryd.prog 37 [fA s, mI f] (.t [(true, (xB (creS s f)).cells), (false, [.d (iv (a4y s f))]), (false, [.d (bv (iH s f))])]) :=
 (xN s f hs hf).re [0] rfl rfl (by simp only [go_sem, and_self]) (by simp only [go_sem]; try simp) rfl
theorem a6R {k : Nat} {s : TStore} (h : storeD k s) (h1 : 1 < s.fFiles.length) : uC s s.fFiles[1].fID = true := by
 unfold uC
 rw [h.ok, Bool.true_and, decide_eq_true_eq]
 rcases idxP_spec (fun f : TFile => decide (f.fID = s.fFiles[1].fID)) s.fFiles 0 with ⟨_, e⟩ | ⟨k0, e, _⟩
 ·have := e s.fFiles[1] (List.getElem_mem h1)
  simp at this
 ·unfold ixF; rw [e]; omega
theorem a2L {k : Nat} {s : TStore} (id : Int) (h : storeD k s) : storeD k (delS s id) := by
 unfold delS
 split
 ·rename_i hd
  have h1 := a8t hd
  unfold delS at h1
  rw [if_pos hd] at h1
  refine ⟨h.sch, h1, h.nx, ?_, fun f hf => ?_⟩
  ·have h2 := h.ln
   simp only [mJ, List.length_append, List.length_take, List.length_drop]
   omega
  ·simp only [mJ, List.mem_append] at hf
   rcases hf with hf | hf
   ·exact h.fl f (List.mem_of_mem_take hf)
   ·exact h.fl f (List.mem_of_mem_drop hf)
 ·exact h
theorem a4r {k m : Nat} {s : TStore} (h : storeD k s) (hk : k ≤ m) : storeD m s := ⟨h.sch, h.ok, by have := h.nx; omega, by have := h.ln; omega, h.fl⟩
theorem tY {l : List Int} (hl : rR l) : Drw l 15 [] (fun s : TStore => storeD 7 s) (fun s => xB s) := by
 have hu := a0v
 have h0 : FnC Tryd.prog 35 [] (.o (.d (.sl (iG.map bZ)))) := a1q.pu (by simp only [go_sem, and_self])
 intro i h hi hh; refine a1D Tryd.func15 rfl Tryd.call15 rfl (fun C b => ?_); simp only [go_sem, Tryd.ntmps15]
 refine b0j h0 hu ?_
 refine bX (α := Nat × TStore × Nat × Int) (fun x => [(4, oi x.1), (6, .o .u)]) (fun x => [(0, .pin b 65 [.sl (l.map qB), iv x.2.2.1, iv x.2.2.2]), (3, .box 27 [.d (.sl (x.2.1.fSchema.map bZ)), .s 2, .d (iv x.2.1.fNextID)]), (2, .row 50 5 (x.2.1.fFiles.map cZ) false)]) (fun x => (x.1 ≤ 7 ∧ storeD x.1 x.2.1) ∧ (x.2.2.1 ≤ l.length ∧ inR .i64 x.2.2.2)) (fun x => 8 - x.1) (0, ⟨iG, [], 1⟩, i, h) (fun _ => ?_) ?_ ?_ (fun x hx => ?_)
 ·simp only [go_sem]
 ·simp only [go_sem]; simp
 ·exact ⟨⟨Nat.zero_le _, a2J⟩, hi, hh⟩
 ·clear hi hh
  obtain ⟨k, s, i, h⟩ := x
  obtain ⟨⟨k7, hs⟩, hi, hh⟩ := hx
  simp only at k7 hs hi hh
  have hlen := hs.ln
  have hw := a1t hs
  simp only [go_sem]
  refine aL ?_
  first | (refine fQ (eP hl 7 (by decide) (by decide) i h hi hh) ⟨rfl, rfl⟩ ?_ rfl ?_; (focus first | rfl | (simp only [go_sem]; done))) | (refine hZ (eP hl 7 (by decide) (by decide) i h hi hh) ⟨rfl, rfl⟩ ?_ rfl ?_; (focus first | rfl | (simp only [go_sem]; done)))
  clear hi hh; rintro ⟨x, i, h⟩ ⟨hx, hi, hh⟩; simp only at hx hi hh; simp only [go_sem]
  refine aL ?_
  refine cnd rfl (fun hlt => ?_) (fun hlt => ?_)
  ·simp only [decide_eq_true_eq] at hlt
   have qH := trivial; repeat' (with_reducible first | refine nY ?_ | (refine mX ?_; try simp only [go_sem]) | refine kD ?_ | (apply rF [2,3,8] [] [0,1] [0,1] ((.c 2 [] [0] (.c 3 [4,5,6,7] [4,5,6,7] (.c 8 [] [6,7] .n .n) .n) .n)) (by simp only [go_sem]; rfl) (by simp only [go_sem]; rfl) (by simp only [go_sem]; rfl) (by decide +kernel); (focus simp only [go_sem]; done)) | exact bQ | refine bC (uX ?_) ?_ | refine bD (aX ?_) ?_ | refine bE (aX ?_) ?_ | exact dA | exact oH | (refine uA ?_; simp only [go_sem]; (repeat' first | omega | refine And.intro ?_ ?_); done) | refine rD ?_ | refine aO ?_ | fail)
   first | (refine fQ (wQ hl 1 i h hi hh) ⟨rfl, rfl⟩ ?_ rfl ?_; (focus first | rfl | (simp only [go_sem]; done))) | (refine hZ (wQ hl 1 i h hi hh) ⟨rfl, rfl⟩ ?_ rfl ?_; (focus first | rfl | (simp only [go_sem]; done)))
   clear hi hh; rintro ⟨f, i, h⟩ ⟨hf, hi, hh⟩; simp only at hf hi hh; simp only [go_sem]
   have hfw := (a3u hf).1
   obtain ⟨hc1, hc2, hc3⟩ := a2K hs hf (by omega) (by omega)
   have hcr := wP s f (by omega) (by omega)
   rw [hc1] at hcr
   generalize creS s f = s2 at *
   have qH := trivial; repeat' (with_reducible first | refine nY ?_ | (refine mX ?_; try simp only [go_sem]) | refine kD ?_ | exact bQ | refine bC (uX ?_) ?_ | refine bD (aX ?_) ?_ | refine bE (aX ?_) ?_ | (refine uA ?_; simp only [go_sem]; (repeat' first | omega | refine And.intro ?_ ?_); done) | refine rD ?_ | refine cP hcr ?_ | refine aO ?_ | fail)
   refine lK [(2, 5)] (k + 1, s2, i, h) (by simp only [go_sem]; rfl) ?_ ?_ ?_
   ·simp only [go_sem]; simp
   ·exact ⟨⟨by simp only; omega, hc2⟩, hi, hh⟩
   ·simp only; omega
  ·clear hlt
   have hs7 := a4r hs k7
   by_cases g2 : 2 < s.fFiles.length
   ·have g2i : ((2 : Int) < (s.fFiles.length : Int)) = True := by simp; omega
    have q0 := @g2i; have q1 := @decide_true; refine iK ?_
    first | (refine fQ (dD hl 3 (by decide) (by decide) i h hi hh) ⟨rfl, rfl⟩ ?_ rfl ?_; (focus first | rfl | (simp only [go_sem]; done))) | (refine hZ (dD hl 3 (by decide) (by decide) i h hi hh) ⟨rfl, rfl⟩ ?_ rfl ?_; (focus first | rfl | (simp only [go_sem]; done)))
    clear hi hh; rintro ⟨c1, i, h⟩ ⟨q1, hi, hh⟩; simp only at q1 hi hh; simp only [go_sem]
    cases c1
    ·refine aL ?_
     exact eF (s, i, h) ⟨⟨_, rfl, by simp only [go_sem]⟩, trivial⟩ ⟨hs7, ⟨hi, hh⟩⟩ (by simp only [go_sem])
    ·have g1 : 1 < s.fFiles.length := by omega
     have hdl := xC s s.fFiles[1].fID (by omega) (a6R hs g1)
     have hsd := a2L s.fFiles[1].fID hs7
     generalize delS s s.fFiles[1].fID = s2 at *
     have qH := @g1; repeat' (with_reducible first | refine nY ?_ | (refine mX ?_; try simp only [go_sem, qH]) | refine kD ?_ | (apply rE [6,10] [] [0,1,2,3,4,5] [0,1,2,3,4,5] ((.c 6 [7,8,9] [7,8,9] (.c 10 [] [9] .n .n) .n)) (by simp only [go_sem]; rfl) (by simp only [go_sem]; rfl) (by simp only [go_sem]; rfl) (by decide +kernel); (focus simp only [go_sem]; done)) | exact bQ | refine bC (uX ?_) ?_ | refine bD (aX ?_) ?_ | refine bE (aX ?_) ?_ | exact dA | exact oH | exact uB | refine rD ?_ | refine cP hdl ?_ | refine aO ?_ | fail)
     exact eF (s2, i, h) ⟨⟨_, rfl, by simp only [go_sem]⟩, trivial⟩ ⟨hsd, ⟨hi, hh⟩⟩ (by simp only [go_sem])
   ·have g2i : ((2 : Int) < (s.fFiles.length : Int)) = False := by simp; omega
    have q0 := @g2i; have q1 := @decide_false; refine iK ?_
    exact eF (s, i, h) ⟨⟨_, rfl, by simp only [go_sem]⟩, trivial⟩ ⟨hs7, ⟨hi, hh⟩⟩ (by simp only [go_sem])
@[go_sem] def vi5 : List Int := [-1, 0, 999, 1000, 9223372036854775807]
@[go_sem] def vs5 : List ByteArray := [⟨#[]⟩, ⟨#[65]⟩, ⟨#[97, 98, 99, 100, 101, 102, 103]⟩, ⟨#[97, 98, 99, 100, 101, 102]⟩, ⟨#[97, 32, 98]⟩]
structure fileA (f : TFile) : Prop where
 w : dC f ≤ 80
 wf : a2G f
@[go_sem] def fi4 : List Int := [0, 60, 61, -1]
@[go_sem] def fo3 : List Int := [-1, 2, 3]
@[go_sem] def fl4 : List Int := [-1, 60, 61, 9223372036854775807]
structure idsD (k : Nat) (x : List Int) : Prop where
 up : x.Pairwise (· < ·)
 lo : ∀ y ∈ x, 1 ≤ y ∧ y < k
 len : x.length < k
theorem a4A {k : Nat} {x : List Int} (h : idsD k x) : idsD (k + 1) x := ⟨h.up, fun y hy => by have := h.lo y hy; omega, by have := h.len; omega⟩
theorem a5R {k : Nat} {x : List Int} (hk : 1 ≤ k) (h : idsD k x) : idsD (k + 1) (x ++ [(k : Int)]) := by
 refine ⟨?_, fun y hy => ?_, by have := h.len; simp; omega⟩
 ·rw [List.pairwise_append]
  refine ⟨h.up, List.pairwise_singleton _ _, fun y hy z hz => ?_⟩
  simp only [List.mem_singleton] at hz
  subst hz
  exact (h.lo y hy).2
 ·rcases List.mem_append.1 hy with hy | hy
  ·have := h.lo y hy; omega
  ·simp only [List.mem_singleton] at hy; omega
theorem zC {l : List Int} (hl : rR l) : Drw l 16 [] (fun x : List Int => idsD 8 x) (fun x => .o (.w 3 1 (x.map gL))) := by
 intro i h hi hh; refine a1D Tryd.func16 rfl Tryd.call16 rfl (fun C b => ?_); simp only [go_sem, Tryd.ntmps16]
 refine aL ?_
 refine bX (α := Nat × List Int × Nat × Int) (fun x => [(3, .o (.s 1)), (4, oi x.1), (12, .o .u), (5, .o .u)]) (fun x => [(0, .pin b 65 [.sl (l.map qB), iv x.2.2.1, iv x.2.2.2]), (1, .row 3 1 (x.2.1.map gL) true)]) (fun x => (1 ≤ x.1 ∧ x.1 ≤ 8 ∧ idsD x.1 x.2.1) ∧ (x.2.2.1 ≤ l.length ∧ inR .i64 x.2.2.2)) (fun x => 8 - x.1) (1, [], i, h) (fun _ => ?_) ?_ ?_ (fun x hx => ?_)
 ·simp only [go_sem]
 ·simp only [go_sem]; simp
 ·exact ⟨⟨Nat.le_refl _, by simp only; omega, List.Pairwise.nil, fun y hy => by simp at hy, by simp⟩, hi, hh⟩
 ·obtain ⟨k, x, i, h⟩ := x
  obtain ⟨⟨k1, k8, hx⟩, hi, hh⟩ := hx
  simp only at k1 k8 hx hi hh
  have hlen := hx.len
  have hl1 : x.length + 1 ≤ 140737488355328 := by omega
  have hl2 : (x.length + 1) * 8 ≤ 140737488355328 := by omega
  simp only [go_sem]
  refine aL ?_
  refine cnd rfl (fun hlt => ?_) (fun hlt => ?_)
  ·simp only [decide_eq_true_eq] at hlt
   refine aL ?_
   first | (refine fQ (dD hl 2 (by decide) (by decide) i h hi hh) ⟨rfl, rfl⟩ ?_ rfl ?_; (focus first | rfl | (simp only [go_sem]; done))) | (refine hZ (dD hl 2 (by decide) (by decide) i h hi hh) ⟨rfl, rfl⟩ ?_ rfl ?_; (focus first | rfl | (simp only [go_sem]; done)))
   clear hi hh; rintro ⟨c1, i, h⟩ ⟨q1, hi, hh⟩; simp only at q1 hi hh; simp only [go_sem]
   cases c1
   ·refine aL ?_
    refine bF (k + 1, x, i, h) ?_ ?_ ?_
    ·simp only [go_sem]; simp
    ·exact ⟨⟨by simp only; omega, by simp only; omega, a4A hx⟩, hi, hh⟩
    ·simp only; omega
   ·have q0 := @hl1; have q1 := @hl2; refine iK ?_
    refine bF (k + 1, x ++ [(k : Int)], i, h) ?_ ?_ ?_
    ·simp only [go_sem]; simp [gL]
    ·exact ⟨⟨by simp only; omega, by simp only; omega, a5R k1 hx⟩, hi, hh⟩
    ·simp only; omega
  ·simp only [decide_eq_false_iff_not] at hlt
   have e : k = 8 := by omega
   subst e
   refine aL ?_
   exact eF (x, i, h) ⟨⟨_, rfl, by simp only [go_sem]⟩, trivial⟩ ⟨hx, ⟨hi, hh⟩⟩ (by simp only [go_sem])
end Go.Proofs.YtakopfjdmmnjcaaDoor
end
section
namespace Go.Proofs.YtakopfjdmmnjcaaDoor.Opq
open Go Go.Sx Go.RowKit Go.Proofs
class NyO (P : Prop) (Q : outParam Prop) : Prop where
 ny : Q → P
instance (priority := low) {P Q : Prop} [i : Ny P Q] : NyO P Q := ⟨i.ny⟩
theorem nY {P Q : Prop} [i : NyO P Q] (h : Q) : P := i.ny h
noncomputable def ttl : List Ty := [.bad,
 .bad,
 ⟨3, 1, 8, [.d (.v (.int .i64 0))], [], 0, .i64⟩,
 ⟨3, 1, 8, [.d (.v (.int .i64 0))], [], 0, .i64⟩,
 ⟨4, 1, 1, [.d (.v (.bool false))], [], 0, .i64⟩,
 ⟨3, 1, 1, [.d (.v (.int .u8 0))], [], 0, .u8⟩,
 ⟨3, 1, 1, [.d (.v (.int .u8 0))], [], 0, .u8⟩,
 ⟨1, 4, 24, [.d (.v (.int .i64 0)), .d (.v (.int .i64 0)), .d (.v (.bool false)), .d (.v (.int .u8 0))], [(0, 2), (1, 3), (2, 4), (3, 6)], 0, .i64⟩,
 ⟨1, 4, 24, [.d (.v (.int .i64 0)), .d (.v (.int .i64 0)), .d (.v (.bool false)), .d (.v (.int .u8 0))], [(0, 2), (1, 3), (2, 4), (3, 6)], 0, .i64⟩,
 ⟨5, 1, 16, [.d (.v (.string ⟨#[]⟩))], [], 0, .i64⟩,
 ⟨5, 1, 16, [.d (.v (.string ⟨#[]⟩))], [], 0, .i64⟩,
 ⟨5, 1, 16, [.d (.v (.string ⟨#[]⟩))], [], 0, .i64⟩,
 .bad,
 .bad,
 .bad,
 .bad,
 .bad,
 .bad,
 .bad,
 .bad,
 .bad,
 .bad,
 ⟨2, 1, 24, [.z], [], 5, .i64⟩,
 .bad,
 ⟨2, 1, 24, [.z], [], 88, .i64⟩,
 ⟨2, 1, 24, [.z], [], 50, .i64⟩,
 ⟨1, 3, 56, [.z, .z, .d (.v (.int .i64 0))], [(0, 24), (1, 25), (2, 3)], 0, .i64⟩,
 ⟨1, 3, 56, [.z, .z, .d (.v (.int .i64 0))], [(0, 24), (1, 25), (2, 3)], 0, .i64⟩,
 ⟨2, 1, 24, [.z], [(0, 0)], 3, .i64⟩,
 .bad,
 .bad,
 ⟨2, 1, 24, [.z], [], 39, .i64⟩,
 .bad,
 .bad,
 .bad,
 .bad,
 ⟨1, 3, 32, [.d (.v (.int .i64 0)), .d (.v (.int .i64 0)), .d (.v (.string ⟨#[]⟩))], [(0, 3), (1, 3), (2, 9)], 0, .i64⟩,
 ⟨1, 3, 32, [.d (.v (.int .i64 0)), .d (.v (.int .i64 0)), .d (.v (.string ⟨#[]⟩))], [(0, 3), (1, 3), (2, 9)], 0, .i64⟩,
 ⟨1, 4, 56, [.d (.v (.int .i64 0)), .d (.v (.int .i64 0)), .d (.v (.string ⟨#[]⟩)), .d (.v (.slice none 0 0))], [(0, 37), (3, 28)], 0, .i64⟩,
 ⟨1, 4, 56, [.d (.v (.int .i64 0)), .d (.v (.int .i64 0)), .d (.v (.string ⟨#[]⟩)), .d (.v (.slice none 0 0))], [(0, 37), (3, 28)], 0, .i64⟩,
 .bad,
 .bad,
 .bad,
 .bad,
 .bad,
 .bad,
 .bad,
 .bad,
 ⟨2, 1, 24, [.z], [], 80, .i64⟩,
 ⟨1, 5, 56, [.d (.v (.int .i64 0)), .d (.v (.int .i64 0)), .d (.v (.bool false)), .d (.v (.int .i64 0)), .z], [(0, 3), (1, 3), (2, 4), (3, 3), (4, 48)], 0, .i64⟩,
 ⟨1, 5, 56, [.d (.v (.int .i64 0)), .d (.v (.int .i64 0)), .d (.v (.bool false)), .d (.v (.int .i64 0)), .z], [(0, 3), (1, 3), (2, 4), (3, 3), (4, 48)], 0, .i64⟩,
 .bad,
 .bad,
 .bad,
 .bad,
 .bad,
 .bad,
 .bad,
 .bad,
 .bad,
 .bad,
 .bad,
 .bad,
 .bad,
 ⟨1, 3, 40, [.z, .d (.v (.int .i64 0)), .d (.v (.int .i64 0))], [(0, 22), (1, 3), (2, 3)], 0, .i64⟩,
 ⟨1, 3, 40, [.z, .d (.v (.int .i64 0)), .d (.v (.int .i64 0))], [(0, 22), (1, 3), (2, 3)], 0, .i64⟩,
 .bad,
 .bad,
 .bad,
 .bad,
 .bad,
 .bad,
 .bad,
 .bad,
 .bad,
 .bad,
 ⟨2, 1, 24, [.z], [], 9, .i64⟩,
 .bad,
 .bad,
 ⟨1, 4, 48, [.d (.v (.string ⟨#[]⟩)), .d (.v (.int .i64 0)), .d (.v (.int .i64 0)), .d (.v (.string ⟨#[]⟩))], [(0, 9), (1, 37)], 0, .i64⟩,
 ⟨1, 4, 48, [.d (.v (.string ⟨#[]⟩)), .d (.v (.int .i64 0)), .d (.v (.int .i64 0)), .d (.v (.string ⟨#[]⟩))], [(0, 9), (1, 37)], 0, .i64⟩,
 .bad,
 .bad,
 .bad,
 .bad,
 .bad,
 .bad,
 ⟨1, 2, 24, [.d (.v (.string ⟨#[]⟩)), .d (.v (.int .i64 0))], [(0, 9), (1, 3)], 0, .i64⟩,
 ⟨1, 2, 24, [.d (.v (.string ⟨#[]⟩)), .d (.v (.int .i64 0))], [(0, 9), (1, 3)], 0, .i64⟩,
 .bad,
 .bad,
 .bad,
 .bad,
 .bad,
 .bad,
 .bad,
 .bad,
 .bad,
 .bad,
 .bad,
 .bad,
 .bad,
 .bad,
 .bad,
 .bad,
 .bad,
 .bad,
 .bad,
 .bad,
 .bad,
 .bad,
 .bad,
 .bad,
 .bad,
 .bad,
 .bad,
 .bad,
 .bad,
 .bad,
 .bad,
 .bad,
 .bad,
 .bad,
 .bad,
 .bad,
 .bad,
 .bad,
 ⟨3, 1, 1, [.d (.v (.int .u8 0))], [], 0, .u8⟩,
 ⟨3, 1, 1, [.d (.v (.int .u8 0))], [], 0, .u8⟩,
 .bad,
 .bad,
 .bad,
 .bad,
 .bad,
 .bad,
 .bad]
noncomputable def tt : Nat → Ty := fun t => ttl.getD t .bad
theorem ttOK : TyOK Tryd.prog tt := TyOK.of_list (by kernel_rfl)
theorem tts : tt 2 = ⟨3, 1, 8, [.d (.v (.int .i64 0))], [], 0, .i64⟩ ∧ tt 3 = ⟨3, 1, 8, [.d (.v (.int .i64 0))], [], 0, .i64⟩ ∧ tt 4 = ⟨4, 1, 1, [.d (.v (.bool false))], [], 0, .i64⟩ ∧ tt 5 = ⟨3, 1, 1, [.d (.v (.int .u8 0))], [], 0, .u8⟩ ∧ tt 6 = ⟨3, 1, 1, [.d (.v (.int .u8 0))], [], 0, .u8⟩ ∧ tt 7 = ⟨1, 4, 24, [.d (.v (.int .i64 0)), .d (.v (.int .i64 0)), .d (.v (.bool false)), .d (.v (.int .u8 0))], [(0, 2), (1, 3), (2, 4), (3, 6)], 0, .i64⟩ ∧ tt 8 = ⟨1, 4, 24, [.d (.v (.int .i64 0)), .d (.v (.int .i64 0)), .d (.v (.bool false)), .d (.v (.int .u8 0))], [(0, 2), (1, 3), (2, 4), (3, 6)], 0, .i64⟩ ∧ tt 9 = ⟨5, 1, 16, [.d (.v (.string ⟨#[]⟩))], [], 0, .i64⟩ ∧ tt 10 = ⟨5, 1, 16, [.d (.v (.string ⟨#[]⟩))], [], 0, .i64⟩ ∧ tt 11 = ⟨5, 1, 16, [.d (.v (.string ⟨#[]⟩))], [], 0, .i64⟩ ∧ tt 22 = ⟨2, 1, 24, [.z], [], 5, .i64⟩ ∧ tt 24 = ⟨2, 1, 24, [.z], [], 88, .i64⟩ ∧ tt 25 = ⟨2, 1, 24, [.z], [], 50, .i64⟩ ∧ tt 26 = ⟨1, 3, 56, [.z, .z, .d (.v (.int .i64 0))], [(0, 24), (1, 25), (2, 3)], 0, .i64⟩ ∧ tt 27 = ⟨1, 3, 56, [.z, .z, .d (.v (.int .i64 0))], [(0, 24), (1, 25), (2, 3)], 0, .i64⟩ ∧ tt 28 = ⟨2, 1, 24, [.z], [(0, 0)], 3, .i64⟩ ∧ tt 31 = ⟨2, 1, 24, [.z], [], 39, .i64⟩ ∧ tt 36 = ⟨1, 3, 32, [.d (.v (.int .i64 0)), .d (.v (.int .i64 0)), .d (.v (.string ⟨#[]⟩))], [(0, 3), (1, 3), (2, 9)], 0, .i64⟩ ∧ tt 37 = ⟨1, 3, 32, [.d (.v (.int .i64 0)), .d (.v (.int .i64 0)), .d (.v (.string ⟨#[]⟩))], [(0, 3), (1, 3), (2, 9)], 0, .i64⟩ ∧ tt 38 = ⟨1, 4, 56, [.d (.v (.int .i64 0)), .d (.v (.int .i64 0)), .d (.v (.string ⟨#[]⟩)), .d (.v (.slice none 0 0))], [(0, 37), (3, 28)], 0, .i64⟩ ∧ tt 39 = ⟨1, 4, 56, [.d (.v (.int .i64 0)), .d (.v (.int .i64 0)), .d (.v (.string ⟨#[]⟩)), .d (.v (.slice none 0 0))], [(0, 37), (3, 28)], 0, .i64⟩ ∧ tt 48 = ⟨2, 1, 24, [.z], [], 80, .i64⟩ ∧ tt 49 = ⟨1, 5, 56, [.d (.v (.int .i64 0)), .d (.v (.int .i64 0)), .d (.v (.bool false)), .d (.v (.int .i64 0)), .z], [(0, 3), (1, 3), (2, 4), (3, 3), (4, 48)], 0, .i64⟩ ∧ tt 50 = ⟨1, 5, 56, [.d (.v (.int .i64 0)), .d (.v (.int .i64 0)), .d (.v (.bool false)), .d (.v (.int .i64 0)), .z], [(0, 3), (1, 3), (2, 4), (3, 3), (4, 48)], 0, .i64⟩ ∧ tt 64 = ⟨1, 3, 40, [.z, .d (.v (.int .i64 0)), .d (.v (.int .i64 0))], [(0, 22), (1, 3), (2, 3)], 0, .i64⟩ ∧ tt 65 = ⟨1, 3, 40, [.z, .d (.v (.int .i64 0)), .d (.v (.int .i64 0))], [(0, 22), (1, 3), (2, 3)], 0, .i64⟩ ∧ tt 76 = ⟨2, 1, 24, [.z], [], 9, .i64⟩ ∧ tt 79 = ⟨1, 4, 48, [.d (.v (.string ⟨#[]⟩)), .d (.v (.int .i64 0)), .d (.v (.int .i64 0)), .d (.v (.string ⟨#[]⟩))], [(0, 9), (1, 37)], 0, .i64⟩ ∧ tt 80 = ⟨1, 4, 48, [.d (.v (.string ⟨#[]⟩)), .d (.v (.int .i64 0)), .d (.v (.int .i64 0)), .d (.v (.string ⟨#[]⟩))], [(0, 9), (1, 37)], 0, .i64⟩ ∧ tt 87 = ⟨1, 2, 24, [.d (.v (.string ⟨#[]⟩)), .d (.v (.int .i64 0))], [(0, 9), (1, 3)], 0, .i64⟩ ∧ tt 88 = ⟨1, 2, 24, [.d (.v (.string ⟨#[]⟩)), .d (.v (.int .i64 0))], [(0, 9), (1, 3)], 0, .i64⟩ ∧ tt 127 = ⟨3, 1, 1, [.d (.v (.int .u8 0))], [], 0, .u8⟩ ∧ tt 128 = ⟨3, 1, 1, [.d (.v (.int .u8 0))], [], 0, .u8⟩ :=
 ⟨rfl, rfl, rfl, rfl, rfl, rfl, rfl, rfl, rfl, rfl, rfl, rfl, rfl, rfl, rfl, rfl, rfl, rfl, rfl, rfl, rfl, rfl, rfl, rfl, rfl, rfl, rfl, rfl, rfl, rfl, rfl, rfl, rfl⟩
noncomputable def EV (C : Ctx) : Env := ⟨Tryd.prog, tt, C, eqk⟩
theorem EV_T (C : Ctx) : (EV C).T = tt := rfl
theorem EV_q (C : Ctx) : (EV C).eqk = eqk := rfl
attribute [go_sem] tts EV_T EV_q
theorem reg {C : Ctx} {id : Nat} {ops : List Oper} {F : Ex → St → Prop} {st : St} (h : vcRun (EV C) ops ops st (F .normal) ⟨⟩) : WP Tryd.prog C (.region id ops.toArray false) F st := xS (E := EV C) ttOK vQ h.out
instance (priority := high) nReg {C : Ctx} {id : Nat} {ops : List Oper} {F : Ex → St → Prop} {st : St} : NyO (WP Tryd.prog C (.region id ops.toArray false) F st) (vcRun (EV C) ops ops st (F .normal) ⟨⟩) := ⟨reg⟩
instance clT {C : Ctx} {f : Nat} {args args' : List SV} {res : SV} {st : St} {K : St → SV → Prop} : Cy Tryd.prog f args' res (CallT (EV C) f args st K ⟨⟩) (args.map (bN (aK st.h (bH args))) = args' ∧ args'.all aM = true) (Nm (K ⟨st.t, aK st.h (bH args) ++ adH res.all⟩ (adS (aK st.h (bH args)).length res))) := ⟨fun h o k => ⟨CallS.frz (E := EV C) h o.1 o.2 k⟩⟩
instance clD {C : Ctx} {f : Nat} {args args' : List SV} {res : SV} {h : List HB} {k : SV → Prop} : Cy Tryd.prog f args' res (CallD (EV C) f args h k ⟨⟩) ((args.map (bN h) = args' ∧ args'.all aM = true) ∧ res.all.all isD = true) (Nm (k res)) := ⟨fun hf o hk => CallD.of_fn (E := EV C) hf o.1.1 o.1.2 o.2 hk⟩
instance clG {C : Ctx} {f : Nat} {args args' : List SV} {res : SV} {h : List HB} {k : List HB → SV → Prop} : Cy Tryd.prog f args' res (CallG (EV C) f args h k ⟨⟩) (args.map (bN (aK h (bH args))) = args' ∧ args'.all aM = true) (Nm (k (aK h (bH args) ++ adH res.all) (adS (aK h (bH args)).length res))) := ⟨fun hf o hk => CallG.frz (E := EV C) hf o.1 o.2 hk⟩
theorem regd {C : Ctx} {id : Nat} {ops : List Oper} {F : Ex → St → Prop} {st : St} (hB : Region.lexB .any ops.toArray = true) (h : vcDRun (EV C) ops ops st (F .normal) ⟨⟩) : WP Tryd.prog C (.region id ops.toArray true) F st := a3d (E := EV C) ttOK vQ fol hB h.out
theorem ent {f : Nat} {fn : Func} {c : Code} {rs : List ResultVar} {args : List SV} {res : SV} (hf : Tryd.prog.funcs[f]? = some fn) (hb : fn.body = some c) (hcall : ∀ x w, (callFunc f x).run Tryd.prog w = .ok (.enter f x) w) (hres : fn.results = rs.toArray)
    (h : ∀ C : Ctx, WP Tryd.prog C c (aT Tryd.prog C [] (a2d (EV C) rs res)) (st0 args fn.ntmps)) : FnC Tryd.prog f args res := FnC.of_wp (eqk := eqk) ttOK hf hb hcall hres fun C _ => h C
theorem cali {C : Ctx} {f ty sz id : Nat} {rows rows' : List (List D)} {args' rest : List SV} {st : St} {K : St → SV → Prop} (h : FnI Tryd.prog f ty sz rows args' false rows') (hid : aU (aK st.h (bH rest)) id = .row ty sz rows true) (he : rest.map (bN (aK st.h (bH rest))) = args') (hfree : args'.all aM = true) (k : K ⟨st.t.map (oO id), setH ((aK st.h (bH rest)).map (jZ id)) id (.row ty sz rows' true)⟩ (.o (.s id))) : CallT (EV C) f (.o (.s id) :: rest) st K ⟨⟩ := ⟨CallS.give (E := EV C) h hid he hfree (by simpa using k)⟩
theorem calj {C : Ctx} {f ty sz id : Nat} {rows rows' : List (List D)} {args' rest : List SV} {st : St} {K : St → SV → Prop} (h : FnI Tryd.prog f ty sz rows args' true rows') (hid : aU (aK st.h (bH rest)) id = .row ty sz rows true) (he : rest.map (bN (aK st.h (bH rest))) = args') (hfree : args'.all aM = true) (k : K ⟨st.t, setH (aK st.h (bH rest)) id (.row ty sz rows' true)⟩ (.t [])) : CallT (EV C) f (.o (.s id) :: rest) st K ⟨⟩ := ⟨CallS.give (E := EV C) h hid he hfree (by simpa using k)⟩
theorem cale {C : Ctx} {f : Nat} {args args' : List SV} {res : SV} {st : St} {K : St → SV → Prop} (h : FnC Tryd.prog f args' res) (he : args.map (bG st.h) = args') (hfree : args'.all aM = true) (hres : res.all.all gG = true) (k : K ⟨st.t, st.h ++ adG (fun _ => none) 0 res.all⟩ (adS st.h.length res)) : CallT (EV C) f args st K ⟨⟩ := ⟨CallS.lend (E := EV C) h he hfree hres k⟩
theorem calr {C : Ctx} {f : Nat} {args args' : List SV} {res : SV} {st : St} {K : St → SV → Prop} (h : FnC Tryd.prog f args' res) (he : args.map (bG st.h) = args') (hfree : args'.all aM = true) (hres : res.all.all gG = true) (k : K ⟨st.t, st.h ++ adH res.all⟩ (adS st.h.length res)) : CallT (EV C) f args st K ⟨⟩ := ⟨CallS.lendW (E := EV C) h he hfree hres k⟩
theorem rS {C : Ctx} {id : Nat} {ops l m : List Oper} {F : Ex → St → Prop} {st : St} (ps ds : List Nat) (hl : rdX ds ops = l) (hm : wJ ops = m) (hok : (yK ops ps ds && a1e ps ops && ps.all fun i => decide (i < ops.length)) = true) (hb : st.okB = true) (h : vcGRun (EV C) ds ops m st (fun st1 => vcStT (EV C) ops l ds ps ⟨st1.t, st.h⟩ (F .normal) ⟨⟩) ⟨⟩) : WP Tryd.prog C (.region id ops.toArray true) F st := by
 subst hl hm
 have e : (fun st1 : St => vcStT (EV C) ops (rdX ds ops) ds ps ⟨st1.t, st.h⟩ (F .normal) ⟨⟩) = (fun st1 => oP (EV C) ops ds ps ⟨st1.t, st.h⟩ (F .normal)) := funext fun s => propext ⟨fun h => h.out rfl, fun h => ⟨fun _ => h⟩⟩
 rw [e] at h
 simp only [Bool.and_eq_true] at hok
 exact yM (E := EV C) ttOK vQ fol ps ds hok.1.1 hok.1.2 hok.2 hb h.out
theorem cGo {C : Ctx} {f : Nat} {args args' : List SV} {res : SV} {h : List HB} {k : List HB → SV → Prop} (hf : FnC Tryd.prog f args' res) (he : args.map (bG h) = args') (hfree : args'.all aM = true) (hres : res.all.all gG = true) (hk : k (h ++ adG (fun _ => none) 0 res.all) (adS h.length res)) : CallG (EV C) f args h k ⟨⟩ := CallG.lend (E := EV C) hf he hfree hres hk
theorem cGr {C : Ctx} {f : Nat} {args args' : List SV} {res : SV} {h : List HB} {k : List HB → SV → Prop} (hf : FnC Tryd.prog f args' res) (he : args.map (bG h) = args') (hfree : args'.all aM = true) (hres : res.all.all gG = true) (hk : k (h ++ adH res.all) (adS h.length res)) : CallG (EV C) f args h k ⟨⟩ := CallG.lendW (E := EV C) hf he hfree hres hk
theorem cDr {C : Ctx} {f ty sz : Nat} {rows : List (List D)} {args args' : List SV} {h : List HB} {k : SV → Prop} (hf : FnC Tryd.prog f args' (.o (.w ty sz rows))) (h1 : args.map (bG h) = args') (h2 : args'.all aM = true) (h3 : dY rows = true) (hk : k (.o (.d (.sl rows)))) : CallD (EV C) f args h k ⟨⟩ := CallD.of_lend (E := EV C) hf h1 h2 h3 hk
theorem vI {C : Ctx} {f ty sz id : Nat} {rows rows' : List (List D)} {args' rest : List SV} {st : St} {K : St → SV → Prop} (h : FnI Tryd.prog f ty sz rows args' false rows') (k : Nm (K ⟨st.t.map (oO id), setH ((aK st.h (bH rest)).map (jZ id)) id (.row ty sz rows' true)⟩ (.o (.s id)))) (hid : aU (aK st.h (bH rest)) id = .row ty sz rows true := by simp only [go_sem, qH] <;> fail) (he : rest.map (bN (aK st.h (bH rest))) = args' := by simp only [go_sem, qH] <;> fail) (hfree : args'.all aM = true := by simp only [go_sem, qH] <;> fail) : CallT (EV C) f (.o (.s id) :: rest) st K ⟨⟩ := cali h hid he hfree k
theorem vJ {C : Ctx} {f ty sz id : Nat} {rows rows' : List (List D)} {args' rest : List SV} {st : St} {K : St → SV → Prop} (h : FnI Tryd.prog f ty sz rows args' true rows') (k : Nm (K ⟨st.t, setH (aK st.h (bH rest)) id (.row ty sz rows' true)⟩ (.t []))) (hid : aU (aK st.h (bH rest)) id = .row ty sz rows true := by simp only [go_sem, qH] <;> fail) (he : rest.map (bN (aK st.h (bH rest))) = args' := by simp only [go_sem, qH] <;> fail) (hfree : args'.all aM = true := by simp only [go_sem, qH] <;> fail) : CallT (EV C) f (.o (.s id) :: rest) st K ⟨⟩ := calj h hid he hfree k
theorem vL {C : Ctx} {f : Nat} {args args' : List SV} {res : SV} {st : St} {K : St → SV → Prop} (h : FnC Tryd.prog f args' res) (k : Nm (K ⟨st.t, st.h ++ adG (fun _ => none) 0 res.all⟩ (adS st.h.length res))) (he : args.map (bG st.h) = args' := by simp only [go_sem, qH] <;> fail) (hfree : args'.all aM = true := by simp only [go_sem, qH] <;> fail) (hres : res.all.all gG = true := by simp only [go_sem, qH] <;> fail) : CallT (EV C) f args st K ⟨⟩ := cale h he hfree hres k
theorem vR {C : Ctx} {f : Nat} {args args' : List SV} {res : SV} {st : St} {K : St → SV → Prop} (h : FnC Tryd.prog f args' res) (k : Nm (K ⟨st.t, st.h ++ adH res.all⟩ (adS st.h.length res))) (he : args.map (bG st.h) = args' := by simp only [go_sem, qH] <;> fail) (hfree : args'.all aM = true := by simp only [go_sem, qH] <;> fail) (hres : res.all.all gG = true := by simp only [go_sem, qH] <;> fail) : CallT (EV C) f args st K ⟨⟩ := calr h he hfree hres k
theorem vG {C : Ctx} {f : Nat} {args args' : List SV} {res : SV} {h : List HB} {k : List HB → SV → Prop} (hf : FnC Tryd.prog f args' res) (hk : Nm (k (h ++ adH res.all) (adS h.length res))) (he : args.map (bG h) = args' := by simp only [go_sem, qH] <;> fail) (hfree : args'.all aM = true := by simp only [go_sem, qH] <;> fail) (hres : res.all.all gG = true := by simp only [go_sem, qH] <;> fail) : CallG (EV C) f args h k ⟨⟩ := cGr hf he hfree hres hk
theorem vD {C : Ctx} {f ty sz : Nat} {rows : List (List D)} {args args' : List SV} {h : List HB} {k : SV → Prop} (hf : FnC Tryd.prog f args' (.o (.w ty sz rows))) (hk : Nm (k (.o (.d (.sl rows))))) (h1 : args.map (bG h) = args' := by simp only [go_sem, qH] <;> fail) (h2 : args'.all aM = true := by simp only [go_sem, qH] <;> fail) (h3 : dY rows = true := by simp only [go_sem, qH] <;> fail) : CallD (EV C) f args h k ⟨⟩ := cDr hf h1 h2 h3 hk
theorem rD {C : Ctx} {id : Nat} {ops : List Oper} {F : Ex → St → Prop} {st : St} (h : vcDRun (EV C) ops ops st (F .normal) ⟨⟩) (hB : Region.lexB .any ops.toArray = true := by kernel_rfl) : WP Tryd.prog C (.region id ops.toArray true) F st := regd hB h
theorem rT {C : Ctx} {id : Nat} {ops l m : List Oper} {F : Ex → St → Prop} {st : St} (ps : List Nat) (ds : List Nat) (h : vcGRun (EV C) ds ops m st (fun st1 => vcStT (EV C) ops l ds ps ⟨st1.t, st.h⟩ (F .normal) ⟨⟩) ⟨⟩) (hl : rdX ds ops = l := by simp only [go_sem]; rfl) (hm : wJ ops = m := by simp only [go_sem]; rfl) (hok : (yK ops ps ds && a1e ps ops && ps.all fun i => decide (i < ops.length)) = true := by decide +kernel) (hb : st.okB = true := by simp only [go_sem] <;> fail) : WP Tryd.prog C (.region id ops.toArray true) F st := rS ps ds hl hm hok hb h
theorem rE {C : Ctx} {id : Nat} {ops L W : List Oper} {T : PO} {F : Ex → St → Prop} {st G : St} (ps ls l0 w0 : List Nat) (t : PT) (hl : bU ops l0 = L) (hw : bU ops w0 = W) (hp : iN ops t = T)
    (hok : (okE ops ps ls && (l0.all fun i => !ps.contains i) && okN ops ps [] ps w0 t && rV ops ps t [] ps && ps.all fun q => decide (q < ops.length)) = true) (hb : st.okB = true) (h : vcDRun (EV C) ops L st (fun st1 => vcTN (EV C) false ops W T st1 (sZ G) ⟨⟩) ⟨⟩) (hG : Ok2 G) (hF : F .normal G) : WP Tryd.prog C (.region id ops.toArray true) F st := by
 subst hl hw hp
 simp only [Bool.and_eq_true] at hok
 refine a5J (E := EV C) ttOK vQ fol ps ls l0 w0 t hok.1.1.1.1 hok.1.1.1.2 hok.1.1.2 hok.1.2 hok.2 hb ?_ hG hF
 have e : (fun st1 => vcTN (EV C) false ops (bU ops w0) (iN ops t) st1 (sZ G) ⟨⟩) = (fun st1 => kX (EV C) st1 (bU ops w0) ∧ if t.isNil = true then sZ G st1 else nI (EV C) false ops t st1 (sZ G)) := funext fun s => propext (by
  constructor
  ·intro h; have := h.out; rwa [kN, fF] at this
  ·intro h; exact ⟨by rwa [kN, fF]⟩)
 rw [e] at h
 exact h.out
theorem rF {C : Ctx} {id : Nat} {ops L W : List Oper} {T : PO} {F : Ex → St → Prop} {st : St} (ps ls l0 w0 : List Nat) (t : PT) (hl : bU ops l0 = L) (hw : bU ops w0 = W) (hp : iN ops t = T)
    (hok : (okE ops ps ls && (l0.all fun i => !ps.contains i) && okN ops ps [] ps w0 t && rV ops ps t [] ps && ps.all fun q => decide (q < ops.length)) = true) (hb : st.okB = true) (h : vcDRun (EV C) ops L st (fun st1 => vcTN (EV C) true ops W T st1 (F .normal) ⟨⟩) ⟨⟩) : WP Tryd.prog C (.region id ops.toArray true) F st := by
 subst hl hw hp
 simp only [Bool.and_eq_true] at hok
 refine a3D (E := EV C) ttOK vQ fol ps ls l0 w0 t hok.1.1.1.1 hok.1.1.1.2 hok.1.1.2 hok.1.2 hok.2 hb ?_
 have e : (fun st1 => vcTN (EV C) true ops (bU ops w0) (iN ops t) st1 (F .normal) ⟨⟩) = (fun st1 => kX (EV C) st1 (bU ops w0) ∧ if t.isNil = true then F .normal st1 else nI (EV C) true ops t st1 (F .normal)) := funext fun s => propext (by
  constructor
  ·intro h; have := h.out; rwa [kN, fF] at this
  ·intro h; exact ⟨by rwa [kN, fF]⟩)
 rw [e] at h
 exact h.out
instance clH {C : Ctx} {f : Nat} {args args' : List SV} {res : SV} {h : List HB} {k : List HB → SV → Prop} : Cy Tryd.prog f args' res (CallH (EV C) f args h k ⟨⟩) (args.map (bN (aK h (bH args))) = args' ∧ args'.all aM = true) (Nm (k (aK h (bH args) ++ adH res.all) (adS (aK h (bH args)).length res))) := ⟨fun hf o hk => CallH.det (CallG.frz (E := EV C) hf o.1 o.2 hk)⟩
theorem hO {C : Ctx} {f : Nat} {args args' : List SV} {res : SV} {h : List HB} {k : List HB → SV → Prop} (hf : FnC Tryd.prog f args' res) (hk : Nm (k (h ++ adG (fun _ => none) 0 res.all) (adS h.length res))) (he : args.map (bG h) = args' := by simp only [go_sem, qH] <;> fail) (hfree : args'.all aM = true := by simp only [go_sem, qH] <;> fail) (hres : res.all.all gG = true := by simp only [go_sem, qH] <;> fail) : CallH (EV C) f args h k ⟨⟩ := CallH.det (cGo hf he hfree hres hk)
theorem hR {C : Ctx} {f : Nat} {args args' : List SV} {res : SV} {h : List HB} {k : List HB → SV → Prop} (hf : FnC Tryd.prog f args' res) (hk : Nm (k (h ++ adH res.all) (adS h.length res))) (he : args.map (bG h) = args' := by simp only [go_sem, qH] <;> fail) (hfree : args'.all aM = true := by simp only [go_sem, qH] <;> fail) (hres : res.all.all gG = true := by simp only [go_sem, qH] <;> fail) : CallH (EV C) f args h k ⟨⟩ := CallH.det (cGr hf he hfree hres hk)
end Go.Proofs.YtakopfjdmmnjcaaDoor.Opq
end
section
namespace Go.Proofs.YtakopfjdmmnjcaaDoor
open Go Go.Sx Go.RowKit Go.Proofs
def b1m (l : List Int) : List Int := l.mergeSort fun x y => decide (x ≤ y)
def b1n (l : List Int) : List Int := Lib.compact l
def bl (s : ByteArray) : List UInt8 := s.data.toList
def lb (l : List UInt8) : ByteArray := ⟨l.toArray⟩
theorem a7n (s : ByteArray) : lb (bl s) = s := by cases s; simp [lb, bl]
def a9K (l : List (List UInt8)) : List (List UInt8) := l.mergeSort fun x y => decide (x ≤ y)
def a9L (l : List ByteArray) : List ByteArray := (a9K (l.map bl)).map lb
def a9M (l : List ByteArray) : List ByteArray := (Lib.compact (l.map bl)).map lb
end Go.Proofs.YtakopfjdmmnjcaaDoor
end
section
set_option maxRecDepth 100000
set_option maxHeartbeats 4000000
namespace Go.Proofs.YtakopfjdmmnjcaaDoor
open Go Go.Sx Go.RowKit Go.Proofs
def b0W (l : List ByteArray) (s : ByteArray) : Bool := l.any fun x => decide (x = s)
def a9N (l : List TDir) : List ByteArray := l.map TDir.fName
def uD (names : List ByteArray) (l : List TDir) : List ByteArray := (a9N l).filter fun n => !b0W names n
end Go.Proofs.YtakopfjdmmnjcaaDoor
end
section
set_option maxRecDepth 100000
set_option maxHeartbeats 4000000
namespace Go.Sx
end Go.Sx
namespace Go.Proofs.YtakopfjdmmnjcaaDoor
open Go Go.Sx Go.RowKit Go.Proofs
def b1l (l : List ByteArray) : List ByteArray := a9M (a9L l)
def geS (s : ByteArray) (y : ByteArray) : Bool := !bS y s
def b0V (l : List ByteArray) (s : ByteArray) : List ByteArray := if (l.drop (fV (geS s) l)).head? = some s then l else oV (fV (geS s) l) s l
def b1s (l : List ByteArray) : List ByteArray := l.foldl b0V []
end Go.Proofs.YtakopfjdmmnjcaaDoor
end
section
namespace Go.Sx.Clos
section
variable {β : Type} [DecidableEq β]
def b0T (E : List (β × List β)) (S : List β) : Prop := ∀ e ∈ E, (∃ x ∈ e.2, x ∈ S) → e.1 ∈ S
def wsm (w : β → Nat) : List β → Nat
 | [] => 0
 | x :: l => w x + wsm w l
def a8w (w : β → Nat) : List (β × List β) → List β → Nat
 | [], _ => 0
 | e :: E, S => (if e.1 ∈ S then 0 else w e.1) + a8w w E S
variable (put : List β → β → List β)
def b0U (name : β) (out asks : List β) : List β := asks.foldl (fun o a => if a ∈ o then put o name else o) out
def round (E : List (β × List β)) (S : List β) : List β := E.foldl (fun o e => b0U put e.1 o e.2) S
def a8x (E : List (β × List β)) : Nat → List β → List β
 | 0, S => S
 | n + 1, S => round put E (a8x E n S)
variable {put} (hput : ∀ l s x, x ∈ put l s ↔ x = s ∨ x ∈ l)
include hput
omit hput
theorem uG {lt : β → β → Prop} (hi : ∀ x, ¬ lt x x) (ht : ∀ x y z, lt x y → lt y z → lt x z) : ∀ {l m : List β}, l.Pairwise lt → m.Pairwise lt → (∀ x, x ∈ l ↔ x ∈ m) → l = m
 | [], [], _, _, _ => rfl
 | [], b :: m, _, _, h => by have := (h b).2 List.mem_cons_self; simp at this
 | a :: l, [], _, _, h => by have := (h a).1 List.mem_cons_self; simp at this
 | a :: l, b :: m, h1, h2, h => by
  rw [List.pairwise_cons] at h1 h2
  have hab : a = b := by
   rcases List.mem_cons.1 ((h a).1 List.mem_cons_self) with e | e
   ·exact e
   ·rcases List.mem_cons.1 ((h b).2 List.mem_cons_self) with e' | e'
    ·exact e'.symm
    ·exact absurd (ht _ _ _ (h1.1 b e') (h2.1 a e)) (hi a)
  subst hab
  congr 1
  refine uG hi ht h1.2 h2.2 (fun x => ⟨fun hx => ?_, fun hx => ?_⟩)
  ·rcases List.mem_cons.1 ((h x).1 (List.mem_cons_of_mem _ hx)) with e | e
   ·subst e; exact absurd (h1.1 x hx) (hi x)
   ·exact e
  ·rcases List.mem_cons.1 ((h x).2 (List.mem_cons_of_mem _ hx)) with e | e
   ·subst e; exact absurd (h2.1 x hx) (hi x)
   ·exact e
end
end Go.Sx.Clos
namespace Go.Proofs.YtakopfjdmmnjcaaDoor
open Go Go.Sx Go.RowKit Go.Proofs
theorem a8y {x y : ByteArray} (h : bl x = bl y) : x = y := by rw [← a7n x, ← a7n y, h]
def ltS (x y : ByteArray) : Prop := bl x < bl y
theorem nW (x y : ByteArray) : bS x y = true ↔ ltS x y := by
 unfold bS ltS bl
 rw [Go.Proofs.bytesLess_eq, decide_eq_true_eq, ByteArray.toList_eq, ByteArray.toList_eq]
theorem a2X (x : ByteArray) : ¬ ltS x x := List.lt_irrefl (bl x)
theorem a4E (x y z : ByteArray) (h : ltS x y) (k : ltS y z) : ltS x z := List.lt_trans h k
theorem a8z {x y : List UInt8} (h : x ≤ y) (k : x ≠ y) : x < y := Classical.byContradiction fun hn => k (List.le_antisymm h (List.not_lt.1 hn))
theorem a3M {x y : ByteArray} (h : ¬ ltS x y) (k : x ≠ y) : ltS y x := a8z (List.not_lt.1 h) fun e => k (a8y e).symm
end Go.Proofs.YtakopfjdmmnjcaaDoor
end
section
set_option maxRecDepth 100000
namespace Go.Proofs.YtakopfjdmmnjcaaDoor
open Go Go.Sx Go.RowKit Go.Proofs Go.Sx.Clos
def c3 (l g : Bool) (r : Int) : Int := if l then -1 else if g then 1 else r
def cmpV (a b : TValue) : Int := c3 (decide (a.fKind < b.fKind)) (decide (b.fKind < a.fKind)) (c3 (decide (a.fInt < b.fInt)) (decide (b.fInt < a.fInt)) (c3 (bS a.fStr b.fStr) (bS b.fStr a.fStr) 0))
def ltV (a b : TValue) : Prop := a.fKind < b.fKind ∨ (a.fKind = b.fKind ∧ (a.fInt < b.fInt ∨ (a.fInt = b.fInt ∧ ltS a.fStr b.fStr)))
theorem kJ (a b : TValue) : cmpV a b < 0 ↔ ltV a b := by
 unfold cmpV ltV c3
 by_cases h1 : a.fKind < b.fKind
 ·simp [h1]
 ·by_cases h2 : b.fKind < a.fKind
  ·simp [h1, h2]; omega
  ·have e : a.fKind = b.fKind := by omega
   by_cases h3 : a.fInt < b.fInt
   ·simp [h1, h2, h3, e]
   ·by_cases h4 : b.fInt < a.fInt
    ·simp [h1, h2, h3, h4, e]; omega
    ·have e2 : a.fInt = b.fInt := by omega
     cases h5 : bS a.fStr b.fStr with
     | true => have := (nW _ _).1 h5; simp [h1, h2, h3, h4, e, e2, this]
     | false =>
      have n5 : ¬ ltS a.fStr b.fStr := fun k => by rw [(nW _ _).2 k] at h5; cases h5
      cases h6 : bS b.fStr a.fStr <;> simp [h1, h2, h3, h4, e, e2, n5]
theorem vO {a b : TValue} (h1 : a.fKind = b.fKind) (h2 : a.fInt = b.fInt) (h3 : a.fStr = b.fStr) : a = b := by cases a; cases b; simp_all
theorem jQ (a : TValue) : ¬ ltV a a := by
 rintro (h | ⟨_, h | ⟨_, h⟩⟩)
 ·omega
 ·omega
 ·exact a2X _ h
theorem lH (a b c : TValue) (h : ltV a b) (k : ltV b c) : ltV a c := by
 rcases h with h | ⟨e, h | ⟨e2, h⟩⟩ <;> rcases k with k | ⟨f, k | ⟨f2, k⟩⟩
 ·exact .inl (by omega)
 ·exact .inl (by omega)
 ·exact .inl (by omega)
 ·exact .inl (by omega)
 ·exact .inr ⟨by omega, .inl (by omega)⟩
 ·exact .inr ⟨by omega, .inl (by omega)⟩
 ·exact .inl (by omega)
 ·exact .inr ⟨by omega, .inl (by omega)⟩
 ·exact .inr ⟨by omega, .inr ⟨by omega, a4E _ _ _ h k⟩⟩
theorem vP {a b : TValue} (h : ¬ ltV a b) (k : a ≠ b) : ltV b a := by
 unfold ltV at h ⊢
 by_cases h1 : a.fKind < b.fKind
 ·exact absurd (.inl h1) h
 ·by_cases h2 : b.fKind < a.fKind
  ·exact .inl h2
  ·have e : a.fKind = b.fKind := by omega
   by_cases h3 : a.fInt < b.fInt
   ·exact absurd (.inr ⟨e, .inl h3⟩) h
   ·by_cases h4 : b.fInt < a.fInt
    ·exact .inr ⟨e.symm, .inl h4⟩
    ·have e2 : a.fInt = b.fInt := by omega
     have n5 : ¬ ltS a.fStr b.fStr := fun q => h (.inr ⟨e, .inr ⟨e2, q⟩⟩)
     exact .inr ⟨e.symm, .inr ⟨e2.symm, a3M n5 fun q => k (vO e e2 q)⟩⟩
instance decV : DecidableEq TValue := fun a b =>
 if h : a.fKind = b.fKind ∧ a.fInt = b.fInt ∧ a.fStr = b.fStr then isTrue (vO h.1 h.2.1 h.2.2) else isFalse fun e => h ⟨by rw [e], by rw [e], by rw [e]⟩
instance decG : DecidableEq TGroup := fun a b =>
 if h : a.fValue = b.fValue ∧ a.fIDs = b.fIDs then isTrue (by cases a; cases b; simp only at h; rw [h.1, h.2]) else isFalse fun e => h ⟨by rw [e], by rw [e]⟩
def gY (l : List TGroup) (x : TValue × Int) : List TGroup :=
 match l with
 | [] => [⟨x.1, [x.2]⟩]
 | g :: r => if g.fValue = x.1 then ⟨g.fValue, g.fIDs ++ [x.2]⟩ :: r else g :: gY r x
def dF (l : List TGroup) (x : TValue × Int) : List TGroup :=
 match l with
 | [] => [⟨x.1, [x.2]⟩]
 | g :: r => if cmpV g.fValue x.1 < 0 then g :: dF r x else if g.fValue = x.1 then ⟨g.fValue, g.fIDs ++ [x.2]⟩ :: r else ⟨x.1, [x.2]⟩ :: g :: r
def ltG (a b : TGroup) : Prop := ltV a.fValue b.fValue
theorem a2V (a : TGroup) : ¬ ltG a a := jQ _
theorem a4C (a b c : TGroup) (h : ltG a b) (k : ltG b c) : ltG a c := lH _ _ _ h k
theorem insG_mem {l : List TGroup} {x : TValue × Int} {g : TGroup} (h : g ∈ dF l x) : g.fValue = x.1 ∨ ∃ g' ∈ l, g'.fValue = g.fValue := by
 induction l with
 | nil => simp only [dF, List.mem_singleton] at h; subst h; exact .inl rfl
 | cons a r ih =>
  unfold dF at h
  split at h
  ·rcases List.mem_cons.1 h with rfl | h
   ·exact .inr ⟨g, List.mem_cons_self, rfl⟩
   ·rcases ih h with e | ⟨g', h1, h2⟩
    ·exact .inl e
    ·exact .inr ⟨g', List.mem_cons_of_mem _ h1, h2⟩
  ·split at h
   ·rcases List.mem_cons.1 h with rfl | h
    ·exact .inr ⟨a, List.mem_cons_self, rfl⟩
    ·exact .inr ⟨g, List.mem_cons_of_mem _ h, rfl⟩
   ·rcases List.mem_cons.1 h with rfl | h
    ·exact .inl rfl
    ·exact .inr ⟨g, h, rfl⟩
theorem uF {l : List TGroup} (x : TValue × Int) (h : l.Pairwise ltG) : (dF l x).Pairwise ltG := by
 induction l with
 | nil => exact List.pairwise_singleton _ _
 | cons a r ih =>
  rw [List.pairwise_cons] at h
  unfold dF
  split
  ·rename_i hc
   refine List.pairwise_cons.2 ⟨fun g hg => ?_, ih h.2⟩
   rcases insG_mem hg with e | ⟨g', h1, h2⟩
   ·show ltV a.fValue g.fValue; rw [e]; exact (kJ _ _).1 hc
   ·show ltV a.fValue g.fValue; rw [← h2]; exact h.1 g' h1
  ·rename_i hc
   split
   ·exact List.pairwise_cons.2 ⟨fun g hg => h.1 g hg, h.2⟩
   ·rename_i hne
    have hx : ltV x.1 a.fValue := vP (fun k => hc ((kJ _ _).2 k)) hne
    refine List.pairwise_cons.2 ⟨fun g hg => ?_, List.pairwise_cons.2 h⟩
    rcases List.mem_cons.1 hg with rfl | hg
    ·exact hx
    ·exact lH _ _ _ hx (h.1 g hg)
def eU (l : List TGroup) : Prop := l.Pairwise fun a b => a.fValue ≠ b.fValue
theorem mK {l : List TGroup} (h : l.Pairwise ltG) : eU l := h.imp fun {a b} (hab : ltV a.fValue b.fValue) e => by rw [e] at hab; exact jQ _ hab
theorem addG_mem {l : List TGroup} {x : TValue × Int} {g : TGroup} (h : g ∈ gY l x) : g.fValue = x.1 ∨ ∃ g' ∈ l, g'.fValue = g.fValue := by
 induction l with
 | nil => simp only [gY, List.mem_singleton] at h; subst h; exact .inl rfl
 | cons a r ih =>
  unfold gY at h
  split at h
  ·rcases List.mem_cons.1 h with rfl | h
   ·exact .inr ⟨a, List.mem_cons_self, rfl⟩
   ·exact .inr ⟨g, List.mem_cons_of_mem _ h, rfl⟩
  ·rcases List.mem_cons.1 h with rfl | h
   ·exact .inr ⟨g, List.mem_cons_self, rfl⟩
   ·rcases ih h with e | ⟨g', h1, h2⟩
    ·exact .inl e
    ·exact .inr ⟨g', List.mem_cons_of_mem _ h1, h2⟩
theorem a2W {l : List TGroup} (x : TValue × Int) (h : eU l) : eU (gY l x) := by
 induction l with
 | nil => exact List.pairwise_singleton _ _
 | cons a r ih =>
  unfold eU at h ih ⊢
  rw [List.pairwise_cons] at h
  unfold gY
  split
  ·exact List.pairwise_cons.2 ⟨fun g hg => h.1 g hg, h.2⟩
  ·rename_i hne
   refine List.pairwise_cons.2 ⟨fun g hg => ?_, ih h.2⟩
   rcases addG_mem hg with e | ⟨g', h1, h2⟩
   ·rw [e]; exact hne
   ·rw [← h2]; exact h.1 g' h1
def upd (l : List TGroup) (x : TValue × Int) (g : TGroup) : Prop :=
 (g ∈ l ∧ g.fValue ≠ x.1) ∨ (∃ g' ∈ l, g'.fValue = x.1 ∧ g = ⟨x.1, g'.fIDs ++ [x.2]⟩) ∨ ((∀ g' ∈ l, g'.fValue ≠ x.1) ∧ g = ⟨x.1, [x.2]⟩)
theorem a1U {l : List TGroup} (x : TValue × Int) (h : eU l) (g : TGroup) : g ∈ gY l x ↔ upd l x g := by
 induction l with
 | nil => simp [gY, upd]
 | cons a r ih =>
  unfold eU at h
  rw [List.pairwise_cons] at h
  have ih' := ih h.2
  unfold gY
  split
  ·rename_i e
   unfold upd
   constructor
   ·intro hg
    rcases List.mem_cons.1 hg with rfl | hg
    ·exact .inr (.inl ⟨a, List.mem_cons_self, e, by rw [e]⟩)
    ·exact .inl ⟨List.mem_cons_of_mem _ hg, fun k => h.1 g hg (by rw [e, k])⟩
   ·rintro (⟨h1, h2⟩ | ⟨g', h1, h2, rfl⟩ | ⟨h1, rfl⟩)
    ·rcases List.mem_cons.1 h1 with rfl | h1
     ·exact absurd e h2
     ·exact List.mem_cons_of_mem _ h1
    ·rcases List.mem_cons.1 h1 with rfl | h1
     ·rw [← h2]; exact List.mem_cons_self
     ·exact absurd (by rw [e, h2]) (h.1 g' h1)
    ·exact absurd e (h1 a List.mem_cons_self)
  ·rename_i hne
   rw [List.mem_cons, ih']
   unfold upd
   constructor
   ·rintro (rfl | ⟨h1, h2⟩ | ⟨g', h1, h2, rfl⟩ | ⟨h1, rfl⟩)
    ·exact .inl ⟨List.mem_cons_self, hne⟩
    ·exact .inl ⟨List.mem_cons_of_mem _ h1, h2⟩
    ·exact .inr (.inl ⟨g', List.mem_cons_of_mem _ h1, h2, rfl⟩)
    ·exact .inr (.inr ⟨fun g' hg' => by
      rcases List.mem_cons.1 hg' with rfl | hg'
      ·exact hne
      ·exact h1 g' hg', rfl⟩)
   ·rintro (⟨h1, h2⟩ | ⟨g', h1, h2, rfl⟩ | ⟨h1, rfl⟩)
    ·rcases List.mem_cons.1 h1 with rfl | h1
     ·exact .inl rfl
     ·exact .inr (.inl ⟨h1, h2⟩)
    ·rcases List.mem_cons.1 h1 with rfl | h1
     ·exact absurd h2 hne
     ·exact .inr (.inr (.inl ⟨g', h1, h2, rfl⟩))
    ·exact .inr (.inr (.inr ⟨fun g' hg' => h1 g' (List.mem_cons_of_mem _ hg'), rfl⟩))
theorem a5U {l : List TGroup} (x : TValue × Int) (h : l.Pairwise ltG) (g : TGroup) : g ∈ dF l x ↔ upd l x g := by
 induction l with
 | nil => simp [dF, upd]
 | cons a r ih =>
  have h0 := h
  rw [List.pairwise_cons] at h
  have ih' := ih h.2
  unfold dF
  split
  ·rename_i hc
   have hne : a.fValue ≠ x.1 := fun e => by rw [e] at hc; exact jQ _ ((kJ _ _).1 hc)
   rw [List.mem_cons, ih']
   unfold upd
   constructor
   ·rintro (rfl | ⟨h1, h2⟩ | ⟨g', h1, h2, rfl⟩ | ⟨h1, rfl⟩)
    ·exact .inl ⟨List.mem_cons_self, hne⟩
    ·exact .inl ⟨List.mem_cons_of_mem _ h1, h2⟩
    ·exact .inr (.inl ⟨g', List.mem_cons_of_mem _ h1, h2, rfl⟩)
    ·exact .inr (.inr ⟨fun g' hg' => by
      rcases List.mem_cons.1 hg' with rfl | hg'
      ·exact hne
      ·exact h1 g' hg', rfl⟩)
   ·rintro (⟨h1, h2⟩ | ⟨g', h1, h2, rfl⟩ | ⟨h1, rfl⟩)
    ·rcases List.mem_cons.1 h1 with rfl | h1
     ·exact .inl rfl
     ·exact .inr (.inl ⟨h1, h2⟩)
    ·rcases List.mem_cons.1 h1 with rfl | h1
     ·exact absurd h2 hne
     ·exact .inr (.inr (.inl ⟨g', h1, h2, rfl⟩))
    ·exact .inr (.inr (.inr ⟨fun g' hg' => h1 g' (List.mem_cons_of_mem _ hg'), rfl⟩))
  ·rename_i hc
   split
   ·rename_i e
    have hap : eU (a :: r) := mK h0
    have := a1U x hap g
    unfold gY at this
    rw [if_pos e] at this
    exact this
   ·rename_i hne
    have hx : ltV x.1 a.fValue := vP (fun k => hc ((kJ _ _).2 k)) hne
    have hall : ∀ g' ∈ a :: r, g'.fValue ≠ x.1 := fun g' hg' e => by
     rcases List.mem_cons.1 hg' with rfl | hg'
     ·exact hne e
     ·have h3 : ltV a.fValue g'.fValue := h.1 g' hg'
      rw [e] at h3
      exact jQ _ (lH _ _ _ hx h3)
    unfold upd
    constructor
    ·intro hg
     rcases List.mem_cons.1 hg with rfl | hg
     ·exact .inr (.inr ⟨hall, rfl⟩)
     ·exact .inl ⟨hg, hall g hg⟩
    ·rintro (⟨h1, h2⟩ | ⟨g', h1, h2, rfl⟩ | ⟨h1, rfl⟩)
     ·exact List.mem_cons_of_mem _ h1
     ·exact absurd h2 (hall g' h1)
     ·exact List.mem_cons_self
theorem a4D {l m : List TGroup} (h : ∀ g, g ∈ l ↔ g ∈ m) (x : TValue × Int) (g : TGroup) : upd l x g ↔ upd m x g := by
 unfold upd
 simp only [h]
theorem zH (xs : List (TValue × Int)) : ∀ (l m : List TGroup), eU l → m.Pairwise ltG → (∀ g, g ∈ l ↔ g ∈ m) →
    eU (xs.foldl gY l) ∧ (xs.foldl dF m).Pairwise ltG ∧ ∀ g, g ∈ xs.foldl gY l ↔ g ∈ xs.foldl dF m := by
 induction xs with
 | nil => intro l m h1 h2 h3; exact ⟨h1, h2, h3⟩
 | cons x xs ih =>
  intro l m h1 h2 h3
  exact ih (gY l x) (dF m x) (a2W x h1) (uF x h2) fun g => by rw [a1U x h1, a5U x h2, a4D h3]
theorem xO (xs : List (TValue × Int)) {s : List TGroup} (hp : ∀ g, g ∈ s ↔ g ∈ xs.foldl gY []) (hs : s.Pairwise ltG) : s = xs.foldl dF [] := by
 obtain ⟨_, h2, h3⟩ := zH xs [] [] List.Pairwise.nil List.Pairwise.nil fun g => Iff.rfl
 exact uG a2V a4C hs h2 fun g => by rw [hp, h3]
end Go.Proofs.YtakopfjdmmnjcaaDoor
end
section
set_option maxRecDepth 100000
set_option maxHeartbeats 4000000
namespace Go.Proofs.YtakopfjdmmnjcaaDoor
open Go Go.Sx Go.RowKit Go.Proofs
theorem iX (n : Int) : FnC Tryd.prog 63 [oi n] (ob false) := by
 refine ent Tryd.func63 rfl Tryd.call63 rfl (fun C => ?_); simp only [go_sem, st0, Tryd.ntmps63]
 have q0 := @decide_true; refine nG ?_
 exact aA ⟨⟨_, rfl, by simp only [go_sem, decide_true]⟩, trivial⟩
theorem nZ (n : ByteArray) : FnC Tryd.prog 64 [os n] (ob false) := by
 refine ent Tryd.func64 rfl Tryd.call64 rfl (fun C => ?_); simp only [go_sem, st0, Tryd.ntmps64]
 have q0 := @decide_true; refine nG ?_
 exact aA ⟨⟨_, rfl, by simp only [go_sem, decide_true]⟩, trivial⟩
def cmpI (a b : Int) : Int := c3 (decide (a < b)) (decide (b < a)) 0
def cmpS (a b : ByteArray) : Int := c3 (bS a b) (bS b a) 0
theorem uH (a b : Int) : FnC Tryd.prog 46 [oi a, oi b] (oi (cmpI a b)) := by
 refine ent Tryd.func46 rfl Tryd.call46 rfl (fun C => ?_); simp only [go_sem, st0, Tryd.ntmps46]
 by_cases h1 : a < b
 ·have e : cmpI a b = -1 := by simp [cmpI, c3, h1]
  have q0 := @h1; have q1 := @decide_true; refine a6B (iX a) (iX b) ?_
  exact aA ⟨⟨_, rfl, by simp only [go_sem, e]⟩, trivial⟩
 ·by_cases h2 : b < a
  ·have e : cmpI a b = 1 := by simp [cmpI, c3, h1, h2]
   have q0 := @h1; have q1 := @h2; have q2 := @decide_true; have q3 := @decide_false; refine a4i (iX a) (iX b) ?_
   exact aA ⟨⟨_, rfl, by simp only [go_sem, e]⟩, trivial⟩
  ·have e : cmpI a b = 0 := by simp [cmpI, c3, h1, h2]
   have q0 := @h1; have q1 := @h2; have q2 := @decide_false; refine a6D (iX a) (iX b) ?_
   exact aA ⟨⟨_, rfl, by simp only [go_sem, e]⟩, trivial⟩
theorem a1V {a b : ByteArray} (h : bS a b = false) : bS b a = !decide (a = b) := by
 by_cases e : a = b
 ·subst e; simp [h]
 ·simp only [e, decide_false, Bool.not_false]
  exact (nW _ _).2 (a3M (fun k => by rw [(nW _ _).2 k] at h; cases h) e)
theorem a1W (a b : ByteArray) : FnC Tryd.prog 47 [os a, os b] (oi (cmpS a b)) := by
 refine ent Tryd.func47 rfl Tryd.call47 rfl (fun C => ?_); simp only [go_sem, st0, Tryd.ntmps47]
 cases h1 : bS a b with
 | true =>
  have e : cmpS a b = -1 := by simp [cmpS, c3, h1]
  have q0 := @h1; refine a7O (nZ a) (nZ b) ?_
  exact aA ⟨⟨_, rfl, by simp only [go_sem, e]⟩, trivial⟩
 | false =>
  have e : cmpS a b = if (!decide (a = b)) = true then 1 else 0 := by rw [← a1V h1]; cases h3 : bS b a <;> simp [cmpS, c3, h1, h3]
  have q0 := @h1; refine a7O (nZ a) (nZ b) ?_
  refine cnd rfl (fun h3 => ?_) (fun h3 => ?_)
  ·rw [if_pos h3] at e
   refine aL ?_
   exact aA ⟨⟨_, rfl, by simp only [go_sem, e]⟩, trivial⟩
  ·rw [if_neg (by rw [h3]; simp)] at e
   refine aL ?_
   exact aA ⟨⟨_, rfl, by simp only [go_sem, e]⟩, trivial⟩
def orI : List Int → Int
 | [] => 0
 | x :: xs => if x = 0 then orI xs else x
theorem a8A (l : List Int) (hl : l.length ≤ 1000) : FnC Tryd.prog 45 [.o (.d (.sl (l.map gL)))] (oi (orI l)) := by
 generalize hg : orI l = res
 refine ent Tryd.func45 rfl Tryd.call45 rfl (fun C => ?_); simp only [go_sem, st0, Tryd.ntmps45]
 refine aL ?_
 refine bX (α := Nat) (fun k => [(8, oi k)]) (fun _ => []) (fun k => k ≤ l.length ∧ orI (l.drop k) = res) (fun k => l.length - k) 0 (fun _ => ?_) ?_ ?_ (fun k hk => ?_)
 ·simp only [go_sem]
 ·simp only [go_sem]; simp
 ·simp [hg]
 ·obtain ⟨hk, hq⟩ := hk
  simp only [go_sem]
  refine aL ?_
  refine cnd rfl (fun h => ?_) (fun h => ?_)
  ·simp only [decide_eq_true_eq, Int.ofNat_lt] at h
   rw [List.drop_eq_getElem_cons h, orI] at hq
   by_cases h1 : l[k] = 0
   ·rw [if_pos h1] at hq
    have q0 := @h; have q1 := @h1; have q2 := @decide_true; refine rM ?_
    refine bF (k + 1) ?_ ?_ ?_
    ·simp only [go_sem]; simp
    ·exact ⟨h, hq⟩
    ·omega
   ·rw [if_neg h1] at hq
    have q0 := @h; have q1 := @h1; have q2 := @decide_false; refine rM ?_
    exact aA ⟨⟨_, rfl, by simp only [go_sem, hq]⟩, trivial⟩
  ·simp only [decide_eq_false_iff_not] at h
   have e : k = l.length := by omega
   subst e
   simp only [List.drop_length, orI] at hq
   subst hq
   refine aL ?_
   exact aA ⟨⟨_, rfl, by simp only [go_sem]⟩, trivial⟩
theorem a7f (a b : TValue) : orI [cmpI a.fKind b.fKind, cmpI a.fInt b.fInt, cmpS a.fStr b.fStr] = cmpV a b := by
 simp only [orI, cmpV, cmpI, cmpS, c3]
 by_cases h1 : a.fKind < b.fKind
 ·simp [h1]
 ·by_cases h2 : b.fKind < a.fKind
  ·simp [h1, h2]
  ·by_cases h3 : a.fInt < b.fInt
   ·simp [h1, h2, h3]
   ·by_cases h4 : b.fInt < a.fInt
    ·simp [h1, h2, h3, h4]
    ·simp only [h1, h2, h3, h4, decide_false, Bool.false_eq_true, if_false, if_true]
     by_cases h5 : bS a.fStr b.fStr = true <;> by_cases h6 : bS b.fStr a.fStr = true <;> simp [h5, h6]
theorem xF (a b : TValue) : FnC Tryd.prog 24 [eT a, eT b] (oi (cmpV a b)) := by
 have hO := a8A [cmpI a.fKind b.fKind, cmpI a.fInt b.fInt, cmpS a.fStr b.fStr] (by simp)
 rw [a7f] at hO
 simp only [List.map_cons, List.map_nil, gL] at hO
 have h1 := uH a.fKind b.fKind
 have h2 := uH a.fInt b.fInt
 have h3 := a1W a.fStr b.fStr
 generalize cmpI a.fKind b.fKind = k1 at hO h1
 generalize cmpI a.fInt b.fInt = k2 at hO h2
 generalize cmpS a.fStr b.fStr = k3 at hO h3
 generalize cmpV a b = k4 at hO
 refine ent Tryd.func24 rfl Tryd.call24 rfl (fun C => ?_); simp only [go_sem, st0, Tryd.ntmps24]
 have qH := trivial; repeat' (with_reducible first | refine nY ?_ | (refine mX ?_; try simp only [go_sem]) | refine kD ?_ | (apply rE [4,9,14,15,16] [] [0,1,2,3,5,6,7,8,10,11,12,13] [0,1,2,3,5,6,7,8,10,11,12,13] ((.c 4 [] [5,6,7,8,10,11,12,13] (.c 9 [] [10,11,12,13] (.c 14 [] [] (.c 15 [] [] (.c 16 [17] [17] .n .n) .n) .n) .n) .n)) (by simp only [go_sem]; rfl) (by simp only [go_sem]; rfl) (by simp only [go_sem]; rfl) (by decide +kernel); (focus simp only [go_sem]; done)) | exact bQ | refine bC (uX ?_) ?_ | refine bD (aX ?_) ?_ | refine bE (aX ?_) ?_ | exact dA | exact oH | (refine uA ?_; simp only [go_sem]; (repeat' first | omega | refine And.intro ?_ ?_); done) | refine rD ?_ | refine cP h1 ?_ | refine cP h2 ?_ | refine cP h3 ?_ | refine cP hO ?_ | refine aO ?_ | fail)
 exact aA ⟨⟨_, rfl, by simp only [go_sem]⟩, trivial⟩
theorem xG (a b : TValue) : FnC Tryd.prog 28 [eT a, eT b] (oi (cmpV a b)) := by
 refine ent Tryd.func28 rfl Tryd.call28 rfl (fun C => ?_); simp only [go_sem, st0, Tryd.ntmps28]
 by_cases h1 : a.fKind < b.fKind
 ·have e : cmpV a b = -1 := by simp [cmpV, c3, h1]
  have q0 := @h1; have q1 := @decide_true; refine iK ?_
  exact aA ⟨⟨_, rfl, by simp only [go_sem, e]⟩, trivial⟩
 by_cases h2 : b.fKind < a.fKind
 ·have e : cmpV a b = 1 := by simp [cmpV, c3, h1, h2]
  have q0 := @h1; have q1 := @h2; have q2 := @decide_true; have q3 := @decide_false; refine pY ?_
  exact aA ⟨⟨_, rfl, by simp only [go_sem, e]⟩, trivial⟩
 by_cases h3 : a.fInt < b.fInt
 ·have e : cmpV a b = -1 := by simp [cmpV, c3, h1, h2, h3]
  have q0 := @h1; have q1 := @h2; have q2 := @h3; have q3 := @decide_true; have q4 := @decide_false; refine a4j ?_
  exact aA ⟨⟨_, rfl, by simp only [go_sem, e]⟩, trivial⟩
 by_cases h4 : b.fInt < a.fInt
 ·have e : cmpV a b = 1 := by simp [cmpV, c3, h1, h2, h3, h4]
  have q0 := @h1; have q1 := @h2; have q2 := @h3; have q3 := @h4; have q4 := @decide_true; have q5 := @decide_false; refine a7P ?_
  exact aA ⟨⟨_, rfl, by simp only [go_sem, e]⟩, trivial⟩
 cases h5 : bS a.fStr b.fStr with
 | true =>
  have e : cmpV a b = -1 := by simp [cmpV, c3, h1, h2, h3, h4, h5]
  have q0 := @h1; have q1 := @h2; have q2 := @h3; have q3 := @h4; have q4 := @h5; have q5 := @decide_false; refine a7P ?_
  exact aA ⟨⟨_, rfl, by simp only [go_sem, e]⟩, trivial⟩
 | false =>
  have e : cmpV a b = if (!decide (a.fStr = b.fStr)) = true then 1 else 0 := by rw [← a1V h5]; cases h7 : bS b.fStr a.fStr <;> simp [cmpV, c3, h1, h2, h3, h4, h5, h7]
  have q0 := @h1; have q1 := @h2; have q2 := @h3; have q3 := @h4; have q4 := @h5; have q5 := @decide_false; refine a7P ?_
  refine cnd rfl (fun h7 => ?_) (fun h7 => ?_)
  ·rw [if_pos h7] at e
   refine aL ?_
   exact aA ⟨⟨_, rfl, by simp only [go_sem, e]⟩, trivial⟩
  ·rw [if_neg (by rw [h7]; simp)] at e
   refine aL ?_
   exact aA ⟨⟨_, rfl, by simp only [go_sem, e]⟩, trivial⟩
abbrev aP := TGroup × Value
@[go_sem] def jO (p : aP) : List D := [iv p.1.fValue.fKind, iv p.1.fValue.fInt, sv p.1.fValue.fStr, .v p.2]
@[go_sem] def gO (p : aP) : SV := .g [.d (iv p.1.fValue.fKind), .d (iv p.1.fValue.fInt), .d (sv p.1.fValue.fStr), .d (.v p.2)]
def nM (p : aP) : Value × List (List Value) := (p.2, p.1.fIDs.map fun i => [Value.int .i64 i])
def itO (p : aP) : List Value × Value × List (List Value) := ([.int .i64 p.1.fValue.fKind, .int .i64 p.1.fValue.fInt, .string p.1.fValue.fStr], p.2, p.1.fIDs.map fun i => [Value.int .i64 i])
theorem a3L (p : aP) : kM (itO p) = dJ p.1 := by
 simp only [kM, itO, dJ, List.map_map, List.map_cons, List.map_nil, List.cons_append, List.nil_append]
 congr 4
def bP (s : TStore) (ids : List Int) (name : ByteArray) : List (TValue × Int) := ids.map fun id => (getAttr name (eG id s.fFiles).fAttrs, id)
def jP (v : TValue) (p : aP) : Bool := yX p.1.fValue v
theorem lG (a b : TValue) : yX a b = true ↔ a = b := by
 unfold yX
 simp only [Bool.and_eq_true, decide_eq_true_eq]
 constructor
 ·rintro ⟨h1, h2, h3⟩; exact vO h1 h2 h3
 ·rintro rfl; exact ⟨rfl, rfl, rfl⟩
theorem a1Q (v : TValue) (id : Int) (z' : Value) : ∀ {its : List aP} {k : Nat} (hk : k < its.length), jP v its[k] = true → (∀ j (hj : j < its.length), j < k → jP v its[j] = false) →
    gY (its.map (·.1)) (v, id) = (its.set k (⟨its[k].1.fValue, its[k].1.fIDs ++ [id]⟩, z')).map (·.1)
 | [], k, hk, _, _ => by simp at hk
 | p :: its, 0, hk, h1, _ => by
  have e := (lG _ _).1 h1
  simp only [List.getElem_cons_zero] at e
  simp [gY, e]
 | p :: its, k + 1, hk, h1, h2 => by
  have h0 := h2 0 (by simp) (by omega)
  simp only [List.getElem_cons_zero] at h0
  have hne : p.1.fValue ≠ v := fun e => by rw [jP, (lG _ _).2 e] at h0; cases h0
  simp only [List.map_cons, gY, if_neg hne, List.set_cons_succ, List.getElem_cons_succ]
  have h2' : ∀ j (hj : j < its.length), j < k → jP v its[j] = false := fun j hj hjk => by
   have := h2 (j + 1) (by simp; omega) (by omega)
   rwa [List.getElem_cons_succ] at this
  rw [a1Q v id z' (by simpa using hk) (by rwa [List.getElem_cons_succ] at h1) h2']
theorem a1R (v : TValue) (id : Int) : ∀ {its : List aP}, (∀ p ∈ its, jP v p = false) → gY (its.map (·.1)) (v, id) = its.map (·.1) ++ [⟨v, [id]⟩]
 | [], _ => rfl
 | p :: its, h => by
  have h0 := h p List.mem_cons_self
  have hne : p.1.fValue ≠ v := fun e => by rw [jP, (lG _ _).2 e] at h0; cases h0
  simp only [List.map_cons, gY, if_neg hne, List.cons_append]
  rw [a1R v id fun q hq => h q (List.mem_cons_of_mem _ hq)]
theorem a1S (x : TValue × Int) : ∀ l : List TGroup, bL (fun g => g.fIDs.length) (gY l x) = bL (fun g => g.fIDs.length) l + 1 ∧ (gY l x).length ≤ l.length + 1
 | [] => by simp [gY, bL]
 | g :: l => by
  have ih := a1S x l
  unfold gY
  split
  ·simp [bL]; omega
  ·simp [bL]; omega
theorem a1T (xs : List (TValue × Int)) : ∀ l : List TGroup, bL (fun g => g.fIDs.length) (xs.foldl gY l) = bL (fun g => g.fIDs.length) l + xs.length ∧ (xs.foldl gY l).length ≤ l.length + xs.length := by
 induction xs with
 | nil => intro l; simp
 | cons x xs ih =>
  intro l
  have h1 := a1S x l
  have h2 := ih (gY l x)
  simp only [List.foldl_cons, List.length_cons]
  omega
end Go.Proofs.YtakopfjdmmnjcaaDoor
end
