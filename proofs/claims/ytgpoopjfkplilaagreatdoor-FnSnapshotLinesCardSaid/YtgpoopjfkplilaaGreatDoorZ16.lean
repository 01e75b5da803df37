/- Joined texts. -/
import Derived.Test.YtgpoopjfkplilaaGreatDoorZ15
import Derived.Test.YtgpoopjfkplilaaGreatDoorZ14
set_option linter.all false
section
set_option maxRecDepth 100000
set_option maxHeartbeats 4000000
namespace Go.Proofs.YtgpoopjfkplilaaGreatDoor
open Go Go.Sx Go.RowKit Go.Proofs
theorem a0P : FnC Tryz.prog 175 [] (.o (.w 81 2 (usual.map bY))) := by
 refine ent Tryz.func175 rfl Tryz.call175 rfl (fun C => ?_); simp only [go_sem, st0, Tryz.ntmps175]
 refine aD ?_
 exact aA ⟨⟨_, rfl, by simp only [go_sem, usual, List.map_cons, List.map_nil]⟩, trivial⟩
theorem a6I (s : List TField) (hs : s.length ≤ 1048576) : FnC Tryz.prog 174 [.o (.d (.sl (s.map bY)))] (a7P ⟨s, [], 1⟩) := by
 have hl1 : s.length ≤ 140737488355328 := by omega
 have hl2 : s.length * 24 ≤ 140737488355328 := by omega
 refine ent Tryz.func174 rfl Tryz.call174 rfl (fun C => ?_); simp only [go_sem, st0, Tryz.ntmps174]
 have q0 := @hl1; have q1 := @hl2; refine jM ?_
 exact aA ⟨⟨_, rfl, by simp only [go_sem, List.map_nil]⟩, trivial⟩
structure storeD (k : Nat) (s : TStore) : Prop where
 sch : s.fSchema = usual
 ok : bL s = true
 nx : s.fNextID ≤ 1 + k
 ln : s.fFiles.length ≤ k
 fl : ∀ f ∈ s.fFiles, ∃ id, fileD id f
theorem b2v : okSchema usual = true := by decide +kernel
theorem b2w {id : Int} {f : TFile} (h : fileD id f) (k : Int) (hk : 1 ≤ k ∧ k ≤ 60) : dE usual { f with fID := k } = true := by
 obtain ⟨a, b, n, t, e, h1, h2, h3, h4⟩ := h.at_
 have h0 := b5E h1 h2 h3 h4
 unfold dE
 simp only [e, h0, b2v, Bool.true_and, Bool.and_true, inB, Bool.and_eq_true, decide_eq_true_eq]
 exact ⟨hk, h.ow, h.lk⟩
theorem a8d : storeD 0 ⟨usual, [], 1⟩ := ⟨rfl, by decide +kernel, by simp, by simp, fun f hf => by simp at hf⟩
theorem a2s {k : Nat} {s : TStore} {id : Int} {f : TFile} (h : storeD k s) (hf : fileD id f) (hk : k ≤ 40) (hl : s.fFiles.length < 12) : lU s f = true ∧ storeD (k + 1) (creS s f) ∧ (creS s f).fFiles.length = s.fFiles.length + 1 := by
 have hb := gK.1 h.ok
 have h1 := h.nx
 have hok : lU s f = true := a3R.2 ⟨h.ok, hl, by rw [h.sch]; exact b2w hf s.fNextID (by omega)⟩
 have hs := b5Q hok
 refine ⟨hok, ⟨?_, hs, ?_, ?_, ?_⟩, ?_⟩
 ·unfold creS; rw [if_pos hok]; exact h.sch
 ·unfold creS; rw [if_pos hok]; simp only; omega
 ·unfold creS; rw [if_pos hok]; have := h.ln; simp; omega
 ·unfold creS; rw [if_pos hok]
  intro x hx
  rcases List.mem_append.1 hx with hx | hx
  ·exact h.fl x hx
  ·simp only [List.mem_singleton] at hx
   subst hx
   exact ⟨s.fNextID, rfl, hf.ow, hf.lk, hf.at_⟩
 ·unfold creS; rw [if_pos hok]; simp
theorem zC {α : Type} (w : α → Nat) (c : Nat) : ∀ (l : List α), (∀ x ∈ l, w x ≤ c) → dU w l ≤ l.length * c
 | [], _ => by simp [dU]
 | x :: l, h => by
  have h1 := h x List.mem_cons_self
  have h2 := zC w c l fun y hy => h y (List.mem_cons_of_mem _ hy)
  simp only [dU, List.length_cons, Nat.add_mul]
  omega
theorem zD {k : Nat} {s : TStore} (h : storeD k s) : eD s ≤ 600 := by
 have hl : s.fFiles.length ≤ 12 := (gK.1 h.ok).2.2.1
 have h1 := zC fG 40 s.fFiles fun f hf => by obtain ⟨id, hd⟩ := h.fl f hf; exact (zG hd).1
 have h2 : bB usual = 8 := by decide +kernel
 unfold eD iR
 rw [h.sch, h2]
 omega
theorem a5f : FnC Tryz.prog 174 [.o (.d (.sl (usual.map bY)))] (a2w ⟨usual, [], 1⟩) :=
 (a6I usual (by decide)).re [0] rfl rfl (by simp only [go_sem, and_self]) (by simp only [go_sem]; try simp) trivial
theorem uM (s : TStore) (f : TFile) (hs : eD s ≤ 4300000) (hf : fG f ≤ 4300000) : FnC Tryz.prog 131 [qZ s, a0I f] (.t [(true, (a2w (creS s f)).cells), (false, [.d (iv (b0N s f))]), (false, [.d (bv (lU s f))])]) :=
 (a2S s f hs hf).re [0] rfl rfl (by simp only [go_sem, and_self]) (by simp only [go_sem]; try simp) rfl
theorem b4b {k : Nat} {s : TStore} (h : storeD k s) (h1 : 1 < s.fFiles.length) : a0R s s.fFiles[1].fID = true := by
 unfold a0R
 rw [h.ok, Bool.true_and, decide_eq_true_eq]
 rcases idxP_spec (fun f : TFile => decide (f.fID = s.fFiles[1].fID)) s.fFiles 0 with ⟨_, e⟩ | ⟨k0, e, _⟩
 ·have := e s.fFiles[1] (List.getElem_mem h1)
  simp at this
 ·unfold ixF; rw [e]; omega
theorem a8e {k : Nat} {s : TStore} (id : Int) (h : storeD k s) : storeD k (delS s id) := by
 unfold delS
 split
 ·rename_i hd
  have h1 := b5R hd
  unfold delS at h1
  rw [if_pos hd] at h1
  refine ⟨h.sch, h1, h.nx, ?_, fun f hf => ?_⟩
  ·have h2 := h.ln
   simp only [sH, List.length_append, List.length_take, List.length_drop]
   omega
  ·simp only [sH, List.mem_append] at hf
   rcases hf with hf | hf
   ·exact h.fl f (List.mem_of_mem_take hf)
   ·exact h.fl f (List.mem_of_mem_drop hf)
 ·exact h
theorem a3L {k m : Nat} {s : TStore} (h : storeD k s) (hk : k ≤ m) : storeD m s := ⟨h.sch, h.ok, by have := h.nx; omega, by have := h.ln; omega, h.fl⟩
theorem oQ {l : List Int} (hl : iM l) : Drw l 125 [] (fun s : TStore => storeD 7 s) (fun s => a2w s) := by
 have hu := a5f
 have h0 : FnC Tryz.prog 175 [] (.o (.d (.sl (usual.map bY)))) := a0P.pu (by simp only [go_sem, and_self])
 intro i h hi hh; refine oD Tryz.func125 rfl Tryz.call125 rfl (fun C b => ?_); simp only [go_sem, Tryz.ntmps125]
 refine b8l h0 hu ?_
 refine dB (α := Nat × TStore × Nat × Int) (fun x => [(4, oi x.1), (6, .o .u)]) (fun x => [(0, .pin b 120 [.sl (l.map uN), iv x.2.2.1, iv x.2.2.2]), (3, .box 28 [.d (.sl (x.2.1.fSchema.map bY)), .s 2, .d (iv x.2.1.fNextID)]), (2, .row 86 5 (x.2.1.fFiles.map dX) false)]) (fun x => (x.1 ≤ 7 ∧ storeD x.1 x.2.1) ∧ (x.2.2.1 ≤ l.length ∧ inR .i64 x.2.2.2)) (fun x => 8 - x.1) (0, ⟨usual, [], 1⟩, i, h) (fun _ => ?_) ?_ ?_ (fun x hx => ?_)
 ·simp only [go_sem]
 ·simp only [go_sem]; simp
 ·exact ⟨⟨Nat.zero_le _, a8d⟩, hi, hh⟩
 ·clear hi hh
  obtain ⟨k, s, i, h⟩ := x
  obtain ⟨⟨k7, hs⟩, hi, hh⟩ := hx
  simp only at k7 hs hi hh
  have hlen := hs.ln
  have hw := zD hs
  simp only [go_sem]
  refine aD ?_
  first | (refine aU (aH hl 7 (by decide) (by decide) i h hi hh) ⟨rfl, rfl⟩ ?_ rfl ?_; (focus first | rfl | (simp only [go_sem]; done))) | (refine hZ (aH hl 7 (by decide) (by decide) i h hi hh) ⟨rfl, rfl⟩ ?_ rfl ?_; (focus first | rfl | (simp only [go_sem]; done)))
  clear hi hh; rintro ⟨x, i, h⟩ ⟨hx, hi, hh⟩; simp only at hx hi hh; simp only [go_sem]
  refine aD ?_
  refine cnd rfl (fun hlt => ?_) (fun hlt => ?_)
  ·simp only [decide_eq_true_eq] at hlt
   have qH := trivial; repeat' (with_reducible first | refine nY ?_ | (refine mX ?_; try simp only [go_sem]) | refine kD ?_ | (apply rF [2,3,8] [] [0,1] [0,1] ((.c 2 [] [0] (.c 3 [4,5,6,7] [4,5,6,7] (.c 8 [] [6,7] .n .n) .n) .n)) (by simp only [go_sem]; rfl) (by simp only [go_sem]; rfl) (by simp only [go_sem]; rfl) (by decide +kernel); (focus simp only [go_sem]; done)) | exact bA | refine aM (uX ?_) ?_ | refine aN (aX ?_) ?_ | refine aP (aX ?_) ?_ | exact bD | exact oH | (refine uA ?_; simp only [go_sem]; (repeat' first | omega | refine And.intro ?_ ?_); done) | refine rD ?_ | refine aO ?_ | fail)
   first | (refine aU (lH hl 1 i h hi hh) ⟨rfl, rfl⟩ ?_ rfl ?_; (focus first | rfl | (simp only [go_sem]; done))) | (refine hZ (lH hl 1 i h hi hh) ⟨rfl, rfl⟩ ?_ rfl ?_; (focus first | rfl | (simp only [go_sem]; done)))
   clear hi hh; rintro ⟨f, i, h⟩ ⟨hf, hi, hh⟩; simp only at hf hi hh; simp only [go_sem]
   have hfw := (zG hf).1
   obtain ⟨hc1, hc2, hc3⟩ := a2s hs hf (by omega) (by omega)
   have hcr := uM s f (by omega) (by omega)
   rw [hc1] at hcr
   generalize creS s f = s2 at *
   have qH := trivial; repeat' (with_reducible first | refine nY ?_ | (refine mX ?_; try simp only [go_sem]) | refine kD ?_ | exact bA | refine aM (uX ?_) ?_ | refine aN (aX ?_) ?_ | refine aP (aX ?_) ?_ | (refine uA ?_; simp only [go_sem]; (repeat' first | omega | refine And.intro ?_ ?_); done) | refine rD ?_ | refine cP hcr ?_ | refine aO ?_ | fail)
   refine a4s [(2, 5)] (k + 1, s2, i, h) (by simp only [go_sem]; rfl) ?_ ?_ ?_
   ·simp only [go_sem]; simp
   ·exact ⟨⟨by simp only; omega, hc2⟩, hi, hh⟩
   ·simp only; omega
  ·clear hlt
   have hs7 := a3L hs k7
   by_cases g2 : 2 < s.fFiles.length
   ·have g2i : ((2 : Int) < (s.fFiles.length : Int)) = True := by simp; omega
    have q0 := @g2i; have q1 := @decide_true; refine jM ?_
    first | (refine aU (fK hl 3 (by decide) (by decide) i h hi hh) ⟨rfl, rfl⟩ ?_ rfl ?_; (focus first | rfl | (simp only [go_sem]; done))) | (refine hZ (fK hl 3 (by decide) (by decide) i h hi hh) ⟨rfl, rfl⟩ ?_ rfl ?_; (focus first | rfl | (simp only [go_sem]; done)))
    clear hi hh; rintro ⟨c1, i, h⟩ ⟨q1, hi, hh⟩; simp only at q1 hi hh; simp only [go_sem]
    cases c1
    ·refine aD ?_
     exact aJ (s, i, h) ⟨⟨_, rfl, by simp only [go_sem]⟩, trivial⟩ ⟨hs7, ⟨hi, hh⟩⟩ (by simp only [go_sem])
    ·have g1 : 1 < s.fFiles.length := by omega
     have hdl := a2x s s.fFiles[1].fID (by omega) (b4b hs g1)
     have hsd := a8e s.fFiles[1].fID hs7
     generalize delS s s.fFiles[1].fID = s2 at *
     have qH := @g1; repeat' (with_reducible first | refine nY ?_ | (refine mX ?_; try simp only [go_sem, qH]) | refine kD ?_ | (apply rE [6,10] [] [0,1,2,3,4,5] [0,1,2,3,4,5] ((.c 6 [7,8,9] [7,8,9] (.c 10 [] [9] .n .n) .n)) (by simp only [go_sem]; rfl) (by simp only [go_sem]; rfl) (by simp only [go_sem]; rfl) (by decide +kernel); (focus simp only [go_sem]; done)) | exact bA | refine aM (uX ?_) ?_ | refine aN (aX ?_) ?_ | refine aP (aX ?_) ?_ | exact bD | exact oH | exact uB | refine rD ?_ | refine cP hdl ?_ | refine aO ?_ | fail)
     exact aJ (s2, i, h) ⟨⟨_, rfl, by simp only [go_sem]⟩, trivial⟩ ⟨hsd, ⟨hi, hh⟩⟩ (by simp only [go_sem])
   ·have g2i : ((2 : Int) < (s.fFiles.length : Int)) = False := by simp; omega
    have q0 := @g2i; have q1 := @decide_false; refine jM ?_
    exact aJ (s, i, h) ⟨⟨_, rfl, by simp only [go_sem]⟩, trivial⟩ ⟨hs7, ⟨hi, hh⟩⟩ (by simp only [go_sem])
@[go_sem] def vi5 : List Int := [-1, 0, 999, 1000, 9223372036854775807]
@[go_sem] def vs5 : List ByteArray := [⟨#[]⟩, ⟨#[65]⟩, ⟨#[97, 98, 99, 100, 101, 102, 103]⟩, ⟨#[97, 98, 99, 100, 101, 102]⟩, ⟨#[97, 32, 98]⟩]
theorem vP {l : List Int} (hl : iM l) : Drw l 179 [] (fun v : TValue => valD v) (fun v => lC v) := by
 intro i h hi hh; refine oD Tryz.func179 rfl Tryz.call179 rfl (fun C b => ?_); simp only [go_sem, Tryz.ntmps179]
 refine aD ?_
 first | (refine aU (a0Q hl i h hi hh) ⟨rfl, rfl⟩ ?_ rfl ?_; (focus first | rfl | (simp only [go_sem]; done))) | (refine hZ (a0Q hl i h hi hh) ⟨rfl, rfl⟩ ?_ rfl ?_; (focus first | rfl | (simp only [go_sem]; done)))
 clear hi hh; rintro ⟨v, i, h⟩ ⟨hv, hi, hh⟩; simp only at hv hi hh; simp only [go_sem]
 refine aD ?_
 first | (refine aU (aH hl 10 (by decide) (by decide) i h hi hh) ⟨rfl, rfl⟩ ?_ rfl ?_; (focus first | rfl | (simp only [go_sem]; done))) | (refine hZ (aH hl 10 (by decide) (by decide) i h hi hh) ⟨rfl, rfl⟩ ?_ rfl ?_; (focus first | rfl | (simp only [go_sem]; done)))
 clear hi hh; rintro ⟨k, i, h⟩ ⟨hk, hi, hh⟩; simp only at hk hi hh; simp only [go_sem]
 have h3 : k = 0 ∨ k = 1 ∨ k = 2 ∨ (¬ k = 0 ∧ ¬ k = 1 ∧ ¬ k = 2) := by omega
 rcases h3 with rfl | rfl | rfl | ⟨k0, k1, k2⟩
 ·refine aD ?_
  first | (refine aU (aH hl 5 (by decide) (by decide) i h hi hh) ⟨rfl, rfl⟩ ?_ rfl ?_; (focus first | rfl | (simp only [go_sem]; done))) | (refine hZ (aH hl 5 (by decide) (by decide) i h hi hh) ⟨rfl, rfl⟩ ?_ rfl ?_; (focus first | rfl | (simp only [go_sem]; done)))
  clear hi hh; rintro ⟨x, i, h⟩ ⟨hx, hi, hh⟩; simp only at hx hi hh; simp only [go_sem]
  refine aD ?_
  exact aJ (⟨x - 1, v.fInt, v.fStr⟩, i, h) ⟨⟨_, rfl, by simp only [go_sem]⟩, trivial⟩ ⟨(show valD ⟨x - 1, v.fInt, v.fStr⟩ from ⟨hv.w, by simp only [inR]; omega, hv.n⟩), ⟨hi, hh⟩⟩ (by simp only [go_sem])
 ·refine aD ?_
  first | (refine aU (fJ hl vi5 (by decide) (by decide) i h hi hh) ⟨rfl, rfl⟩ ?_ rfl ?_; (focus first | rfl | (simp only [go_sem]; done))) | (refine hZ (fJ hl vi5 (by decide) (by decide) i h hi hh) ⟨rfl, rfl⟩ ?_ rfl ?_; (focus first | rfl | (simp only [go_sem]; done)))
  clear hi hh; rintro ⟨x, i, h⟩ ⟨hx, hi, hh⟩; simp only at hx hi hh; simp only [go_sem]
  have hx2 := (by decide : ∀ n ∈ vi5, -1 ≤ n ∧ n ≤ 9223372036854775807) x hx
  refine aD ?_
  exact aJ (⟨v.fKind, x, v.fStr⟩, i, h) ⟨⟨_, rfl, by simp only [go_sem]⟩, trivial⟩ ⟨(show valD ⟨v.fKind, x, v.fStr⟩ from ⟨hv.w, hv.k, by simp only [inR]; omega⟩), ⟨hi, hh⟩⟩ (by simp only [go_sem])
 ·refine aD ?_
  first | (refine aU (cK hl vs5 (by decide) (by decide) i h hi hh) ⟨rfl, rfl⟩ ?_ rfl ?_; (focus first | rfl | (simp only [go_sem]; done))) | (refine hZ (cK hl vs5 (by decide) (by decide) i h hi hh) ⟨rfl, rfl⟩ ?_ rfl ?_; (focus first | rfl | (simp only [go_sem]; done)))
  clear hi hh; rintro ⟨x, i, h⟩ ⟨hx, hi, hh⟩; simp only at hx hi hh; simp only [go_sem]
  have hx2 := (by decide +kernel : ∀ n ∈ vs5, n.size ≤ 7) x hx
  refine aD ?_
  exact aJ (⟨v.fKind, v.fInt, x⟩, i, h) ⟨⟨_, rfl, by simp only [go_sem]⟩, trivial⟩ ⟨(show valD ⟨v.fKind, v.fInt, x⟩ from ⟨hx2, hv.k, hv.n⟩), ⟨hi, hh⟩⟩ (by simp only [go_sem])
 ·have q0 := @k0; have q1 := @k1; have q2 := @k2; have q3 := @decide_false; refine jQ ?_
  exact aJ (v, i, h) ⟨⟨_, rfl, by simp only [go_sem]⟩, trivial⟩ ⟨hv, ⟨hi, hh⟩⟩ (by simp only [go_sem])
structure fileA (f : TFile) : Prop where
 w : fG f ≤ 80
 wf : a0j f
theorem b2H {id : Int} {f : TFile} (h : fileD id f) (hi : inR .i64 id) : fileA f := by
 obtain ⟨h1, h2, _⟩ := zG h
 have h3 := h.ow
 have h4 := h.lk
 exact ⟨by omega, by rw [h.id]; exact hi, by simp only [inR]; omega, trivial, by simp only [inR]; omega, h2⟩
@[go_sem] def fi4 : List Int := [0, 60, 61, -1]
@[go_sem] def fo3 : List Int := [-1, 2, 3]
@[go_sem] def fl4 : List Int := [-1, 60, 61, 9223372036854775807]
theorem b5S {f : TFile} (h : vE f.fAttrs) (hl : f.fAttrs.length ≤ 100) {s : ByteArray} {v : TValue} (hs : w1 s) (hv : valD v) : vE (f.fAttrs ++ [⟨s, v⟩]) := by
 unfold w1 at hs
 have := hv.w
 refine ⟨by simp; omega, fun y hy => ?_⟩
 rcases List.mem_append.1 hy with hy | hy
 ·exact h.2 y hy
 ·simp only [List.mem_singleton] at hy
  subst hy
  exact ⟨by simp only; omega, hv.k, hv.n, by simp only; omega⟩
theorem b5T {f : TFile} {s : ByteArray} {v : TValue} (hs : w1 s) (hv : valD v) (hw : fG f ≤ 40) : fG { f with fAttrs := f.fAttrs ++ [⟨s, v⟩] } ≤ 80 := by
 unfold w1 at hs
 have := hv.w
 unfold fG eB at hw ⊢
 rw [uO]
 simp only [List.length_append, List.length_cons, List.length_nil, dU, iX, lD]
 omega
theorem a3S {l : List Int} (hl : iM l) : Drw l 129 [] (fun f : TFile => fileA f) (fun f => a8P f) := by
 intro i h hi hh; refine oD Tryz.func129 rfl Tryz.call129 rfl (fun C b => ?_); simp only [go_sem, Tryz.ntmps129]
 refine aD ?_
 first | (refine aU (aH hl 7 (by decide) (by decide) i h hi hh) ⟨rfl, rfl⟩ ?_ rfl ?_; (focus first | rfl | (simp only [go_sem]; done))) | (refine hZ (aH hl 7 (by decide) (by decide) i h hi hh) ⟨rfl, rfl⟩ ?_ rfl ?_; (focus first | rfl | (simp only [go_sem]; done)))
 clear hi hh; rintro ⟨fid, i, h⟩ ⟨hfid, hi, hh⟩; simp only at hfid hi hh; simp only [go_sem]
 refine aD ?_
 first | (refine aU (lH hl ((1 : Int) + fid) i h hi hh) ⟨rfl, rfl⟩ ?_ rfl ?_; (focus first | rfl | (simp only [go_sem]; done))) | (refine hZ (lH hl ((1 : Int) + fid) i h hi hh) ⟨rfl, rfl⟩ ?_ rfl ?_; (focus first | rfl | (simp only [go_sem]; done)))
 clear hi hh; rintro ⟨f, i, h⟩ ⟨hf, hi, hh⟩; simp only at hf hi hh; simp only [go_sem]
 have hfA := b2H hf (by simp only [inR]; omega)
 obtain ⟨hw, hwf, _⟩ := zG hf
 have hlen : f.fAttrs.length ≤ 40 := by unfold fG eB at hw; omega
 have how := hf.ow
 have hlk := hf.lk
 clear hf
 refine aD ?_
 first | (refine aU (aH hl 14 (by decide) (by decide) i h hi hh) ⟨rfl, rfl⟩ ?_ rfl ?_; (focus first | rfl | (simp only [go_sem]; done))) | (refine hZ (aH hl 14 (by decide) (by decide) i h hi hh) ⟨rfl, rfl⟩ ?_ rfl ?_; (focus first | rfl | (simp only [go_sem]; done)))
 clear hi hh; rintro ⟨k, i, h⟩ ⟨hk, hi, hh⟩; simp only at hk hi hh; simp only [go_sem]
 have h5 : k = 0 ∨ k = 1 ∨ k = 2 ∨ k = 3 ∨ k = 4 ∨ (¬ k = 0 ∧ ¬ k = 1 ∧ ¬ k = 2 ∧ ¬ k = 3 ∧ ¬ k = 4) := by omega
 have q1 := hfA.wf.1
 have q2 := hfA.wf.2.1
 have q4 := hfA.wf.2.2.2.1
 rcases h5 with rfl | rfl | rfl | rfl | rfl | ⟨k0, k1, k2, k3, k4⟩
 ·refine aD ?_
  first | (refine aU (fJ hl fi4 (by decide) (by decide) i h hi hh) ⟨rfl, rfl⟩ ?_ rfl ?_; (focus first | rfl | (simp only [go_sem]; done))) | (refine hZ (fJ hl fi4 (by decide) (by decide) i h hi hh) ⟨rfl, rfl⟩ ?_ rfl ?_; (focus first | rfl | (simp only [go_sem]; done)))
  clear hi hh; rintro ⟨x, i, h⟩ ⟨hx, hi, hh⟩; simp only at hx hi hh; simp only [go_sem]
  have hx2 := (by decide : ∀ n ∈ fi4, -1 ≤ n ∧ n ≤ 61) x hx
  refine aD ?_
  exact aJ (⟨x, f.fOwner, f.fShared, f.fLink, f.fAttrs⟩, i, h) ⟨⟨_, rfl, by simp only [go_sem]⟩, trivial⟩ ⟨(show fileA ⟨x, f.fOwner, f.fShared, f.fLink, f.fAttrs⟩ from ⟨hfA.w, by simp only [inR]; omega, q2, trivial, q4, hwf⟩), ⟨hi, hh⟩⟩ (by simp only [go_sem])
 ·refine aD ?_
  first | (refine aU (fJ hl fo3 (by decide) (by decide) i h hi hh) ⟨rfl, rfl⟩ ?_ rfl ?_; (focus first | rfl | (simp only [go_sem]; done))) | (refine hZ (fJ hl fo3 (by decide) (by decide) i h hi hh) ⟨rfl, rfl⟩ ?_ rfl ?_; (focus first | rfl | (simp only [go_sem]; done)))
  clear hi hh; rintro ⟨x, i, h⟩ ⟨hx, hi, hh⟩; simp only at hx hi hh; simp only [go_sem]
  have hx2 := (by decide : ∀ n ∈ fo3, -1 ≤ n ∧ n ≤ 3) x hx
  refine aD ?_
  exact aJ (⟨f.fID, x, f.fShared, f.fLink, f.fAttrs⟩, i, h) ⟨⟨_, rfl, by simp only [go_sem]⟩, trivial⟩ ⟨(show fileA ⟨f.fID, x, f.fShared, f.fLink, f.fAttrs⟩ from ⟨hfA.w, q1, by simp only [inR]; omega, trivial, q4, hwf⟩), ⟨hi, hh⟩⟩ (by simp only [go_sem])
 ·refine aD ?_
  first | (refine aU (fJ hl fl4 (by decide) (by decide) i h hi hh) ⟨rfl, rfl⟩ ?_ rfl ?_; (focus first | rfl | (simp only [go_sem]; done))) | (refine hZ (fJ hl fl4 (by decide) (by decide) i h hi hh) ⟨rfl, rfl⟩ ?_ rfl ?_; (focus first | rfl | (simp only [go_sem]; done)))
  clear hi hh; rintro ⟨x, i, h⟩ ⟨hx, hi, hh⟩; simp only at hx hi hh; simp only [go_sem]
  have hx2 := (by decide : ∀ n ∈ fl4, -1 ≤ n ∧ n ≤ 9223372036854775807) x hx
  refine aD ?_
  exact aJ (⟨f.fID, f.fOwner, f.fShared, x, f.fAttrs⟩, i, h) ⟨⟨_, rfl, by simp only [go_sem]⟩, trivial⟩ ⟨(show fileA ⟨f.fID, f.fOwner, f.fShared, x, f.fAttrs⟩ from ⟨hfA.w, q1, q2, trivial, by simp only [inR]; omega, hwf⟩), ⟨hi, hh⟩⟩ (by simp only [go_sem])
 ·have hl1 : f.fAttrs.length + 1 ≤ 140737488355328 := by omega
  have hl2 : (f.fAttrs.length + 1) * 48 ≤ 140737488355328 := by omega
  have qH := aI @hl1 @hl2; repeat' (with_reducible first | refine nY ?_ | (refine mX ?_; try simp only [go_sem, qH]) | refine kD ?_ | (apply rF [3,5,7,8,10] [] [0,1,2,4] [0,1,2,4] ((.c 3 [] [0,1,4] (.c 5 [6] [0,1,6] (.c 7 [] [0,1] (.c 8 [9] [9] (.c 10 [] [] .n .n) .n) .n) .n) .n)) (by simp only [go_sem]; rfl) (by simp only [go_sem]; rfl) (by simp only [go_sem]; rfl) (by decide +kernel); (focus simp only [go_sem]; done)) | exact bA | refine aM (uX ?_) ?_ | refine aN (aX ?_) ?_ | refine aP (aX ?_) ?_ | exact bD | exact oH | exact uB | refine rD ?_ | refine aO ?_ | fail)
  first | (refine aU (rP hl i h hi hh) ⟨rfl, rfl⟩ ?_ rfl ?_; (focus first | rfl | (simp only [go_sem]; done))) | (refine hZ (rP hl i h hi hh) ⟨rfl, rfl⟩ ?_ rfl ?_; (focus first | rfl | (simp only [go_sem]; done)))
  clear hi hh; rintro ⟨nm, i, h⟩ ⟨hnm, hi, hh⟩; simp only at hnm hi hh; simp only [go_sem]
  have qH := aI @hl1 @hl2; repeat' (with_reducible first | refine nY ?_ | (refine mX ?_; try simp only [go_sem, qH]) | refine kD ?_ | exact bA | refine aM (uX ?_) ?_ | refine aN (aX ?_) ?_ | refine aP (aX ?_) ?_ | exact uB | refine rD ?_ | refine aO ?_ | fail)
  first | (refine aU (vP hl i h hi hh) ⟨rfl, rfl⟩ ?_ rfl ?_; (focus first | rfl | (simp only [go_sem]; done))) | (refine hZ (vP hl i h hi hh) ⟨rfl, rfl⟩ ?_ rfl ?_; (focus first | rfl | (simp only [go_sem]; done)))
  clear hi hh; rintro ⟨v, i, h⟩ ⟨hv, hi, hh⟩; simp only at hv hi hh; simp only [go_sem]
  have qH := aI @hl1 @hl2; repeat' (with_reducible first | refine nY ?_ | (refine mX ?_; try simp only [go_sem, qH]) | refine kD ?_ | exact bA | refine aM (uX ?_) ?_ | refine aN (aX ?_) ?_ | refine aP (aX ?_) ?_ | exact uB | refine rD ?_ | refine aO ?_ | fail)
  exact aJ ({ f with fAttrs := f.fAttrs ++ [⟨nm, v⟩] }, i, h) ⟨⟨_, rfl, by simp only [go_sem, List.map_append]⟩, trivial⟩ ⟨⟨b5T hnm hv hw, q1, q2, trivial, q4, b5S hwf (by omega) hnm hv⟩, ⟨hi, hh⟩⟩ (by simp only [go_sem])
 ·have hc := bZ f ⟨#[97]⟩ ⟨2, 0, ⟨#[114, 101, 100]⟩⟩ (by omega)
  have hws := b5L ⟨#[97]⟩ ⟨2, 0, ⟨#[114, 101, 100]⟩⟩ f.fAttrs
  have e8 : iX ⟨⟨#[97]⟩, ⟨2, 0, ⟨#[114, 101, 100]⟩⟩⟩ = 4 := by decide +kernel
  have hwf2 : vE (sU ⟨#[97]⟩ ⟨2, 0, ⟨#[114, 101, 100]⟩⟩ f.fAttrs) := by
   have hsl := b2E ⟨#[97]⟩ ⟨2, 0, ⟨#[114, 101, 100]⟩⟩ f.fAttrs
   refine ⟨by omega, fun y hy => ?_⟩
   unfold sU jZ at hy
   rw [if_neg (by decide)] at hy
   have hdel : ∀ z ∈ mH ⟨#[97]⟩ f.fAttrs, a7O z := fun z hz => hwf.2 z ((List.mem_filter.1 hz).1)
   rcases List.mem_append.1 hy with hy | hy
   ·exact hdel y (List.mem_of_mem_take hy)
   ·rcases List.mem_cons.1 hy with rfl | hy
    ·exact ⟨by decide, in2, in0, by decide⟩
    ·exact hdel y (List.mem_of_mem_drop hy)
  have qH := trivial; repeat' (with_reducible first | refine nY ?_ | (refine mX ?_; try simp only [go_sem]) | refine kD ?_ | (apply rF [1,2,3] [] [0] [0] ((.c 1 [] [0] (.c 2 [] [] (.c 3 [] [] .n .n) .n) .n)) (by simp only [go_sem]; rfl) (by simp only [go_sem]; rfl) (by simp only [go_sem]; rfl) (by decide +kernel); (focus simp only [go_sem]; done)) | exact bA | refine aM (uX ?_) ?_ | refine aN (aX ?_) ?_ | refine aP (aX ?_) ?_ | exact bD | exact oH | (refine uA ?_; simp only [go_sem]; (repeat' first | omega | refine And.intro ?_ ?_); done) | refine rD ?_ | refine cP (qE ⟨#[114, 101, 100]⟩) ?_ | refine hR hc ?_ | refine vR hc ?_ | refine vD hc ?_ | refine aO ?_ | fail)
  exact aJ (rQ f ⟨#[97]⟩ ⟨2, 0, ⟨#[114, 101, 100]⟩⟩, i, h) ⟨⟨_, rfl, by simp only [go_sem]⟩, trivial⟩ ⟨(show fileA (rQ f ⟨#[97]⟩ ⟨2, 0, ⟨#[114, 101, 100]⟩⟩) from ⟨by have h40 : eB f.fAttrs ≤ 40 := hw; unfold fG rQ; simp only; omega, q1, q2, trivial, q4, hwf2⟩), ⟨hi, hh⟩⟩ (by simp only [go_sem])
 ·have q0 := @k0; have q1 := @k1; have q2 := @k2; have q3 := @k3; have q4 := @k4; have q5 := @decide_false; refine b1Q ?_
  exact aJ (f, i, h) ⟨⟨_, rfl, by simp only [go_sem]⟩, trivial⟩ ⟨hfA, ⟨hi, hh⟩⟩ (by simp only [go_sem])
structure idsD (k : Nat) (x : List Int) : Prop where
 up : x.Pairwise (· < ·)
 lo : ∀ y ∈ x, 1 ≤ y ∧ y < k
 len : x.length < k
structure schA (s : List TField) : Prop where
 hi : s.length ≤ 8
 nm : ∀ f ∈ s, f.fName.size ≤ 40
theorem a8c : schA usual := ⟨by decide, by decide +kernel⟩
theorem a6G {s : List TField} (h : schA s) (k : Nat) {f : TField} (hf : f.fName.size ≤ 40) : schA (s.set k f) := ⟨by simpa using h.hi, fun x hx => by
 rcases List.mem_or_eq_of_mem_set hx with hx | rfl
 ·exact h.nm x hx
 ·exact hf⟩
theorem a6H {s t : List TField} (h : schA s) (ht : ∀ f ∈ t, f.fName.size ≤ 40) (hl : s.length + t.length ≤ 8) : schA (s ++ t) := ⟨by simpa using hl, fun x hx => by
 rcases List.mem_append.1 hx with hx | hx
 ·exact h.nm x hx
 ·exact ht x hx⟩
theorem b5C {s : List TField} (h : schA s) : bB s ≤ 400 := by
 have h1 := zC lW 40 s fun f hf => by have := h.nm f hf; unfold lW; omega
 have h2 := h.hi
 unfold bB
 omega
@[go_sem] def nm3 : List ByteArray := [⟨#[117]⟩, ⟨#[122]⟩, ⟨#[97]⟩]
theorem a3J {l : List Int} (hl : iM l) : Drw l 130 [] (fun s : List TField => schA s) (fun s => .o (.d (.sl (s.map bY)))) := by
 have hu4 : usual.length = 4 := rfl
 have hus := a8c
 have huk := a0P
 generalize usual = U at *
 have hl1 : U.length + 1 ≤ 140737488355328 := by omega
 have hl2 : (U.length + 1) * 24 ≤ 140737488355328 := by omega
 have hl3 : U.length + 2 ≤ 140737488355328 := by omega
 have hl4 : (U.length + 2) * 24 ≤ 140737488355328 := by omega
 intro i h hi hh; refine oD Tryz.func130 rfl Tryz.call130 rfl (fun C b => ?_); simp only [go_sem, Tryz.ntmps130]
 have qH := trivial; repeat' (with_reducible first | refine nY ?_ | (refine mX ?_; try simp only [go_sem]) | refine kD ?_ | refine rD ?_ | refine vR huk ?_ | refine vD huk ?_ | refine aO ?_ | fail)
 first | (refine aU (aH hl 8 (by decide) (by decide) i h hi hh) ⟨rfl, rfl⟩ ?_ rfl ?_; (focus first | rfl | (simp only [go_sem]; done))) | (refine hZ (aH hl 8 (by decide) (by decide) i h hi hh) ⟨rfl, rfl⟩ ?_ rfl ?_; (focus first | rfl | (simp only [go_sem]; done)))
 clear hi hh; rintro ⟨c, i, h⟩ ⟨hc, hi, hh⟩; simp only at hc hi hh; simp only [go_sem]
 have h6 : c = 0 ∨ c = 1 ∨ c = 2 ∨ c = 3 ∨ c = 4 ∨ (¬ c = 0 ∧ ¬ c = 1 ∧ ¬ c = 2 ∧ ¬ c = 3 ∧ ¬ c = 4) := by omega
 rcases h6 with rfl | rfl | rfl | rfl | rfl | ⟨k0, k1, k2, k3, k4⟩
 ·refine aD ?_
  first | (refine aU (aH hl 4 (by decide) (by decide) i h hi hh) ⟨rfl, rfl⟩ ?_ rfl ?_; (focus first | rfl | (simp only [go_sem]; done))) | (refine hZ (aH hl 4 (by decide) (by decide) i h hi hh) ⟨rfl, rfl⟩ ?_ rfl ?_; (focus first | rfl | (simp only [go_sem]; done)))
  clear hi hh; rintro ⟨x, i, h⟩ ⟨hx, hi, hh⟩; simp only at hx hi hh; simp only [go_sem]
  obtain ⟨k, rfl⟩ := Int.eq_ofNat_of_zero_le hx.1
  have hk : k ≤ U.length := by omega
  have q0 := @hk; refine iW ?_
  exact aJ (U.take k, i, h) ⟨⟨_, rfl, by simp only [go_sem, List.map_take]⟩, trivial⟩ ⟨(show schA _ from ⟨by simp; omega, fun f hf => hus.nm f (List.mem_of_mem_take hf)⟩), ⟨hi, hh⟩⟩ (by simp only [go_sem])
 ·refine aD ?_
  first | (refine aU (aH hl 4 (by decide) (by decide) i h hi hh) ⟨rfl, rfl⟩ ?_ rfl ?_; (focus first | rfl | (simp only [go_sem]; done))) | (refine hZ (aH hl 4 (by decide) (by decide) i h hi hh) ⟨rfl, rfl⟩ ?_ rfl ?_; (focus first | rfl | (simp only [go_sem]; done)))
  clear hi hh; rintro ⟨x, i, h⟩ ⟨hx, hi, hh⟩; simp only at hx hi hh; simp only [go_sem]
  obtain ⟨k, rfl⟩ := Int.eq_ofNat_of_zero_le hx.1
  have hk : k < U.length := by omega
  refine aD ?_
  first | (refine aU (aH hl 5 (by decide) (by decide) i h hi hh) ⟨rfl, rfl⟩ ?_ rfl ?_; (focus first | rfl | (simp only [go_sem]; done))) | (refine hZ (aH hl 5 (by decide) (by decide) i h hi hh) ⟨rfl, rfl⟩ ?_ rfl ?_; (focus first | rfl | (simp only [go_sem]; done)))
  clear hi hh; rintro ⟨y, i, h⟩ ⟨hy, hi, hh⟩; simp only at hy hi hh; simp only [go_sem]
  have q0 := @hk; refine iW ?_
  refine dW (Sees.frz 1 rfl) ?_
  simp only [go_sem]
  exact aJ (U.set k ⟨U[k].fName, y - 1⟩, i, h) ⟨⟨_, rfl, by simp only [go_sem, List.map_set, List.map_append, List.map_cons, List.map_nil]; try rfl⟩, trivial⟩ ⟨(show schA _ from a6G hus k (hus.nm U[k] (List.getElem_mem hk))), ⟨hi, hh⟩⟩ (by simp only [go_sem])
 ·refine aD ?_
  first | (refine aU (aH hl 4 (by decide) (by decide) i h hi hh) ⟨rfl, rfl⟩ ?_ rfl ?_; (focus first | rfl | (simp only [go_sem]; done))) | (refine hZ (aH hl 4 (by decide) (by decide) i h hi hh) ⟨rfl, rfl⟩ ?_ rfl ?_; (focus first | rfl | (simp only [go_sem]; done)))
  clear hi hh; rintro ⟨x, i, h⟩ ⟨hx, hi, hh⟩; simp only at hx hi hh; simp only [go_sem]
  obtain ⟨k, rfl⟩ := Int.eq_ofNat_of_zero_le hx.1
  have hk : k < U.length := by omega
  refine aD ?_
  first | (refine aU (rP hl i h hi hh) ⟨rfl, rfl⟩ ?_ rfl ?_; (focus first | rfl | (simp only [go_sem]; done))) | (refine hZ (rP hl i h hi hh) ⟨rfl, rfl⟩ ?_ rfl ?_; (focus first | rfl | (simp only [go_sem]; done)))
  clear hi hh; rintro ⟨y, i, h⟩ ⟨hy, hi, hh⟩; simp only at hy hi hh; simp only [go_sem]
  have hy2 : y.size ≤ 40 := by unfold w1 at hy; omega
  have q0 := @hk; refine iW ?_
  refine dW (Sees.frz 1 rfl) ?_
  simp only [go_sem]
  exact aJ (U.set k ⟨y, U[k].fKind⟩, i, h) ⟨⟨_, rfl, by simp only [go_sem, List.map_set, List.map_append, List.map_cons, List.map_nil]; try rfl⟩, trivial⟩ ⟨(show schA _ from a6G hus k hy2), ⟨hi, hh⟩⟩ (by simp only [go_sem])
 ·refine aD ?_
  first | (refine aU (cK hl nm3 (by decide) (by decide) i h hi hh) ⟨rfl, rfl⟩ ?_ rfl ?_; (focus first | rfl | (simp only [go_sem]; done))) | (refine hZ (cK hl nm3 (by decide) (by decide) i h hi hh) ⟨rfl, rfl⟩ ?_ rfl ?_; (focus first | rfl | (simp only [go_sem]; done)))
  clear hi hh; rintro ⟨y, i, h⟩ ⟨hy, hi, hh⟩; simp only at hy hi hh; simp only [go_sem]
  have hy2 := (by decide +kernel : ∀ n ∈ nm3, n.size ≤ 40) y hy
  have q0 := @hl1; have q1 := @hl2; refine jM ?_
  refine dW (Sees.frz 1 rfl) ?_
  simp only [go_sem]
  exact aJ (U ++ [⟨y, 1⟩], i, h) ⟨⟨_, rfl, by simp only [go_sem, List.map_set, List.map_append, List.map_cons, List.map_nil]; try rfl⟩, trivial⟩ ⟨(show schA _ from a6H hus (by simpa using hy2) (by simp; omega)), ⟨hi, hh⟩⟩ (by simp only [go_sem])
 ·have q0 := @hl3; have q1 := @hl4; refine jM ?_
  refine dW (Sees.frz 1 rfl) ?_
  simp only [go_sem]
  exact aJ (U ++ [⟨⟨#[117]⟩, 1⟩, ⟨⟨#[118]⟩, 2⟩], i, h) ⟨⟨_, rfl, by simp only [go_sem, List.map_set, List.map_append, List.map_cons, List.map_nil]; try rfl⟩, trivial⟩ ⟨(show schA _ from a6H hus (by decide +kernel) (by simp; omega)), ⟨hi, hh⟩⟩ (by simp only [go_sem])
 ·have q0 := @k0; have q1 := @k1; have q2 := @k2; have q3 := @k3; have q4 := @k4; have q5 := @decide_false; refine b1Q ?_
  refine dW (Sees.frz 1 rfl) ?_
  simp only [go_sem]
  exact aJ (U, i, h) ⟨⟨_, rfl, by simp only [go_sem, List.map_set, List.map_append, List.map_cons, List.map_nil]; try rfl⟩, trivial⟩ ⟨(show schA _ from hus), ⟨hi, hh⟩⟩ (by simp only [go_sem])
structure storeA (s : TStore) : Prop where
 w : eD s ≤ 2000
 nx : 0 ≤ s.fNextID ∧ s.fNextID ≤ 62
 idr : ∀ f ∈ s.fFiles, inR .i64 f.fID
theorem a0r {k : Nat} {s : TStore} (h : storeD k s) : storeA s := by
 have h1 := zD h
 have h2 := (gK.1 h.ok).2.2.2
 refine ⟨by omega, by omega, fun f hf => ?_⟩
 obtain ⟨k, hk, rfl⟩ := List.mem_iff_getElem.1 hf
 have h3 := ((gL hk).1 ((gK.1 h.ok).1 k hk)).1
 unfold dE inB at h3
 simp only [Bool.and_eq_true, decide_eq_true_eq] at h3
 simp only [inR]
 omega
@[go_sem] def nx4 : List Int := [0, 60, 61, 62]
theorem b4a (s : List TFile) (f : TFile) : iR (s ++ [f]) = iR s + fG f + 1 := by
 unfold iR
 rw [uO]
 simp only [List.length_append, List.length_cons, List.length_nil, dU]
 omega
theorem a3K {l : List Int} (hl : iM l) : Drw l 85 [] (fun s : TStore => storeA s) (fun s => a2w s) := by
 intro i h hi hh; refine oD Tryz.func85 rfl Tryz.call85 rfl (fun C b => ?_); simp only [go_sem, Tryz.ntmps85]
 refine aD ?_
 first | (refine aU (oQ hl i h hi hh) ⟨rfl, rfl⟩ ?_ rfl ?_; (focus first | rfl | (simp only [go_sem]; done))) | (refine hZ (oQ hl i h hi hh) ⟨rfl, rfl⟩ ?_ rfl ?_; (focus first | rfl | (simp only [go_sem]; done)))
 clear hi hh; rintro ⟨s, i, h⟩ ⟨hs, hi, hh⟩; simp only at hs hi hh; simp only [go_sem]
 have hsA := a0r hs
 have hw := zD hs
 have hn := hs.ln
 refine aD ?_
 first | (refine aU (aH hl 14 (by decide) (by decide) i h hi hh) ⟨rfl, rfl⟩ ?_ rfl ?_; (focus first | rfl | (simp only [go_sem]; done))) | (refine hZ (aH hl 14 (by decide) (by decide) i h hi hh) ⟨rfl, rfl⟩ ?_ rfl ?_; (focus first | rfl | (simp only [go_sem]; done)))
 clear hi hh; rintro ⟨c, i, h⟩ ⟨hc, hi, hh⟩; simp only at hc hi hh; simp only [go_sem]
 have h5 : c = 0 ∨ c = 1 ∨ c = 2 ∨ c = 3 ∨ (¬ c = 0 ∧ ¬ c = 1 ∧ ¬ c = 2 ∧ ¬ c = 3) := by omega
 rcases h5 with rfl | rfl | rfl | rfl | ⟨k0, k1, k2, k3⟩
 ·refine aD ?_
  first | (refine aU (fJ hl nx4 (by decide) (by decide) i h hi hh) ⟨rfl, rfl⟩ ?_ rfl ?_; (focus first | rfl | (simp only [go_sem]; done))) | (refine hZ (fJ hl nx4 (by decide) (by decide) i h hi hh) ⟨rfl, rfl⟩ ?_ rfl ?_; (focus first | rfl | (simp only [go_sem]; done)))
  clear hi hh; rintro ⟨x, i, h⟩ ⟨hx, hi, hh⟩; simp only at hx hi hh; simp only [go_sem]
  have hx2 := (by decide : ∀ n ∈ nx4, 0 ≤ n ∧ n ≤ 62) x hx
  refine aD ?_
  exact aJ (⟨s.fSchema, s.fFiles, x⟩, i, h) ⟨⟨_, rfl, by simp only [go_sem]⟩, trivial⟩ ⟨(show storeA ⟨s.fSchema, s.fFiles, x⟩ from ⟨hsA.w, hx2, hsA.idr⟩), ⟨hi, hh⟩⟩ (by simp only [go_sem])
 ·have qH := trivial; repeat' (with_reducible first | refine nY ?_ | (refine mX ?_; try simp only [go_sem]) | refine kD ?_ | (apply rF [3,4,5,7] [] [0,1,2] [0,1,2] ((.c 3 [] [0,1] (.c 4 [] [0,1] (.c 5 [6] [6] (.c 7 [] [] .n .n) .n) .n) .n)) (by simp only [go_sem]; rfl) (by simp only [go_sem]; rfl) (by simp only [go_sem]; rfl) (by decide +kernel); (focus simp only [go_sem]; done)) | exact bA | refine aM (uX ?_) ?_ | refine aN (aX ?_) ?_ | refine aP (aX ?_) ?_ | exact bD | exact oH | (refine uA ?_; simp only [go_sem]; (repeat' first | omega | refine And.intro ?_ ?_); done) | refine rD ?_ | refine aO ?_ | fail)
  first | (refine aU (a3S hl i h hi hh) ⟨rfl, rfl⟩ ?_ rfl ?_; (focus first | rfl | (simp only [go_sem]; done))) | (refine hZ (a3S hl i h hi hh) ⟨rfl, rfl⟩ ?_ rfl ?_; (focus first | rfl | (simp only [go_sem]; done)))
  clear hi hh; rintro ⟨f, i, h⟩ ⟨hf, hi, hh⟩; simp only at hf hi hh; simp only [go_sem]
  have hfw := hf.w
  have hl1 : s.fFiles.length + 1 ≤ 140737488355328 := by omega
  have hl2 : (s.fFiles.length + 1) * 56 ≤ 140737488355328 := by omega
  have qH := aI @hl1 @hl2; repeat' (with_reducible first | refine nY ?_ | (refine mX ?_; try simp only [go_sem, qH]) | refine kD ?_ | exact bA | refine aM (uX ?_) ?_ | refine aN (aX ?_) ?_ | refine aP (aX ?_) ?_ | exact uB | refine rD ?_ | refine aO ?_ | fail)
  exact aJ (⟨s.fSchema, s.fFiles ++ [f], s.fNextID⟩, i, h) ⟨⟨_, rfl, by simp only [go_sem, List.map_append, List.map_cons, List.map_nil]; try rfl⟩, trivial⟩ ⟨(show storeA ⟨s.fSchema, s.fFiles ++ [f], s.fNextID⟩ from ⟨by unfold eD at hw ⊢; simp only; rw [b4a]; omega, hsA.nx, fun g hg => by
   rcases List.mem_append.1 hg with hg | hg
   ·exact hsA.idr g hg
   ·simp only [List.mem_singleton] at hg; subst hg; exact hf.wf.1⟩), ⟨hi, hh⟩⟩ (by simp only [go_sem])
 ·refine aD ?_
  first | (refine aU (a3J hl i h hi hh) ⟨rfl, rfl⟩ ?_ rfl ?_; (focus first | rfl | (simp only [go_sem]; done))) | (refine hZ (a3J hl i h hi hh) ⟨rfl, rfl⟩ ?_ rfl ?_; (focus first | rfl | (simp only [go_sem]; done)))
  clear hi hh; rintro ⟨t, i, h⟩ ⟨ht, hi, hh⟩; simp only at ht hi hh; simp only [go_sem]
  have htw := b5C ht
  refine aD ?_
  exact aJ (⟨t, s.fFiles, s.fNextID⟩, i, h) ⟨⟨_, rfl, by simp only [go_sem]⟩, trivial⟩ ⟨(show storeA ⟨t, s.fFiles, s.fNextID⟩ from ⟨by unfold eD at hw ⊢; simp only; omega, hsA.nx, hsA.idr⟩), ⟨hi, hh⟩⟩ (by simp only [go_sem])
 ·refine aD ?_
  refine dB (α := TStore × Nat × Int) (fun x => [(5, .o .u)]) (fun x => [(0, .pin b 120 [.sl (l.map uN), iv x.2.1, iv x.2.2]), (3, .box 28 [.d (.sl (x.1.fSchema.map bY)), .s 2, .d (iv x.1.fNextID)]), (2, .row 86 5 (x.1.fFiles.map dX) false)]) (fun x => storeD (8 + x.1.fFiles.length) x.1 ∧ (x.2.1 ≤ l.length ∧ inR .i64 x.2.2)) (fun x => 13 - x.1.fFiles.length) (s, i, h) (fun _ => ?_) ?_ ?_ (fun x hx => ?_)
  ·simp only [go_sem]
  ·simp only [go_sem]; simp
  ·exact ⟨a3L hs (by omega), hi, hh⟩
  ·clear hi hh hsA hw hn hs
   obtain ⟨s, i, h⟩ := x
   obtain ⟨hs, hi, hh⟩ := hx
   simp only at hs hi hh
   have hw := zD hs
   have hsA := a0r hs
   simp only [go_sem]
   refine aD ?_
   refine cnd rfl (fun hlt => ?_) (fun hlt => ?_)
   ·simp only [decide_eq_true_eq] at hlt
    have hlt2 : s.fFiles.length < 12 := by omega
    have qH := trivial; repeat' (with_reducible first | refine nY ?_ | (refine mX ?_; try simp only [go_sem]) | refine kD ?_ | (apply rF [2,3,8] [] [0,1] [0,1] ((.c 2 [] [0] (.c 3 [4,5,6,7] [4,5,6,7] (.c 8 [] [6,7] .n .n) .n) .n)) (by simp only [go_sem]; rfl) (by simp only [go_sem]; rfl) (by simp only [go_sem]; rfl) (by decide +kernel); (focus simp only [go_sem]; done)) | exact bA | refine aM (uX ?_) ?_ | refine aN (aX ?_) ?_ | refine aP (aX ?_) ?_ | exact bD | exact oH | (refine uA ?_; simp only [go_sem]; (repeat' first | omega | refine And.intro ?_ ?_); done) | refine rD ?_ | refine aO ?_ | fail)
    first | (refine aU (lH hl 1 i h hi hh) ⟨rfl, rfl⟩ ?_ rfl ?_; (focus first | rfl | (simp only [go_sem]; done))) | (refine hZ (lH hl 1 i h hi hh) ⟨rfl, rfl⟩ ?_ rfl ?_; (focus first | rfl | (simp only [go_sem]; done)))
    clear hi hh; rintro ⟨f, i, h⟩ ⟨hf, hi, hh⟩; simp only at hf hi hh; simp only [go_sem]
    have hfw := (zG hf).1
    obtain ⟨hc1, hc2, hc3⟩ := a2s hs hf (by omega) hlt2
    have hcr := uM s f (by omega) (by omega)
    rw [hc1] at hcr
    generalize creS s f = s2 at *
    have qH := trivial; repeat' (with_reducible first | refine nY ?_ | (refine mX ?_; try simp only [go_sem]) | refine kD ?_ | exact bA | refine aM (uX ?_) ?_ | refine aN (aX ?_) ?_ | refine aP (aX ?_) ?_ | (refine uA ?_; simp only [go_sem]; (repeat' first | omega | refine And.intro ?_ ?_); done) | refine rD ?_ | refine cP hcr ?_ | refine aO ?_ | fail)
    refine a4s [(2, 5)] (s2, i, h) (by simp only [go_sem]; rfl) ?_ ?_ ?_
    ·simp only [go_sem]; simp
    ·exact ⟨by simp only; rw [hc3]; exact hc2, hi, hh⟩
    ·simp only; omega
   ·refine aD ?_
    exact aJ (s, i, h) ⟨⟨_, rfl, by simp only [go_sem]⟩, trivial⟩ ⟨hsA, ⟨hi, hh⟩⟩ (by simp only [go_sem])
 ·have q0 := @k0; have q1 := @k1; have q2 := @k2; have q3 := @k3; have q4 := @decide_false; refine vW ?_
  exact aJ (s, i, h) ⟨⟨_, rfl, by simp only [go_sem]⟩, trivial⟩ ⟨hsA, ⟨hi, hh⟩⟩ (by simp only [go_sem])
end Go.Proofs.YtgpoopjfkplilaaGreatDoor
end
section
namespace Go.Sx
open Go Go.RowKit
theorem LayL.flat0 {V : View} {ds : List D} {ys : List Value} {Ss : List (List Nat)} (h : LayL V ds ys Ss) (hf : ds.all isV = true) : Ss.flatten = [] := by
 obtain ⟨h1, h2, h3⟩ := h
 rw [List.flatten_eq_nil_iff]
 intro S hS
 obtain ⟨k, hk, rfl⟩ := List.getElem_of_mem hS
 have hk1 : k < ds.length := by omega
 have hk2 : k < ys.length := by omega
 have h4 := h3 k ds[k] ys[k] Ss[k] (List.getElem?_eq_getElem hk1) (List.getElem?_eq_getElem hk2) (List.getElem?_eq_getElem hk)
 have h5 := List.all_eq_true.1 hf ds[k] (List.getElem_mem hk1)
 generalize ds[k] = d at *
 generalize ys[k] = y at *
 generalize Ss[k] = S at *
 cases h4 with
 | v x hx => rfl
 | nil => simp [isV] at h5
 | sl => simp [isV] at h5
theorem b2I {rows : List (List D)} (h : iL rows = true) : rows.flatten.all isV = true := by
 unfold iL at h
 simpa [List.all_flatten] using h
section
variable {C : Ctx} {g : List Gh} {V : View} {st : St} {a : Act} {w : World}
theorem Rel.laterG {V' : View} {w' : World} (h : Rel C g V st a w) (G : List Nat) (hG : ∀ n ∈ G, C.w0.heap.size ≤ n ∨ n ∈ C.X) (hGV : ∀ n ∈ G, V n = none)
    (hdj : ∀ (i : Nat) (b : HB) (x : Gh), st.h[i]? = some b → g[i]? = some x → ∀ n ∈ ownB x b, n ∉ G) (hv : V.le V') (hm : Mod V' w') (ho : w'.os = w.os) (ht : w'.tape = w.tape) (hu : w'.output = w.output) (hs : w.heap.size ≤ w'.heap.size)
    (hb : ∀ k, k < w.heap.size → k ∉ G → w'.heap[k]? = w.heap[k]?) (hn : ∀ b cs, V' b = some cs → V b = none → (w.heap.size ≤ b ∨ b ∈ G) ∧ Unf w' b) : Rel C g V' st a w' := by
 refine ⟨h.sl.mono (GLe.refl g) hv, h.hp.later hv hs (fun i b x h1 h2 n hn' => hb n (h.hp.lo i b x h1 h2 n hn').2 (hdj i b x h1 h2 n hn')) (fun i b x h1 h2 n hn' => ?_), hm, ?fr, ?vw⟩
 case vw =>
  refine (h.vw.move (w' := w') fun b cs hb' => hb b (h.mod.lt hb') fun hg => by have := hGV b hg; rw [this] at hb'; cases hb').grow hv fun b cs h1 h2 => ⟨?_, (hn b cs h1 h2).2⟩
  rcases (hn b cs h1 h2).1 with h3 | h3
  ·have := h.fr.size; exact .inl (by omega)
  ·exact hG b h3
 ·cases hc : V' n with
  | none => rfl
  | some cs =>
   have h4 := (h.hp.lo i b x h1 h2 n (aZ hn')).2
   rcases (hn n cs hc (h.hp.rt i b x h1 h2 n hn')).1 with h3 | h3
   ·omega
   ·exact absurd h3 (hdj i b x h1 h2 n (aZ hn'))
 ·exact ⟨ho.trans h.fr.os, ht.trans h.fr.tape, hu.trans h.fr.output, Nat.le_trans h.fr.size hs, fun k hk hx => (hb k (Nat.lt_of_lt_of_le hk h.fr.size) fun hg => by
   rcases hG k hg with h3 | h3
   ·omega
   ·exact hx h3).trans (h.fr.block k hk hx)⟩
end
structure DoneG (V : View) (w : World) (b ty : Nat) (S : List Nat) (tyR sz : Nat) (ds' : List D) (rows' : List (List D)) (y : Value) (w' : World) : Prop where
 os : w'.os = w.os
 tape : w'.tape = w.tape
 output : w'.output = w.output
 size : w.heap.size ≤ w'.heap.size
 block : ∀ k, k < w.heap.size → k ∉ b :: S → w'.heap[k]? = w.heap[k]?
 out : ∃ V' S' l', V.le V' ∧ Mod V' w' ∧ V' b = none ∧ (∀ n cs, V' n = some cs → V n = none → (w.heap.size ≤ n ∨ n ∈ S) ∧ Unf w' n) ∧ RowR V' w' tyR sz rows' y S' ∧ S'.Nodup ∧ (∀ n ∈ S', (n ∈ S ∨ w.heap.size ≤ n) ∧ n < w'.heap.size) ∧ w'.heap[b]? = some (.cells (List.toArray l') ty (0, 0)) ∧ cL [] V' (ds'.map At.d) l'
structure FnG (P : Program) (f ty : Nat) (ds : List D) (tyR sz : Nat) (rows : List (List D)) (args : List SV) {α : Type} (Q : α → Prop) (rows' : α → List (List D)) (ds' : α → List D) : Prop where
 enters : ∀ aS w, (callFunc f aS).run P w = .ok (.enter f aS) w
 calls : ∀ V w b l y S vs, tabOK w (b :: S) → Mod V w → V b = none → b < w.heap.size → w.heap[b]? = some (.cells (List.toArray l) ty (0, 0)) → cL [] V (ds.map At.d) l → RowR V w tyR sz rows y S → (b :: S).Nodup → (∀ n ∈ S, n < w.heap.size) → (∀ n ∈ S, V n = none) → lY V args vs →
  Calls P f (Value.pointer (some ⟨b, 0, none⟩) :: y :: vs).toArray w fun e w' => ∃ y' a, e = .returned y' ∧ Q a ∧ DoneG V w b ty S tyR sz (ds' a) (rows' a) y' w'
def stG (b ty : Nat) (ds : List D) (tyR sz : Nat) (rows : List (List D)) (args : List SV) (n : Nat) : St := ⟨.o (.p 0 0) :: .o (.s 1) :: (args ++ List.replicate (n - 2 - args.length) (.t [])), [.pin b ty ds, .row tyR sz rows true]⟩
def b5X (E : Env) (rs : List ResultVar) (b ty tyR sz : Nat) {α : Type} (Q : α → Prop) (rows' : α → List (List D)) (ds' : α → List D) : Ex → St → Prop
 | .exit _, _ => False
 | _, st => ∃ a j, Q a ∧ retVs E st rs = some [(false, [.s j])] ∧ bK st.h j = .row tyR sz (rows' a) true ∧ bK st.h 0 = .pin b ty (ds' a)
theorem qF {E : Env} {rs : List ResultVar} {b ty tyR sz : Nat} {α : Type} {Q : α → Prop} {rows' : α → List (List D)} {ds' : α → List D} {st : St} (a : α) (j : Nat) (hq : Q a) (h1 : retVs E st rs = some [(false, [.s j])]) (h2 : bK st.h j = .row tyR sz (rows' a) true) (h3 : bK st.h 0 = .pin b ty (ds' a)) : b5X E rs b ty tyR sz Q rows' ds' .ret st := ⟨a, j, hq, h1, h2, h3⟩
theorem FnG.of_wp {P : Program} {T : Nat → Ty} {eqk : Nat → List Nat} (hT : TyOK P T) {f : Nat} {fn : Func} {c : Code} {rs : List ResultVar} {ty : Nat} {ds : List D} {tyR sz : Nat} {rows : List (List D)} {args : List SV} {α : Type} {Q : α → Prop} {rows' : α → List (List D)} {ds' : α → List D}
    (hf : P.funcs[f]? = some fn) (hb : fn.body = some c) (hcall : ∀ aS w, (callFunc f aS).run P w = .ok (.enter f aS) w) (hres : fn.results = rs.toArray)
    (h : ∀ (C : Ctx) (b : Nat), WP P C c (bN P C [] (b5X ⟨P, T, C, eqk⟩ rs b ty tyR sz Q rows' ds')) (stG b ty ds tyR sz rows args fn.ntmps)) : FnG P f ty ds tyR sz rows args Q rows' ds' := by
 refine ⟨hcall, fun V w b l y0 S vs htab hm hVb hlt hheap hcl hrow hnd hltS hSV ha => ?_⟩
 let C : Ctx := ⟨w, b :: S, V, htab⟩
 refine calls_of_wp hf hb ?_
 let x : Gh := ⟨some b, undef, [], []⟩
 obtain ⟨x2, e1, _, e3, e4, e5, e6, e7⟩ := yD hrow []
 have hbS : b ∉ S := (List.nodup_cons.1 hnd).1
 have hr : Rel C [x, x2] V (stG b ty ds tyR sz rows args fn.ntmps) { tmps := (Value.pointer (some ⟨b, 0, none⟩) :: y0 :: vs).toArray ++ Array.replicate (fn.ntmps - (Value.pointer (some ⟨b, 0, none⟩) :: y0 :: vs).toArray.size) undef, defers := [] } w := by
  refine ⟨⟨by simp [stG, ha.1]; omega, fun i s y h1 h2 => ?_, rfl⟩, ⟨rfl, ?_, ?_, ?_, ?_, ?_⟩, hm,
   ⟨rfl, rfl, rfl, Nat.le_refl _, fun _ _ _ => rfl⟩, Vw.init hm (fun n hn => by rcases List.mem_cons.1 hn with rfl | hn; exact hVb; exact hSV n hn)⟩
  ·match i with
   | 0 =>
    simp [stG] at h1
    rw [Array.getElem?_append_left (by simp)] at h2
    simp at h2
    subst h1; subst h2
    exact ⟨x, b, rfl, rfl, rfl⟩
   | 1 =>
    simp [stG] at h1
    rw [Array.getElem?_append_left (by simp)] at h2
    simp at h2
    subst h1; subst h2
    exact ⟨x2, rfl, e1.symm, e6⟩
   | i + 2 =>
    simp only [stG, List.getElem?_cons_succ] at h1
    have h2' : (vs.toArray ++ Array.replicate (fn.ntmps - (vs.length + 1 + 1)) undef)[i]? = some y := by
     simp only [List.size_toArray, List.length_cons] at h2
     rw [← h2]
     rw [Array.getElem?_append, Array.getElem?_append]
     simp
    rw [List.getElem?_append] at h1
    rw [Array.getElem?_append] at h2'
    simp only [List.size_toArray, ha.1] at h2'
    split at h1
    ·rw [if_pos ‹_›] at h2'
     exact (ha.2 i s y h1 (by simpa using h2')).mono (fun j z hz => by simp at hz) (View.le.refl V)
    ·rw [if_neg ‹_›] at h2'
     rw [List.getElem?_replicate] at h1
     rw [Array.getElem?_replicate] at h2'
     split at h1
     ·split at h2'
      ·cases h1; cases h2'; exact gG _ _
      ·cases h2'
     ·cases h1
  all_goals
   have key : ∀ (i : Nat) (c : HB) (z : Gh), (stG b ty ds tyR sz rows args fn.ntmps).h[i]? = some c → [x, x2][i]? = some z → (i = 0 ∧ c = .pin b ty ds ∧ z = x) ∨ (i = 1 ∧ c = .row tyR sz rows true ∧ z = x2) := fun i c z h1 h2 => by
    match i with
    | 0 => simp [stG] at h1 h2; exact .inl ⟨rfl, h1.symm, h2.symm⟩
    | 1 => simp [stG] at h1 h2; exact .inr ⟨rfl, h1.symm, h2.symm⟩
    | i + 2 => simp at h2
  ·intro i c z h1 h2
   rcases key i c z h1 h2 with ⟨rfl, rfl, rfl⟩ | ⟨rfl, rfl, rfl⟩
   ·exact ⟨rfl, l, hheap, hcl⟩
   ·exact e7 _
  ·intro i c z h1 h2
   rcases key i c z h1 h2 with ⟨rfl, rfl, rfl⟩ | ⟨rfl, rfl, rfl⟩
   ·simp [ownB, x]
   ·rw [e4]; exact (List.nodup_cons.1 hnd).2
  ·intro i j c c' z z' hij h1 h2 h3 h4 n hn hn'
   rcases key i c z h1 h2 with ⟨rfl, rfl, rfl⟩ | ⟨rfl, rfl, rfl⟩
   ·rcases key j c' z' h3 h4 with ⟨rfl, rfl, rfl⟩ | ⟨rfl, rfl, rfl⟩
    ·exact hij rfl
    ·rw [e4] at hn'
     simp [ownB, x] at hn
     subst hn
     exact hbS hn'
   ·rcases key j c' z' h3 h4 with ⟨rfl, rfl, rfl⟩ | ⟨rfl, rfl, rfl⟩
    ·rw [e4] at hn
     simp [ownB, x] at hn'
     subst hn'
     exact hbS hn
    ·exact hij rfl
  ·intro i c z h1 h2 n hn
   rcases key i c z h1 h2 with ⟨rfl, rfl, rfl⟩ | ⟨rfl, rfl, rfl⟩
   ·simp [ownB, x] at hn
    subst hn
    exact ⟨.inr (by simp [C]), hlt⟩
   ·rw [e4] at hn
    exact ⟨.inr (by simp [C, hn]), hltS n hn⟩
  ·intro i c z h1 h2 n hn
   rcases key i c z h1 h2 with ⟨rfl, rfl, rfl⟩ | ⟨rfl, rfl, rfl⟩
   ·simp [aY, x] at hn
    subst hn
    exact hVb
   ·exact e5 n hn
 refine wp_mono (h C b [x, x2] V _ w hr) fun e a' w' q => ?_
 have fin : ∀ (g : List Gh) (V' : View) (st : St), Rel C g V' st a' w' → (∃ a j, Q a ∧ retVs ⟨P, T, C, eqk⟩ st rs = some [(false, [.s j])] ∧ bK st.h j = .row tyR sz (rows' a) true ∧ bK st.h 0 = .pin b ty (ds' a)) →
     ∃ y, (results fn a'.tmps).run P w' = .ok y w' ∧ ∃ y' a, Ending.returned y = .returned y' ∧ Q a ∧ DoneG V w b ty S tyR sz (ds' a) (rows' a) y' w' := by
  rintro g V' st hr' ⟨a, j, hq, h1, h2, h3⟩
  obtain ⟨vs', ls, f1, f2, f3, f4, f5⟩ := nA (E := ⟨P, T, C, eqk⟩) hT hr' h1
  have f1' : (rs.mapM (rvM a')).run P w' = .ok vs' w' := by
   rw [← f1]
   congr 2
  match vs', ls, f2, f3 with
  | [v], [m], _, _ =>
   have hv := f4 0 false [.s j] m v rfl rfl rfl
   simp only [Bool.false_eq_true, if_false] at hv
   obtain ⟨hv1, hv2⟩ := hv
   subst hv1
   have hp := f5.2 0 (.s j) v rfl rfl
   obtain ⟨z, hz, rfl, _⟩ := hp
   have hi := aF h2 (by simp)
   have hi0 := aF h3 (by simp)
   have hok := hr'.hp.hb j _ z hi hz
   have hrow' := tV hok (hr'.hp.rt j _ z hi hz)
   obtain ⟨z0, hz0⟩ : ∃ z0, g[0]? = some z0 := by
    have h0 : 0 < g.length := by rw [hr'.hp.glen]; exact (List.getElem?_eq_some_iff.1 hi0).1
    exact ⟨g[0], List.getElem?_eq_getElem h0⟩
   obtain ⟨hb0, l', q1, q2⟩ := hr'.hp.hb 0 _ z0 hi0 hz0
   have hV'b := hr'.hp.rt 0 _ z0 hi0 hz0 b (by simp [aY, hb0])
   have hj0 : j ≠ 0 := fun e => by
    subst e
    rw [hi] at hi0
    cases hi0
   have hnb : ∀ n ∈ ownB z (.row tyR sz (rows' a) true), n ≠ b := fun n hn e => by
    subst e
    exact hr'.hp.dj j 0 _ _ z z0 hj0 hi hz hi0 hz0 n hn (by simp [ownB, hb0])
   refine ⟨_, jV hres f1', _, a, rfl, hq, hr'.fr.os, hr'.fr.tape, hr'.fr.output, hr'.fr.size, fun k hk hx => hr'.fr.block k hk hx, V', _, l', hr'.vw.le, hr'.mod, hV'b, fun n cs p1 p2 => ⟨?_, hr'.vw.unf n cs p1 p2⟩, hrow', hr'.hp.nd j _ z hi hz, fun n hn => ⟨?_, (hr'.hp.lo j _ z hi hz n hn).2⟩, q1, q2⟩
   ·rcases hr'.vw.fresh n cs p1 p2 with h4 | h4
    ·exact .inl h4
    ·rcases List.mem_cons.1 h4 with h4 | h4
     ·rw [h4, hV'b] at p1; cases p1
     ·exact .inr h4
   ·rcases (hr'.hp.lo j _ z hi hz n hn).1 with h4 | h4
    ·exact .inr h4
    ·rcases List.mem_cons.1 h4 with h4 | h4
     ·exact absurd h4 (hnb n hn)
     ·exact .inl h4
 cases e with
 | normal =>
  obtain ⟨g, V', st', hr', hret⟩ := q
  obtain ⟨y, hy, hd⟩ := fin g V' st' hr' hret
  exact ⟨hr'.sl.defers, y, hy, hd⟩
 | ret =>
  obtain ⟨g, V', st', hr', hret⟩ := q
  obtain ⟨y, hy, hd⟩ := fin g V' st' hr' hret
  exact ⟨hr'.sl.defers, y, hy, hd⟩
 | exit id => obtain ⟨g, V', st', hr', q⟩ := q; exact q.elim
 | goto l => exact q.elim
 | panic ch => exact q.elim
 | outgrown => exact q.elim
theorem CallS.giveB {E : Env} {f ty id id2 : Nat} {ds : List D} {tyR sz : Nat} {rows : List (List D)} {args' rest : List SV} {α : Type} {Q : α → Prop} {rows' : α → List (List D)} {ds' : α → List D} {st : St} {K : St → SV → Prop} (h : FnG E.P f ty ds tyR sz rows args' Q rows' ds')
    (hid : a5g ty ds (bK st.h id)) (hid2 : bK st.h id2 = .row tyR sz rows true) (hflat : iL rows = true) (he : rest.map (eY st.h) = args') (hfree : args'.all bX = true)
    (k : ∀ a, Q a → K ⟨st.t, setH (dR st.h [id2]) id (reD (ds' a) (bK st.h id)) ++ adH [.w tyR sz (rows' a)]⟩ (adS (setH (dR st.h [id2]) id (reD (ds' a) (bK st.h id))).length (.o (.w tyR sz (rows' a))))) :
    CallS E f (.o (.p id 0) :: .o (.s id2) :: rest) st K := by
 refine ⟨h.enters, fun g V a w vs hr hlen hargs => ?_⟩
 have hi : st.h[id]? = some (bK st.h id) := aF rfl (fun e => by rw [e] at hid; exact hid)
 have hi2 := aF hid2 (by simp)
 have hne : id2 ≠ id := fun e => by
  subst e
  rw [hid2] at hid
  exact hid
 match vs, hlen, hargs with
 | y :: y2 :: vs, hlen, hargs =>
  obtain ⟨x, b0, hx, hxb, rfl⟩ := hargs 0 _ y rfl rfl
  obtain ⟨x2, hx2, rfl, _⟩ := hargs 1 _ y2 rfl rfl
  have hok := hr.hp.hb id _ x hi hx
  obtain ⟨b, l, q1, q2, q3, q4, q5, q6⟩ := a9r hok hid
  have e0 : b0 = b := by rw [hxb] at q1; exact Option.some.inj q1
  subst e0
  have hVb : V b0 = none := hr.hp.rt id _ x hi hx b0 (by rw [q3]; simp)
  have hlo := hr.hp.lo id _ x hi hx b0 (by rw [q2]; simp)
  have hok2 := hr.hp.hb id2 _ x2 hi2 hx2
  have hrow := tV hok2 (hr.hp.rt id2 _ x2 hi2 hx2)
  have hSV : ∀ n ∈ ownB x2 (.row tyR sz rows true), V n = none := fun n hn => by
   obtain ⟨_, ys, Ss, hL, hlin, _⟩ := hok2
   have h0 := hL.flat0 (b2I hflat)
   simp only [ownB, if_true, hlin rfl, h0, List.append_nil] at hn
   exact hr.hp.rt id2 _ x2 hi2 hx2 n (by simpa [aY] using hn)
  have hdjS : b0 ∉ ownB x2 (.row tyR sz rows true) := fun hm => hr.hp.dj id id2 _ _ x x2 (fun e => hne e.symm) hi hx hi2 hx2 b0 (by rw [q2]; simp) hm
  have hloS := fun n hn => hr.hp.lo id2 _ x2 hi2 hx2 n hn
  have hndS := hr.hp.nd id2 _ x2 hi2 hx2
  have hdjE : ∀ (i : Nat) (c : HB) (z : Gh), i ≠ id2 → st.h[i]? = some c → g[i]? = some z → ∀ n ∈ ownB z c, n ∉ ownB x2 (.row tyR sz rows true) := fun i c z hne' p1 p2 n hn hm => hr.hp.dj i id2 c _ z x2 hne' p1 p2 hi2 hx2 n hn hm
  generalize ownB x2 (.row tyR sz rows true) = S at *
  have hc : lY V args' vs := by
   subst he
   refine ⟨by simpa using hlen, fun i s y h1 h2 => ?_⟩
   have hs := List.all_eq_true.1 hfree s (List.mem_of_getElem? h1)
   rw [List.getElem?_map] at h1
   cases hk : rest[i]? with
   | none => rw [hk] at h1; cases h1
   | some s0 =>
    rw [hk] at h1
    cases h1
    exact kJ (lQ hr (hargs (i + 2) s0 y (by simpa using hk) (by simpa using h2))) hs
  have htab : tabOK w (b0 :: S) := hr.fr.tab fun n hn => by
   rcases List.mem_cons.1 hn with rfl | hn
   ·exact hlo.1
   ·exact (hloS n hn).1
  refine (h.calls V w b0 l x2.val S vs htab hr.mod hVb hlo.2 q4 q5 hrow (List.nodup_cons.2 ⟨hdjS, hndS⟩) (fun n hn => (hloS n hn).2) hSV hc).mono ?_
  rintro e w' ⟨y', a0, rfl, hQ, ho, ht, hu, hs, hblk, V', S', l', hv, hm, hV'b, hnew, hrow', hnd', hS', hheap, hcl'⟩
  have hr1 := hr.gone [id2]
  have hg2 : dR st.h [id2] = st.h.set id2 .gone := by simp [dR, bO]
  have hi' : (dR st.h [id2])[id]? = some (bK st.h id) := by
   rw [hg2, List.getElem?_set, if_neg hne]; exact hi
  have entry : ∀ (i : Nat) (c : HB) (z : Gh), (dR st.h [id2])[i]? = some c → g[i]? = some z → (i ≠ id2 ∧ st.h[i]? = some c) ∨ c = .gone := fun i c z p1 p2 => by
   rw [hg2, List.getElem?_set] at p1
   by_cases e : id2 = i
   ·subst e
    rw [if_pos rfl] at p1
    split at p1
    ·cases p1; exact .inr rfl
    ·cases p1
   ·rw [if_neg e] at p1
    exact .inl ⟨fun h => e h.symm, p1⟩
  have hsz1 : (w'.setRow b0 l.toArray).heap.size = w'.heap.size := by simp [World.setRow]
  have hm1 : Mod V' (w'.setRow b0 l.toArray) := fun n cs hn => by
   obtain ⟨c, ty', fz, e1, e2⟩ := hm n cs hn
   have hne' : n ≠ b0 := fun e => by rw [e, hV'b] at hn; cases hn
   exact ⟨c, ty', fz, by rw [setRow_other w' b0 n _ hne']; exact e1, e2⟩
  have hr2 : Rel E.C g V' ⟨st.t, dR st.h [id2]⟩ a (w'.setRow b0 l.toArray) := hr1.laterG S (fun n hn => (hloS n hn).1) hSV (fun i c z p1 p2 n hn => by
      rcases entry i c z p1 p2 with ⟨p3, p4⟩ | rfl
      ·exact hdjE i c z p3 p4 p2 n hn
      ·simp [ownB] at hn) hv hm1 ho ht hu (by rw [hsz1]; exact hs) (fun n hn hnS => by
      by_cases e : n = b0
      ·subst e
       rw [setRow_heap w' n l'.toArray l.toArray ty (0, 0) hheap, q4]
      ·rw [setRow_other w' b0 n _ e]
       exact hblk n hn (fun hc => by
        rcases List.mem_cons.1 hc with hc | hc
        ·exact e hc
        ·exact hnS hc)) (fun n cs h1 h2 => by
      have h3 := hnew n cs h1 h2
      have hne' : n ≠ b0 := fun e => by rw [e, hV'b] at h1; cases h1
      obtain ⟨c, ty', e⟩ := h3.2
      exact ⟨h3.1, c, ty', by rw [setRow_other w' b0 n _ hne']; exact e⟩)
  obtain ⟨u1, u2, u3⟩ := q6 V' w' (ds' a0) l' hheap hcl'
  have hr3 := hr2.turnRow id (b' := reD (ds' a0) (bK st.h id)) (x' := x) hi' hx (w' := w') rfl rfl rfl u1 (by rw [u2]; simp) (fun n hn => .inl (by rw [u2] at hn; rw [q2]; exact hn))
   (fun n hn => by rw [u3] at hn; simp only [List.mem_singleton] at hn; subst hn; exact hV'b)
   ⟨rfl, rfl, rfl, by rw [hsz1]; exact Nat.le_refl _, fun n hn hne' => (setRow_other w' b0 n _ (fun e => hne' (by rw [hxb, e]))).symm⟩ (fun n hn => by rw [q3]; rw [hxb] at hn; cases hn; simp)
  rw [← bO] at hr3
  have hgx : g.set id x = g := by
   apply List.ext_getElem?
   intro i
   rw [List.getElem?_set]
   split
   ·rename_i e
    subst e
    split
    ·exact hx.symm
    ·rename_i hn
     rw [List.getElem?_eq_none (by omega)]
   ·rfl
  rw [hgx] at hr3
  have own : ∀ (i : Nat) (c : HB) (z : Gh), (setH (dR st.h [id2]) id (reD (ds' a0) (bK st.h id)))[i]? = some c → g[i]? = some z → ∀ n ∈ ownB z c, n < w.heap.size ∧ n ∉ S := by
   intro i c z p1 p2 n hn
   rw [bO, List.getElem?_set] at p1
   by_cases e : id = i
   ·subst e
    rw [if_pos rfl] at p1
    split at p1
    ·cases p1
     rw [hx] at p2
     cases p2
     rw [u2] at hn
     simp only [List.mem_singleton] at hn
     subst hn
     exact ⟨hlo.2, hdjS⟩
    ·cases p1
   ·rw [if_neg e] at p1
    rcases entry i c z p1 p2 with ⟨p3, p4⟩ | rfl
    ·exact ⟨(hr.hp.lo i c z p4 p2 n hn).2, hdjE i c z p3 p4 p2 n hn⟩
    ·simp [ownB] at hn
  obtain ⟨g', h1, h2, h3⟩ := tN (cs := [.w tyR sz (rows' a0)]) (l := [y']) (Ss := [S']) hr3 rfl rfl (fun k a y s p1 p2 p3 => by
      match k, p1, p2, p3 with
      | 0, rfl, rfl, rfl => exact hrow') (by simpa using hnd') (fun n hn => by
      simp only [List.flatten_cons, List.flatten_nil, List.append_nil] at hn
      obtain ⟨p1, p2⟩ := hS' n hn
      refine ⟨?_, p2, fun i c z p3 p4 hm' => ?_⟩
      ·rcases p1 with p1 | p1
       ·exact (hloS n p1).1
       ·exact .inl (Nat.le_trans hr.fr.size p1)
      ·obtain ⟨o1, o2⟩ := own i c z p3 p4 n hm'
       rcases p1 with p1 | p1
       ·exact o2 p1
       ·omega)
  refine ⟨y', g', V', _, _, rfl, h1, ?_, k a0 hQ⟩
  have hlen1 : (adA (setH (dR st.h [id2]) id (reD (ds' a0) (bK st.h id))).length [.w tyR sz (rows' a0)]).length = 1 := mE _ _
  simp only [adS]
  match he' : adA (setH (dR st.h [id2]) id (reD (ds' a0) (bK st.h id))).length [.w tyR sz (rows' a0)], hlen1 with
  | [z], _ =>
   rw [he'] at h3
   exact h3.2 0 z y' rfl rfl
theorem FnG.nil {P : Program} {f ty : Nat} {ds : List D} {tyR sz : Nat} {args : List SV} {α : Type} {Q : α → Prop} {rows' : α → List (List D)} {ds' : α → List D} (h : FnG P f ty ds tyR sz [] args Q rows' ds') : FnB P f ty ds (.o .z :: args) Q (fun a => .o (.w tyR sz (rows' a))) ds' := by
 refine ⟨h.enters, fun V w b l vs htab hm hVb hlt hheap hcl ha => ?_⟩
 obtain ⟨hl, hv⟩ := ha
 match vs, hl with
 | y :: vs, hl =>
  have hy : y = .slice none 0 0 := hv 0 (.o .z) y rfl rfl
  subst hy
  refine (h.calls V w b l _ [] vs htab hm hVb hlt hheap hcl ⟨by simp, [], [], LayL.nil V, .inl ⟨⟨none, rfl⟩, rfl, rfl⟩⟩ (by simp) (by simp) (by simp) ⟨by simpa using hl, fun i s y h1 h2 => hv (i + 1) s y (by simpa using h1) (by simpa using h2)⟩).mono ?_
  rintro e w' ⟨y', a, rfl, hq, ho, ht, hu, hs, hblk, V', S', l', p1, p2, p3, p4, p5, p6, p7, p8, p9⟩
  refine ⟨y', a, rfl, hq, ⟨ho, ht, hu, hs, fun n hn hne => hblk n hn (by simpa using fun e => hne (by rw [e]))⟩, V', S', l', p1, p2, fun n cs q1 q2 => ⟨by simpa using (p4 n cs q1 q2).1, (p4 n cs q1 q2).2⟩, ⟨[y'], rfl, [S'], rfl, rfl, by simp, fun k a y s q1 q2 q3 => ?_⟩, p6, fun n hn => ⟨by simpa using (p7 n hn).1, (p7 n hn).2⟩, p8, p9⟩
  match k, q1, q2, q3 with
  | 0, rfl, rfl, rfl => exact p5
end Go.Sx
end
