/- Joined texts. -/
import Derived.Test.YtolgdibgnndoaaaZ06
import Derived.Test.YtolgdibgnndoaaaZ04
import Derived.Test.YtolgdibgnndoaaaZ07
import Derived.Sort.Row
import Derived.Sort.Grow
import Derived.Shelf.RegionOpenPlain
import Derived.WalkKit
import Derived.Deep.LoopGhost
import Derived.Deep.Draws
import Derived.Lib.Walk
import Derived.Lib.SliceRun
import Derived.Shelf.SlicesE.Kit
import Derived.Shelf.SlicesE.DeleteFunc
import Derived.Test.YtolgdibgnndoaaaZ03
import Derived.Laws.IdiomCopy
import Derived.Deep.AppendSrc
import Derived.Lib.JoinLaws
import Derived.Lib.AppendZeros
import Derived.Lib.AppendZerosOnto
import Derived.Lib.Overlaps
import Derived.Laws.Externs
import Derived.Laws.NewBlocks
import Derived.Shelf.Spec.SlicesInsertGrow
set_option linter.all false
section
set_option maxRecDepth 100000
set_option maxHeartbeats 4000000
namespace Go.Sx
open Go Go.RowKit
def a4V {α : Type} (G : α → St) (Q : α → Prop) (F : Ex → St → Prop) : Ex → St → Prop
 | .normal, s => ∃ x, Q x ∧ (∃ (m : List (Nat × Nat)) (s' : St), swL s m = some s' ∧ s'.le (G x)) ∧ (G x).okB = true
 | .exit j, s => F (.exit j) s
 | .ret, s => F .ret s
theorem rW {P : Program} {C : Ctx} {ks : List Kn} {F : Ex → St → Prop} {st : St} {c c2 : Code} {α : Type} (M : α → List (Nat × SV)) (H : α → List (Nat × HB)) (Q : α → Prop) (h1 : WP P C c (bD P C [] (a4V (fun x => a4N c st (M x) (H x)) Q (bD P C (.code c2 :: ks) F))) st) (h2 : ∀ x, Q x → WP P C c2 (bD P C ks F) (a4N c st (M x) (H x))) : WP P C c (bD P C (.code c2 :: ks) F) st := fun g V a w hr =>
 wp_mono (h1 g V a w hr) fun e a w q => by
  cases e with
  | normal =>
   obtain ⟨g, V, s, hs, x, hq, ⟨m, s', hsw, hle⟩, hok⟩ := q
   obtain ⟨g', h1⟩ := hs.swL m hsw
   exact ⟨_, V, _, h1.forget hle hok, h2 x hq⟩
  | exit j => obtain ⟨g, V, s, hs, q⟩ := q; exact ⟨g, V, s, hs, q⟩
  | ret => obtain ⟨g, V, s, hs, q⟩ := q; exact ⟨g, V, s, hs, q⟩
  | goto l => exact q.elim
  | panic ch => exact q.elim
  | outgrown => exact q.elim
theorem a3U {E : Env} {rs : List ResultVar} {b ty : Nat} {α : Type} {Q : α → Prop} {res : α → SV} {ds' : α → List D} {e : Ex} {st st' : St} (h : Sees E.C st st') (k : a4Z E rs b ty Q res ds' e st') : a4Z E rs b ty Q res ds' e st := by
 cases e with
 | exit j => exact k
 | ret => obtain ⟨s, a, h1, h2⟩ := k; exact ⟨s, a, h.trans h1, h2⟩
 | normal => obtain ⟨s, a, h1, h2⟩ := k; exact ⟨s, a, h.trans h1, h2⟩
theorem jM {α : Type} {G : α → St} {Q : α → Prop} {F : Ex → St → Prop} {s : St} (x : α) (hq : Q x) (h : s.le (G x)) (hb : (G x).okB = true) : a4V G Q F .normal s := ⟨x, hq, ⟨[], s, rfl, h⟩, hb⟩
theorem wB {α : Type} {G : α → St} {Q : α → Prop} {F : Ex → St → Prop} {s s' : St} (m : List (Nat × Nat)) (x : α) (hq : Q x) (hs : swL s m = some s') (h : s'.le (G x)) (hb : (G x).okB = true) : a4V G Q F .normal s := ⟨x, hq, ⟨m, s', hs, h⟩, hb⟩
end Go.Sx
namespace Go.Proofs.Ytolgdibgnndoaaa
open Go Go.Sx Go.RowKit Go.Proofs
theorem hF {C : Ctx} {f : Nat} {args : List SV} {h : List HB} {k : List HB → SV → Prop} (ids : List Nat) (c : CallH (EV C) f args (aZ h ids) k ⟨⟩) : CallH (EV C) f args h k ⟨⟩ := by
 obtain ⟨β, Pb, h', s, h1, h2⟩ := c.out
 exact ⟨β, Pb, h', s, fun T => CallS.sees (E := EV C) (st := ⟨T, h⟩) (st' := ⟨T, aZ h ids⟩) (fun g V a w hr => by obtain ⟨g', V', q, _⟩ := fP ids hr; exact ⟨g', V', q⟩) (fun g V a w hr => by obtain ⟨g', V', q, q1, q2, _⟩ := fP ids hr; exact ⟨g', V', q, q1, q2⟩) (h1 T), h2⟩
theorem hB {C : Ctx} {f ty id : Nat} {ds : List D} {args' rest : List SV} {α : Type} {Q : α → Prop} {res : α → SV} {ds' : α → List D} {h : List HB} {k : List HB → SV → Prop} (c : FnB Try.prog f ty ds args' Q res ds') (hid : a0u ty ds (bB h id)) (he : rest.map (dJ h) = args') (hfree : args'.all bV = true)
    (k2 : ∀ a, Q a → k (setH h id (reD (ds' a) (bB h id)) ++ adH (res a).all) (adS (setH h id (reD (ds' a) (bB h id))).length (res a))) : CallH (EV C) f (.o (.p id 0) :: rest) h k ⟨⟩ :=
 ⟨α, Q, _, _, fun T => CallS.block (E := EV C) (st := ⟨T, h⟩) c hid he hfree fun a ha => ⟨a, ha, rfl, rfl⟩, k2⟩
theorem aY {C : Ctx} {f ty id : Nat} {ds : List D} {args' rest : List SV} {α : Type} {Q : α → Prop} {res : α → SV} {ds' : α → List D} {st : St} {K : St → SV → Prop} (c : FnB Try.prog f ty ds args' Q res ds') (hid : a0u ty ds (bB (aZ st.h (dU rest)) id)) (he : rest.map (dJ (aZ st.h (dU rest))) = args') (hfree : args'.all bV = true)
    (k : ∀ a, Q a → K ⟨st.t, setH (aZ st.h (dU rest)) id (reD (ds' a) (bB (aZ st.h (dU rest)) id)) ++ adH (res a).all⟩ (adS (setH (aZ st.h (dU rest)) id (reD (ds' a) (bB (aZ st.h (dU rest)) id))).length (res a))) : CallT (EV C) f (.o (.p id 0) :: rest) st K ⟨⟩ := a6U (dU rest) (gX c hid he hfree k)
theorem hZ {C : Ctx} {f ty id : Nat} {ds : List D} {args' rest : List SV} {α : Type} {Q : α → Prop} {res : α → SV} {ds' : α → List D} {h : List HB} {k : List HB → SV → Prop} (c : FnB Try.prog f ty ds args' Q res ds') (hid : a0u ty ds (bB (aZ h (dU rest)) id)) (he : rest.map (dJ (aZ h (dU rest))) = args') (hfree : args'.all bV = true)
    (k2 : ∀ a, Q a → k (setH (aZ h (dU rest)) id (reD (ds' a) (bB (aZ h (dU rest)) id)) ++ adH (res a).all) (adS (setH (aZ h (dU rest)) id (reD (ds' a) (bB (aZ h (dU rest)) id))).length (res a))) : CallH (EV C) f (.o (.p id 0) :: rest) h k ⟨⟩ := hF (dU rest) (hB c hid he hfree k2)
abbrev Drw (l : List Int) (f : Nat) (args : List SV) {T : Type} (Q : T → Prop) (res : T → SV) : Prop := ∀ (i : Nat) (h : Int), i ≤ l.length → inR .i64 h →
 FnB Try.prog f 127 (oG l i h) args (fun x : T × Nat × Int => Q x.1 ∧ (x.2.1 ≤ l.length ∧ inR .i64 x.2.2)) (fun x => res x.1) (fun x => oG l x.2.1 x.2.2)
def a9Y {T : Type} (_ : T) : Prop := True
def gM (l : List Int) : Prop := l.length ≤ 1048576 ∧ ∀ i ∈ l, inR .u8 i
theorem dV {l : List Int} (hl : gM l) (n : Int) (hn : 1 ≤ n) (hn2 : n ≤ 1000000000) : Drw l 94 [oi n] (fun b : Bool => a9Y b) (fun b => ob b) := by
 intro i h hi hh; refine mW Try.func94 rfl Try.call94 rfl (fun C b => ?_); simp only [go_sem, Try.ntmps94]
 refine aF ?_
 refine gX (kF l hl.1 hl.2 i h hi hh n hn hn2) ⟨rfl, rfl⟩ rfl rfl ?_
 rintro ⟨x, i1, h1⟩ ⟨⟨b1, b2⟩, b3, b4⟩
 simp only at b1 b2 b3 b4
 simp only [go_sem]
 refine aF ?_
 exact aJ (decide (x = 0), i1, h1) ⟨⟨_, rfl, by simp only [go_sem]⟩, trivial⟩ ⟨trivial, ⟨b3, b4⟩⟩ (by simp only [go_sem])
theorem aH {l : List Int} (hl : gM l) (n : Int) (hn : 1 ≤ n) (hn2 : n ≤ 1000000000) : Drw l 96 [oi n] (fun x : Int => 0 ≤ x ∧ x < n) (fun x => oi x) := fun i h hi hh => kF l hl.1 hl.2 i h hi hh n hn hn2
theorem cB {l : List Int} (hl : gM l) (ns : List ByteArray) (h0 : 1 ≤ ns.length) (h1 : ns.length ≤ 1000000000) : Drw l 98 [.o (.d (.sl (ns.map a5b)))] (fun x : ByteArray => x ∈ ns) (fun x => os x) := by
 intro i h hi hh; refine mW Try.func98 rfl Try.call98 rfl (fun C b => ?_); simp only [go_sem, Try.ntmps98]
 refine aF ?_
 refine gX (kF l hl.1 hl.2 i h hi hh ns.length (by omega) (by omega)) ⟨rfl, rfl⟩ rfl rfl ?_
 rintro ⟨x, i1, h1⟩ ⟨⟨b1, b2⟩, b3, b4⟩
 simp only at b1 b2 b3 b4
 obtain ⟨k, rfl⟩ := Int.eq_ofNat_of_zero_le b1
 have hk : k < ns.length := by omega
 simp only [go_sem]
 have q0 := @hk; refine gU ?_
 exact aJ (ns[k], i1, h1) ⟨⟨_, rfl, by simp only [go_sem]⟩, trivial⟩ ⟨List.getElem_mem hk, ⟨b3, b4⟩⟩ (by simp only [go_sem])
theorem eP {l : List Int} (hl : gM l) (ns : List Int) (h0 : 1 ≤ ns.length) (h1 : ns.length ≤ 1000000000) : Drw l 100 [.o (.d (.sl (ns.map iN)))] (fun x : Int => x ∈ ns) (fun x => oi x) := by
 intro i h hi hh; refine mW Try.func100 rfl Try.call100 rfl (fun C b => ?_); simp only [go_sem, Try.ntmps100]
 refine aF ?_
 refine gX (kF l hl.1 hl.2 i h hi hh ns.length (by omega) (by omega)) ⟨rfl, rfl⟩ rfl rfl ?_
 rintro ⟨x, i1, h1⟩ ⟨⟨b1, b2⟩, b3, b4⟩
 simp only at b1 b2 b3 b4
 obtain ⟨k, rfl⟩ := Int.eq_ofNat_of_zero_le b1
 have hk : k < ns.length := by omega
 simp only [go_sem]
 have q0 := @hk; refine gU ?_
 exact aJ (ns[k], i1, h1) ⟨⟨_, rfl, by simp only [go_sem]⟩, trivial⟩ ⟨List.getElem_mem hk, ⟨b3, b4⟩⟩ (by simp only [go_sem])
theorem kE (n : Int) : FnC Try.prog 95 [oi n] (iO ⟨1, n, ⟨#[]⟩⟩) := by
 refine ent Try.func95 rfl Try.call95 rfl (fun C => ?_); simp only [go_sem, st0, Try.ntmps95]
 refine aF ?_
 exact aA ⟨⟨_, rfl, by simp only [go_sem]⟩, trivial⟩
theorem lT (s : ByteArray) : FnC Try.prog 97 [os s] (iO ⟨2, 0, s⟩) := by
 refine ent Try.func97 rfl Try.call97 rfl (fun C => ?_); simp only [go_sem, st0, Try.ntmps97]
 refine aF ?_
 exact aA ⟨⟨_, rfl, by simp only [go_sem]⟩, trivial⟩
def w1 (s : ByteArray) : Prop := s.size ≤ 6
@[go_sem] def a7J : List ByteArray := [⟨#[97]⟩, ⟨#[98]⟩, ⟨#[110]⟩, ⟨#[116]⟩, ⟨#[97]⟩, ⟨#[98]⟩, ⟨#[116]⟩, ⟨#[122]⟩, ⟨#[65]⟩, ⟨#[]⟩]
theorem a7K : ∀ s ∈ a7J, s.size ≤ 6 := by decide +kernel
theorem xD {l : List Int} (hl : gM l) : Drw l 101 [] (fun s : ByteArray => w1 s) (fun s => os s) := by
 intro i h hi hh; refine mW Try.func101 rfl Try.call101 rfl (fun C b => ?_); simp only [go_sem, Try.ntmps101]
 refine aF ?_
 first | (refine aY (cB hl a7J (by decide) (by decide) i h hi hh) ⟨rfl, rfl⟩ ?_ rfl ?_; (focus first | rfl | (simp only [go_sem]; done))) | (refine hZ (cB hl a7J (by decide) (by decide) i h hi hh) ⟨rfl, rfl⟩ ?_ rfl ?_; (focus first | rfl | (simp only [go_sem]; done)))
 clear hi hh; rintro ⟨s, i, h⟩ ⟨hs, hi, hh⟩; simp only at hs hi hh; simp only [go_sem]
 refine aF ?_
 exact aJ (s, i, h) ⟨⟨_, rfl, by simp only [go_sem]⟩, trivial⟩ ⟨a7K s hs, ⟨hi, hh⟩⟩ (by simp only [go_sem])
@[go_sem] def b0L : List ByteArray := [⟨#[100, 97]⟩, ⟨#[100, 98]⟩, ⟨#[100, 99]⟩, ⟨#[100, 100]⟩, ⟨#[100, 101]⟩, ⟨#[122, 122]⟩, ⟨#[]⟩]
@[go_sem] def nm9 : List ByteArray := [⟨#[100, 97]⟩, ⟨#[100, 98]⟩, ⟨#[100, 99]⟩, ⟨#[100, 100]⟩, ⟨#[100, 97]⟩, ⟨#[100, 98]⟩, ⟨#[100, 99]⟩]
theorem a8T : ∀ s ∈ nm9, s.size ≤ 6 := by decide +kernel
theorem fJ {l : List Int} (hl : gM l) : Drw l 141 [] (fun s : ByteArray => w1 s) (fun s => os s) := by
 intro i h hi hh; refine mW Try.func141 rfl Try.call141 rfl (fun C b => ?_); simp only [go_sem, Try.ntmps141]
 refine aF ?_
 first | (refine aY (cB hl nm9 (by decide) (by decide) i h hi hh) ⟨rfl, rfl⟩ ?_ rfl ?_; (focus first | rfl | (simp only [go_sem]; done))) | (refine hZ (cB hl nm9 (by decide) (by decide) i h hi hh) ⟨rfl, rfl⟩ ?_ rfl ?_; (focus first | rfl | (simp only [go_sem]; done)))
 clear hi hh; rintro ⟨s, i, h⟩ ⟨hs, hi, hh⟩; simp only at hs hi hh; simp only [go_sem]
 refine aF ?_
 exact aJ (s, i, h) ⟨⟨_, rfl, by simp only [go_sem]⟩, trivial⟩ ⟨a8T s hs, ⟨hi, hh⟩⟩ (by simp only [go_sem])
@[go_sem] def us6 : List Int := [0, 1, 2, 0, 1, 3, -1]
@[go_sem] def id5 : List Int := [1, 2, 3, 4, 5, 2, 3, 9, 0, -1, 9223372036854775807]
structure valD (v : TValue) : Prop where
 w : v.fStr.size ≤ 7
 k : inR .i64 v.fKind
 n : inR .i64 v.fInt
@[go_sem] def wd3 : List ByteArray := [⟨#[114, 101, 100]⟩, ⟨#[98, 108, 117, 101]⟩, ⟨#[105, 110, 107]⟩]
theorem in0 : inR .i64 0 := by simp [inR]
theorem in1 : inR .i64 1 := by simp [inR]
theorem in2 : inR .i64 2 := by simp [inR]
theorem a4W {x : Int} (h : inR .i64 x) : valD ⟨1, x, ⟨#[]⟩⟩ := ⟨Nat.zero_le 7, in1, h⟩
theorem a4X {s : ByteArray} (h : s.size ≤ 7) : valD ⟨2, 0, s⟩ := ⟨h, in2, in0⟩
theorem a7L : valD ⟨0, 0, ⟨#[]⟩⟩ := ⟨Nat.zero_le 7, in0, in0⟩
theorem uP {l : List Int} (hl : gM l) : Drw l 133 [] (fun v : TValue => valD v) (fun v => iO v) := by
 intro i h hi hh; refine mW Try.func133 rfl Try.call133 rfl (fun C b => ?_); simp only [go_sem, Try.ntmps133]
 refine aF ?_
 first | (refine aY (aH hl 5 (by decide) (by decide) i h hi hh) ⟨rfl, rfl⟩ ?_ rfl ?_; (focus first | rfl | (simp only [go_sem]; done))) | (refine hZ (aH hl 5 (by decide) (by decide) i h hi hh) ⟨rfl, rfl⟩ ?_ rfl ?_; (focus first | rfl | (simp only [go_sem]; done)))
 clear hi hh; rintro ⟨k, i, h⟩ ⟨hk, hi, hh⟩; simp only at hk hi hh; simp only [go_sem]
 have h5 : k = 0 ∨ k = 1 ∨ k = 2 ∨ k = 3 ∨ k = 4 := by omega
 rcases h5 with rfl | rfl | rfl | rfl | rfl
 ·refine aF ?_
  exact aJ (⟨0, 0, ⟨#[]⟩⟩, i, h) ⟨⟨_, rfl, by simp only [go_sem]⟩, trivial⟩ ⟨a7L, ⟨hi, hh⟩⟩ (by simp only [go_sem])
 ·refine aF ?_
  first | (refine aY (aH hl 5 (by decide) (by decide) i h hi hh) ⟨rfl, rfl⟩ ?_ rfl ?_; (focus first | rfl | (simp only [go_sem]; done))) | (refine hZ (aH hl 5 (by decide) (by decide) i h hi hh) ⟨rfl, rfl⟩ ?_ rfl ?_; (focus first | rfl | (simp only [go_sem]; done)))
  clear hi hh; rintro ⟨x, i, h⟩ ⟨hx, hi, hh⟩; simp only at hx hi hh; simp only [go_sem]
  refine lS (kE x) ?_
  exact aJ (⟨1, x, ⟨#[]⟩⟩, i, h) ⟨⟨_, rfl, by simp only [go_sem]⟩, trivial⟩ ⟨a4W (by simp only [inR]; omega), ⟨hi, hh⟩⟩ (by simp only [go_sem])
 ·refine aF ?_
  first | (refine aY (aH hl 5 (by decide) (by decide) i h hi hh) ⟨rfl, rfl⟩ ?_ rfl ?_; (focus first | rfl | (simp only [go_sem]; done))) | (refine hZ (aH hl 5 (by decide) (by decide) i h hi hh) ⟨rfl, rfl⟩ ?_ rfl ?_; (focus first | rfl | (simp only [go_sem]; done)))
  clear hi hh; rintro ⟨x, i, h⟩ ⟨hx, hi, hh⟩; simp only at hx hi hh; simp only [go_sem]
  refine lS (kE x) ?_
  exact aJ (⟨1, x, ⟨#[]⟩⟩, i, h) ⟨⟨_, rfl, by simp only [go_sem]⟩, trivial⟩ ⟨a4W (by simp only [inR]; omega), ⟨hi, hh⟩⟩ (by simp only [go_sem])
 ·refine aF ?_
  first | (refine aY (cB hl wd3 (by decide) (by decide) i h hi hh) ⟨rfl, rfl⟩ ?_ rfl ?_; (focus first | rfl | (simp only [go_sem]; done))) | (refine hZ (cB hl wd3 (by decide) (by decide) i h hi hh) ⟨rfl, rfl⟩ ?_ rfl ?_; (focus first | rfl | (simp only [go_sem]; done)))
  clear hi hh; rintro ⟨s, i, h⟩ ⟨hs, hi, hh⟩; simp only at hs hi hh; simp only [go_sem]
  have hw := (by decide +kernel : ∀ s ∈ wd3, s.size ≤ 7) s hs
  refine lS (lT s) ?_
  exact aJ (⟨2, 0, s⟩, i, h) ⟨⟨_, rfl, by simp only [go_sem]⟩, trivial⟩ ⟨a4X hw, ⟨hi, hh⟩⟩ (by simp only [go_sem])
 ·refine aF ?_
  first | (refine aY (cB hl wd3 (by decide) (by decide) i h hi hh) ⟨rfl, rfl⟩ ?_ rfl ?_; (focus first | rfl | (simp only [go_sem]; done))) | (refine hZ (cB hl wd3 (by decide) (by decide) i h hi hh) ⟨rfl, rfl⟩ ?_ rfl ?_; (focus first | rfl | (simp only [go_sem]; done)))
  clear hi hh; rintro ⟨s, i, h⟩ ⟨hs, hi, hh⟩; simp only at hs hi hh; simp only [go_sem]
  have hw := (by decide +kernel : ∀ s ∈ wd3, s.size ≤ 7) s hs
  refine lS (lT s) ?_
  exact aJ (⟨2, 0, s⟩, i, h) ⟨⟨_, rfl, by simp only [go_sem]⟩, trivial⟩ ⟨a4X hw, ⟨hi, hh⟩⟩ (by simp only [go_sem])
end Go.Proofs.Ytolgdibgnndoaaa
end
section
section
set_option linter.all false
set_option maxRecDepth 100000
set_option maxHeartbeats 4000000
namespace Go.Proofs.Ytolgdibgnndoaaa
open Go Go.Sx Go.RowKit Go.Proofs
def a9i (k : Nat) (out : ByteArray) : ByteArray :=
 if h : k = 0 then out else a9i (k / 10) (zA [(48 : Int) + ((k % 10 : Nat) : Int)] ++ out)
decreasing_by omega
def oM (k : Int) : ByteArray := ⟨#[109]⟩ ++ a9i k.toNat ⟨#[]⟩
def sM (x : Int) : Nat := 1
def a3o (x : Int) (k : Int) : Int := k
def b0D (x : ByteArray) : Nat := 1
def b0E (x : ByteArray) (k : Int) : ByteArray := (oM k)
def b0k (x : Bool) : Nat := 1
def b0l (x : Bool) (k : Int) : Bool := (decide (Int.tmod k 3 = 0))
end Go.Proofs.Ytolgdibgnndoaaa
end
section
set_option linter.all false
set_option maxRecDepth 100000
set_option maxHeartbeats 4000000
namespace Go.Proofs.Ytolgdibgnndoaaa
open Go Go.Sx Go.RowKit Go.Proofs
def a9F (x : TField) : Nat := 2
def a9G (x : TField) (k : Int) : TField := ⟨(oM k), (k + 1)⟩
def qO (x : TAttr) : Nat := 4
def a5t (x : TAttr) (k : Int) : TAttr := ⟨(oM k), ⟨(k + 1), ((k + 1) + 1), (oM (((k + 1) + 1) + 1))⟩⟩
def a0B (x : TNode) : Nat := 7
def a5u (x : TNode) (k : Int) : TNode := ⟨k, (k + 1), ((k + 1) + 1), (oM (((k + 1) + 1) + 1)), ⟨((((k + 1) + 1) + 1) + 1), (((((k + 1) + 1) + 1) + 1) + 1), (oM ((((((k + 1) + 1) + 1) + 1) + 1) + 1))⟩⟩
end Go.Proofs.Ytolgdibgnndoaaa
end
section
set_option linter.all false
set_option maxRecDepth 100000
set_option maxHeartbeats 4000000
namespace Go.Proofs.Ytolgdibgnndoaaa
open Go Go.Sx Go.RowKit Go.Proofs
def b0m (x : TFile) : Nat := 4 + pM qO x.fAttrs
def b0n (x : TFile) (k : Int) : TFile := ⟨k, (k + 1), (decide (Int.tmod ((k + 1) + 1) 3 = 0)), (((k + 1) + 1) + 1), (mkL a5t qO x.fAttrs ((((k + 1) + 1) + 1) + 1))⟩
def b0F (x : TDir) : Nat := 1 + pM a0B x.fQuery
def b0G (x : TDir) (k : Int) : TDir := ⟨(oM k), (mkL a5u a0B x.fQuery (k + 1))⟩
def a9j (x : TResult) : Nat := 1 + pM sM x.fIDs
def a9k (x : TResult) (k : Int) : TResult := ⟨(oM k), (mkL a3o sM x.fIDs (k + 1))⟩
def b0o (x : TDiff) : Nat := 1 + pM sM x.fAdded + pM sM x.fRemoved
def b0p (x : TDiff) (k : Int) : TDiff := ⟨(oM k), (mkL a3o sM x.fAdded (k + 1)), (mkL a3o sM x.fRemoved ((k + 1) + (pM sM x.fAdded : Nat)))⟩
def a9H (x : TGroup) : Nat := 3 + pM sM x.fIDs
def a9I (x : TGroup) (k : Int) : TGroup := ⟨⟨k, (k + 1), (oM ((k + 1) + 1))⟩, (mkL a3o sM x.fIDs (((k + 1) + 1) + 1))⟩
def a9l (x : TChange) : Nat := 7 + pM qO x.fFile.fAttrs + pM a0B x.fDir.fQuery
def a9m (x : TChange) (k : Int) : TChange := ⟨k, ⟨(k + 1), ((k + 1) + 1), (decide (Int.tmod (((k + 1) + 1) + 1) 3 = 0)), ((((k + 1) + 1) + 1) + 1), (mkL a5t qO x.fFile.fAttrs (((((k + 1) + 1) + 1) + 1) + 1))⟩, ((((((k + 1) + 1) + 1) + 1) + 1) + (pM qO x.fFile.fAttrs : Nat)), ⟨(oM (((((((k + 1) + 1) + 1) + 1) + 1) + (pM qO x.fFile.fAttrs : Nat)) + 1)), (mkL a5u a0B x.fDir.fQuery ((((((((k + 1) + 1) + 1) + 1) + 1) + (pM qO x.fFile.fAttrs : Nat)) + 1) + 1))⟩⟩
end Go.Proofs.Ytolgdibgnndoaaa
end
section
set_option linter.all false
set_option maxRecDepth 100000
set_option maxHeartbeats 4000000
namespace Go.Proofs.Ytolgdibgnndoaaa
open Go Go.Sx Go.RowKit Go.Proofs
end Go.Proofs.Ytolgdibgnndoaaa
end
section
set_option linter.all false
namespace Go.Proofs.Ytolgdibgnndoaaa
open Go Go.Sx Go.RowKit Go.Proofs
end Go.Proofs.Ytolgdibgnndoaaa
end
end
section
section
set_option linter.all false
namespace Go.Sx
open Go Go.RowKit
def a5w {α : Type} (e : α → Value) (l : List α) : List (List D) := l.map fun x => [.v (e x)]
theorem uC {α : Type} (e : α → Value) (l : List α) : (a5w e l).flatten = l.map fun x => D.v (e x) := by
 induction l with
 | nil => rfl
 | cons x l ih => simp only [a5w, List.map_cons, List.flatten_cons] at ih ⊢; rw [ih]; rfl
end Go.Sx
end
section
set_option linter.all false
namespace Go.Sx
open Go Go.RowKit
structure RowAt (w wr : World) (b ty N : Nat) (F : List Value) : Prop where
 cells : ∃ c : Array Value, wr.heap[b]? = some (.cells c ty (0, 0)) ∧ c.size = N ∧ F <+: c.toList
 grown : w.grownBy wr (some b)
theorem a0E (w : World) (r : Option Nat) : w.grownBy w r := ⟨rfl, rfl, rfl, Nat.le_refl _, fun _ _ _ => rfl⟩
theorem kX {w w1 w2 : World} {r : Option Nat} (h1 : w.grownBy w1 r) (h2 : w1.grownBy w2 r) : w.grownBy w2 r :=
 ⟨h2.os.trans h1.os, h2.tape.trans h1.tape, h2.output.trans h1.output, Nat.le_trans h1.size h2.size, fun k hk hn => (h2.block k (Nat.lt_of_lt_of_le hk h1.size) hn).trans (h1.block k hk hn)⟩
theorem kY {w w' : World} (r : Option Nat) (h : Below w.heap.size w w') : w.grownBy w' r := ⟨h.os, h.tape, h.output, h.size, fun k hk _ => h.block k hk⟩
variable {w wr : World} {b ty N : Nat} {F : List Value}
theorem RowAt.lt (h : RowAt w wr b ty N F) : b < wr.heap.size := by
 obtain ⟨c, h1, _⟩ := h.cells
 exact (Array.getElem?_eq_some_iff.1 h1).1
theorem RowAt.le (h : RowAt w wr b ty N F) : F.length ≤ N := by
 obtain ⟨c, _, h2, h3⟩ := h.cells
 have := h3.length_le
 simpa [h2] using this
theorem RowAt.cell (h : RowAt w wr b ty N F) {t : Nat} {v : Value} (ht : F[t]? = some v) : wr.cell? ⟨b, t, none⟩ = some v := by
 obtain ⟨c, h1, h2, h3⟩ := h.cells
 have := fD h3 ht
 simp only [World.cell?, h1, Option.isSome_none, Bool.false_eq_true, if_false]
 rw [← Array.getElem?_toList]; exact this
theorem RowAt.there (h : RowAt w wr b ty N F) {t : Nat} (ht : t < N) : (wr.cell? ⟨b, t, none⟩).isSome = true := by
 obtain ⟨c, h1, h2, h3⟩ := h.cells
 simp only [World.cell?, h1, Option.isSome_none, Bool.false_eq_true, if_false]
 simp [h2, ht]
theorem RowAt.frozen (h : RowAt w wr b ty N F) (t : Nat) : wr.frozen? ⟨b, t, none⟩ = false := by
 obtain ⟨c, h1, _⟩ := h.cells
 simp [World.frozen?, h1]
theorem RowAt.behind (h : RowAt w wr b ty N F) {w' : World} (hb : Below wr.heap.size wr w') : RowAt w w' b ty N F := by
 obtain ⟨c, h1, h2, h3⟩ := h.cells
 exact ⟨⟨c, by rw [hb.block b h.lt]; exact h1, h2, h3⟩, kX h.grown (kY _ hb)⟩
theorem yI (F : List Value) (s : Nat) (v : Value) (c : List Value) (hF : F <+: c) (hs : s ≤ F.length) (hc : s < c.length) : F.take s ++ v :: F.drop (s + 1) <+: c.set s v := by
 obtain ⟨r, rfl⟩ := hF
 rcases Nat.lt_or_ge s F.length with h | h
 ·refine ⟨r, ?_⟩
  rw [List.set_append_left _ _ h, List.set_eq_take_append_cons_drop, if_pos h]
 ·have e : s = F.length := by omega
  subst e
  rw [List.take_of_length_le (Nat.le_refl _), List.drop_of_length_le (by omega), List.set_append_right _ _ (Nat.le_refl _), Nat.sub_self]
  cases r with
  | nil => simp at hc
  | cons x r => exact ⟨r, by simp⟩
theorem RowAt.set1 (h : RowAt w wr b ty N F) {s : Nat} (hs : s ≤ F.length) (hN : s < N) (v : Value) : RowAt w (wr.setCell ⟨b, s, none⟩ v) b ty N (F.take s ++ v :: F.drop (s + 1)) := by
 obtain ⟨c, h1, h2, h3⟩ := h.cells
 rw [Sort.setCell_eq]
 refine ⟨⟨c.setIfInBounds s v, ?_, by simp [h2], ?_⟩, kX h.grown ⟨rfl, rfl, rfl, by simp [Sort.mapBlock], fun k hk hne => ?_⟩⟩
 ·simp only [Sort.mapBlock, Array.getElem?_modify, if_true, h1, Option.map_some, Sort.onCells]
 ·rw [Array.toList_setIfInBounds]
  exact yI F s v c.toList h3 hs (by simpa [h2] using hN)
 ·simp only [Sort.mapBlock, Array.getElem?_modify]
  rw [if_neg (fun e => hne (by rw [e]))]
theorem RowAt.set : ∀ (vs : List Value) {wr : World} {F : List Value} {s : Nat}, RowAt w wr b ty N F → s ≤ F.length → s + vs.length ≤ N → RowAt w (wr.setCells b s vs) b ty N (F.take s ++ vs ++ F.drop (s + vs.length))
 | [], wr, F, s, h, hs, hN => by simpa [World.setCells] using h
 | v :: vs, wr, F, s, h, hs, hN => by
  simp only [List.length_cons] at hN
  have h1 := h.set1 hs (by omega) v
  have h2 := RowAt.set vs (s := s + 1) h1 (by simp; omega) (by omega)
  rw [World.setCells]
  have e1 : (F.take s ++ v :: F.drop (s + 1)).take (s + 1) = F.take s ++ [v] := by
   rw [List.take_append, List.take_of_length_le (by simp; omega), List.length_take, Nat.min_eq_left hs, Nat.add_sub_cancel_left]; rfl
  have e2 : (F.take s ++ v :: F.drop (s + 1)).drop (s + 1 + vs.length) = F.drop (s + (vs.length + 1)) := by
   rw [List.drop_append, List.drop_of_length_le (by simp; omega), List.length_take, Nat.min_eq_left hs, List.nil_append, show s + 1 + vs.length - s = vs.length + 1 by omega, List.drop_succ_cons, List.drop_drop]
   congr 1; omega
  rw [e1, e2] at h2
  simpa [List.append_assoc] using h2
end Go.Sx
end
section
set_option linter.all false
namespace Go.Proofs.Ytolgdibgnndoaaa
open Go Go.Sx Go.RowKit Go.Proofs Go.Lib
structure DelInv {α : Type} (e : α → Value) (p : α → Bool) (xs : List α) (i j : Nat) (F : List Value) : Prop where
 len : F.length = xs.length
 ij : i < j
 jn : j ≤ xs.length
 lo : F.take i = ((xs.take j).filter fun x => !p x).map e
 hi : F.drop j = (xs.drop j).map e
 il : i = ((xs.take j).filter fun x => !p x).length
theorem pQ {α : Type} (p : α → Bool) (xs : List α) (k : Nat) (h : ∀ j (hj : j < xs.length), j < k → p xs[j] = false) : (xs.take k).filter (fun x => !p x) = xs.take k := by
 refine List.filter_eq_self.2 fun x hx => ?_
 obtain ⟨j, hj, rfl⟩ := List.mem_iff_getElem.1 hx
 simp only [List.length_take] at hj
 rw [List.getElem_take, h j (by omega) (by omega)]; rfl
theorem DelInv.at {α : Type} {e : α → Value} {p : α → Bool} {xs : List α} {i j : Nat} {F : List Value} (h : DelInv e p xs i j F) (hj : j < xs.length) : F[j]? = some (e xs[j]) := by
 have h0 : (F.drop j)[0]? = ((xs.drop j).map e)[0]? := by rw [h.hi]
 rw [List.getElem?_drop, Nat.add_zero] at h0
 rw [h0, List.getElem?_map, List.getElem?_drop, Nat.add_zero, List.getElem?_eq_getElem hj]; rfl
theorem DelInv.start {α : Type} {e : α → Value} {p : α → Bool} {xs : List α} {k : Nat} (hk : k < xs.length) (h : ∀ j (hj : j < xs.length), j < k → p xs[j] = false) (hp : p xs[k] = true) : DelInv e p xs k (k + 1) (xs.map e) := by
 have e1 : (xs.take (k + 1)).filter (fun x => !p x) = xs.take k := by
  rw [List.take_succ_eq_append_getElem hk, List.filter_append, pQ p xs k h]
  simp [hp]
 refine ⟨by simp, by omega, by omega, ?_, by simp, ?_⟩
 ·rw [e1, List.map_take]
 ·rw [e1]; simp; omega
theorem DelInv.keep {α : Type} {e : α → Value} {p : α → Bool} {xs : List α} {i j : Nat} {F : List Value} (h : DelInv e p xs i j F) (hj : j < xs.length) (hp : p xs[j] = false) : DelInv e p xs (i + 1) (j + 1) (F.take i ++ [e xs[j]] ++ F.drop (i + 1)) := by
 have e1 : (xs.take (j + 1)).filter (fun x => !p x) = (xs.take j).filter (fun x => !p x) ++ [xs[j]] := by
  rw [List.take_succ_eq_append_getElem hj, List.filter_append]
  simp [hp]
 have hl := h.len
 have hij := h.ij
 refine ⟨by simp; omega, by omega, by omega, ?_, ?_, ?_⟩
 ·rw [List.take_append_of_le_length (by simp; omega), List.take_of_length_le (by simp; omega), e1, List.map_append, h.lo]; rfl
 ·rw [List.drop_append, List.drop_of_length_le (by simp; omega), List.nil_append, List.drop_drop]
  have : F.drop (j + 1) = (xs.drop (j + 1)).map e := by rw [← List.drop_drop, h.hi, ← List.map_drop, List.drop_drop]
  rw [← this]
  congr 1
  simp; omega
 ·rw [e1, List.length_append, ← h.il]; rfl
theorem DelInv.skip {α : Type} {e : α → Value} {p : α → Bool} {xs : List α} {i j : Nat} {F : List Value} (h : DelInv e p xs i j F) (hj : j < xs.length) (hp : p xs[j] = true) : DelInv e p xs i (j + 1) F := by
 have e1 : (xs.take (j + 1)).filter (fun x => !p x) = (xs.take j).filter (fun x => !p x) := by
  rw [List.take_succ_eq_append_getElem hj, List.filter_append]
  simp [hp]
 have hij := h.ij
 exact ⟨h.len, by omega, by omega, by rw [e1]; exact h.lo, by rw [← List.drop_drop, h.hi, ← List.map_drop, List.drop_drop], by rw [e1]; exact h.il⟩
end Go.Proofs.Ytolgdibgnndoaaa
end
section
set_option linter.all false
set_option maxRecDepth 100000
namespace Go.Sx
open Go Go.RowKit
theorem RowAt.mod {V : View} {w W : World} {b ty N : Nat} {F : List Value} (hm : Mod V w) (hV : V b = none) (h : RowAt w W b ty N F) : Mod V W := fun k cs hk => by
 obtain ⟨c, t, fz, e1, e2⟩ := hm k cs hk
 exact ⟨c, t, fz, by rw [h.grown.block k (Array.getElem?_eq_some_iff.1 e1).1 (fun e => by cases e; rw [hV] at hk; cases hk)]; exact e1, e2⟩
def xL (V : View) (b : Nat) (cs : List Value) : View := fun k => if k = b then some cs else V k
theorem a1I {V : View} {b : Nat} (hV : V b = none) (cs : List Value) : V.le (xL V b cs) := fun k c hk => ⟨c, by
 unfold xL
 rw [if_neg (fun e => by subst e; rw [hV] at hk; cases hk)]; exact hk, List.prefix_refl _⟩
theorem a4d {V : View} {w : World} {b ty N : Nat} {F : List Value} (hm : Mod V w) (h : RowAt w w b ty N F) : Mod (xL V b F) w := fun k cs hk => by
 unfold xL at hk
 split at hk
 ·cases hk
  rename_i e
  subst e
  obtain ⟨c, e1, _, e3⟩ := h.cells
  exact ⟨c, ty, (0, 0), e1, e3⟩
 ·exact hm k cs hk
theorem RowAt.row {α : Type} {e : α → Value} (hs : ∀ x, scalar (e x) = true) {V : View} {w w' : World} {ty b cap : Nat} {l : List α} {G : List Value} (h : RowAt w w' b ty cap (l.map e ++ G)) (hcap : cap ≤ maxLen) (hV : V b = none) : RowR V w' ty 1 (a5w e l) (.slice (some ⟨b, 0, none⟩) l.length cap) [b] := by
 have hle := h.le
 rw [List.length_append, List.length_map] at hle
 obtain ⟨c, h1, h2, h3⟩ := h.cells
 refine ⟨fun r hr => ?_, l.map e, List.replicate l.length [], ⟨by rw [uC]; simp, by rw [uC]; simp, fun k dd y s q1 q2 q3 => ?_⟩, .inr ⟨b, cap, c, by simp [a5w], by simp [a5w]; omega, hcap, h1, by simp [h2], (List.prefix_append _ _).trans h3, hV, by simp⟩⟩
 ·obtain ⟨x, _, rfl⟩ := List.mem_map.1 hr; rfl
 ·rw [uC, List.getElem?_map] at q1
  rw [List.getElem?_map] at q2
  cases hk : l[k]? with
  | none => rw [hk] at q1; cases q1
  | some x =>
   rw [hk] at q1 q2
   cases q1; cases q2
   rw [List.getElem?_replicate] at q3
   split at q3
   ·cases q3; exact .v _ (hs x)
   ·cases q3
theorem a5x {V : View} (ao : Option Addr) : ∃ S, Lay V (.sl []) (.slice ao 0 0) S := by
 cases ao with
 | none => exact ⟨_, .nil⟩
 | some a => exact ⟨_, .sl [] a 0 0 [] [] (by simp) (by simp) (by simp [maxLen]) rfl rfl (fun k y h => by simp at h) (fun k d y S h => by simp at h)⟩
end Go.Sx
end
section
set_option linter.all false
set_option maxRecDepth 100000
set_option maxHeartbeats 4000000
namespace Go.Proofs.Ytolgdibgnndoaaa
open Go Go.Sx Go.RowKit Go.Proofs
def gY {α : Type} (p : α → Bool) : List α → Nat → Int
 | [], _ => -1
 | x :: xs, k => if p x then k else gY p xs (k + 1)
theorem idxP_spec {α : Type} (p : α → Bool) : ∀ (xs : List α) (k : Nat), (gY p xs k = -1 ∧ ∀ x ∈ xs, p x = false) ∨ ∃ k0 : Nat, gY p xs k = ((k + k0 : Nat) : Int) ∧ ∃ h : k0 < xs.length, p xs[k0] = true ∧ ∀ j (hj : j < xs.length), j < k0 → p xs[j] = false
 | [], k => .inl ⟨rfl, fun x hx => by simp at hx⟩
 | x :: xs, k => by
  unfold gY
  cases hx : p x with
  | true => exact .inr ⟨0, by simp, by simp, by simpa using hx, fun j hj h => by omega⟩
  | false =>
   rcases idxP_spec p xs (k + 1) with ⟨h1, h2⟩ | ⟨k0, h1, h2, h3, h4⟩
   ·exact .inl ⟨by simpa using h1, fun y hy => by
     rcases List.mem_cons.1 hy with rfl | hy
     ·exact hx
     ·exact h2 y hy⟩
   ·refine .inr ⟨k0 + 1, by simp only [Bool.false_eq_true, if_false]; rw [h1]; congr 1; omega, by simp; omega, by simpa using h3, fun j hj hk => ?_⟩
    cases j with
    | zero => simpa using hx
    | succ j => simpa using h4 j (by simpa using hj) (by omega)
theorem a3p {V : View} {w w' : World} {v y : Value} (hs : scalar v = true) (h : Done V w (.o (.d (.v v))) y w') : Ending.returned y = Ending.returned v := by
 obtain ⟨V', S, _, _, _, ⟨l, hsh, Ss, r1, r2, r3, r4⟩, _, _⟩ := h.out
 have hl : l = [y] := hsh
 subst hl
 have hlt : 0 < Ss.length := by rw [r2]; simp [SV.all]
 obtain ⟨_, T, hL⟩ := r4 0 (.d (.v v)) y _ rfl rfl (List.getElem?_eq_getElem hlt)
 cases hL
 rfl
theorem a0F {V : View} {w w' : World} {n : Int} {y : Value} (h : Done V w (oi n) y w') : Ending.returned y = Ending.returned (.int .i64 n) := a3p rfl h
theorem a6K {V : View} {w w' : World} {n : Bool} {y : Value} (h : Done V w (ob n) y w') : Ending.returned y = Ending.returned (.bool n) := a3p rfl h
end Go.Proofs.Ytolgdibgnndoaaa
end
end
section
set_option maxRecDepth 100000
namespace Go.Sx
open Go Go.RowKit
theorem mZ {P : Program} (w : World) (dT sT ty elem : TypeId) (k b o dLen dCap : Nat) (a : Addr) (sLen sCap : Nat) (cs : List Value)
    (hu : P.underlying dT = some (.slice elem)) (hs : (P.info? elem).map (·.size) = some k) (hn : cs.length = Nat.min sLen dLen * k)
    (hsrc : ∀ j v, cs[j]? = some v → w.cell? (a.add j) = some v) (hc : ∀ j, j < cs.length → (w.cell? ⟨b, o + j, none⟩).isSome = true) (hf : ∀ j, j < cs.length → w.frozen? ⟨b, o + j, none⟩ = false) (h1 : ∀ v ∈ cs, v.oneCell' = true) :
    (Builtin.copy_ #[dT, sT] ty #[.slice (some ⟨b, o, none⟩) dLen dCap, .slice (some a) sLen sCap]).run P w = .ok (goInt (Nat.min sLen dLen)) (w.setCells b o cs) := by
 have hl := run_loadCells_list (P := P) w a cs hsrc
 have hst := run_storeCells_cells (P := P) b o cs 0 w (by simpa using hc) (by simpa using hf) h1
 rw [hn] at hl
 cases hq : P.info? elem with
 | none => simp [hq] at hs
 | some i =>
  have hi : i.size = k := by simpa [hq] using hs
  simp [Builtin.copy_, run_underlying hu, Builtin.lenOf, Builtin.firstCells, sizeOf, typeInfo, hq, hi, hl, hst]
theorem a1H {P : Program} (w : World) (t e ty : TypeId) (z : Value) (ht : P.underlying t = some (.slice e)) (hv : ∀ w, (zeroValue e).run P w = .ok z w) (b o n c : Nat) (hn : 0 < n)
    (hc : ∀ j, j < n * z.cells.size → (w.cell? ⟨b, o + j, none⟩).isSome = true) (hf : ∀ j, j < n * z.cells.size → w.frozen? ⟨b, o + j, none⟩ = false) (h1 : ∀ v ∈ (Builtin.zeroCells z.cells n).toList, v.oneCell' = true) :
    (Builtin.clear_ #[t] ty #[.slice (some ⟨b, o, none⟩) n c]).run P w = .ok (.tuple #[]) (w.setCells b o (Builtin.zeroCells z.cells n).toList) := by
 have hl : (Builtin.zeroCells z.cells n).toList.length = n * z.cells.size := by simp [Builtin.zeroCells]
 have hst := run_storeCells_cells (P := P) b o (Builtin.zeroCells z.cells n).toList 0 w (by rw [hl]; simpa using hc) (by rw [hl]; simpa using hf) h1
 simp only [Nat.add_zero] at hst
 obtain ⟨m, rfl⟩ : ∃ m, n = m + 1 := ⟨n - 1, by omega⟩
 simp [Builtin.clear_, run_underlying ht, hv, hst]
theorem qA (z : Array Value) (n : Nat) : (Builtin.zeroCells z n).toList.length = n * z.size := by simp [Builtin.zeroCells]
theorem yH {z : Array Value} (h : ∀ v ∈ z.toList, v.oneCell' = true) (n : Nat) : ∀ v ∈ (Builtin.zeroCells z n).toList, v.oneCell' = true := by
 intro v hv
 obtain ⟨j, hj, rfl⟩ := List.mem_iff_getElem.1 hv
 rw [qA] at hj
 have hz : 0 < z.size := by
  rcases Nat.eq_zero_or_pos z.size with e | e
  ·rw [e] at hj; omega
  ·exact e
 have hm : j % z.size < z.size := Nat.mod_lt _ hz
 simp only [Builtin.zeroCells, Array.toList_map, Array.toList_range, List.getElem_map, List.getElem_range]
 rw [getElem!_pos z (j % z.size) hm]
 exact h _ (by simp)
theorem LayL.take {V : View} {ds : List D} {ys : List Value} {Ss : List (List Nat)} (h : LayL V ds ys Ss) (n : Nat) : LayL V (ds.take n) (ys.take n) (Ss.take n) :=
 ⟨by simp [h.1], by simp [h.2.1], fun k d y S h1 h2 h3 => by
  rw [List.getElem?_take] at h1 h2 h3
  split at h1
  ·rw [if_pos ‹_›] at h2 h3; exact h.2.2 k d y S h1 h2 h3
  ·cases h1⟩
theorem LayL.drop {V : View} {ds : List D} {ys : List Value} {Ss : List (List Nat)} (h : LayL V ds ys Ss) (n : Nat) : LayL V (ds.drop n) (ys.drop n) (Ss.drop n) :=
 ⟨by simp [h.1], by simp [h.2.1], fun k d y S h1 h2 h3 => by
  rw [List.getElem?_drop] at h1 h2 h3
  exact h.2.2 _ d y S h1 h2 h3⟩
theorem xI {α : Type} {sz : Nat} : ∀ {rows : List (List α)}, (∀ r ∈ rows, r.length = sz) → rows.flatten.length = rows.length * sz
 | [], _ => by simp
 | r :: rows, h => by
  rw [List.flatten_cons, List.length_append, xI (fun r hr => h r (by simp [hr])), h r (by simp), List.length_cons, Nat.add_mul]; omega
theorem tZ {α : Type} {sz : Nat} : ∀ {rows : List (List α)} (i : Nat), (∀ r ∈ rows, r.length = sz) → (rows.take i).flatten = rows.flatten.take (i * sz)
 | [], i, _ => by simp
 | r :: rows, 0, h => by simp
 | r :: rows, i + 1, h => by
  have e := h r (by simp)
  rw [List.take_succ_cons, List.flatten_cons, List.flatten_cons, tZ i (fun r hr => h r (by simp [hr])), List.take_append, List.take_of_length_le (l := r) (by rw [e, Nat.add_mul]; omega)]
  congr 2
  rw [e, Nat.add_mul]; omega
theorem jQ {α : Type} {sz : Nat} : ∀ {rows : List (List α)} (i : Nat), (∀ r ∈ rows, r.length = sz) → (rows.drop i).flatten = rows.flatten.drop (i * sz)
 | [], i, _ => by simp
 | r :: rows, 0, h => by simp
 | r :: rows, i + 1, h => by
  have e := h r (by simp)
  rw [List.drop_succ_cons, List.flatten_cons, jQ i (fun r hr => h r (by simp [hr])), List.drop_append, List.drop_of_length_le (l := r) (by rw [e, Nat.add_mul]; omega), List.nil_append]
  congr 1
  rw [e, Nat.add_mul]; omega
theorem RowAt.drew {w wr : World} {b ty N : Nat} {F : List Value} (h : RowAt w wr b ty N F) : RowAt w wr.drew b ty N F := by
 obtain ⟨c, h1, h2, h3⟩ := h.cells
 exact ⟨⟨c, h1, h2, h3⟩, kX h.grown ⟨rfl, rfl, rfl, Nat.le_refl _, fun _ _ _ => rfl⟩⟩
theorem RowAt.shape {w wr : World} {b ty N : Nat} {F : List Value} (h : RowAt w wr b ty N F) : wr.shape? b = some (ty, N) := by
 obtain ⟨c, h1, h2, h3⟩ := h.cells
 simp [World.shape?, h1, h2]
theorem RowAt.pre {w wr : World} {b ty N : Nat} {F G : List Value} (h : RowAt w wr b ty N F) (hp : G <+: F) : RowAt w wr b ty N G := by
 obtain ⟨c, h1, h2, h3⟩ := h.cells
 exact ⟨⟨c, h1, h2, hp.trans h3⟩, h.grown⟩
theorem xJ {V : View} {w : World} {ty sz : Nat} {rows : List (List D)} {y : Value} {S : List Nat} (h : RowR V w ty sz rows y S) :
    (∀ r ∈ rows, r.length = sz) ∧ ((((∃ ao, y = .slice ao 0 0) ∧ rows = [] ∧ S = [])) ∨ ∃ b cap ys Ss, y = .slice (some ⟨b, 0, none⟩) rows.length cap ∧ rows.length ≤ cap ∧ cap ≤ maxLen ∧ RowAt w w b ty (cap * sz) ys ∧ ys.length = rows.length * sz ∧ LayL V rows.flatten ys Ss ∧ V b = none ∧ S = b :: Ss.flatten) := by
 obtain ⟨h0, ys, Ss, h1, h3⟩ := h
 refine ⟨h0, ?_⟩
 rcases h3 with h3 | ⟨b, cap, c, rfl, e3, e4, e5, e6, e7, e8, rfl⟩
 ·exact .inl h3
 ·exact .inr ⟨b, cap, ys, Ss, rfl, e3, e4, ⟨⟨c, e5, e6, e7⟩, a0E w _⟩, by rw [h1.1, xI h0], h1, e8, rfl⟩
theorem a2G {V : View} {w w' : World} {ty sz b cap : Nat} {rows : List (List D)} {ys : List Value} {Ss : List (List Nat)} {G : List Value} (hu : ∀ r ∈ rows, r.length = sz) (hl : LayL V rows.flatten ys Ss) (h : RowAt w w' b ty (cap * sz) (ys ++ G)) (hn : rows.length ≤ cap) (hcap : cap ≤ maxLen) (hV : V b = none) :
    RowR V w' ty sz rows (.slice (some ⟨b, 0, none⟩) rows.length cap) (b :: Ss.flatten) := by
 obtain ⟨c, h1, h2, h3⟩ := h.cells
 exact ⟨hu, ys, Ss, hl, .inr ⟨b, cap, c, rfl, hn, hcap, h1, h2, (List.prefix_append _ _).trans h3, hV, rfl⟩⟩
theorem a6I {V : View} {w : World} {ty sz b cap : Nat} {rows : List (List D)} {ys : List Value} {Ss : List (List Nat)} (hu : ∀ r ∈ rows, r.length = sz) (hl : LayL V rows.flatten ys Ss) (hn : rows.length ≤ cap) (hcap : cap ≤ maxLen) (hV : V b = none) :
    ∃ S, Lay (xL V b ys) (.sl rows) (.slice (some ⟨b, 0, none⟩) rows.length cap) S := by
 have hl' := hl.mono (a1I hV ys)
 exact ⟨_, .sl rows ⟨b, 0, none⟩ cap sz ys Ss hu hn hcap hl'.1 hl'.2.1 (fun k y hk => by
  have : (Addr.add ⟨b, 0, none⟩ k) = ⟨b, k, none⟩ := by rw [Addr.add_lit, Nat.zero_add]
  rw [this]
  simp only [View.cell, xL, if_true]
  simpa using hk) hl'.2.2⟩
theorem oN {w w' : World} {r : Option Nat} (h : w.grownBy w' (some w.heap.size)) : w.grownBy w' r :=
 ⟨h.os, h.tape, h.output, h.size, fun k hk _ => h.block k hk fun e => by cases e; omega⟩
theorem a2H (w : World) (o : Obj) : (w.alloc o).drew = w.drew.alloc o := rfl
theorem RowAt.freshd (w : World) (c : Array Value) (ty : Nat) : RowAt w (w.drew.alloc (.cells c ty)) w.heap.size ty c.size c.toList := by
 have hh : (w.drew.alloc (.cells c ty)).heap = w.heap.push (.cells c ty) := rfl
 refine ⟨⟨c, by rw [hh, Array.getElem?_push, if_pos rfl], rfl, List.prefix_refl _⟩, rfl, rfl, rfl, by rw [hh, Array.size_push]; omega, fun k hk _ => ?_⟩
 rw [hh, Array.getElem?_push, if_neg (Nat.ne_of_lt hk)]
theorem a6J {V : View} {rows : List (List D)} {r : List D} {ys vs : List Value} {Ss Ts : List (List Nat)} {k : Nat} (i : Nat) (hu : ∀ r ∈ rows, r.length = k) (hl : LayL V rows.flatten ys Ss) (hl2 : LayL V r vs Ts) :
    LayL V (rows.take i ++ r :: rows.drop i).flatten (ys.take (i * k) ++ vs ++ ys.drop (i * k)) (Ss.take (i * k) ++ Ts ++ Ss.drop (i * k)) := by
 have h := ((hl.take (i * k)).append hl2).append (hl.drop (i * k))
 rw [← tZ i hu, ← jQ i hu] at h
 simpa [List.append_assoc] using h
theorem a5v (Ss Ts : List (List Nat)) (n : Nat) : (Ss.take n ++ Ts ++ Ss.drop n).flatten.Perm (Ss.flatten ++ Ts.flatten) := by
 have e : Ss.flatten = (Ss.take n).flatten ++ (Ss.drop n).flatten := by rw [← List.flatten_append, List.take_append_drop]
 rw [e, List.flatten_append, List.flatten_append, List.append_assoc, List.append_assoc]
 exact List.Perm.append_left _ List.perm_append_comm
theorem xK {V : View} {w w' : World} {ty sz b cap : Nat} {rows : List (List D)} {r : List D} {ys vs : List Value} {Ss Ts : List (List Nat)} {S S2 : List Nat} {i : Nat} (hi : i ≤ rows.length) (hu : ∀ r ∈ rows, r.length = sz) (hr : r.length = sz) (hl : LayL V rows.flatten ys Ss) (hl2 : LayL V r vs Ts)
    (h : RowAt w w' b ty (cap * sz) (ys.take (i * sz) ++ vs ++ ys.drop (i * sz))) (hn : rows.length + 1 ≤ cap) (hcap : cap ≤ maxLen) (hV : V b = none) (hb : b ∈ S ∨ (w.heap.size ≤ b ∧ b < w'.heap.size)) (hS : ∀ n ∈ Ss.flatten, n ∈ S) (hT : ∀ n ∈ Ts.flatten, n ∈ S2) (hnd : (b :: (Ss.flatten ++ Ts.flatten)).Nodup) :
    ∃ S', RowR V w' ty sz (rows.take i ++ r :: rows.drop i) (.slice (some ⟨b, 0, none⟩) (rows.length + 1) cap) S' ∧ S'.Nodup ∧ ∀ n ∈ S', n ∈ S ∨ n ∈ S2 ∨ (w.heap.size ≤ n ∧ n < w'.heap.size) := by
 have hlen : (rows.take i ++ r :: rows.drop i).length = rows.length + 1 := by simp; omega
 have hup := a2G (cap := cap) (G := []) (w := w) (fun x hx => by
  rcases List.mem_append.1 hx with h' | h'
  ·exact hu x (List.mem_of_mem_take h')
  ·rcases List.mem_cons.1 h' with rfl | h'
   ·exact hr
   ·exact hu x (List.mem_of_mem_drop h')) (a6J i hu hl hl2) (by simpa using h) (by rw [hlen]; exact hn) hcap hV
 rw [hlen] at hup
 have hp := a5v Ss Ts (i * sz)
 refine ⟨_, hup, ?_, fun n hn' => ?_⟩
 ·exact (hp.cons b).nodup_iff.2 hnd
 ·rcases List.mem_cons.1 hn' with rfl | hn'
  ·rcases hb with hb | hb
   ·exact .inl hb
   ·exact .inr (.inr hb)
  ·rcases List.mem_append.1 (hp.mem_iff.1 hn') with h' | h'
   ·exact .inl (hS n h')
   ·exact .inr (.inl (hT n h'))
end Go.Sx
end
section
namespace Go.Proofs.Ytolgdibgnndoaaa
open Go Go.Sx Go.RowKit Go.Proofs Go.Lib
set_option maxHeartbeats 4000000 in
set_option maxRecDepth 1000000 in
theorem yG (b c i vb vc n : Nat) (F vs : List Value) (w : World) (hi : i < n) (hroom : n + 1 ≤ c) (hc63 : c ≤ 9223372036854775807) (hvb : vb ≠ b) (hvc : 1 ≤ vc)
    (hF : F.length = n * 4) (hv : vs.length = 4) (hR : RowAt w w b 95 (c * 4) F) (hV : RowAt w w vb 95 (vc * 4) vs) (h1F : ∀ v ∈ F, v.oneCell' = true) (h1v : ∀ v ∈ vs, v.oneCell' = true) :
    Calls Try.prog 65 #[.slice (some ⟨b, 0, none⟩) n c, .int .i64 i, .slice (some ⟨vb, 0, none⟩) 1 vc] w fun e w' =>
     e = .returned (.slice (some ⟨b, 0, none⟩) (n + 1) c) ∧ RowAt w w' b 95 (c * 4) (F.take (i * 4) ++ vs ++ F.drop (i * 4)) := by
 have hz2 : ¬ ((i : Int) = (n : Int)) := by omega
 have hsz : (Try.prog.info? 95).map (·.size) = some 4 := by kernel_rfl
 have hsa := hV.shape
 have hsb := hR.shape
 have hov : ∀ x lb cb, (callFunc 104 #[.slice (some ⟨vb, 0, none⟩) 1 vc, .slice (some ⟨b, x, none⟩) lb cb]).run Try.prog w = .ok (.value (.bool false)) w := fun x lb cb => by
  rw [run_callFunc_extern Try.func104 (by kernel_rfl) (by kernel_rfl) (by kernel_rfl) (e := Extern.SlicesOverlaps.overlaps #[46, 46] #[4]) (by kernel_rfl),
   Lib.run_overlaps_apart w 46 4 95 Try.underlying46 4 Try.sizeOf95 ⟨vb, 0, none⟩ ⟨b, x, none⟩ 1 vc lb cb hvb _ _ _ _ hsa hsb (by omega) (hV.frozen _) (hV.frozen _)]
  rfl
 have hdl : (F.drop (i * 4)).length = (n - i) * 4 := by rw [List.length_drop, hF, Nat.sub_mul]
 have mixed := fol
 have hw1 : IntKind.i64.wrap ((i : Int) + 1) = (i : Int) + 1 := by rw [IntKind.wrap_i64]; omega
 have hb1 : (0 : Int) ≤ (i : Int) + 1 := by omega
 have hin : i ≤ n := by omega
 have htn : ((i : Int) + 1).toNat = i + 1 := by omega
 have hb2 : ¬ (c = i + 1) := by omega
 have hb3 : (i : Int) ≤ (n : Int) + 1 := by omega
 have hb4 : ¬ (c = i) := by omega
 have hcp1 : ∀ ty dc sc, (Builtin.copy_ #[46, 46] ty #[.slice (some ⟨b, (i + 1) * 4, none⟩) (n - i) dc, .slice (some ⟨b, i * 4, none⟩) (n + 1 - i) sc]).run Try.prog w.drew = .ok (goInt (Nat.min (n + 1 - i) (n - i))) (w.drew.setCells b ((i + 1) * 4) (F.drop (i * 4))) := fun ty dc sc =>
  mZ w.drew _ _ ty 95 4 b ((i + 1) * 4) (n - i) dc ⟨b, i * 4, none⟩ (n + 1 - i) sc (F.drop (i * 4)) Try.underlying46 hsz (by rw [hdl]; simp only [Nat.min_def]; split <;> omega)
   (fun j v hj => by rw [Addr.add_lit]; exact hR.cell (by rwa [List.getElem?_drop] at hj))
   (fun j hj => hR.there (by omega)) (fun j hj => hR.frozen _) (fun v hv => h1F v (List.mem_of_mem_drop hv))
 have hR1 := hR.drew.set (F.drop (i * 4)) (s := (i + 1) * 4) (by omega) (by omega)
 obtain ⟨W1, hW1⟩ : ∃ W1, W1 = w.drew.setCells b ((i + 1) * 4) (F.drop (i * 4)) := ⟨_, rfl⟩
 rw [← hW1] at hcp1 hR1
 have hV1 : ∀ j v, vs[j]? = some v → W1.cell? ⟨vb, j, none⟩ = some v := fun j v hj => by
  rw [hW1, World.cell?_setCells_out b _ _ _ _ (fun h _ => absurd h hvb)]
  exact hV.cell hj
 have hcp2 : ∀ (W : World), (∀ x, W.cell? x = W1.cell? x) → (∀ x, W.frozen? x = W1.frozen? x) → ∀ ty dc, (Builtin.copy_ #[46, 46] ty #[.slice (some ⟨b, i * 4, none⟩) (n + 1 - i) dc, .slice (some ⟨vb, 0, none⟩) 1 vc]).run Try.prog W = .ok (goInt (Nat.min 1 (n + 1 - i))) (W.setCells b (i * 4) vs) := fun W hWc hWf ty dc =>
  mZ W _ _ ty 95 4 b (i * 4) (n + 1 - i) dc ⟨vb, 0, none⟩ 1 vc vs Try.underlying46 hsz (by rw [hv]; simp only [Nat.min_def]; split <;> omega)
   (fun j v hj => by rw [Addr.add_lit, hWc, Nat.zero_add]; exact hV1 j v hj)
   (fun j hj => by rw [hWc]; exact hR1.there (by omega)) (fun j hj => by rw [hWf]; exact hR1.frozen _) h1v
 have HE : Aside (∀ W : World, RowAt w W b 95 (c * 4) (F.take ((i + 1) * 4) ++ F.drop (i * 4) ++ F.drop ((i + 1) * 4 + (F.drop (i * 4)).length)) → RowAt w (W.setCells b (i * 4) vs) b 95 (c * 4) (F.take (i * 4) ++ vs ++ F.drop (i * 4))) := fun W hW => by
  have h := hW.set vs (s := i * 4) (by simp; omega) (by omega)
  have e1 : F.drop ((i + 1) * 4 + (F.drop (i * 4)).length) = [] := List.drop_of_length_le (by rw [hdl]; omega)
  rw [e1, List.append_nil] at h
  rw [List.take_append_of_le_length (by simp; omega), List.take_take, Nat.min_eq_left (by omega), List.drop_append, List.drop_of_length_le (by simp; omega), List.nil_append, List.length_take] at h
  rwa [show i * 4 + vs.length - min ((i + 1) * 4) F.length = 0 by omega, List.drop_zero] at h
 have H1 : Aside _ := hR1
 clear hR1 hV1 hW1 hsa hsb hR hV h1F h1v
 go_enter Try.func65, Try.ntmps65
 go_wp2_with (simp only [hov])
 go_region_law_o (refine step_copy_runI rfl _ _ 46 46 rfl _ _ (by simp [Act.eval, Act.put]) (by simp [Act.eval, Act.put]) (hcp1 _ _ _) ?_)
 go_wp2_with (at_builtin; refine wpList_copy_runI _ rfl _ _ 46 46 rfl _ _ rfl rfl (hcp2 _ (fun _ => rfl) (fun _ => rfl) _ _) ?_)
 go_ret
 exact ⟨rfl, HE.out _ H1.out⟩
set_option maxHeartbeats 4000000 in
set_option maxRecDepth 1000000 in
theorem a0C (b n c vb vc : Nat) (F vs : List Value) (w : World) (hroom : n + 1 ≤ c) (hc63 : c ≤ 9223372036854775807)
    (hF : F.length = n * 4) (hv : vs.length = 4) (hR : RowAt w w b 95 (c * 4) F) (hV : RowAt w w vb 95 (vc * 4) vs) (h1v : ∀ v ∈ vs, v.oneCell' = true) :
    Calls Try.prog 65 #[.slice (some ⟨b, 0, none⟩) n c, .int .i64 n, .slice (some ⟨vb, 0, none⟩) 1 vc] w fun e w' =>
     e = .returned (.slice (some ⟨b, 0, none⟩) (n + 1) c) ∧ RowAt w w' b 95 (c * 4) (F ++ vs) := by
 obtain ⟨i0, hi0, hzs⟩ : ∃ i0, Try.prog.info? 95 = some i0 ∧ i0.size = 4 := ⟨Try.t95, by kernel_rfl, rfl⟩
 have hsrc : Src Try.prog i0.size 46 (.slice (some ⟨vb, 0, none⟩) 1 vc) 1 vs w := Src.ofSlice w Try.underlying46 ⟨vb, 0, none⟩ 1 vc vs (by rw [hzs]; omega) (fun j u hj => by rw [Addr.add_lit, Nat.zero_add]; exact hV.cell hj) h1v
 have hrun : ∀ ty, (Builtin.append_ #[46, 46] ty #[.slice (some ⟨b, 0, none⟩) n c, .slice (some ⟨vb, 0, none⟩) 1 vc]).run Try.prog w = .ok (.slice (some ⟨b, 0, none⟩) (n + 1) c) (w.setCells b (0 + n * i0.size) vs) := fun ty =>
  run_append_room_src w 46 46 ty 95 i0 Try.underlying46 hi0 b 0 n c _ 1 vs hsrc hroom (fun j hj => hR.there (by rw [hzs]; omega)) (fun j hj => hR.frozen _)
 rw [hzs, Nat.zero_add] at hrun
 have HE : Aside (RowAt w (w.setCells b (n * 4) vs) b 95 (c * 4) (F ++ vs)) := by
  have h := hR.set vs (s := n * 4) (by omega) (by omega)
  rwa [List.take_of_length_le (by omega), List.drop_of_length_le (by omega), List.append_nil] at h
 clear hR hV h1v hsrc
 go_enter Try.func65, Try.ntmps65
 go_wp2_with (at_builtin; refine Lib.wpList_append_run _ rfl _ _ _ _ rfl _ _ rfl rfl _ _ (hrun _) ?_)
 go_ret
 exact ⟨rfl, HE.out⟩
set_option maxHeartbeats 4000000 in
set_option maxRecDepth 1000000 in
theorem uU (base : Option Addr) (n c vb vc : Nat) (F vs : List Value) (w : World) (hnc : n ≤ c) (hroom : c < n + 1) (hbig : (n + 1) * 48 ≤ 140737488355328)
    (hF : F.length = n * 4) (hv : vs.length = 4) (hnil : base = none → n = 0) (hcs : ∀ a, base = some a → ∀ j v, F[j]? = some v → w.cell? (a.add j) = some v) (hV : RowAt w w vb 95 (vc * 4) vs) (h1v : ∀ v ∈ vs, v.oneCell' = true) :
    Calls Try.prog 65 #[.slice base n c, .int .i64 n, .slice (some ⟨vb, 0, none⟩) 1 vc] w fun e w' =>
     ∃ G, e = .returned (.slice (some ⟨w.heap.size, 0, none⟩) (n + 1) G) ∧ n + 1 ≤ G ∧ G ≤ maxLen ∧ RowAt w w' w.heap.size 95 (G * 4) (F ++ vs) := by
 obtain ⟨i0, hi0, hz0, hzs, hzb⟩ : ∃ i0, Try.prog.info? 95 = some i0 ∧ i0.zero = some (.agg #[.string ⟨#[]⟩, .int .i64 0, .int .i64 0, .string ⟨#[]⟩]) ∧ i0.size = 4 ∧ i0.bytes = 48 := ⟨Try.t95, by kernel_rfl, rfl, rfl, rfl⟩
 have hsrc : Src Try.prog i0.size 46 (.slice (some ⟨vb, 0, none⟩) 1 vc) 1 vs w := Src.ofSlice w Try.underlying46 ⟨vb, 0, none⟩ 1 vc vs (by rw [hzs]; omega) (fun j u hj => by rw [Addr.add_lit, Nat.zero_add]; exact hV.cell hj) h1v
 have hold : (Builtin.firstCells i0.size n (.slice base n c)).run Try.prog w.drew = .ok F.toArray w.drew := by
  rw [hzs]
  cases base with
  | none =>
   have h0 := hnil rfl
   subst h0
   rw [List.length_eq_zero_iff.1 (by omega : F.length = 0)]
   exact run_firstCells_none w.drew 4 0 0 c
  | some a => exact run_firstCells_some w.drew 4 n a n c F (by omega) (fun j v hj => hcs a rfl j v hj)
 have hrun : ∀ ty, (Builtin.append_ #[46, 46] ty #[.slice base n c, .slice (some ⟨vb, 0, none⟩) 1 vc]).run Try.prog w = _ := fun ty =>
  run_append_grow_src w 46 46 ty 95 i0 _ Try.underlying46 hi0 hz0 base n c F hold _ 1 vs hsrc hroom (by omega) (by rw [hzb]; exact growslice_fits hroom hbig)
 have hGn : n + 1 ≤ grownCap w (n + 1) c 95 := grownCap_ge w _ _ _
 have hGm : grownCap w (n + 1) c 95 ≤ maxLen := grownCap_le_maxLen w (n + 1) c 95 (by unfold maxLen; omega)
 have HE : Aside (RowAt w (w.drew.alloc (.cells ((F ++ vs).toArray ++ Builtin.zeroCells (.agg #[.string ⟨#[]⟩, .int .i64 0, .int .i64 0, .string ⟨#[]⟩] : Value).cells (grownCap w (n + 1) c 95 - (n + 1))) 95)) w.heap.size 95 (grownCap w (n + 1) c 95 * 4) (F ++ vs)) := by
  have h := RowAt.freshd w ((F ++ vs).toArray ++ Builtin.zeroCells (.agg #[.string ⟨#[]⟩, .int .i64 0, .int .i64 0, .string ⟨#[]⟩] : Value).cells (grownCap w (n + 1) c 95 - (n + 1))) 95
  have e : ((F ++ vs).toArray ++ Builtin.zeroCells (.agg #[.string ⟨#[]⟩, .int .i64 0, .int .i64 0, .string ⟨#[]⟩] : Value).cells (grownCap w (n + 1) c 95 - (n + 1))).size = grownCap w (n + 1) c 95 * 4 := by
   simp [Builtin.zeroCells, Value.cells]; omega
  rw [e] at h
  exact h.pre (by simp)
 clear hV h1v hsrc hold hcs
 go_enter Try.func65, Try.ntmps65
 cases base with
 | none =>
  have h0 := hnil rfl
  subst h0
  go_wp2_with (at_builtin; refine Lib.wpList_append_run _ rfl _ _ _ _ rfl _ _ rfl rfl _ _ (hrun _) ?_)
  go_ret
  exact ⟨_, rfl, hGn, hGm, HE.out⟩
 | some a =>
  obtain ⟨ab, ao, asp⟩ := a
  go_wp2_with (at_builtin; refine Lib.wpList_append_run _ rfl _ _ _ _ rfl _ _ rfl rfl _ _ (hrun _) ?_)
  all_goals (go_ret; exact ⟨_, rfl, hGn, hGm, HE.out⟩)
set_option maxHeartbeats 4000000 in
set_option maxRecDepth 1000000 in
theorem a0D (b c i vb vc n : Nat) (F vs : List Value) (w : World) (hi : i < n) (hnc : n ≤ c) (hroom : c < n + 1) (hbig : (n + 1) * 48 ≤ 140737488355328) (hvc : 1 ≤ vc)
    (hF : F.length = n * 4) (hv : vs.length = 4) (hR : RowAt w w b 95 (c * 4) F) (hV : RowAt w w vb 95 (vc * 4) vs) (h1F : ∀ v ∈ F, v.oneCell' = true) (h1v : ∀ v ∈ vs, v.oneCell' = true) :
    Calls Try.prog 65 #[.slice (some ⟨b, 0, none⟩) n c, .int .i64 i, .slice (some ⟨vb, 0, none⟩) 1 vc] w fun e w' =>
     ∃ G, e = .returned (.slice (some ⟨w.heap.size, 0, none⟩) (n + 1) G) ∧ n + 1 ≤ G ∧ G ≤ maxLen ∧ RowAt w w' w.heap.size 95 (G * 4) (F.take (i * 4) ++ vs ++ F.drop (i * 4)) := by
 obtain ⟨i0, hi0, hz0, hzs, hzb⟩ : ∃ i0, Try.prog.info? 95 = some i0 ∧ i0.zero = some (.agg #[.string ⟨#[]⟩, .int .i64 0, .int .i64 0, .string ⟨#[]⟩]) ∧ i0.size = 4 ∧ i0.bytes = 48 := ⟨Try.t95, by kernel_rfl, rfl, rfl, rfl⟩
 have mixed := fol
 have hz2 : ¬ ((i : Int) = (n : Int)) := by omega
 have hz3 : (c : Int) < (n : Int) + 1 := by omega
 have hsz : (Try.prog.info? 95).map (·.size) = some 4 := by rw [hi0]; simp [hzs]
 have hbw := hR.lt
 have hvw := hV.lt
 have hkk : (n : Int) + 1 - (i : Int) = ((n + 1 - i : Nat) : Int) := by omega
 have hik : i + (n + 1 - i) = n + 1 := by omega
 have hold : (Builtin.firstCells i0.size i (.slice (some ⟨b, 0, none⟩) i c)).run Try.prog w.drew = .ok (F.take (i * 4)).toArray w.drew := by
  rw [hzs]
  exact run_firstCells_some w.drew 4 i ⟨b, 0, none⟩ i c (F.take (i * 4)) (by rw [List.length_take]; omega) (fun j v hj => by
   rw [Addr.add_lit, Nat.zero_add]
   rw [List.getElem?_take] at hj
   split at hj
   ·exact hR.cell hj
   ·cases hj)
 have hrz : ∀ ty, (Builtin.append_ #[46, 3] ty #[.slice (some ⟨b, 0, none⟩) i c, .int .i64 ((n : Int) + 1 - (i : Int))]).run Try.prog w =
     .ok (.slice (some ⟨w.heap.size, 0, none⟩) (n + 1) (grownCap w (n + 1) c 95)) (w.drew.alloc (.cells ((F.take (i * 4)).toArray ++ Builtin.zeroCells (.agg #[.string ⟨#[]⟩, .int .i64 0, .int .i64 0, .string ⟨#[]⟩] : Value).cells (n + 1 - i) ++ Builtin.zeroCells (.agg #[.string ⟨#[]⟩, .int .i64 0, .int .i64 0, .string ⟨#[]⟩] : Value).cells (grownCap w (n + 1) c 95 - (n + 1))) 95)) := fun ty => by
  have h := Lib.run_append_grow_zeros w 46 3 ty 95 i0 _ .i64 .i64 Try.underlying46 Try.underlying3 hi0 hz0 (some ⟨b, 0, none⟩) i c (F.take (i * 4)) hold (n + 1 - i) (by omega) (by omega) (by omega) (by omega) (by rw [hzb]; omega) (by rw [hzb, hik]; exact growslice_fits hroom hbig)
  rw [hik] at h
  rw [hkk]
  exact h
 obtain ⟨G, hG⟩ : ∃ G, G = grownCap w (n + 1) c 95 := ⟨_, rfl⟩
 obtain ⟨ROW, hROW⟩ : ∃ ROW : Array Value, ROW = (F.take (i * 4)).toArray ++ Builtin.zeroCells (.agg #[.string ⟨#[]⟩, .int .i64 0, .int .i64 0, .string ⟨#[]⟩] : Value).cells (n + 1 - i) ++ Builtin.zeroCells (.agg #[.string ⟨#[]⟩, .int .i64 0, .int .i64 0, .string ⟨#[]⟩] : Value).cells (G - (n + 1)) := ⟨_, rfl⟩
 rw [← hG] at hrz
 rw [← hROW] at hrz
 have hGn : n + 1 ≤ G := by rw [hG]; exact grownCap_ge w _ _ _
 have hGm : G ≤ maxLen := by rw [hG]; exact grownCap_le_maxLen w (n + 1) c 95 (by unfold maxLen; omega)
 have hG63 : G ≤ 9223372036854775807 := by unfold maxLen at hGm; omega
 have hRs : ROW.size = G * 4 := by rw [hROW]; simp [Builtin.zeroCells, Value.cells]; omega
 have hRt : ROW.toList.take (i * 4) = F.take (i * 4) := by
  rw [hROW]
  simp only [Array.toList_append, List.append_assoc]
  rw [List.take_append_of_le_length (by simp; omega), List.take_of_length_le (by simp; omega)]
 have hR0 := RowAt.freshd w ROW 95
 rw [hRs] at hR0
 obtain ⟨W1, hW1⟩ : ∃ W1, W1 = w.drew.alloc (.cells ROW 95) := ⟨_, rfl⟩
 rw [← hW1] at hrz hR0
 have hlR : ROW.toList.length = G * 4 := by rw [← hRs]; simp
 have hR1 := hR0.set vs (s := i * 4) (by rw [hlR]; omega) (by omega)
 have hOb : ∀ j v, w.cell? ⟨b, j, none⟩ = some v → W1.cell? ⟨b, j, none⟩ = some v := fun j v h => by rw [hW1, World.cell?_alloc_past (w := w.drew) _ b j hbw]; exact h
 have hOv : ∀ j v, w.cell? ⟨vb, j, none⟩ = some v → W1.cell? ⟨vb, j, none⟩ = some v := fun j v h => by rw [hW1, World.cell?_alloc_past (w := w.drew) _ vb j hvw]; exact h
 have hcpA : ∀ (W : World), (∀ x, W.cell? x = W1.cell? x) → (∀ x, W.frozen? x = W1.frozen? x) → ∀ ty dc, (Builtin.copy_ #[46, 46] ty #[.slice (some ⟨w.heap.size, i * 4, none⟩) (n + 1 - i) dc, .slice (some ⟨vb, 0, none⟩) 1 vc]).run Try.prog W = .ok (goInt (Nat.min 1 (n + 1 - i))) (W.setCells w.heap.size (i * 4) vs) := fun W hWc hWf ty dc =>
  mZ W _ _ ty 95 4 w.heap.size (i * 4) (n + 1 - i) dc ⟨vb, 0, none⟩ 1 vc vs Try.underlying46 hsz (by rw [hv]; simp only [Nat.min_def]; split <;> omega)
   (fun j v hj => by rw [Addr.add_lit, hWc, Nat.zero_add]; exact hOv _ v (hV.cell hj))
   (fun j hj => by rw [hWc]; exact hR0.there (by omega)) (fun j hj => by rw [hWf]; exact hR0.frozen _) h1v
 have hbN : b ≠ w.heap.size := by omega
 have hdl : (F.drop (i * 4)).length = (n - i) * 4 := by rw [List.length_drop, hF, Nat.sub_mul]
 have hcpB : ∀ (W : World), (∀ x, W.cell? x = (W1.setCells w.heap.size (i * 4) vs).cell? x) → (∀ x, W.frozen? x = (W1.setCells w.heap.size (i * 4) vs).frozen? x) → ∀ ty dc sc, (Builtin.copy_ #[46, 46] ty #[.slice (some ⟨w.heap.size, (i + 1) * 4, none⟩) (n - i) dc, .slice (some ⟨b, i * 4, none⟩) (n - i) sc]).run Try.prog W = .ok (goInt (Nat.min (n - i) (n - i))) (W.setCells w.heap.size ((i + 1) * 4) (F.drop (i * 4))) := fun W hWc hWf ty dc sc =>
  mZ W _ _ ty 95 4 w.heap.size ((i + 1) * 4) (n - i) dc ⟨b, i * 4, none⟩ (n - i) sc (F.drop (i * 4)) Try.underlying46 hsz (by rw [hdl]; simp only [Nat.min_def]; split <;> omega)
   (fun j v hj => by
    rw [Addr.add_lit, hWc, World.cell?_setCells_out _ _ _ _ _ (fun h _ => absurd h hbN)]
    exact hOb _ v (hR.cell (by rwa [List.getElem?_drop] at hj)))
   (fun j hj => by rw [hWc]; exact hR1.there (by omega))
   (fun j hj => by rw [hWf]; exact hR1.frozen _) (fun v hv => h1F v (List.mem_of_mem_drop hv))
 have HE : Aside (∀ W W' : World, RowAt w W w.heap.size 95 (G * 4) (ROW.toList.take (i * 4) ++ vs ++ ROW.toList.drop (i * 4 + vs.length)) → W' = W.setCells w.heap.size ((i + 1) * 4) (F.drop (i * 4)) → RowAt w W' w.heap.size 95 (G * 4) (F.take (i * 4) ++ vs ++ F.drop (i * 4))) := fun W W' hW e => by
  subst e
  have h := hW.set (F.drop (i * 4)) (s := (i + 1) * 4) (by simp only [List.length_append, List.length_take, List.length_drop, hlR]; omega) (by omega)
  rw [hRt, List.take_append_of_le_length (by simp; omega), List.take_of_length_le (by simp; omega)] at h
  exact h.pre (List.prefix_append _ _)
 have H1 : Aside (RowAt w (((w.alloc (.cells ROW 95)).drew.setCells w.heap.size (i * 4) vs).drew) w.heap.size 95 (G * 4) (ROW.toList.take (i * 4) ++ vs ++ ROW.toList.drop (i * 4 + vs.length))) := by
  rw [a2H, ← hW1]
  exact hR1.drew
 subst hW1
 have hE1 : ∀ x, ((w.alloc (.cells ROW 95)).drew).cell? x = (w.drew.alloc (.cells ROW 95)).cell? x := fun x => rfl
 have hE2 : ∀ x, ((w.alloc (.cells ROW 95)).drew).frozen? x = (w.drew.alloc (.cells ROW 95)).frozen? x := fun x => rfl
 have hF1 : ∀ x, (((w.alloc (.cells ROW 95)).drew.setCells w.heap.size (i * 4) vs).drew).cell? x = ((w.drew.alloc (.cells ROW 95)).setCells w.heap.size (i * 4) vs).cell? x := fun x => rfl
 have hF2 : ∀ x, (((w.alloc (.cells ROW 95)).drew.setCells w.heap.size (i * 4) vs).drew).frozen? x = ((w.drew.alloc (.cells ROW 95)).setCells w.heap.size (i * 4) vs).frozen? x := fun x => rfl
 have hGi : ¬ (G = i) := by omega
 have hGim : ¬ (G = i + 1) := by omega
 have hci : ¬ (c = i) := by omega
 have hw1 : IntKind.i64.wrap ((i : Int) + 1) = (i : Int) + 1 := by rw [IntKind.wrap_i64]; omega
 have hb1 : (0 : Int) ≤ (i : Int) + 1 := by omega
 have hin : i ≤ n := by omega
 have htn : ((i : Int) + 1).toNat = i + 1 := by omega
 have hb3 : (i : Int) ≤ (n : Int) := by omega
 clear hkk hik hold hROW hG hR hV hR0 hR1 h1F h1v hOb hOv hRt hRs hlR
 go_enter Try.func65, Try.ntmps65
 go_wp2_with (first
  | (at_builtin; refine Lib.wpList_append_run _ rfl _ _ _ _ rfl _ _ rfl rfl _ _ (hrz _) ?_)
  | (at_builtin; refine wpList_copy_runI _ rfl _ _ 46 46 rfl _ _ rfl rfl (hcpA _ hE1 hE2 _ _) ?_)
  | (at_builtin; refine wpList_copy_runI _ rfl _ _ 46 46 rfl _ _ rfl rfl (hcpB _ (fun _ => rfl) (fun _ => rfl) _ _ _) ?_))
 go_region_law_o (refine step_copy_runI rfl _ _ 46 46 rfl (.slice (some ⟨w.heap.size, (i + 1) * 4, none⟩) (n - i) (G - (i + 1))) (.slice (some ⟨b, i * 4, none⟩) (n - i) (c - i)) (by simp [Act.eval, Act.put]) (by simp [Act.eval, Act.put]) (hcpB _ hF1 hF2 3 (G - (i + 1)) (c - i)) ?_)
 go_wp2
 go_ret
 exact ⟨G, rfl, hGn, hGm, HE.out _ _ H1.out rfl⟩
end Go.Proofs.Ytolgdibgnndoaaa
end
section
set_option maxRecDepth 100000
namespace Go.Proofs.Ytolgdibgnndoaaa
open Go Go.Sx Go.RowKit Go.Proofs
theorem iY (rows : List (List D)) (r : List D) (i : Nat) (hi : i ≤ rows.length) (hl : rows.length ≤ 8388608) : FnJ Try.prog 65 95 4 rows i [r] (rows.take i ++ r :: rows.drop i) := by
 refine ⟨Try.call65, fun V w y S y2 S2 hm hrow hrow2 hnd hlt => ?_⟩
 obtain ⟨hu, h⟩ := xJ hrow
 obtain ⟨hu2, h2⟩ := xJ hrow2
 have hr : r.length = 4 := hu2 r (by simp)
 rcases h2 with ⟨_, h2, _⟩ | ⟨vb, vc, vs, Ts, rfl, v3, v4, hV, vl, vL, vV, rfl⟩
 ·cases h2
 have vL' : LayL V r vs Ts := by simpa using vL
 have vl' : vs.length = 4 := by simpa using vl
 have v3' : 1 ≤ vc := by simpa using v3
 have h1v := vL'.oneCell
 rcases h with ⟨⟨ao, rfl⟩, rfl, rfl⟩ | ⟨b, cap, ys, Ss, rfl, e3, e4, hR, el, eL, eV, rfl⟩
 ·have hi0 : i = 0 := by simpa using hi
  subst hi0
  refine (uU ao 0 0 vb vc [] vs w (by omega) (by omega) (by omega) (by simp) vl' (fun _ => rfl) (fun a _ j v hj => by simp at hj) hV h1v).mono ?_
  rintro e w' ⟨G, rfl, hG, hGm, hN⟩
  have hd := xK (S := []) (S2 := vb :: Ts.flatten) (rows := []) (r := r) (i := 0) (Ss := []) (ys := []) (V := V) (hi) hu hr (LayL.nil V) vL' (by simpa using hN) (by simpa using hG) hGm (hm.fresh (Nat.le_refl _)) (.inr ⟨Nat.le_refl _, hN.lt⟩) (fun n hn => by simp at hn) (fun n hn => List.mem_cons_of_mem _ hn)
   (by
    simp only [List.flatten_nil, List.nil_append]
    refine List.nodup_cons.2 ⟨fun h => ?_, (List.nodup_cons.1 (by simpa using hnd)).2⟩
    have := hlt _ (by simp only [List.nil_append]; exact List.mem_cons_of_mem _ h)
    omega)
  exact ⟨_, rfl, oN hN.grown, hd⟩
 ·have h1F := eL.oneCell
  have hbw := hR.lt
  have hvb : vb ≠ b := fun e => by subst e; simp at hnd
  have hnd2 : (Ss.flatten ++ Ts.flatten).Nodup := by
   have h1 : (Ss.flatten ++ vb :: Ts.flatten).Nodup := (List.nodup_cons.1 (by simpa using hnd)).2
   exact h1.sublist (List.Sublist.append_left (List.sublist_cons_self _ _) _)
  have hbS : b ∉ Ss.flatten ++ Ts.flatten := fun h => by
   have h1 := (List.nodup_cons.1 (show (b :: (Ss.flatten ++ vb :: Ts.flatten)).Nodup by simpa using hnd)).1
   rcases List.mem_append.1 h with h | h
   ·exact h1 (List.mem_append.2 (.inl h))
   ·exact h1 (List.mem_append.2 (.inr (List.mem_cons_of_mem _ h)))
  have hfr : w.heap.size ∉ Ss.flatten ++ Ts.flatten := fun h => by
   have := hlt w.heap.size (by
    rcases List.mem_append.1 h with h | h
    ·exact List.mem_append.2 (.inl (List.mem_cons_of_mem _ h))
    ·exact List.mem_append.2 (.inr (List.mem_cons_of_mem _ h)))
   omega
  have old : ∀ w', RowAt w w' b 95 (cap * 4) (ys.take (i * 4) ++ vs ++ ys.drop (i * 4)) → rows.length + 1 ≤ cap → ∃ S', RowR V w' 95 4 (rows.take i ++ r :: rows.drop i) (.slice (some ⟨b, 0, none⟩) (rows.length + 1) cap) S' ∧ S'.Nodup ∧ ∀ n ∈ S', n ∈ (b :: Ss.flatten) ∨ n ∈ (vb :: Ts.flatten) ∨ (w.heap.size ≤ n ∧ n < w'.heap.size) := fun w' h hc =>
   xK hi hu hr eL vL' h hc e4 eV (.inl (by simp)) (fun n hn => List.mem_cons_of_mem _ hn) (fun n hn => List.mem_cons_of_mem _ hn) (List.nodup_cons.2 ⟨hbS, hnd2⟩)
  have new : ∀ w' G, RowAt w w' w.heap.size 95 (G * 4) (ys.take (i * 4) ++ vs ++ ys.drop (i * 4)) → rows.length + 1 ≤ G → G ≤ maxLen → ∃ S', RowR V w' 95 4 (rows.take i ++ r :: rows.drop i) (.slice (some ⟨w.heap.size, 0, none⟩) (rows.length + 1) G) S' ∧ S'.Nodup ∧ ∀ n ∈ S', n ∈ (b :: Ss.flatten) ∨ n ∈ (vb :: Ts.flatten) ∨ (w.heap.size ≤ n ∧ n < w'.heap.size) := fun w' G h hc hGm =>
   xK hi hu hr eL vL' h hc hGm (hm.fresh (Nat.le_refl _)) (.inr ⟨Nat.le_refl _, h.lt⟩) (fun n hn => List.mem_cons_of_mem _ hn) (fun n hn => List.mem_cons_of_mem _ hn) (List.nodup_cons.2 ⟨hfr, hnd2⟩)
  have e63 : cap ≤ 9223372036854775807 := by unfold maxLen at e4; omega
  rcases Nat.lt_or_ge i rows.length with hlt' | hge
  ·rcases Nat.lt_or_ge cap (rows.length + 1) with hc | hc
   ·refine (a0D b cap i vb vc rows.length ys vs w hlt' e3 hc (by omega) v3' el vl' hR hV h1F h1v).mono ?_
    rintro e w' ⟨G, rfl, hG, hGm, hN⟩
    exact ⟨_, rfl, oN hN.grown, new w' G hN hG hGm⟩
   ·refine (yG b cap i vb vc rows.length ys vs w hlt' hc e63 hvb v3' el vl' hR hV h1F h1v).mono ?_
    rintro e w' ⟨rfl, hN⟩
    exact ⟨_, rfl, hN.grown, old w' hN hc⟩
  ·have hie : i = rows.length := by omega
   subst hie
   rw [List.take_of_length_le (l := ys) (by omega), List.drop_of_length_le (l := ys) (by omega), List.append_nil] at old new
   rcases Nat.lt_or_ge cap (rows.length + 1) with hc | hc
   ·refine (uU (some ⟨b, 0, none⟩) rows.length cap vb vc ys vs w e3 hc (by omega) el vl' (fun h => by cases h) (fun a ha j v hj => by cases ha; rw [Addr.add_lit, Nat.zero_add]; exact hR.cell hj) hV h1v).mono ?_
    rintro e w' ⟨G, rfl, hG, hGm, hN⟩
    exact ⟨_, rfl, oN hN.grown, new w' G hN hG hGm⟩
   ·refine (a0C b rows.length cap vb vc ys vs w hc e63 el vl' hR hV h1v).mono ?_
    rintro e w' ⟨rfl, hN⟩
    exact ⟨_, rfl, hN.grown, old w' hN hc⟩
end Go.Proofs.Ytolgdibgnndoaaa
end
section
namespace Go.Proofs.Ytolgdibgnndoaaa
open Go Go.Sx Go.RowKit Go.Proofs
theorem a9n {α : Type} (l : List α) : (l.all fun _ => true) = true := by simp
def bM {α : Type} (p : α → Bool) : List α → Nat
 | [] => 0
 | x :: l => if p x then 0 else bM p l + 1
theorem lW {α : Type} (p : α → Bool) : ∀ l : List α, bM p l ≤ l.length
 | [] => by simp [bM]
 | x :: l => by
  have := lW p l
  unfold bM
  split <;> simp <;> omega
theorem idxP_fst {α : Type} (p : α → Bool) : ∀ (l : List α) (k : Nat), (gY p l k < 0 ∧ gY p l k = -1 ∧ bM p l = l.length) ∨ (gY p l k = ((k + bM p l : Nat) : Int) ∧ bM p l < l.length)
 | [], k => .inl ⟨by simp [gY], rfl, rfl⟩
 | x :: l, k => by
  unfold gY bM
  cases hx : p x with
  | true => exact .inr ⟨by simp, by simp⟩
  | false =>
   rcases idxP_fst p l (k + 1) with ⟨h0, h1, h2⟩ | ⟨h1, h2⟩
   ·exact .inl ⟨by simpa using h0, by simpa using h1, by simp [h2]⟩
   ·exact .inr ⟨by simp only [Bool.false_eq_true, if_false]; rw [h1]; congr 1; omega, by simp; omega⟩
theorem a2I {α : Type} (p : α → Bool) (l : List α) (k : Nat) (h : k < l.length) : bM p (l.drop k) = if p l[k] then 0 else bM p (l.drop (k + 1)) + 1 := by
 rw [List.drop_eq_getElem_cons h, bM]
def dI {α : Type} (i : Nat) (x : α) (l : List α) : List α := l.take i ++ x :: l.drop i
theorem jR {α : Type} (i : Nat) (x : α) (l : List α) (h : i ≤ l.length) : (dI i x l).length = l.length + 1 := by simp [dI]; omega
end Go.Proofs.Ytolgdibgnndoaaa
end
section
set_option maxRecDepth 100000
set_option maxHeartbeats 4000000
namespace Go.Proofs.Ytolgdibgnndoaaa
open Go Go.Sx Go.RowKit Go.Proofs
end Go.Proofs.Ytolgdibgnndoaaa
end
