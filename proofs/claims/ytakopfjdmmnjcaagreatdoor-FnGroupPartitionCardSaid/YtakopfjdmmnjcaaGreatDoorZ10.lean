/- Joined texts. -/
import Derived.Test.YtakopfjdmmnjcaaGreatDoorZ08
import Derived.Test.YtakopfjdmmnjcaaGreatDoorZ05
import Derived.Test.YtakopfjdmmnjcaaGreatDoorZ09
import Derived.Test.YtakopfjdmmnjcaaGreatDoorZ07
import Derived.Sort.Row
import Derived.Sort.Grow
import Derived.Shelf.RegionOpenPlain
import Derived.WalkKit
import Derived.Deep.LoopGhost
import Derived.Deep.Draws
import Derived.Lib.Walk
import Derived.Lib.SliceRun
import Derived.Shelf.SlicesE.Kit
import Derived.Shelf.SlicesE.DeleteFunc
import Derived.Test.YtakopfjdmmnjcaaGreatDoorZ04
import Derived.Laws.IdiomCopy
import Derived.Deep.AppendSrc
import Derived.Lib.JoinLaws
import Derived.Lib.AppendZeros
import Derived.Lib.AppendZerosOnto
import Derived.Lib.Overlaps
import Derived.Laws.Externs
import Derived.Laws.NewBlocks
import Derived.Shelf.Spec.SlicesInsertGrow
set_option linter.all false
section
set_option maxRecDepth 100000
set_option maxHeartbeats 4000000
namespace Go.Sx
open Go Go.RowKit
def b3g {α : Type} (G : α → St) (Q : α → Prop) (F : Ex → St → Prop) : Ex → St → Prop
 | .normal, s => ∃ x, Q x ∧ (∃ (m : List (Nat × Nat)) (s' : St), swL s m = some s' ∧ s'.le (G x)) ∧ (G x).okB = true
 | .exit j, s => F (.exit j) s
 | .ret, s => F .ret s
theorem a0c {P : Program} {C : Ctx} {ks : List Kn} {F : Ex → St → Prop} {st : St} {c c2 : Code} {α : Type} (M : α → List (Nat × SV)) (H : α → List (Nat × HB)) (Q : α → Prop) (h1 : WP P C c (bW P C [] (b3g (fun x => b2P c st (M x) (H x)) Q (bW P C (.code c2 :: ks) F))) st) (h2 : ∀ x, Q x → WP P C c2 (bW P C ks F) (b2P c st (M x) (H x))) : WP P C c (bW P C (.code c2 :: ks) F) st := fun g V a w hr =>
 wp_mono (h1 g V a w hr) fun e a w q => by
  cases e with
  | normal =>
   obtain ⟨g, V, s, hs, x, hq, ⟨m, s', hsw, hle⟩, hok⟩ := q
   obtain ⟨g', h1⟩ := hs.swL m hsw
   exact ⟨_, V, _, h1.forget hle hok, h2 x hq⟩
  | exit j => obtain ⟨g, V, s, hs, q⟩ := q; exact ⟨g, V, s, hs, q⟩
  | ret => obtain ⟨g, V, s, hs, q⟩ := q; exact ⟨g, V, s, hs, q⟩
  | goto l => exact q.elim
  | panic ch => exact q.elim
  | outgrown => exact q.elim
theorem eY {E : Env} {rs : List ResultVar} {b ty : Nat} {α : Type} {Q : α → Prop} {res : α → SV} {ds' : α → List D} {e : Ex} {st st' : St} (h : Sees E.C st st') (k : b3j E rs b ty Q res ds' e st') : b3j E rs b ty Q res ds' e st := by
 cases e with
 | exit j => exact k
 | ret => obtain ⟨s, a, h1, h2⟩ := k; exact ⟨s, a, h.trans h1, h2⟩
 | normal => obtain ⟨s, a, h1, h2⟩ := k; exact ⟨s, a, h.trans h1, h2⟩
theorem nS {α : Type} {G : α → St} {Q : α → Prop} {F : Ex → St → Prop} {s : St} (x : α) (hq : Q x) (h : s.le (G x)) (hb : (G x).okB = true) : b3g G Q F .normal s := ⟨x, hq, ⟨[], s, rfl, h⟩, hb⟩
theorem a2w {α : Type} {G : α → St} {Q : α → Prop} {F : Ex → St → Prop} {s s' : St} (m : List (Nat × Nat)) (x : α) (hq : Q x) (hs : swL s m = some s') (h : s'.le (G x)) (hb : (G x).okB = true) : b3g G Q F .normal s := ⟨x, hq, ⟨m, s', hs, h⟩, hb⟩
end Go.Sx
namespace Go.Proofs.YtakopfjdmmnjcaaGreatDoor
open Go Go.Sx Go.RowKit Go.Proofs
theorem hF {C : Ctx} {f : Nat} {args : List SV} {h : List HB} {k : List HB → SV → Prop} (ids : List Nat) (c : CallH (EV C) f args (bA h ids) k ⟨⟩) : CallH (EV C) f args h k ⟨⟩ := by
 obtain ⟨β, Pb, h', s, h1, h2⟩ := c.out
 exact ⟨β, Pb, h', s, fun T => CallS.sees (E := EV C) (st := ⟨T, h⟩) (st' := ⟨T, bA h ids⟩) (fun g V a w hr => by obtain ⟨g', V', q, _⟩ := iB ids hr; exact ⟨g', V', q⟩) (fun g V a w hr => by obtain ⟨g', V', q, q1, q2, _⟩ := iB ids hr; exact ⟨g', V', q, q1, q2⟩) (h1 T), h2⟩
theorem hB {C : Ctx} {f ty id : Nat} {ds : List D} {args' rest : List SV} {α : Type} {Q : α → Prop} {res : α → SV} {ds' : α → List D} {h : List HB} {k : List HB → SV → Prop} (c : FnB Tryz.prog f ty ds args' Q res ds') (hid : a6b ty ds (bM h id)) (he : rest.map (eB h) = args') (hfree : args'.all bI = true)
    (k2 : ∀ a, Q a → k (setH h id (reD (ds' a) (bM h id)) ++ adH (res a).all) (adS (setH h id (reD (ds' a) (bM h id))).length (res a))) : CallH (EV C) f (.o (.p id 0) :: rest) h k ⟨⟩ :=
 ⟨α, Q, _, _, fun T => CallS.block (E := EV C) (st := ⟨T, h⟩) c hid he hfree fun a ha => ⟨a, ha, rfl, rfl⟩, k2⟩
theorem aR {C : Ctx} {f ty id : Nat} {ds : List D} {args' rest : List SV} {α : Type} {Q : α → Prop} {res : α → SV} {ds' : α → List D} {st : St} {K : St → SV → Prop} (c : FnB Tryz.prog f ty ds args' Q res ds') (hid : a6b ty ds (bM (bA st.h (dD rest)) id)) (he : rest.map (eB (bA st.h (dD rest))) = args') (hfree : args'.all bI = true)
    (k : ∀ a, Q a → K ⟨st.t, setH (bA st.h (dD rest)) id (reD (ds' a) (bM (bA st.h (dD rest)) id)) ++ adH (res a).all⟩ (adS (setH (bA st.h (dD rest)) id (reD (ds' a) (bM (bA st.h (dD rest)) id))).length (res a))) : CallT (EV C) f (.o (.p id 0) :: rest) st K ⟨⟩ := b8c (dD rest) (a0f c hid he hfree k)
theorem hZ {C : Ctx} {f ty id : Nat} {ds : List D} {args' rest : List SV} {α : Type} {Q : α → Prop} {res : α → SV} {ds' : α → List D} {h : List HB} {k : List HB → SV → Prop} (c : FnB Tryz.prog f ty ds args' Q res ds') (hid : a6b ty ds (bM (bA h (dD rest)) id)) (he : rest.map (eB (bA h (dD rest))) = args') (hfree : args'.all bI = true)
    (k2 : ∀ a, Q a → k (setH (bA h (dD rest)) id (reD (ds' a) (bM (bA h (dD rest)) id)) ++ adH (res a).all) (adS (setH (bA h (dD rest)) id (reD (ds' a) (bM (bA h (dD rest)) id))).length (res a))) : CallH (EV C) f (.o (.p id 0) :: rest) h k ⟨⟩ := hF (dD rest) (hB c hid he hfree k2)
abbrev Drw (l : List Int) (f : Nat) (args : List SV) {T : Type} (Q : T → Prop) (res : T → SV) : Prop := ∀ (i : Nat) (h : Int), i ≤ l.length → inR .i64 h →
 FnB Tryz.prog f 77 (a3i l i h) args (fun x : T × Nat × Int => Q x.1 ∧ (x.2.1 ≤ l.length ∧ inR .i64 x.2.2)) (fun x => res x.1) (fun x => a3i l x.2.1 x.2.2)
def b8T {T : Type} (_ : T) : Prop := True
def fP (l : List Int) : Prop := l.length ≤ 1048576 ∧ ∀ i ∈ l, inR .u8 i
theorem dQ {l : List Int} (hl : fP l) (n : Int) (hn : 1 ≤ n) (hn2 : n ≤ 1000000000) : Drw l 53 [oi n] (fun b : Bool => b8T b) (fun b => ob b) := by
 intro i h hi hh; refine nI Tryz.func53 rfl Tryz.call53 rfl (fun C b => ?_); simp only [go_sem, Tryz.ntmps53]
 refine aD ?_
 refine a0f (a0e l hl.1 hl.2 i h hi hh n hn hn2) ⟨rfl, rfl⟩ rfl rfl ?_
 rintro ⟨x, i1, h1⟩ ⟨⟨b1, b2⟩, b3, b4⟩
 simp only at b1 b2 b3 b4
 simp only [go_sem]
 refine aD ?_
 exact aJ (decide (x = 0), i1, h1) ⟨⟨_, rfl, by simp only [go_sem]⟩, trivial⟩ ⟨trivial, ⟨b3, b4⟩⟩ (by simp only [go_sem])
theorem aH {l : List Int} (hl : fP l) (n : Int) (hn : 1 ≤ n) (hn2 : n ≤ 1000000000) : Drw l 50 [oi n] (fun x : Int => 0 ≤ x ∧ x < n) (fun x => oi x) := fun i h hi hh => a0e l hl.1 hl.2 i h hi hh n hn hn2
theorem dG {l : List Int} (hl : fP l) (ns : List ByteArray) (h0 : 1 ≤ ns.length) (h1 : ns.length ≤ 1000000000) : Drw l 55 [.o (.d (.sl (ns.map iV)))] (fun x : ByteArray => x ∈ ns) (fun x => os x) := by
 intro i h hi hh; refine nI Tryz.func55 rfl Tryz.call55 rfl (fun C b => ?_); simp only [go_sem, Tryz.ntmps55]
 refine aD ?_
 refine a0f (a0e l hl.1 hl.2 i h hi hh ns.length (by omega) (by omega)) ⟨rfl, rfl⟩ rfl rfl ?_
 rintro ⟨x, i1, h1⟩ ⟨⟨b1, b2⟩, b3, b4⟩
 simp only at b1 b2 b3 b4
 obtain ⟨k, rfl⟩ := Int.eq_ofNat_of_zero_le b1
 have hk : k < ns.length := by omega
 simp only [go_sem]
 have q0 := @hk; refine fF ?_
 exact aJ (ns[k], i1, h1) ⟨⟨_, rfl, by simp only [go_sem]⟩, trivial⟩ ⟨List.getElem_mem hk, ⟨b3, b4⟩⟩ (by simp only [go_sem])
theorem eX {l : List Int} (hl : fP l) (ns : List Int) (h0 : 1 ≤ ns.length) (h1 : ns.length ≤ 1000000000) : Drw l 66 [.o (.d (.sl (ns.map eZ)))] (fun x : Int => x ∈ ns) (fun x => oi x) := by
 intro i h hi hh; refine nI Tryz.func66 rfl Tryz.call66 rfl (fun C b => ?_); simp only [go_sem, Tryz.ntmps66]
 refine aD ?_
 refine a0f (a0e l hl.1 hl.2 i h hi hh ns.length (by omega) (by omega)) ⟨rfl, rfl⟩ rfl rfl ?_
 rintro ⟨x, i1, h1⟩ ⟨⟨b1, b2⟩, b3, b4⟩
 simp only at b1 b2 b3 b4
 obtain ⟨k, rfl⟩ := Int.eq_ofNat_of_zero_le b1
 have hk : k < ns.length := by omega
 simp only [go_sem]
 have q0 := @hk; refine fF ?_
 exact aJ (ns[k], i1, h1) ⟨⟨_, rfl, by simp only [go_sem]⟩, trivial⟩ ⟨List.getElem_mem hk, ⟨b3, b4⟩⟩ (by simp only [go_sem])
theorem pG (n : Int) : FnC Tryz.prog 62 [oi n] (fM ⟨1, n, ⟨#[]⟩⟩) := by
 refine ent Tryz.func62 rfl Tryz.call62 rfl (fun C => ?_); simp only [go_sem, st0, Tryz.ntmps62]
 refine aD ?_
 exact aA ⟨⟨_, rfl, by simp only [go_sem]⟩, trivial⟩
theorem rY (s : ByteArray) : FnC Tryz.prog 63 [os s] (fM ⟨2, 0, s⟩) := by
 refine ent Tryz.func63 rfl Tryz.call63 rfl (fun C => ?_); simp only [go_sem, st0, Tryz.ntmps63]
 refine aD ?_
 exact aA ⟨⟨_, rfl, by simp only [go_sem]⟩, trivial⟩
def w1 (s : ByteArray) : Prop := s.size ≤ 6
@[go_sem] def b6D : List ByteArray := [⟨#[97]⟩, ⟨#[98]⟩, ⟨#[110]⟩, ⟨#[116]⟩, ⟨#[97]⟩, ⟨#[98]⟩, ⟨#[116]⟩, ⟨#[122]⟩, ⟨#[65]⟩, ⟨#[]⟩]
theorem b6E : ∀ s ∈ b6D, s.size ≤ 6 := by decide +kernel
theorem jB {l : List Int} (hl : fP l) : Drw l 27 [] (fun s : ByteArray => w1 s) (fun s => os s) := by
 intro i h hi hh; refine nI Tryz.func27 rfl Tryz.call27 rfl (fun C b => ?_); simp only [go_sem, Tryz.ntmps27]
 refine aD ?_
 first | (refine aR (dG hl b6D (by decide) (by decide) i h hi hh) ⟨rfl, rfl⟩ ?_ rfl ?_; (focus first | rfl | (simp only [go_sem]; done))) | (refine hZ (dG hl b6D (by decide) (by decide) i h hi hh) ⟨rfl, rfl⟩ ?_ rfl ?_; (focus first | rfl | (simp only [go_sem]; done)))
 clear hi hh; rintro ⟨s, i, h⟩ ⟨hs, hi, hh⟩; simp only at hs hi hh; simp only [go_sem]
 refine aD ?_
 exact aJ (s, i, h) ⟨⟨_, rfl, by simp only [go_sem]⟩, trivial⟩ ⟨b6E s hs, ⟨hi, hh⟩⟩ (by simp only [go_sem])
@[go_sem] def b6F : List ByteArray := [⟨#[100, 97]⟩, ⟨#[100, 98]⟩, ⟨#[100, 99]⟩, ⟨#[100, 100]⟩, ⟨#[100, 101]⟩, ⟨#[122, 122]⟩, ⟨#[]⟩]
theorem b6G : ∀ s ∈ b6F, s.size ≤ 6 := by decide +kernel
theorem a3g {l : List Int} (hl : fP l) : Drw l 65 [] (fun s : ByteArray => w1 s) (fun s => os s) := by
 intro i h hi hh; refine nI Tryz.func65 rfl Tryz.call65 rfl (fun C b => ?_); simp only [go_sem, Tryz.ntmps65]
 refine aD ?_
 first | (refine aR (dG hl b6F (by decide) (by decide) i h hi hh) ⟨rfl, rfl⟩ ?_ rfl ?_; (focus first | rfl | (simp only [go_sem]; done))) | (refine hZ (dG hl b6F (by decide) (by decide) i h hi hh) ⟨rfl, rfl⟩ ?_ rfl ?_; (focus first | rfl | (simp only [go_sem]; done)))
 clear hi hh; rintro ⟨s, i, h⟩ ⟨hs, hi, hh⟩; simp only at hs hi hh; simp only [go_sem]
 refine aD ?_
 exact aJ (s, i, h) ⟨⟨_, rfl, by simp only [go_sem]⟩, trivial⟩ ⟨b6G s hs, ⟨hi, hh⟩⟩ (by simp only [go_sem])
@[go_sem] def nm9 : List ByteArray := [⟨#[100, 97]⟩, ⟨#[100, 98]⟩, ⟨#[100, 99]⟩, ⟨#[100, 100]⟩, ⟨#[100, 97]⟩, ⟨#[100, 98]⟩, ⟨#[100, 99]⟩]
theorem b8a : ∀ s ∈ nm9, s.size ≤ 6 := by decide +kernel
theorem iQ {l : List Int} (hl : fP l) : Drw l 155 [] (fun s : ByteArray => w1 s) (fun s => os s) := by
 intro i h hi hh; refine nI Tryz.func155 rfl Tryz.call155 rfl (fun C b => ?_); simp only [go_sem, Tryz.ntmps155]
 refine aD ?_
 first | (refine aR (dG hl nm9 (by decide) (by decide) i h hi hh) ⟨rfl, rfl⟩ ?_ rfl ?_; (focus first | rfl | (simp only [go_sem]; done))) | (refine hZ (dG hl nm9 (by decide) (by decide) i h hi hh) ⟨rfl, rfl⟩ ?_ rfl ?_; (focus first | rfl | (simp only [go_sem]; done)))
 clear hi hh; rintro ⟨s, i, h⟩ ⟨hs, hi, hh⟩; simp only at hs hi hh; simp only [go_sem]
 refine aD ?_
 exact aJ (s, i, h) ⟨⟨_, rfl, by simp only [go_sem]⟩, trivial⟩ ⟨b8a s hs, ⟨hi, hh⟩⟩ (by simp only [go_sem])
@[go_sem] def us6 : List Int := [0, 1, 2, 0, 1, 3, -1]
theorem a3h {l : List Int} (hl : fP l) : Drw l 93 [] (fun n : Int => -1 ≤ n ∧ n ≤ 3) (fun n => oi n) := by
 intro i h hi hh; refine nI Tryz.func93 rfl Tryz.call93 rfl (fun C b => ?_); simp only [go_sem, Tryz.ntmps93]
 refine aD ?_
 first | (refine aR (eX hl us6 (by decide) (by decide) i h hi hh) ⟨rfl, rfl⟩ ?_ rfl ?_; (focus first | rfl | (simp only [go_sem]; done))) | (refine hZ (eX hl us6 (by decide) (by decide) i h hi hh) ⟨rfl, rfl⟩ ?_ rfl ?_; (focus first | rfl | (simp only [go_sem]; done)))
 clear hi hh; rintro ⟨n, i, h⟩ ⟨hs, hi, hh⟩; simp only at hs hi hh; simp only [go_sem]
 have hn := (by decide : ∀ n ∈ us6, -1 ≤ n ∧ n ≤ 3) n hs
 refine aD ?_
 exact aJ (n, i, h) ⟨⟨_, rfl, by simp only [go_sem]⟩, trivial⟩ ⟨hn, ⟨hi, hh⟩⟩ (by simp only [go_sem])
@[go_sem] def id5 : List Int := [1, 2, 3, 4, 5, 2, 3, 9, 0, -1, 9223372036854775807]
structure valD (v : TValue) : Prop where
 w : v.fStr.size ≤ 7
 k : inR .i64 v.fKind
 n : inR .i64 v.fInt
@[go_sem] def wd3 : List ByteArray := [⟨#[114, 101, 100]⟩, ⟨#[98, 108, 117, 101]⟩, ⟨#[105, 110, 107]⟩]
theorem in0 : inR .i64 0 := by simp [inR]
theorem in1 : inR .i64 1 := by simp [inR]
theorem in2 : inR .i64 2 := by simp [inR]
theorem b3h {x : Int} (h : inR .i64 x) : valD ⟨1, x, ⟨#[]⟩⟩ := ⟨Nat.zero_le 7, in1, h⟩
theorem b3i {s : ByteArray} (h : s.size ≤ 7) : valD ⟨2, 0, s⟩ := ⟨h, in2, in0⟩
theorem b6H : valD ⟨0, 0, ⟨#[]⟩⟩ := ⟨Nat.zero_le 7, in0, in0⟩
theorem qM {l : List Int} (hl : fP l) : Drw l 36 [] (fun v : TValue => valD v) (fun v => fM v) := by
 intro i h hi hh; refine nI Tryz.func36 rfl Tryz.call36 rfl (fun C b => ?_); simp only [go_sem, Tryz.ntmps36]
 refine aD ?_
 first | (refine aR (aH hl 5 (by decide) (by decide) i h hi hh) ⟨rfl, rfl⟩ ?_ rfl ?_; (focus first | rfl | (simp only [go_sem]; done))) | (refine hZ (aH hl 5 (by decide) (by decide) i h hi hh) ⟨rfl, rfl⟩ ?_ rfl ?_; (focus first | rfl | (simp only [go_sem]; done)))
 clear hi hh; rintro ⟨k, i, h⟩ ⟨hk, hi, hh⟩; simp only at hk hi hh; simp only [go_sem]
 have h5 : k = 0 ∨ k = 1 ∨ k = 2 ∨ k = 3 ∨ k = 4 := by omega
 rcases h5 with rfl | rfl | rfl | rfl | rfl
 ·refine aD ?_
  exact aJ (⟨0, 0, ⟨#[]⟩⟩, i, h) ⟨⟨_, rfl, by simp only [go_sem]⟩, trivial⟩ ⟨b6H, ⟨hi, hh⟩⟩ (by simp only [go_sem])
 ·refine aD ?_
  first | (refine aR (aH hl 5 (by decide) (by decide) i h hi hh) ⟨rfl, rfl⟩ ?_ rfl ?_; (focus first | rfl | (simp only [go_sem]; done))) | (refine hZ (aH hl 5 (by decide) (by decide) i h hi hh) ⟨rfl, rfl⟩ ?_ rfl ?_; (focus first | rfl | (simp only [go_sem]; done)))
  clear hi hh; rintro ⟨x, i, h⟩ ⟨hx, hi, hh⟩; simp only at hx hi hh; simp only [go_sem]
  refine iE (pG x) ?_
  exact aJ (⟨1, x, ⟨#[]⟩⟩, i, h) ⟨⟨_, rfl, by simp only [go_sem]⟩, trivial⟩ ⟨b3h (by simp only [inR]; omega), ⟨hi, hh⟩⟩ (by simp only [go_sem])
 ·refine aD ?_
  first | (refine aR (aH hl 5 (by decide) (by decide) i h hi hh) ⟨rfl, rfl⟩ ?_ rfl ?_; (focus first | rfl | (simp only [go_sem]; done))) | (refine hZ (aH hl 5 (by decide) (by decide) i h hi hh) ⟨rfl, rfl⟩ ?_ rfl ?_; (focus first | rfl | (simp only [go_sem]; done)))
  clear hi hh; rintro ⟨x, i, h⟩ ⟨hx, hi, hh⟩; simp only at hx hi hh; simp only [go_sem]
  refine iE (pG x) ?_
  exact aJ (⟨1, x, ⟨#[]⟩⟩, i, h) ⟨⟨_, rfl, by simp only [go_sem]⟩, trivial⟩ ⟨b3h (by simp only [inR]; omega), ⟨hi, hh⟩⟩ (by simp only [go_sem])
 ·refine aD ?_
  first | (refine aR (dG hl wd3 (by decide) (by decide) i h hi hh) ⟨rfl, rfl⟩ ?_ rfl ?_; (focus first | rfl | (simp only [go_sem]; done))) | (refine hZ (dG hl wd3 (by decide) (by decide) i h hi hh) ⟨rfl, rfl⟩ ?_ rfl ?_; (focus first | rfl | (simp only [go_sem]; done)))
  clear hi hh; rintro ⟨s, i, h⟩ ⟨hs, hi, hh⟩; simp only at hs hi hh; simp only [go_sem]
  have hw := (by decide +kernel : ∀ s ∈ wd3, s.size ≤ 7) s hs
  refine iE (rY s) ?_
  exact aJ (⟨2, 0, s⟩, i, h) ⟨⟨_, rfl, by simp only [go_sem]⟩, trivial⟩ ⟨b3i hw, ⟨hi, hh⟩⟩ (by simp only [go_sem])
 ·refine aD ?_
  first | (refine aR (dG hl wd3 (by decide) (by decide) i h hi hh) ⟨rfl, rfl⟩ ?_ rfl ?_; (focus first | rfl | (simp only [go_sem]; done))) | (refine hZ (dG hl wd3 (by decide) (by decide) i h hi hh) ⟨rfl, rfl⟩ ?_ rfl ?_; (focus first | rfl | (simp only [go_sem]; done)))
  clear hi hh; rintro ⟨s, i, h⟩ ⟨hs, hi, hh⟩; simp only at hs hi hh; simp only [go_sem]
  have hw := (by decide +kernel : ∀ s ∈ wd3, s.size ≤ 7) s hs
  refine iE (rY s) ?_
  exact aJ (⟨2, 0, s⟩, i, h) ⟨⟨_, rfl, by simp only [go_sem]⟩, trivial⟩ ⟨b3i hw, ⟨hi, hh⟩⟩ (by simp only [go_sem])
end Go.Proofs.YtakopfjdmmnjcaaGreatDoor
end
section
section
set_option linter.all false
set_option maxRecDepth 100000
set_option maxHeartbeats 4000000
namespace Go.Proofs.YtakopfjdmmnjcaaGreatDoor
open Go Go.Sx Go.RowKit Go.Proofs
def b8f (k : Nat) (out : ByteArray) : ByteArray :=
 if h : k = 0 then out else b8f (k / 10) (rQ [(48 : Int) + ((k % 10 : Nat) : Int)] ++ out)
decreasing_by omega
def wC (k : Int) : ByteArray := ⟨#[109]⟩ ++ b8f k.toNat ⟨#[]⟩
def a0l (x : Int) : Nat := 1
def b0y (x : Int) (k : Int) : Int := k
def b9u (x : ByteArray) : Nat := 1
def b9v (x : ByteArray) (k : Int) : ByteArray := (wC k)
def b8Z (x : Bool) : Nat := 1
def b9a (x : Bool) (k : Int) : Bool := (decide (Int.tmod k 3 = 0))
end Go.Proofs.YtakopfjdmmnjcaaGreatDoor
end
section
set_option linter.all false
set_option maxRecDepth 100000
set_option maxHeartbeats 4000000
namespace Go.Proofs.YtakopfjdmmnjcaaGreatDoor
open Go Go.Sx Go.RowKit Go.Proofs
def b8D (x : TField) : Nat := 2
def b8E (x : TField) (k : Int) : TField := ⟨(wC k), (k + 1)⟩
def yO (x : TAttr) : Nat := 4
def b3u (x : TAttr) (k : Int) : TAttr := ⟨(wC k), ⟨(k + 1), ((k + 1) + 1), (wC (((k + 1) + 1) + 1))⟩⟩
def a6e (x : TNode) : Nat := 7
def b3v (x : TNode) (k : Int) : TNode := ⟨k, (k + 1), ((k + 1) + 1), (wC (((k + 1) + 1) + 1)), ⟨((((k + 1) + 1) + 1) + 1), (((((k + 1) + 1) + 1) + 1) + 1), (wC ((((((k + 1) + 1) + 1) + 1) + 1) + 1))⟩⟩
end Go.Proofs.YtakopfjdmmnjcaaGreatDoor
end
section
set_option linter.all false
set_option maxRecDepth 100000
set_option maxHeartbeats 4000000
namespace Go.Proofs.YtakopfjdmmnjcaaGreatDoor
open Go Go.Sx Go.RowKit Go.Proofs
def b9b (x : TFile) : Nat := 4 + xH yO x.fAttrs
def b9c (x : TFile) (k : Int) : TFile := ⟨k, (k + 1), (decide (Int.tmod ((k + 1) + 1) 3 = 0)), (((k + 1) + 1) + 1), (mkL b3u yO x.fAttrs ((((k + 1) + 1) + 1) + 1))⟩
def b9w (x : TDir) : Nat := 1 + xH a6e x.fQuery
def b9x (x : TDir) (k : Int) : TDir := ⟨(wC k), (mkL b3v a6e x.fQuery (k + 1))⟩
def b8g (x : TResult) : Nat := 1 + xH a0l x.fIDs
def b8h (x : TResult) (k : Int) : TResult := ⟨(wC k), (mkL b0y a0l x.fIDs (k + 1))⟩
def b9d (x : TDiff) : Nat := 1 + xH a0l x.fAdded + xH a0l x.fRemoved
def b9e (x : TDiff) (k : Int) : TDiff := ⟨(wC k), (mkL b0y a0l x.fAdded (k + 1)), (mkL b0y a0l x.fRemoved ((k + 1) + (xH a0l x.fAdded : Nat)))⟩
def b8F (x : TGroup) : Nat := 3 + xH a0l x.fIDs
def b8G (x : TGroup) (k : Int) : TGroup := ⟨⟨k, (k + 1), (wC ((k + 1) + 1))⟩, (mkL b0y a0l x.fIDs (((k + 1) + 1) + 1))⟩
def b8i (x : TChange) : Nat := 7 + xH yO x.fFile.fAttrs + xH a6e x.fDir.fQuery
def b8j (x : TChange) (k : Int) : TChange := ⟨k, ⟨(k + 1), ((k + 1) + 1), (decide (Int.tmod (((k + 1) + 1) + 1) 3 = 0)), ((((k + 1) + 1) + 1) + 1), (mkL b3u yO x.fFile.fAttrs (((((k + 1) + 1) + 1) + 1) + 1))⟩, ((((((k + 1) + 1) + 1) + 1) + 1) + (xH yO x.fFile.fAttrs : Nat)), ⟨(wC (((((((k + 1) + 1) + 1) + 1) + 1) + (xH yO x.fFile.fAttrs : Nat)) + 1)), (mkL b3v a6e x.fDir.fQuery ((((((((k + 1) + 1) + 1) + 1) + 1) + (xH yO x.fFile.fAttrs : Nat)) + 1) + 1))⟩⟩
end Go.Proofs.YtakopfjdmmnjcaaGreatDoor
end
section
set_option linter.all false
set_option maxRecDepth 100000
set_option maxHeartbeats 4000000
namespace Go.Proofs.YtakopfjdmmnjcaaGreatDoor
open Go Go.Sx Go.RowKit Go.Proofs
end Go.Proofs.YtakopfjdmmnjcaaGreatDoor
end
section
set_option linter.all false
namespace Go.Proofs.YtakopfjdmmnjcaaGreatDoor
open Go Go.Sx Go.RowKit Go.Proofs
end Go.Proofs.YtakopfjdmmnjcaaGreatDoor
end
end
section
section
set_option linter.all false
namespace Go.Sx
open Go Go.RowKit
def xI {α : Type} (e : α → Value) (l : List α) : List (List D) := l.map fun x => [.v (e x)]
theorem kK {α : Type} (e : α → Value) (l : List α) : (xI e l).flatten = l.map fun x => D.v (e x) := by
 induction l with
 | nil => rfl
 | cons x l ih => simp only [xI, List.map_cons, List.flatten_cons] at ih ⊢; rw [ih]; rfl
theorem scal_down {α : Type} [Inhabited α] {e : α → Value} {V : View} {w : World} {ty : Nat} {l : List α} {y : Value} {S : List Nat} (h : RowR V w ty 1 (xI e l) y S) :
    ((∃ ao, y = .slice ao 0 0) ∧ l = [] ∧ S = []) ∨ ∃ b cap c, y = .slice (some ⟨b, 0, none⟩) l.length cap ∧ l.length ≤ cap ∧ cap ≤ maxLen ∧ w.heap[b]? = some (.cells c ty (0, 0)) ∧ c.size = cap ∧ Sort.Holds e w b 0 l.toArray ∧ V b = none ∧ S = [b] := by
 obtain ⟨h0, ys, Ss, h1, h3⟩ := h
 rcases h3 with ⟨ha, hb, hc⟩ | ⟨b, cap, c, rfl, e3, e4, e5, e6, e7, e8, rfl⟩
 ·exact .inl ⟨ha, by simpa [xI] using hb, hc⟩
 ·have key : ∀ j (hj : j < l.length), ys[j]? = some (e l[j]) ∧ Ss[j]? = some [] := fun j hj => by
   have hd : (xI e l).flatten[j]? = some (.v (e l[j])) := by rw [kK]; simp [hj]
   have hlt : j < ys.length := by rw [h1.1]; exact (List.getElem?_eq_some_iff.1 hd).1
   have hls : j < Ss.length := by rw [h1.2.1]; exact (List.getElem?_eq_some_iff.1 hd).1
   have hl := h1.2.2 j _ _ _ hd (List.getElem?_eq_getElem hlt) (List.getElem?_eq_getElem hls)
   rw [List.getElem?_eq_getElem hlt, List.getElem?_eq_getElem hls]
   generalize ys[j] = z at hl ⊢
   generalize Ss[j] = s at hl ⊢
   cases hl
   exact ⟨rfl, rfl⟩
  have hlen : Ss.length = l.length := by rw [h1.2.1, kK, List.length_map]
  refine .inr ⟨b, cap, c, by simp [xI], by simpa [xI] using e3, e4, e5, by simpa using e6, fun j hj => ?_, e8, ?_⟩
  ·have hj' : j < l.length := by simpa using hj
   have hy := fZ e7 (key j hj').1
   refine ⟨?_, by simp [World.frozen?, e5]⟩
   simp only [World.cell?, e5, Nat.zero_add]
   simp only [Option.isSome_none, Bool.false_eq_true, if_false]
   rw [← Array.getElem?_toList, hy]
   congr 1
   rw [getElem!_pos l.toArray j (by simpa using hj')]
   simp
  ·congr 1
   refine List.flatten_eq_nil_iff.2 fun s hs => ?_
   obtain ⟨j, hj, rfl⟩ := List.mem_iff_getElem.1 hs
   have := (key j (by omega)).2
   rw [List.getElem?_eq_getElem hj] at this
   exact Option.some.inj this
theorem b0z {α : Type} [Inhabited α] {e : α → Value} (hs : ∀ x, scalar (e x) = true) {V : View} {w w' : World} {b ty cap n : Nat} {c : Array Value} {d : Array α} {l : List α} {os : Array Obj} (hb : w.heap[b]? = some (.cells c ty (0, 0)))
    (hc : c.size = cap) (hcap : cap ≤ maxLen) (hd : d.size ≤ cap) (hw : w' = Sort.grow (Sort.putRow e (Sort.ahead w n) b 0 d) os) (hl : l <+: d.toList) (hV : V b = none) :
    RowR V w' ty 1 (xI e l) (.slice (some ⟨b, 0, none⟩) l.length cap) [b] ∧ w.grownBy w' (some b) := by
 have hlt : b < w.heap.size := (Array.getElem?_eq_some_iff.1 hb).1
 have hle : l.length ≤ d.size := by have := hl.length_le; simpa using this
 have hheap : w'.heap[b]? = some (.cells (Sort.putCells e 0 d c) ty (0, 0)) := by
  subst hw
  rw [Sort.heap_grow_old _ _ (by simp [Sort.putRow, Sort.mapBlock, Sort.ahead]; exact hlt)]
  simp only [Sort.putRow, Sort.mapBlock, Sort.ahead, Array.getElem?_modify, if_true, hb, Option.map_some, Sort.onCells]
 refine ⟨⟨fun r hr => ?_, l.map e, List.replicate l.length [], ⟨by rw [kK]; simp, by rw [kK]; simp, fun k dd y s h1 h2 h3 => ?_⟩, .inr ⟨b, cap, _, by simp [xI], by simp [xI]; omega, hcap, hheap, by simp [Sort.putCells, hc], ?_, hV, ?_⟩⟩, ?_⟩
 ·obtain ⟨x, _, rfl⟩ := List.mem_map.1 hr; rfl
 ·rw [kK, List.getElem?_map] at h1
  rw [List.getElem?_map] at h2
  cases hk : l[k]? with
  | none => rw [hk] at h1; cases h1
  | some x =>
   rw [hk] at h1 h2
   cases h1; cases h2
   rw [List.getElem?_replicate] at h3
   split at h3
   ·cases h3; exact .v _ (hs x)
   ·cases h3
 ·refine List.prefix_iff_eq_take.2 ?_
  apply List.ext_getElem?
  intro j
  rw [List.getElem?_take, List.getElem?_map]
  simp only [List.length_map]
  by_cases hj : j < l.length
  ·have hjc : j < c.size := by omega
   have hdj : d.toList[j]? = some l[j] := fZ hl (List.getElem?_eq_getElem hj)
   rw [Array.getElem?_toList, Array.getElem?_eq_getElem (by omega)] at hdj
   have h1 : (Sort.putCells e 0 d c).toList[j]? = some (e l[j]) := by
    rw [Array.getElem?_toList]
    simp only [Sort.putCells, Array.getElem?_mapIdx, Array.getElem?_eq_getElem hjc, Option.map_some]
    rw [if_pos (by omega), Nat.sub_zero, getElem!_pos d j (by omega), Option.some.inj hdj]
   rw [if_pos hj, h1, List.getElem?_eq_getElem hj]; rfl
  ·rw [if_neg hj, List.getElem?_eq_none (by omega)]; rfl
 ·simp
 ·subst hw
  refine ⟨rfl, rfl, rfl, by simp [Sort.putRow, Sort.mapBlock, Sort.ahead], fun k hk hne => ?_⟩
  rw [Sort.heap_grow_old _ _ (by simp [Sort.putRow, Sort.mapBlock, Sort.ahead]; exact hk)]
  simp only [Sort.putRow, Sort.mapBlock, Sort.ahead, Array.getElem?_modify]
  rw [if_neg (fun e => hne (by rw [e]))]
end Go.Sx
end
section
set_option linter.all false
namespace Go.Sx
open Go Go.RowKit
structure RowAt (w wr : World) (b ty N : Nat) (F : List Value) : Prop where
 cells : ∃ c : Array Value, wr.heap[b]? = some (.cells c ty (0, 0)) ∧ c.size = N ∧ F <+: c.toList
 grown : w.grownBy wr (some b)
theorem xP {w w1 w2 : World} {r : Option Nat} (h1 : w.grownBy w1 r) (h2 : w1.grownBy w2 r) : w.grownBy w2 r :=
 ⟨h2.os.trans h1.os, h2.tape.trans h1.tape, h2.output.trans h1.output, Nat.le_trans h1.size h2.size, fun k hk hn => (h2.block k (Nat.lt_of_lt_of_le hk h1.size) hn).trans (h1.block k hk hn)⟩
theorem a3Y {w w' : World} (r : Option Nat) (h : Below w.heap.size w w') : w.grownBy w' r := ⟨h.os, h.tape, h.output, h.size, fun k hk _ => h.block k hk⟩
variable {w wr : World} {b ty N : Nat} {F : List Value}
theorem RowAt.lt (h : RowAt w wr b ty N F) : b < wr.heap.size := by
 obtain ⟨c, h1, _⟩ := h.cells
 exact (Array.getElem?_eq_some_iff.1 h1).1
theorem RowAt.le (h : RowAt w wr b ty N F) : F.length ≤ N := by
 obtain ⟨c, _, h2, h3⟩ := h.cells
 have := h3.length_le
 simpa [h2] using this
theorem RowAt.cell (h : RowAt w wr b ty N F) {t : Nat} {v : Value} (ht : F[t]? = some v) : wr.cell? ⟨b, t, none⟩ = some v := by
 obtain ⟨c, h1, h2, h3⟩ := h.cells
 have := fZ h3 ht
 simp only [World.cell?, h1, Option.isSome_none, Bool.false_eq_true, if_false]
 rw [← Array.getElem?_toList]; exact this
theorem RowAt.there (h : RowAt w wr b ty N F) {t : Nat} (ht : t < N) : (wr.cell? ⟨b, t, none⟩).isSome = true := by
 obtain ⟨c, h1, h2, h3⟩ := h.cells
 simp only [World.cell?, h1, Option.isSome_none, Bool.false_eq_true, if_false]
 simp [h2, ht]
theorem RowAt.frozen (h : RowAt w wr b ty N F) (t : Nat) : wr.frozen? ⟨b, t, none⟩ = false := by
 obtain ⟨c, h1, _⟩ := h.cells
 simp [World.frozen?, h1]
theorem RowAt.behind (h : RowAt w wr b ty N F) {w' : World} (hb : Below wr.heap.size wr w') : RowAt w w' b ty N F := by
 obtain ⟨c, h1, h2, h3⟩ := h.cells
 exact ⟨⟨c, by rw [hb.block b h.lt]; exact h1, h2, h3⟩, xP h.grown (a3Y _ hb)⟩
theorem a3Z (F : List Value) (s : Nat) (v : Value) (c : List Value) (hF : F <+: c) (hs : s ≤ F.length) (hc : s < c.length) : F.take s ++ v :: F.drop (s + 1) <+: c.set s v := by
 obtain ⟨r, rfl⟩ := hF
 rcases Nat.lt_or_ge s F.length with h | h
 ·refine ⟨r, ?_⟩
  rw [List.set_append_left _ _ h, List.set_eq_take_append_cons_drop, if_pos h]
 ·have e : s = F.length := by omega
  subst e
  rw [List.take_of_length_le (Nat.le_refl _), List.drop_of_length_le (by omega), List.set_append_right _ _ (Nat.le_refl _), Nat.sub_self]
  cases r with
  | nil => simp at hc
  | cons x r => exact ⟨r, by simp⟩
theorem RowAt.set1 (h : RowAt w wr b ty N F) {s : Nat} (hs : s ≤ F.length) (hN : s < N) (v : Value) : RowAt w (wr.setCell ⟨b, s, none⟩ v) b ty N (F.take s ++ v :: F.drop (s + 1)) := by
 obtain ⟨c, h1, h2, h3⟩ := h.cells
 rw [Sort.setCell_eq]
 refine ⟨⟨c.setIfInBounds s v, ?_, by simp [h2], ?_⟩, xP h.grown ⟨rfl, rfl, rfl, by simp [Sort.mapBlock], fun k hk hne => ?_⟩⟩
 ·simp only [Sort.mapBlock, Array.getElem?_modify, if_true, h1, Option.map_some, Sort.onCells]
 ·rw [Array.toList_setIfInBounds]
  exact a3Z F s v c.toList h3 hs (by simpa [h2] using hN)
 ·simp only [Sort.mapBlock, Array.getElem?_modify]
  rw [if_neg (fun e => hne (by rw [e]))]
theorem RowAt.set : ∀ (vs : List Value) {wr : World} {F : List Value} {s : Nat}, RowAt w wr b ty N F → s ≤ F.length → s + vs.length ≤ N → RowAt w (wr.setCells b s vs) b ty N (F.take s ++ vs ++ F.drop (s + vs.length))
 | [], wr, F, s, h, hs, hN => by simpa [World.setCells] using h
 | v :: vs, wr, F, s, h, hs, hN => by
  simp only [List.length_cons] at hN
  have h1 := h.set1 hs (by omega) v
  have h2 := RowAt.set vs (s := s + 1) h1 (by simp; omega) (by omega)
  rw [World.setCells]
  have e1 : (F.take s ++ v :: F.drop (s + 1)).take (s + 1) = F.take s ++ [v] := by
   rw [List.take_append, List.take_of_length_le (by simp; omega), List.length_take, Nat.min_eq_left hs, Nat.add_sub_cancel_left]; rfl
  have e2 : (F.take s ++ v :: F.drop (s + 1)).drop (s + 1 + vs.length) = F.drop (s + (vs.length + 1)) := by
   rw [List.drop_append, List.drop_of_length_le (by simp; omega), List.length_take, Nat.min_eq_left hs, List.nil_append, show s + 1 + vs.length - s = vs.length + 1 by omega, List.drop_succ_cons, List.drop_drop]
   congr 1; omega
  rw [e1, e2] at h2
  simpa [List.append_assoc] using h2
end Go.Sx
end
section
set_option linter.all false
namespace Go.Proofs.YtakopfjdmmnjcaaGreatDoor
open Go Go.Sx Go.RowKit Go.Proofs Go.Lib
structure DelInv {α : Type} (e : α → Value) (p : α → Bool) (xs : List α) (i j : Nat) (F : List Value) : Prop where
 len : F.length = xs.length
 ij : i < j
 jn : j ≤ xs.length
 lo : F.take i = ((xs.take j).filter fun x => !p x).map e
 hi : F.drop j = (xs.drop j).map e
 il : i = ((xs.take j).filter fun x => !p x).length
theorem xJ {α : Type} (p : α → Bool) (xs : List α) (k : Nat) (h : ∀ j (hj : j < xs.length), j < k → p xs[j] = false) : (xs.take k).filter (fun x => !p x) = xs.take k := by
 refine List.filter_eq_self.2 fun x hx => ?_
 obtain ⟨j, hj, rfl⟩ := List.mem_iff_getElem.1 hx
 simp only [List.length_take] at hj
 rw [List.getElem_take, h j (by omega) (by omega)]; rfl
theorem DelInv.at {α : Type} {e : α → Value} {p : α → Bool} {xs : List α} {i j : Nat} {F : List Value} (h : DelInv e p xs i j F) (hj : j < xs.length) : F[j]? = some (e xs[j]) := by
 have h0 : (F.drop j)[0]? = ((xs.drop j).map e)[0]? := by rw [h.hi]
 rw [List.getElem?_drop, Nat.add_zero] at h0
 rw [h0, List.getElem?_map, List.getElem?_drop, Nat.add_zero, List.getElem?_eq_getElem hj]; rfl
theorem DelInv.start {α : Type} {e : α → Value} {p : α → Bool} {xs : List α} {k : Nat} (hk : k < xs.length) (h : ∀ j (hj : j < xs.length), j < k → p xs[j] = false) (hp : p xs[k] = true) : DelInv e p xs k (k + 1) (xs.map e) := by
 have e1 : (xs.take (k + 1)).filter (fun x => !p x) = xs.take k := by
  rw [List.take_succ_eq_append_getElem hk, List.filter_append, xJ p xs k h]
  simp [hp]
 refine ⟨by simp, by omega, by omega, ?_, by simp, ?_⟩
 ·rw [e1, List.map_take]
 ·rw [e1]; simp; omega
theorem DelInv.keep {α : Type} {e : α → Value} {p : α → Bool} {xs : List α} {i j : Nat} {F : List Value} (h : DelInv e p xs i j F) (hj : j < xs.length) (hp : p xs[j] = false) : DelInv e p xs (i + 1) (j + 1) (F.take i ++ [e xs[j]] ++ F.drop (i + 1)) := by
 have e1 : (xs.take (j + 1)).filter (fun x => !p x) = (xs.take j).filter (fun x => !p x) ++ [xs[j]] := by
  rw [List.take_succ_eq_append_getElem hj, List.filter_append]
  simp [hp]
 have hl := h.len
 have hij := h.ij
 refine ⟨by simp; omega, by omega, by omega, ?_, ?_, ?_⟩
 ·rw [List.take_append_of_le_length (by simp; omega), List.take_of_length_le (by simp; omega), e1, List.map_append, h.lo]; rfl
 ·rw [List.drop_append, List.drop_of_length_le (by simp; omega), List.nil_append, List.drop_drop]
  have : F.drop (j + 1) = (xs.drop (j + 1)).map e := by rw [← List.drop_drop, h.hi, ← List.map_drop, List.drop_drop]
  rw [← this]
  congr 1
  simp; omega
 ·rw [e1, List.length_append, ← h.il]; rfl
theorem DelInv.skip {α : Type} {e : α → Value} {p : α → Bool} {xs : List α} {i j : Nat} {F : List Value} (h : DelInv e p xs i j F) (hj : j < xs.length) (hp : p xs[j] = true) : DelInv e p xs i (j + 1) F := by
 have e1 : (xs.take (j + 1)).filter (fun x => !p x) = (xs.take j).filter (fun x => !p x) := by
  rw [List.take_succ_eq_append_getElem hj, List.filter_append]
  simp [hp]
 have hij := h.ij
 exact ⟨h.len, by omega, by omega, by rw [e1]; exact h.lo, by rw [← List.drop_drop, h.hi, ← List.map_drop, List.drop_drop], by rw [e1]; exact h.il⟩
end Go.Proofs.YtakopfjdmmnjcaaGreatDoor
end
section
set_option linter.all false
set_option maxRecDepth 100000
namespace Go.Sx
open Go Go.RowKit
theorem RowAt.mod {V : View} {w W : World} {b ty N : Nat} {F : List Value} (hm : Mod V w) (hV : V b = none) (h : RowAt w W b ty N F) : Mod V W := fun k cs hk => by
 obtain ⟨c, t, fz, e1, e2⟩ := hm k cs hk
 exact ⟨c, t, fz, by rw [h.grown.block k (Array.getElem?_eq_some_iff.1 e1).1 (fun e => by cases e; rw [hV] at hk; cases hk)]; exact e1, e2⟩
def b9y (V : View) (b : Nat) (cs : List Value) : View := fun k => if k = b then some cs else V k
theorem RowAt.row {α : Type} {e : α → Value} (hs : ∀ x, scalar (e x) = true) {V : View} {w w' : World} {ty b cap : Nat} {l : List α} {G : List Value} (h : RowAt w w' b ty cap (l.map e ++ G)) (hcap : cap ≤ maxLen) (hV : V b = none) : RowR V w' ty 1 (xI e l) (.slice (some ⟨b, 0, none⟩) l.length cap) [b] := by
 have hle := h.le
 rw [List.length_append, List.length_map] at hle
 obtain ⟨c, h1, h2, h3⟩ := h.cells
 refine ⟨fun r hr => ?_, l.map e, List.replicate l.length [], ⟨by rw [kK]; simp, by rw [kK]; simp, fun k dd y s q1 q2 q3 => ?_⟩, .inr ⟨b, cap, c, by simp [xI], by simp [xI]; omega, hcap, h1, by simp [h2], (List.prefix_append _ _).trans h3, hV, by simp⟩⟩
 ·obtain ⟨x, _, rfl⟩ := List.mem_map.1 hr; rfl
 ·rw [kK, List.getElem?_map] at q1
  rw [List.getElem?_map] at q2
  cases hk : l[k]? with
  | none => rw [hk] at q1; cases q1
  | some x =>
   rw [hk] at q1 q2
   cases q1; cases q2
   rw [List.getElem?_replicate] at q3
   split at q3
   ·cases q3; exact .v _ (hs x)
   ·cases q3
end Go.Sx
end
section
set_option linter.all false
set_option maxRecDepth 100000
set_option maxHeartbeats 4000000
namespace Go.Proofs.YtakopfjdmmnjcaaGreatDoor
open Go Go.Sx Go.RowKit Go.Proofs
def idxP {α : Type} (p : α → Bool) : List α → Nat → Int
 | [], _ => -1
 | x :: xs, k => if p x then k else idxP p xs (k + 1)
theorem idxP_spec {α : Type} (p : α → Bool) : ∀ (xs : List α) (k : Nat), (idxP p xs k = -1 ∧ ∀ x ∈ xs, p x = false) ∨ ∃ k0 : Nat, idxP p xs k = ((k + k0 : Nat) : Int) ∧ ∃ h : k0 < xs.length, p xs[k0] = true ∧ ∀ j (hj : j < xs.length), j < k0 → p xs[j] = false
 | [], k => .inl ⟨rfl, fun x hx => by simp at hx⟩
 | x :: xs, k => by
  unfold idxP
  cases hx : p x with
  | true => exact .inr ⟨0, by simp, by simp, by simpa using hx, fun j hj h => by omega⟩
  | false =>
   rcases idxP_spec p xs (k + 1) with ⟨h1, h2⟩ | ⟨k0, h1, h2, h3, h4⟩
   ·exact .inl ⟨by simpa using h1, fun y hy => by
     rcases List.mem_cons.1 hy with rfl | hy
     ·exact hx
     ·exact h2 y hy⟩
   ·refine .inr ⟨k0 + 1, by simp only [Bool.false_eq_true, if_false]; rw [h1]; congr 1; omega, by simp; omega, by simpa using h3, fun j hj hk => ?_⟩
    cases j with
    | zero => simpa using hx
    | succ j => simpa using h4 j (by simpa using hj) (by omega)
end Go.Proofs.YtakopfjdmmnjcaaGreatDoor
end
end
section
set_option maxRecDepth 100000
namespace Go.Sx
open Go Go.RowKit
theorem LayL.take {V : View} {ds : List D} {ys : List Value} {Ss : List (List Nat)} (h : LayL V ds ys Ss) (n : Nat) : LayL V (ds.take n) (ys.take n) (Ss.take n) :=
 ⟨by simp [h.1], by simp [h.2.1], fun k d y S h1 h2 h3 => by
  rw [List.getElem?_take] at h1 h2 h3
  split at h1
  ·rw [if_pos ‹_›] at h2 h3; exact h.2.2 k d y S h1 h2 h3
  ·cases h1⟩
theorem LayL.drop {V : View} {ds : List D} {ys : List Value} {Ss : List (List Nat)} (h : LayL V ds ys Ss) (n : Nat) : LayL V (ds.drop n) (ys.drop n) (Ss.drop n) :=
 ⟨by simp [h.1], by simp [h.2.1], fun k d y S h1 h2 h3 => by
  rw [List.getElem?_drop] at h1 h2 h3
  exact h.2.2 _ d y S h1 h2 h3⟩
theorem a7G {α : Type} {sz : Nat} : ∀ {rows : List (List α)}, (∀ r ∈ rows, r.length = sz) → rows.flatten.length = rows.length * sz
 | [], _ => by simp
 | r :: rows, h => by
  rw [List.flatten_cons, List.length_append, a7G (fun r hr => h r (by simp [hr])), h r (by simp), List.length_cons, Nat.add_mul]; omega
theorem a4O {α : Type} {sz : Nat} : ∀ {rows : List (List α)} (i : Nat), (∀ r ∈ rows, r.length = sz) → (rows.take i).flatten = rows.flatten.take (i * sz)
 | [], i, _ => by simp
 | r :: rows, 0, h => by simp
 | r :: rows, i + 1, h => by
  have e := h r (by simp)
  rw [List.take_succ_cons, List.flatten_cons, List.flatten_cons, a4O i (fun r hr => h r (by simp [hr])), List.take_append, List.take_of_length_le (l := r) (by rw [e, Nat.add_mul]; omega)]
  congr 2
  rw [e, Nat.add_mul]; omega
theorem wY {α : Type} {sz : Nat} : ∀ {rows : List (List α)} (i : Nat), (∀ r ∈ rows, r.length = sz) → (rows.drop i).flatten = rows.flatten.drop (i * sz)
 | [], i, _ => by simp
 | r :: rows, 0, h => by simp
 | r :: rows, i + 1, h => by
  have e := h r (by simp)
  rw [List.drop_succ_cons, List.flatten_cons, wY i (fun r hr => h r (by simp [hr])), List.drop_append, List.drop_of_length_le (l := r) (by rw [e, Nat.add_mul]; omega), List.nil_append]
  congr 1
  rw [e, Nat.add_mul]; omega
theorem RowAt.shape {w wr : World} {b ty N : Nat} {F : List Value} (h : RowAt w wr b ty N F) : wr.shape? b = some (ty, N) := by
 obtain ⟨c, h1, h2, h3⟩ := h.cells
 simp [World.shape?, h1, h2]
theorem RowAt.pre {w wr : World} {b ty N : Nat} {F G : List Value} (h : RowAt w wr b ty N F) (hp : G <+: F) : RowAt w wr b ty N G := by
 obtain ⟨c, h1, h2, h3⟩ := h.cells
 exact ⟨⟨c, h1, h2, hp.trans h3⟩, h.grown⟩
end Go.Sx
end
section
namespace Go.Proofs.YtakopfjdmmnjcaaGreatDoor
open Go Go.Sx Go.RowKit Go.Proofs Go.Lib
end Go.Proofs.YtakopfjdmmnjcaaGreatDoor
end
section
set_option maxRecDepth 100000
namespace Go.Proofs.YtakopfjdmmnjcaaGreatDoor
open Go Go.Sx Go.RowKit Go.Proofs
end Go.Proofs.YtakopfjdmmnjcaaGreatDoor
end
section
namespace Go.Proofs.YtakopfjdmmnjcaaGreatDoor
open Go Go.Sx Go.RowKit Go.Proofs
theorem b3w {α : Type} (l : List α) : (l.all fun _ => true) = true := by simp
def eP {α : Type} (p : α → Bool) : List α → Nat
 | [] => 0
 | x :: l => if p x then 0 else eP p l + 1
theorem a0m {α : Type} (p : α → Bool) : ∀ l : List α, eP p l ≤ l.length
 | [] => by simp [eP]
 | x :: l => by
  have := a0m p l
  unfold eP
  split <;> simp <;> omega
theorem idxP_fst {α : Type} (p : α → Bool) : ∀ (l : List α) (k : Nat), (idxP p l k < 0 ∧ idxP p l k = -1 ∧ eP p l = l.length) ∨ (idxP p l k = ((k + eP p l : Nat) : Int) ∧ eP p l < l.length)
 | [], k => .inl ⟨by simp [idxP], rfl, rfl⟩
 | x :: l, k => by
  unfold idxP eP
  cases hx : p x with
  | true => exact .inr ⟨by simp, by simp⟩
  | false =>
   rcases idxP_fst p l (k + 1) with ⟨h0, h1, h2⟩ | ⟨h1, h2⟩
   ·exact .inl ⟨by simpa using h0, by simpa using h1, by simp [h2]⟩
   ·exact .inr ⟨by simp only [Bool.false_eq_true, if_false]; rw [h1]; congr 1; omega, by simp; omega⟩
theorem a3n {α : Type} (p : α → Bool) (l : List α) (k : Nat) (h : k < l.length) : eP p (l.drop k) = if p l[k] then 0 else eP p (l.drop (k + 1)) + 1 := by
 rw [List.drop_eq_getElem_cons h, eP]
def iX {α : Type} (i : Nat) (x : α) (l : List α) : List α := l.take i ++ x :: l.drop i
theorem a4P {α : Type} (i : Nat) (x : α) (l : List α) (h : i ≤ l.length) : (iX i x l).length = l.length + 1 := by simp [iX]; omega
end Go.Proofs.YtakopfjdmmnjcaaGreatDoor
end
section
set_option maxRecDepth 100000
set_option maxHeartbeats 4000000
namespace Go.Proofs.YtakopfjdmmnjcaaGreatDoor
open Go Go.Sx Go.RowKit Go.Proofs
theorem a7H (l : List ByteArray) (hl : l.length ≤ 4300000) : FnC Tryz.prog 185 [.o (.d (.sl (l.map iV)))] (.o (.w 9 1 (l.map iV))) := by
 refine ent Tryz.func185 rfl Tryz.call185 rfl (fun C => ?_); simp only [go_sem, st0, Tryz.ntmps185]
 refine aD ?_
 intro b hb
 refine aD ?_
 refine cnd rfl (fun h1 => ?_) (fun h1 => ?_)
 ·have e := hb h1
  simp only [List.map_eq_nil_iff] at e
  subst e
  refine aD ?_
  exact aA ⟨⟨_, rfl, by simp only [go_sem]⟩, trivial⟩
 ·refine aD ?_
  exact aA ⟨⟨_, rfl, by simp only [go_sem, b3w]⟩, trivial⟩
theorem a6f (l : List TAttr) (hl : l.length ≤ 4300000) : FnC Tryz.prog 87 [.o (.d (.sl (l.map fK)))] (.o (.w 75 4 (l.map fK))) := by
 refine ent Tryz.func87 rfl Tryz.call87 rfl (fun C => ?_); simp only [go_sem, st0, Tryz.ntmps87]
 refine aD ?_
 intro b hb
 refine aD ?_
 refine cnd rfl (fun h1 => ?_) (fun h1 => ?_)
 ·have e := hb h1
  simp only [List.map_eq_nil_iff] at e
  subst e
  refine aD ?_
  exact aA ⟨⟨_, rfl, by simp only [go_sem]⟩, trivial⟩
 ·refine aD ?_
  exact aA ⟨⟨_, rfl, by simp only [go_sem, b3w]⟩, trivial⟩
theorem a4a (l : List TField) (hl : l.length ≤ 4300000) : FnC Tryz.prog 69 [.o (.d (.sl (l.map dJ)))] (.o (.w 102 2 (l.map dJ))) := by
 refine ent Tryz.func69 rfl Tryz.call69 rfl (fun C => ?_); simp only [go_sem, st0, Tryz.ntmps69]
 refine aD ?_
 intro b hb
 refine aD ?_
 refine cnd rfl (fun h1 => ?_) (fun h1 => ?_)
 ·have e := hb h1
  simp only [List.map_eq_nil_iff] at e
  subst e
  refine aD ?_
  exact aA ⟨⟨_, rfl, by simp only [go_sem]⟩, trivial⟩
 ·refine aD ?_
  exact aA ⟨⟨_, rfl, by simp only [go_sem, b3w]⟩, trivial⟩
theorem a2e (f : Nat) (c : List D) (p : TDir → Bool) (l : List TDir) (hf : ∀ s ∈ l, FnC Tryz.prog f [b7T s, .o (.q c)] (ob (p s))) (hl : l.length ≤ 8388608) : FnC Tryz.prog 172 [.o (.d (.sl (l.map bY))), .o (.f f [c])] (oi (idxP p l 0)) := by
 refine ent Tryz.func172 rfl Tryz.call172 rfl (fun C => ?_); simp only [go_sem, st0, Tryz.ntmps172]
 refine aD ?_
 refine aY (α := Nat) (fun k => [(8, oi k)]) (fun _ => []) (fun k => k ≤ l.length ∧ idxP p l 0 = idxP p (l.drop k) k) (fun k => l.length - k) 0 (fun _ => ?_) ?_ ?_ (fun k hk => ?_)
 ·simp only [go_sem]
 ·simp only [go_sem]; simp
 ·simp
 ·obtain ⟨hk, hq⟩ := hk
  simp only [go_sem]
  refine aD ?_
  refine cnd rfl (fun h => ?_) (fun h => ?_)
  ·simp only [decide_eq_true_eq, Int.ofNat_lt] at h
   have hd := List.drop_eq_getElem_cons h
   rw [hd, idxP] at hq
   have q0 := @h; refine lF (hf l[k] (List.getElem_mem h)) ?_
   refine cnd rfl (fun h2 => ?_) (fun h2 => ?_)
   ·refine aD ?_
    exact aA ⟨⟨_, rfl, by simp only [go_sem, hq, h2]⟩, trivial⟩
   ·refine aD ?_
    refine aF (k + 1) ?_ ?_ ?_
    ·simp only [go_sem]; simp
    ·rw [hq, h2]; exact ⟨h, by simp⟩
    ·omega
  ·simp only [decide_eq_false_iff_not] at h
   have e : k = l.length := by omega
   subst e
   simp only [List.drop_length, idxP] at hq
   refine aD ?_
   exact aA ⟨⟨_, rfl, by simp only [go_sem, hq]⟩, trivial⟩
theorem a0V (f : Nat) (c : List D) (p : TFile → Bool) (l : List TFile) (hf : ∀ s ∈ l, FnC Tryz.prog f [jQ s, .o (.q c)] (ob (p s))) (hl : l.length ≤ 8388608) : FnC Tryz.prog 85 [.o (.d (.sl (l.map dM))), .o (.f f [c])] (oi (idxP p l 0)) := by
 refine ent Tryz.func85 rfl Tryz.call85 rfl (fun C => ?_); simp only [go_sem, st0, Tryz.ntmps85]
 refine aD ?_
 refine aY (α := Nat) (fun k => [(8, oi k)]) (fun _ => []) (fun k => k ≤ l.length ∧ idxP p l 0 = idxP p (l.drop k) k) (fun k => l.length - k) 0 (fun _ => ?_) ?_ ?_ (fun k hk => ?_)
 ·simp only [go_sem]
 ·simp only [go_sem]; simp
 ·simp
 ·obtain ⟨hk, hq⟩ := hk
  simp only [go_sem]
  refine aD ?_
  refine cnd rfl (fun h => ?_) (fun h => ?_)
  ·simp only [decide_eq_true_eq, Int.ofNat_lt] at h
   have hd := List.drop_eq_getElem_cons h
   rw [hd, idxP] at hq
   have q0 := @h; refine lF (hf l[k] (List.getElem_mem h)) ?_
   refine cnd rfl (fun h2 => ?_) (fun h2 => ?_)
   ·refine aD ?_
    exact aA ⟨⟨_, rfl, by simp only [go_sem, hq, h2]⟩, trivial⟩
   ·refine aD ?_
    refine aF (k + 1) ?_ ?_ ?_
    ·simp only [go_sem]; simp
    ·rw [hq, h2]; exact ⟨h, by simp⟩
    ·omega
  ·simp only [decide_eq_false_iff_not] at h
   have e : k = l.length := by omega
   subst e
   simp only [List.drop_length, idxP] at hq
   refine aD ?_
   exact aA ⟨⟨_, rfl, by simp only [go_sem, hq]⟩, trivial⟩
theorem bT : (∀ b : Bool, (b && true) = b) ∧ (∀ b : Bool, (b && false) = false) ∧ (∀ b : Bool, (true && b) = b) ∧ (∀ b : Bool, (false && b) = false) ∧ (!true) = false ∧ (!false) = true := ⟨Bool.and_true, Bool.and_false, Bool.true_and, Bool.false_and, rfl, rfl⟩
def two (n : TNode) : Bool := decide (n.fOp = 6) || decide (n.fOp = 7)
def tZ (n : TNode) (i : Int) : Nat := (if (two n || decide (n.fOp = 5)) && decide (n.fLeft = i) then 1 else 0) + (if two n && decide (n.fRight = i) then 1 else 0)
def refs (q : List TNode) (i : Int) : Nat := match q with
 | [] => 0
 | n :: q => tZ n i + refs q i
theorem b3x (q r : List TNode) (i : Int) : refs (q ++ r) i = refs q i + refs r i := by
 induction q with
 | nil => simp [refs]
 | cons n q ih => simp only [List.cons_append, refs, ih]; omega
theorem a4Q (q : List TNode) (i : Int) (k : Nat) (h : k < q.length) : refs (q.take (k + 1)) i = refs (q.take k) i + tZ q[k] i := by
 rw [List.take_succ_eq_append_getElem h, b3x]; simp [refs]
theorem b0A (q : List TNode) (i : Int) : refs q i ≤ 2 * q.length := by
 induction q with
 | nil => simp [refs]
 | cons n q ih => simp only [refs, List.length_cons]; unfold tZ; split <;> split <;> omega
theorem uC (q : List TNode) (i : Int) (hl : q.length ≤ 4300000) : FnC Tryz.prog 171 [.o (.d (.sl (q.map bN))), oi i] (oi (refs q i)) := by
 refine ent Tryz.func171 rfl Tryz.call171 rfl (fun C => ?_); simp only [go_sem, st0, Tryz.ntmps171]
 refine aD ?_
 refine aY (α := Nat) (fun k => [(5, oi (refs (q.take k) i)), (11, oi k)]) (fun _ => []) (fun k => k ≤ q.length) (fun k => q.length - k) 0 (fun _ => ?_) ?_ ?_ (fun k hk => ?_)
 ·simp only [go_sem]
 ·simp only [go_sem]; simp [refs]
 ·simp
 ·simp only [go_sem]
  refine aD ?_
  refine cnd rfl (fun h1 => ?_) (fun h1 => ?_)
  ·simp only [decide_eq_true_eq, Int.ofNat_lt] at h1
   have ht := a4Q q i k h1
   have hle := b0A (q.take k) i
   simp only [List.length_take] at hle
   by_cases c6 : q[k].fOp = 6 <;> by_cases c7 : q[k].fOp = 7 <;> by_cases c5 : q[k].fOp = 5 <;> by_cases cl : q[k].fLeft = i <;> by_cases cr : q[k].fRight = i
   all_goals (try omega)
   all_goals
    simp only [tZ, two, c5, c6, c7, cl, cr, decide_true, decide_false, Bool.true_or, Bool.or_true, Bool.false_or, Bool.or_false, Bool.and_true, Bool.and_false, Bool.true_and, Bool.false_and, if_true, if_false, Bool.false_eq_true] at ht
    have d5 : decide (q[k].fOp = 5) = decide (q[k].fOp = 5) := rfl
    have q0 := @h1; have q1 := @c5; have q2 := @c6; have q3 := @c7; have q4 := @cl; have q5 := @cr; have q6 := @decide_true; have q7 := @decide_false; refine a0Q ?_
    refine aF (k + 1) ?_ ?_ ?_
    ·simp only [go_sem, ht]; simp <;> omega
    ·omega
    ·omega
  ·simp only [decide_eq_false_iff_not] at h1
   have e : k = q.length := by omega
   subst e
   rw [List.take_length]
   refine aD ?_
   exact aA ⟨⟨_, rfl, by simp only [go_sem, List.take_length]⟩, trivial⟩
theorem uE (q : List TNode) (i : Int) (hl : q.length ≤ 4300000) : FnC Tryz.prog 180 [.o (.d (.sl (q.map bN))), oi i] (oi (refs q i)) := by
 refine ent Tryz.func180 rfl Tryz.call180 rfl (fun C => ?_); simp only [go_sem, st0, Tryz.ntmps180]
 refine aD ?_
 refine aY (α := Nat) (fun k => [(5, oi (refs (q.take k) i)), (6, oi k)]) (fun _ => []) (fun k => k ≤ q.length) (fun k => q.length - k) 0 (fun _ => ?_) ?_ ?_ (fun k hk => ?_)
 ·simp only [go_sem]
 ·simp only [go_sem]; simp [refs]
 ·simp
 ·simp only [go_sem]
  refine aD ?_
  refine cnd rfl (fun h1 => ?_) (fun h1 => ?_)
  ·simp only [decide_eq_true_eq, Int.ofNat_lt] at h1
   have ht := a4Q q i k h1
   have hle := b0A (q.take k) i
   simp only [List.length_take] at hle
   by_cases c6 : q[k].fOp = 6 <;> by_cases c7 : q[k].fOp = 7 <;> by_cases c5 : q[k].fOp = 5 <;> by_cases cl : q[k].fLeft = i <;> by_cases cr : q[k].fRight = i
   all_goals (try omega)
   all_goals
    simp only [tZ, two, c5, c6, c7, cl, cr, decide_true, decide_false, Bool.true_or, Bool.or_true, Bool.false_or, Bool.or_false, Bool.and_true, Bool.and_false, Bool.true_and, Bool.false_and, if_true, if_false, Bool.false_eq_true] at ht
    have d5 : decide (q[k].fOp = 5) = decide (q[k].fOp = 5) := rfl
    have q0 := @h1; have q1 := @c5; have q2 := @c6; have q3 := @c7; have q4 := @cl; have q5 := @cr; have q6 := @decide_true; have q7 := @decide_false; refine a0Q ?_
    refine aF (k + 1) ?_ ?_ ?_
    ·simp only [go_sem, ht]; simp <;> omega
    ·omega
    ·omega
  ·simp only [decide_eq_false_iff_not] at h1
   have e : k = q.length := by omega
   subst e
   rw [List.take_length]
   refine aD ?_
   exact aA ⟨⟨_, rfl, by simp only [go_sem, List.take_length]⟩, trivial⟩
end Go.Proofs.YtakopfjdmmnjcaaGreatDoor
end
