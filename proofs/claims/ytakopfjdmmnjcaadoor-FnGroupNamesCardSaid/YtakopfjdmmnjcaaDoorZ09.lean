/- Joined texts. -/
import Derived.Test.YtakopfjdmmnjcaaDoorZ08
import Derived.Test.YtakopfjdmmnjcaaDoorZ05
import Derived.Test.YtakopfjdmmnjcaaDoorZ07
import Derived.Test.YtakopfjdmmnjcaaDoorZ06
import Derived.Sort.Row
import Derived.Sort.Grow
import Derived.Shelf.RegionOpenPlain
import Derived.WalkKit
import Derived.Deep.LoopGhost
import Derived.Deep.Draws
import Derived.Lib.Walk
import Derived.Lib.SliceRun
import Derived.Shelf.SlicesE.Kit
import Derived.Shelf.SlicesE.DeleteFunc
import Derived.Test.YtakopfjdmmnjcaaDoorZ04
import Derived.Laws.IdiomCopy
import Derived.Deep.AppendSrc
import Derived.Lib.JoinLaws
import Derived.Lib.AppendZeros
import Derived.Lib.AppendZerosOnto
import Derived.Lib.Overlaps
import Derived.Laws.Externs
import Derived.Laws.NewBlocks
import Derived.Shelf.Spec.SlicesInsertGrow
set_option linter.all false
section
set_option maxRecDepth 100000
set_option maxHeartbeats 4000000
namespace Go.Sx
open Go Go.RowKit
def a5C {α : Type} (G : α → St) (Q : α → Prop) (F : Ex → St → Prop) : Ex → St → Prop
 | .normal, s => ∃ x, Q x ∧ (∃ (m : List (Nat × Nat)) (s' : St), swL s m = some s' ∧ s'.le (G x)) ∧ (G x).okB = true
 | .exit j, s => F (.exit j) s
 | .ret, s => F .ret s
theorem rQ {P : Program} {C : Ctx} {ks : List Kn} {F : Ex → St → Prop} {st : St} {c c2 : Code} {α : Type} (M : α → List (Nat × SV)) (H : α → List (Nat × HB)) (Q : α → Prop) (h1 : WP P C c (aT P C [] (a5C (fun x => a7K c st (M x) (H x)) Q (aT P C (.code c2 :: ks) F))) st) (h2 : ∀ x, Q x → WP P C c2 (aT P C ks F) (a7K c st (M x) (H x))) : WP P C c (aT P C (.code c2 :: ks) F) st := fun g V a w hr =>
 wp_mono (h1 g V a w hr) fun e a w q => by
  cases e with
  | normal =>
   obtain ⟨g, V, s, hs, x, hq, ⟨m, s', hsw, hle⟩, hok⟩ := q
   obtain ⟨g', h1⟩ := hs.swL m hsw
   exact ⟨_, V, _, h1.forget hle hok, h2 x hq⟩
  | exit j => obtain ⟨g, V, s, hs, q⟩ := q; exact ⟨g, V, s, hs, q⟩
  | ret => obtain ⟨g, V, s, hs, q⟩ := q; exact ⟨g, V, s, hs, q⟩
  | goto l => exact q.elim
  | panic ch => exact q.elim
  | outgrown => exact q.elim
theorem iT {α : Type} {G : α → St} {Q : α → Prop} {F : Ex → St → Prop} {s : St} (x : α) (hq : Q x) (h : s.le (G x)) (hb : (G x).okB = true) : a5C G Q F .normal s := ⟨x, hq, ⟨[], s, rfl, h⟩, hb⟩
theorem vN {α : Type} {G : α → St} {Q : α → Prop} {F : Ex → St → Prop} {s s' : St} (m : List (Nat × Nat)) (x : α) (hq : Q x) (hs : swL s m = some s') (h : s'.le (G x)) (hb : (G x).okB = true) : a5C G Q F .normal s := ⟨x, hq, ⟨m, s', hs, h⟩, hb⟩
end Go.Sx
namespace Go.Proofs.YtakopfjdmmnjcaaDoor
open Go Go.Sx Go.RowKit Go.Proofs
theorem hF {C : Ctx} {f : Nat} {args : List SV} {h : List HB} {k : List HB → SV → Prop} (ids : List Nat) (c : CallH (EV C) f args (aK h ids) k ⟨⟩) : CallH (EV C) f args h k ⟨⟩ := by
 obtain ⟨β, Pb, h', s, h1, h2⟩ := c.out
 exact ⟨β, Pb, h', s, fun T => CallS.sees (E := EV C) (st := ⟨T, h⟩) (st' := ⟨T, aK h ids⟩) (fun g V a w hr => by obtain ⟨g', V', q, _⟩ := dS ids hr; exact ⟨g', V', q⟩) (fun g V a w hr => by obtain ⟨g', V', q, q1, q2, _⟩ := dS ids hr; exact ⟨g', V', q, q1, q2⟩) (h1 T), h2⟩
theorem hB {C : Ctx} {f ty id : Nat} {ds : List D} {args' rest : List SV} {α : Type} {Q : α → Prop} {res : α → SV} {ds' : α → List D} {h : List HB} {k : List HB → SV → Prop} (c : FnB Tryd.prog f ty ds args' Q res ds') (hid : a2N ty ds (aU h id)) (he : rest.map (bN h) = args') (hfree : args'.all aM = true)
    (k2 : ∀ a, Q a → k (setH h id (reD (ds' a) (aU h id)) ++ adH (res a).all) (adS (setH h id (reD (ds' a) (aU h id))).length (res a))) : CallH (EV C) f (.o (.p id 0) :: rest) h k ⟨⟩ :=
 ⟨α, Q, _, _, fun T => CallS.block (E := EV C) (st := ⟨T, h⟩) c hid he hfree fun a ha => ⟨a, ha, rfl, rfl⟩, k2⟩
theorem fQ {C : Ctx} {f ty id : Nat} {ds : List D} {args' rest : List SV} {α : Type} {Q : α → Prop} {res : α → SV} {ds' : α → List D} {st : St} {K : St → SV → Prop} (c : FnB Tryd.prog f ty ds args' Q res ds') (hid : a2N ty ds (aU (aK st.h (bH rest)) id)) (he : rest.map (bN (aK st.h (bH rest))) = args') (hfree : args'.all aM = true)
    (k : ∀ a, Q a → K ⟨st.t, setH (aK st.h (bH rest)) id (reD (ds' a) (aU (aK st.h (bH rest)) id)) ++ adH (res a).all⟩ (adS (setH (aK st.h (bH rest)) id (reD (ds' a) (aU (aK st.h (bH rest)) id))).length (res a))) : CallT (EV C) f (.o (.p id 0) :: rest) st K ⟨⟩ := a9v (bH rest) (tZ c hid he hfree k)
theorem hZ {C : Ctx} {f ty id : Nat} {ds : List D} {args' rest : List SV} {α : Type} {Q : α → Prop} {res : α → SV} {ds' : α → List D} {h : List HB} {k : List HB → SV → Prop} (c : FnB Tryd.prog f ty ds args' Q res ds') (hid : a2N ty ds (aU (aK h (bH rest)) id)) (he : rest.map (bN (aK h (bH rest))) = args') (hfree : args'.all aM = true)
    (k2 : ∀ a, Q a → k (setH (aK h (bH rest)) id (reD (ds' a) (aU (aK h (bH rest)) id)) ++ adH (res a).all) (adS (setH (aK h (bH rest)) id (reD (ds' a) (aU (aK h (bH rest)) id))).length (res a))) : CallH (EV C) f (.o (.p id 0) :: rest) h k ⟨⟩ := hF (bH rest) (hB c hid he hfree k2)
abbrev Drw (l : List Int) (f : Nat) (args : List SV) {T : Type} (Q : T → Prop) (res : T → SV) : Prop := ∀ (i : Nat) (h : Int), i ≤ l.length → inR .i64 h →
 FnB Tryd.prog f 65 (a2M l i h) args (fun x : T × Nat × Int => Q x.1 ∧ (x.2.1 ≤ l.length ∧ inR .i64 x.2.2)) (fun x => res x.1) (fun x => a2M l x.2.1 x.2.2)
def b0B {T : Type} (_ : T) : Prop := True
def rR (l : List Int) : Prop := l.length ≤ 1048576 ∧ ∀ i ∈ l, inR .u8 i
theorem dD {l : List Int} (hl : rR l) (n : Int) (hn : 1 ≤ n) (hn2 : n ≤ 1000000000) : Drw l 39 [oi n] (fun b : Bool => b0B b) (fun b => ob b) := by
 intro i h hi hh; refine a1D Tryd.func39 rfl Tryd.call39 rfl (fun C b => ?_); simp only [go_sem, Tryd.ntmps39]
 refine aL ?_
 refine tZ (wT l hl.1 hl.2 i h hi hh n hn hn2) ⟨rfl, rfl⟩ rfl rfl ?_
 rintro ⟨x, i1, h1⟩ ⟨⟨b1, b2⟩, b3, b4⟩
 simp only at b1 b2 b3 b4
 simp only [go_sem]
 refine aL ?_
 exact eF (decide (x = 0), i1, h1) ⟨⟨_, rfl, by simp only [go_sem]⟩, trivial⟩ ⟨trivial, ⟨b3, b4⟩⟩ (by simp only [go_sem])
theorem eP {l : List Int} (hl : rR l) (n : Int) (hn : 1 ≤ n) (hn2 : n ≤ 1000000000) : Drw l 36 [oi n] (fun x : Int => 0 ≤ x ∧ x < n) (fun x => oi x) := fun i h hi hh => wT l hl.1 hl.2 i h hi hh n hn hn2
theorem kY {l : List Int} (hl : rR l) (ns : List ByteArray) (h0 : 1 ≤ ns.length) (h1 : ns.length ≤ 1000000000) : Drw l 41 [.o (.d (.sl (ns.map a9d)))] (fun x : ByteArray => x ∈ ns) (fun x => os x) := by
 intro i h hi hh; refine a1D Tryd.func41 rfl Tryd.call41 rfl (fun C b => ?_); simp only [go_sem, Tryd.ntmps41]
 refine aL ?_
 refine tZ (wT l hl.1 hl.2 i h hi hh ns.length (by omega) (by omega)) ⟨rfl, rfl⟩ rfl rfl ?_
 rintro ⟨x, i1, h1⟩ ⟨⟨b1, b2⟩, b3, b4⟩
 simp only at b1 b2 b3 b4
 obtain ⟨k, rfl⟩ := Int.eq_ofNat_of_zero_le b1
 have hk : k < ns.length := by omega
 simp only [go_sem]
 have q0 := @hk; refine nG ?_
 exact eF (ns[k], i1, h1) ⟨⟨_, rfl, by simp only [go_sem]⟩, trivial⟩ ⟨List.getElem_mem hk, ⟨b3, b4⟩⟩ (by simp only [go_sem])
theorem a1C (n : Int) : FnC Tryd.prog 57 [oi n] (eT ⟨1, n, ⟨#[]⟩⟩) := by
 refine ent Tryd.func57 rfl Tryd.call57 rfl (fun C => ?_); simp only [go_sem, st0, Tryd.ntmps57]
 refine aL ?_
 exact aA ⟨⟨_, rfl, by simp only [go_sem]⟩, trivial⟩
theorem wR (s : ByteArray) : FnC Tryd.prog 13 [os s] (eT ⟨2, 0, s⟩) := by
 refine ent Tryd.func13 rfl Tryd.call13 rfl (fun C => ?_); simp only [go_sem, st0, Tryd.ntmps13]
 refine aL ?_
 exact aA ⟨⟨_, rfl, by simp only [go_sem]⟩, trivial⟩
def w1 (s : ByteArray) : Prop := s.size ≤ 6
@[go_sem] def a8f : List ByteArray := [⟨#[97]⟩, ⟨#[98]⟩, ⟨#[110]⟩, ⟨#[116]⟩, ⟨#[97]⟩, ⟨#[98]⟩, ⟨#[116]⟩, ⟨#[122]⟩, ⟨#[65]⟩, ⟨#[]⟩]
theorem a8g : ∀ s ∈ a8f, s.size ≤ 6 := by decide +kernel
theorem wS {l : List Int} (hl : rR l) : Drw l 17 [] (fun s : ByteArray => w1 s) (fun s => os s) := by
 intro i h hi hh; refine a1D Tryd.func17 rfl Tryd.call17 rfl (fun C b => ?_); simp only [go_sem, Tryd.ntmps17]
 refine aL ?_
 first | (refine fQ (kY hl a8f (by decide) (by decide) i h hi hh) ⟨rfl, rfl⟩ ?_ rfl ?_; (focus first | rfl | (simp only [go_sem]; done))) | (refine hZ (kY hl a8f (by decide) (by decide) i h hi hh) ⟨rfl, rfl⟩ ?_ rfl ?_; (focus first | rfl | (simp only [go_sem]; done)))
 clear hi hh; rintro ⟨s, i, h⟩ ⟨hs, hi, hh⟩; simp only at hs hi hh; simp only [go_sem]
 refine aL ?_
 exact eF (s, i, h) ⟨⟨_, rfl, by simp only [go_sem]⟩, trivial⟩ ⟨a8g s hs, ⟨hi, hh⟩⟩ (by simp only [go_sem])
@[go_sem] def b1q : List ByteArray := [⟨#[100, 97]⟩, ⟨#[100, 98]⟩, ⟨#[100, 99]⟩, ⟨#[100, 100]⟩, ⟨#[100, 101]⟩, ⟨#[122, 122]⟩, ⟨#[]⟩]
@[go_sem] def nm9 : List ByteArray := [⟨#[100, 97]⟩, ⟨#[100, 98]⟩, ⟨#[100, 99]⟩, ⟨#[100, 100]⟩, ⟨#[100, 97]⟩, ⟨#[100, 98]⟩, ⟨#[100, 99]⟩]
@[go_sem] def us6 : List Int := [0, 1, 2, 0, 1, 3, -1]
@[go_sem] def id5 : List Int := [1, 2, 3, 4, 5, 2, 3, 9, 0, -1, 9223372036854775807]
structure valD (v : TValue) : Prop where
 w : v.fStr.size ≤ 7
 k : inR .i64 v.fKind
 n : inR .i64 v.fInt
@[go_sem] def wd3 : List ByteArray := [⟨#[114, 101, 100]⟩, ⟨#[98, 108, 117, 101]⟩, ⟨#[105, 110, 107]⟩]
theorem in0 : inR .i64 0 := by simp [inR]
theorem in1 : inR .i64 1 := by simp [inR]
theorem in2 : inR .i64 2 := by simp [inR]
end Go.Proofs.YtakopfjdmmnjcaaDoor
end
section
section
set_option linter.all false
set_option maxRecDepth 100000
set_option maxHeartbeats 4000000
namespace Go.Proofs.YtakopfjdmmnjcaaDoor
open Go Go.Sx Go.RowKit Go.Proofs
def a9y (k : Nat) (out : ByteArray) : ByteArray :=
 if h : k = 0 then out else a9y (k / 10) (yG [(48 : Int) + ((k % 10 : Nat) : Int)] ++ out)
decreasing_by omega
def nJ (k : Int) : ByteArray := ⟨#[109]⟩ ++ a9y k.toNat ⟨#[]⟩
def rZ (x : Int) : Nat := 1
def a3E (x : Int) (k : Int) : Int := k
def b1g (x : ByteArray) : Nat := 1
def b1h (x : ByteArray) (k : Int) : ByteArray := (nJ k)
def b0I (x : Bool) : Nat := 1
def b0J (x : Bool) (k : Int) : Bool := (decide (Int.tmod k 3 = 0))
end Go.Proofs.YtakopfjdmmnjcaaDoor
end
section
set_option linter.all false
set_option maxRecDepth 100000
set_option maxHeartbeats 4000000
namespace Go.Proofs.YtakopfjdmmnjcaaDoor
open Go Go.Sx Go.RowKit Go.Proofs
def a9Z (x : TField) : Nat := 2
def b0a (x : TField) (k : Int) : TField := ⟨(nJ k), (k + 1)⟩
def qC (x : TAttr) : Nat := 4
def a5M (x : TAttr) (k : Int) : TAttr := ⟨(nJ k), ⟨(k + 1), ((k + 1) + 1), (nJ (((k + 1) + 1) + 1))⟩⟩
def a0z (x : TNode) : Nat := 7
def a5N (x : TNode) (k : Int) : TNode := ⟨k, (k + 1), ((k + 1) + 1), (nJ (((k + 1) + 1) + 1)), ⟨((((k + 1) + 1) + 1) + 1), (((((k + 1) + 1) + 1) + 1) + 1), (nJ ((((((k + 1) + 1) + 1) + 1) + 1) + 1))⟩⟩
end Go.Proofs.YtakopfjdmmnjcaaDoor
end
section
set_option linter.all false
set_option maxRecDepth 100000
set_option maxHeartbeats 4000000
namespace Go.Proofs.YtakopfjdmmnjcaaDoor
open Go Go.Sx Go.RowKit Go.Proofs
def b0K (x : TFile) : Nat := 4 + oI qC x.fAttrs
def b0L (x : TFile) (k : Int) : TFile := ⟨k, (k + 1), (decide (Int.tmod ((k + 1) + 1) 3 = 0)), (((k + 1) + 1) + 1), (mkL a5M qC x.fAttrs ((((k + 1) + 1) + 1) + 1))⟩
def b1i (x : TDir) : Nat := 1 + oI a0z x.fQuery
def b1j (x : TDir) (k : Int) : TDir := ⟨(nJ k), (mkL a5N a0z x.fQuery (k + 1))⟩
def a9z (x : TResult) : Nat := 1 + oI rZ x.fIDs
def a9A (x : TResult) (k : Int) : TResult := ⟨(nJ k), (mkL a3E rZ x.fIDs (k + 1))⟩
def b0M (x : TDiff) : Nat := 1 + oI rZ x.fAdded + oI rZ x.fRemoved
def b0N (x : TDiff) (k : Int) : TDiff := ⟨(nJ k), (mkL a3E rZ x.fAdded (k + 1)), (mkL a3E rZ x.fRemoved ((k + 1) + (oI rZ x.fAdded : Nat)))⟩
def b0b (x : TGroup) : Nat := 3 + oI rZ x.fIDs
def b0c (x : TGroup) (k : Int) : TGroup := ⟨⟨k, (k + 1), (nJ ((k + 1) + 1))⟩, (mkL a3E rZ x.fIDs (((k + 1) + 1) + 1))⟩
def a9B (x : TChange) : Nat := 7 + oI qC x.fFile.fAttrs + oI a0z x.fDir.fQuery
def a9C (x : TChange) (k : Int) : TChange := ⟨k, ⟨(k + 1), ((k + 1) + 1), (decide (Int.tmod (((k + 1) + 1) + 1) 3 = 0)), ((((k + 1) + 1) + 1) + 1), (mkL a5M qC x.fFile.fAttrs (((((k + 1) + 1) + 1) + 1) + 1))⟩, ((((((k + 1) + 1) + 1) + 1) + 1) + (oI qC x.fFile.fAttrs : Nat)), ⟨(nJ (((((((k + 1) + 1) + 1) + 1) + 1) + (oI qC x.fFile.fAttrs : Nat)) + 1)), (mkL a5N a0z x.fDir.fQuery ((((((((k + 1) + 1) + 1) + 1) + 1) + (oI qC x.fFile.fAttrs : Nat)) + 1) + 1))⟩⟩
end Go.Proofs.YtakopfjdmmnjcaaDoor
end
section
set_option linter.all false
set_option maxRecDepth 100000
set_option maxHeartbeats 4000000
namespace Go.Proofs.YtakopfjdmmnjcaaDoor
open Go Go.Sx Go.RowKit Go.Proofs
end Go.Proofs.YtakopfjdmmnjcaaDoor
end
section
set_option linter.all false
namespace Go.Proofs.YtakopfjdmmnjcaaDoor
open Go Go.Sx Go.RowKit Go.Proofs
end Go.Proofs.YtakopfjdmmnjcaaDoor
end
end
section
section
set_option linter.all false
namespace Go.Sx
open Go Go.RowKit
def a5O {α : Type} (e : α → Value) (l : List α) : List (List D) := l.map fun x => [.v (e x)]
theorem tC {α : Type} (e : α → Value) (l : List α) : (a5O e l).flatten = l.map fun x => D.v (e x) := by
 induction l with
 | nil => rfl
 | cons x l ih => simp only [a5O, List.map_cons, List.flatten_cons] at ih ⊢; rw [ih]; rfl
end Go.Sx
end
section
set_option linter.all false
namespace Go.Sx
open Go Go.RowKit
structure RowAt (w wr : World) (b ty N : Nat) (F : List Value) : Prop where
 cells : ∃ c : Array Value, wr.heap[b]? = some (.cells c ty (0, 0)) ∧ c.size = N ∧ F <+: c.toList
 grown : w.grownBy wr (some b)
theorem oU {w w1 w2 : World} {r : Option Nat} (h1 : w.grownBy w1 r) (h2 : w1.grownBy w2 r) : w.grownBy w2 r :=
 ⟨h2.os.trans h1.os, h2.tape.trans h1.tape, h2.output.trans h1.output, Nat.le_trans h1.size h2.size, fun k hk hn => (h2.block k (Nat.lt_of_lt_of_le hk h1.size) hn).trans (h1.block k hk hn)⟩
theorem xL {w w' : World} (r : Option Nat) (h : Below w.heap.size w w') : w.grownBy w' r := ⟨h.os, h.tape, h.output, h.size, fun k hk _ => h.block k hk⟩
variable {w wr : World} {b ty N : Nat} {F : List Value}
theorem RowAt.lt (h : RowAt w wr b ty N F) : b < wr.heap.size := by
 obtain ⟨c, h1, _⟩ := h.cells
 exact (Array.getElem?_eq_some_iff.1 h1).1
theorem RowAt.le (h : RowAt w wr b ty N F) : F.length ≤ N := by
 obtain ⟨c, _, h2, h3⟩ := h.cells
 have := h3.length_le
 simpa [h2] using this
theorem RowAt.cell (h : RowAt w wr b ty N F) {t : Nat} {v : Value} (ht : F[t]? = some v) : wr.cell? ⟨b, t, none⟩ = some v := by
 obtain ⟨c, h1, h2, h3⟩ := h.cells
 have := dU h3 ht
 simp only [World.cell?, h1, Option.isSome_none, Bool.false_eq_true, if_false]
 rw [← Array.getElem?_toList]; exact this
theorem RowAt.there (h : RowAt w wr b ty N F) {t : Nat} (ht : t < N) : (wr.cell? ⟨b, t, none⟩).isSome = true := by
 obtain ⟨c, h1, h2, h3⟩ := h.cells
 simp only [World.cell?, h1, Option.isSome_none, Bool.false_eq_true, if_false]
 simp [h2, ht]
theorem RowAt.frozen (h : RowAt w wr b ty N F) (t : Nat) : wr.frozen? ⟨b, t, none⟩ = false := by
 obtain ⟨c, h1, _⟩ := h.cells
 simp [World.frozen?, h1]
theorem RowAt.behind (h : RowAt w wr b ty N F) {w' : World} (hb : Below wr.heap.size wr w') : RowAt w w' b ty N F := by
 obtain ⟨c, h1, h2, h3⟩ := h.cells
 exact ⟨⟨c, by rw [hb.block b h.lt]; exact h1, h2, h3⟩, oU h.grown (xL _ hb)⟩
theorem xM (F : List Value) (s : Nat) (v : Value) (c : List Value) (hF : F <+: c) (hs : s ≤ F.length) (hc : s < c.length) : F.take s ++ v :: F.drop (s + 1) <+: c.set s v := by
 obtain ⟨r, rfl⟩ := hF
 rcases Nat.lt_or_ge s F.length with h | h
 ·refine ⟨r, ?_⟩
  rw [List.set_append_left _ _ h, List.set_eq_take_append_cons_drop, if_pos h]
 ·have e : s = F.length := by omega
  subst e
  rw [List.take_of_length_le (Nat.le_refl _), List.drop_of_length_le (by omega), List.set_append_right _ _ (Nat.le_refl _), Nat.sub_self]
  cases r with
  | nil => simp at hc
  | cons x r => exact ⟨r, by simp⟩
theorem RowAt.set1 (h : RowAt w wr b ty N F) {s : Nat} (hs : s ≤ F.length) (hN : s < N) (v : Value) : RowAt w (wr.setCell ⟨b, s, none⟩ v) b ty N (F.take s ++ v :: F.drop (s + 1)) := by
 obtain ⟨c, h1, h2, h3⟩ := h.cells
 rw [Sort.setCell_eq]
 refine ⟨⟨c.setIfInBounds s v, ?_, by simp [h2], ?_⟩, oU h.grown ⟨rfl, rfl, rfl, by simp [Sort.mapBlock], fun k hk hne => ?_⟩⟩
 ·simp only [Sort.mapBlock, Array.getElem?_modify, if_true, h1, Option.map_some, Sort.onCells]
 ·rw [Array.toList_setIfInBounds]
  exact xM F s v c.toList h3 hs (by simpa [h2] using hN)
 ·simp only [Sort.mapBlock, Array.getElem?_modify]
  rw [if_neg (fun e => hne (by rw [e]))]
theorem RowAt.set : ∀ (vs : List Value) {wr : World} {F : List Value} {s : Nat}, RowAt w wr b ty N F → s ≤ F.length → s + vs.length ≤ N → RowAt w (wr.setCells b s vs) b ty N (F.take s ++ vs ++ F.drop (s + vs.length))
 | [], wr, F, s, h, hs, hN => by simpa [World.setCells] using h
 | v :: vs, wr, F, s, h, hs, hN => by
  simp only [List.length_cons] at hN
  have h1 := h.set1 hs (by omega) v
  have h2 := RowAt.set vs (s := s + 1) h1 (by simp; omega) (by omega)
  rw [World.setCells]
  have e1 : (F.take s ++ v :: F.drop (s + 1)).take (s + 1) = F.take s ++ [v] := by
   rw [List.take_append, List.take_of_length_le (by simp; omega), List.length_take, Nat.min_eq_left hs, Nat.add_sub_cancel_left]; rfl
  have e2 : (F.take s ++ v :: F.drop (s + 1)).drop (s + 1 + vs.length) = F.drop (s + (vs.length + 1)) := by
   rw [List.drop_append, List.drop_of_length_le (by simp; omega), List.length_take, Nat.min_eq_left hs, List.nil_append, show s + 1 + vs.length - s = vs.length + 1 by omega, List.drop_succ_cons, List.drop_drop]
   congr 1; omega
  rw [e1, e2] at h2
  simpa [List.append_assoc] using h2
end Go.Sx
end
section
set_option linter.all false
namespace Go.Proofs.YtakopfjdmmnjcaaDoor
open Go Go.Sx Go.RowKit Go.Proofs Go.Lib
structure DelInv {α : Type} (e : α → Value) (p : α → Bool) (xs : List α) (i j : Nat) (F : List Value) : Prop where
 len : F.length = xs.length
 ij : i < j
 jn : j ≤ xs.length
 lo : F.take i = ((xs.take j).filter fun x => !p x).map e
 hi : F.drop j = (xs.drop j).map e
 il : i = ((xs.take j).filter fun x => !p x).length
theorem oK {α : Type} (p : α → Bool) (xs : List α) (k : Nat) (h : ∀ j (hj : j < xs.length), j < k → p xs[j] = false) : (xs.take k).filter (fun x => !p x) = xs.take k := by
 refine List.filter_eq_self.2 fun x hx => ?_
 obtain ⟨j, hj, rfl⟩ := List.mem_iff_getElem.1 hx
 simp only [List.length_take] at hj
 rw [List.getElem_take, h j (by omega) (by omega)]; rfl
theorem DelInv.at {α : Type} {e : α → Value} {p : α → Bool} {xs : List α} {i j : Nat} {F : List Value} (h : DelInv e p xs i j F) (hj : j < xs.length) : F[j]? = some (e xs[j]) := by
 have h0 : (F.drop j)[0]? = ((xs.drop j).map e)[0]? := by rw [h.hi]
 rw [List.getElem?_drop, Nat.add_zero] at h0
 rw [h0, List.getElem?_map, List.getElem?_drop, Nat.add_zero, List.getElem?_eq_getElem hj]; rfl
theorem DelInv.start {α : Type} {e : α → Value} {p : α → Bool} {xs : List α} {k : Nat} (hk : k < xs.length) (h : ∀ j (hj : j < xs.length), j < k → p xs[j] = false) (hp : p xs[k] = true) : DelInv e p xs k (k + 1) (xs.map e) := by
 have e1 : (xs.take (k + 1)).filter (fun x => !p x) = xs.take k := by
  rw [List.take_succ_eq_append_getElem hk, List.filter_append, oK p xs k h]
  simp [hp]
 refine ⟨by simp, by omega, by omega, ?_, by simp, ?_⟩
 ·rw [e1, List.map_take]
 ·rw [e1]; simp; omega
theorem DelInv.keep {α : Type} {e : α → Value} {p : α → Bool} {xs : List α} {i j : Nat} {F : List Value} (h : DelInv e p xs i j F) (hj : j < xs.length) (hp : p xs[j] = false) : DelInv e p xs (i + 1) (j + 1) (F.take i ++ [e xs[j]] ++ F.drop (i + 1)) := by
 have e1 : (xs.take (j + 1)).filter (fun x => !p x) = (xs.take j).filter (fun x => !p x) ++ [xs[j]] := by
  rw [List.take_succ_eq_append_getElem hj, List.filter_append]
  simp [hp]
 have hl := h.len
 have hij := h.ij
 refine ⟨by simp; omega, by omega, by omega, ?_, ?_, ?_⟩
 ·rw [List.take_append_of_le_length (by simp; omega), List.take_of_length_le (by simp; omega), e1, List.map_append, h.lo]; rfl
 ·rw [List.drop_append, List.drop_of_length_le (by simp; omega), List.nil_append, List.drop_drop]
  have : F.drop (j + 1) = (xs.drop (j + 1)).map e := by rw [← List.drop_drop, h.hi, ← List.map_drop, List.drop_drop]
  rw [← this]
  congr 1
  simp; omega
 ·rw [e1, List.length_append, ← h.il]; rfl
theorem DelInv.skip {α : Type} {e : α → Value} {p : α → Bool} {xs : List α} {i j : Nat} {F : List Value} (h : DelInv e p xs i j F) (hj : j < xs.length) (hp : p xs[j] = true) : DelInv e p xs i (j + 1) F := by
 have e1 : (xs.take (j + 1)).filter (fun x => !p x) = (xs.take j).filter (fun x => !p x) := by
  rw [List.take_succ_eq_append_getElem hj, List.filter_append]
  simp [hp]
 have hij := h.ij
 exact ⟨h.len, by omega, by omega, by rw [e1]; exact h.lo, by rw [← List.drop_drop, h.hi, ← List.map_drop, List.drop_drop], by rw [e1]; exact h.il⟩
end Go.Proofs.YtakopfjdmmnjcaaDoor
end
section
set_option linter.all false
set_option maxRecDepth 100000
namespace Go.Sx
open Go Go.RowKit
theorem RowAt.mod {V : View} {w W : World} {b ty N : Nat} {F : List Value} (hm : Mod V w) (hV : V b = none) (h : RowAt w W b ty N F) : Mod V W := fun k cs hk => by
 obtain ⟨c, t, fz, e1, e2⟩ := hm k cs hk
 exact ⟨c, t, fz, by rw [h.grown.block k (Array.getElem?_eq_some_iff.1 e1).1 (fun e => by cases e; rw [hV] at hk; cases hk)]; exact e1, e2⟩
def b1k (V : View) (b : Nat) (cs : List Value) : View := fun k => if k = b then some cs else V k
theorem RowAt.row {α : Type} {e : α → Value} (hs : ∀ x, scalar (e x) = true) {V : View} {w w' : World} {ty b cap : Nat} {l : List α} {G : List Value} (h : RowAt w w' b ty cap (l.map e ++ G)) (hcap : cap ≤ maxLen) (hV : V b = none) : RowR V w' ty 1 (a5O e l) (.slice (some ⟨b, 0, none⟩) l.length cap) [b] := by
 have hle := h.le
 rw [List.length_append, List.length_map] at hle
 obtain ⟨c, h1, h2, h3⟩ := h.cells
 refine ⟨fun r hr => ?_, l.map e, List.replicate l.length [], ⟨by rw [tC]; simp, by rw [tC]; simp, fun k dd y s q1 q2 q3 => ?_⟩, .inr ⟨b, cap, c, by simp [a5O], by simp [a5O]; omega, hcap, h1, by simp [h2], (List.prefix_append _ _).trans h3, hV, by simp⟩⟩
 ·obtain ⟨x, _, rfl⟩ := List.mem_map.1 hr; rfl
 ·rw [tC, List.getElem?_map] at q1
  rw [List.getElem?_map] at q2
  cases hk : l[k]? with
  | none => rw [hk] at q1; cases q1
  | some x =>
   rw [hk] at q1 q2
   cases q1; cases q2
   rw [List.getElem?_replicate] at q3
   split at q3
   ·cases q3; exact .v _ (hs x)
   ·cases q3
end Go.Sx
end
section
set_option linter.all false
set_option maxRecDepth 100000
set_option maxHeartbeats 4000000
namespace Go.Proofs.YtakopfjdmmnjcaaDoor
open Go Go.Sx Go.RowKit Go.Proofs
def idxP {α : Type} (p : α → Bool) : List α → Nat → Int
 | [], _ => -1
 | x :: xs, k => if p x then k else idxP p xs (k + 1)
theorem idxP_spec {α : Type} (p : α → Bool) : ∀ (xs : List α) (k : Nat), (idxP p xs k = -1 ∧ ∀ x ∈ xs, p x = false) ∨ ∃ k0 : Nat, idxP p xs k = ((k + k0 : Nat) : Int) ∧ ∃ h : k0 < xs.length, p xs[k0] = true ∧ ∀ j (hj : j < xs.length), j < k0 → p xs[j] = false
 | [], k => .inl ⟨rfl, fun x hx => by simp at hx⟩
 | x :: xs, k => by
  unfold idxP
  cases hx : p x with
  | true => exact .inr ⟨0, by simp, by simp, by simpa using hx, fun j hj h => by omega⟩
  | false =>
   rcases idxP_spec p xs (k + 1) with ⟨h1, h2⟩ | ⟨k0, h1, h2, h3, h4⟩
   ·exact .inl ⟨by simpa using h1, fun y hy => by
     rcases List.mem_cons.1 hy with rfl | hy
     ·exact hx
     ·exact h2 y hy⟩
   ·refine .inr ⟨k0 + 1, by simp only [Bool.false_eq_true, if_false]; rw [h1]; congr 1; omega, by simp; omega, by simpa using h3, fun j hj hk => ?_⟩
    cases j with
    | zero => simpa using hx
    | succ j => simpa using h4 j (by simpa using hj) (by omega)
end Go.Proofs.YtakopfjdmmnjcaaDoor
end
end
section
set_option maxRecDepth 100000
namespace Go.Sx
open Go Go.RowKit
theorem LayL.take {V : View} {ds : List D} {ys : List Value} {Ss : List (List Nat)} (h : LayL V ds ys Ss) (n : Nat) : LayL V (ds.take n) (ys.take n) (Ss.take n) :=
 ⟨by simp [h.1], by simp [h.2.1], fun k d y S h1 h2 h3 => by
  rw [List.getElem?_take] at h1 h2 h3
  split at h1
  ·rw [if_pos ‹_›] at h2 h3; exact h.2.2 k d y S h1 h2 h3
  ·cases h1⟩
theorem LayL.drop {V : View} {ds : List D} {ys : List Value} {Ss : List (List Nat)} (h : LayL V ds ys Ss) (n : Nat) : LayL V (ds.drop n) (ys.drop n) (Ss.drop n) :=
 ⟨by simp [h.1], by simp [h.2.1], fun k d y S h1 h2 h3 => by
  rw [List.getElem?_drop] at h1 h2 h3
  exact h.2.2 _ d y S h1 h2 h3⟩
theorem a1J {α : Type} {sz : Nat} : ∀ {rows : List (List α)}, (∀ r ∈ rows, r.length = sz) → rows.flatten.length = rows.length * sz
 | [], _ => by simp
 | r :: rows, h => by
  rw [List.flatten_cons, List.length_append, a1J (fun r hr => h r (by simp [hr])), h r (by simp), List.length_cons, Nat.add_mul]; omega
theorem yV {α : Type} {sz : Nat} : ∀ {rows : List (List α)} (i : Nat), (∀ r ∈ rows, r.length = sz) → (rows.take i).flatten = rows.flatten.take (i * sz)
 | [], i, _ => by simp
 | r :: rows, 0, h => by simp
 | r :: rows, i + 1, h => by
  have e := h r (by simp)
  rw [List.take_succ_cons, List.flatten_cons, List.flatten_cons, yV i (fun r hr => h r (by simp [hr])), List.take_append, List.take_of_length_le (l := r) (by rw [e, Nat.add_mul]; omega)]
  congr 2
  rw [e, Nat.add_mul]; omega
theorem nU {α : Type} {sz : Nat} : ∀ {rows : List (List α)} (i : Nat), (∀ r ∈ rows, r.length = sz) → (rows.drop i).flatten = rows.flatten.drop (i * sz)
 | [], i, _ => by simp
 | r :: rows, 0, h => by simp
 | r :: rows, i + 1, h => by
  have e := h r (by simp)
  rw [List.drop_succ_cons, List.flatten_cons, nU i (fun r hr => h r (by simp [hr])), List.drop_append, List.drop_of_length_le (l := r) (by rw [e, Nat.add_mul]; omega), List.nil_append]
  congr 1
  rw [e, Nat.add_mul]; omega
theorem RowAt.shape {w wr : World} {b ty N : Nat} {F : List Value} (h : RowAt w wr b ty N F) : wr.shape? b = some (ty, N) := by
 obtain ⟨c, h1, h2, h3⟩ := h.cells
 simp [World.shape?, h1, h2]
theorem RowAt.pre {w wr : World} {b ty N : Nat} {F G : List Value} (h : RowAt w wr b ty N F) (hp : G <+: F) : RowAt w wr b ty N G := by
 obtain ⟨c, h1, h2, h3⟩ := h.cells
 exact ⟨⟨c, h1, h2, hp.trans h3⟩, h.grown⟩
end Go.Sx
end
section
namespace Go.Proofs.YtakopfjdmmnjcaaDoor
open Go Go.Sx Go.RowKit Go.Proofs Go.Lib
end Go.Proofs.YtakopfjdmmnjcaaDoor
end
section
set_option maxRecDepth 100000
namespace Go.Proofs.YtakopfjdmmnjcaaDoor
open Go Go.Sx Go.RowKit Go.Proofs
end Go.Proofs.YtakopfjdmmnjcaaDoor
end
section
namespace Go.Proofs.YtakopfjdmmnjcaaDoor
open Go Go.Sx Go.RowKit Go.Proofs
theorem a9D {α : Type} (l : List α) : (l.all fun _ => true) = true := by simp
def fV {α : Type} (p : α → Bool) : List α → Nat
 | [] => 0
 | x :: l => if p x then 0 else fV p l + 1
theorem a2Q {α : Type} (p : α → Bool) (l : List α) (k : Nat) (h : k < l.length) : fV p (l.drop k) = if p l[k] then 0 else fV p (l.drop (k + 1)) + 1 := by
 rw [List.drop_eq_getElem_cons h, fV]
def oV {α : Type} (i : Nat) (x : α) (l : List α) : List α := l.take i ++ x :: l.drop i
end Go.Proofs.YtakopfjdmmnjcaaDoor
end
section
set_option maxRecDepth 100000
set_option maxHeartbeats 4000000
namespace Go.Proofs.YtakopfjdmmnjcaaDoor
open Go Go.Sx Go.RowKit Go.Proofs
theorem a0A (l : List TAttr) (hl : l.length ≤ 4300000) : FnC Tryd.prog 60 [.o (.d (.sl (l.map dE)))] (.o (.w 80 4 (l.map dE))) := by
 refine ent Tryd.func60 rfl Tryd.call60 rfl (fun C => ?_); simp only [go_sem, st0, Tryd.ntmps60]
 refine aL ?_
 intro b hb
 refine aL ?_
 refine cnd rfl (fun h1 => ?_) (fun h1 => ?_)
 ·have e := hb h1
  simp only [List.map_eq_nil_iff] at e
  subst e
  refine aL ?_
  exact aA ⟨⟨_, rfl, by simp only [go_sem]⟩, trivial⟩
 ·refine aL ?_
  exact aA ⟨⟨_, rfl, by simp only [go_sem, a9D]⟩, trivial⟩
theorem tF (f : Nat) (c : List D) (p : TFile → Bool) (l : List TFile) (hf : ∀ s ∈ l, FnC Tryd.prog f [mI s, .o (.q c)] (ob (p s))) (hl : l.length ≤ 8388608) : FnC Tryd.prog 58 [.o (.d (.sl (l.map cZ))), .o (.f f [c])] (oi (idxP p l 0)) := by
 refine ent Tryd.func58 rfl Tryd.call58 rfl (fun C => ?_); simp only [go_sem, st0, Tryd.ntmps58]
 refine aL ?_
 refine bX (α := Nat) (fun k => [(8, oi k)]) (fun _ => []) (fun k => k ≤ l.length ∧ idxP p l 0 = idxP p (l.drop k) k) (fun k => l.length - k) 0 (fun _ => ?_) ?_ ?_ (fun k hk => ?_)
 ·simp only [go_sem]
 ·simp only [go_sem]; simp
 ·simp
 ·obtain ⟨hk, hq⟩ := hk
  simp only [go_sem]
  refine aL ?_
  refine cnd rfl (fun h => ?_) (fun h => ?_)
  ·simp only [decide_eq_true_eq, Int.ofNat_lt] at h
   have hd := List.drop_eq_getElem_cons h
   rw [hd, idxP] at hq
   have q0 := @h; refine a0m (hf l[k] (List.getElem_mem h)) ?_
   refine cnd rfl (fun h2 => ?_) (fun h2 => ?_)
   ·refine aL ?_
    exact aA ⟨⟨_, rfl, by simp only [go_sem, hq, h2]⟩, trivial⟩
   ·refine aL ?_
    refine bF (k + 1) ?_ ?_ ?_
    ·simp only [go_sem]; simp
    ·rw [hq, h2]; exact ⟨h, by simp⟩
    ·omega
  ·simp only [decide_eq_false_iff_not] at h
   have e : k = l.length := by omega
   subst e
   simp only [List.drop_length, idxP] at hq
   refine aL ?_
   exact aA ⟨⟨_, rfl, by simp only [go_sem, hq]⟩, trivial⟩
theorem bT : (∀ b : Bool, (b && true) = b) ∧ (∀ b : Bool, (b && false) = false) ∧ (∀ b : Bool, (true && b) = b) ∧ (∀ b : Bool, (false && b) = false) ∧ (!true) = false ∧ (!false) = true := ⟨Bool.and_true, Bool.and_false, Bool.true_and, Bool.false_and, rfl, rfl⟩
def two (n : TNode) : Bool := decide (n.fOp = 6) || decide (n.fOp = 7)
def b0Q (n : TNode) (i : Int) : Nat := (if (two n || decide (n.fOp = 5)) && decide (n.fLeft = i) then 1 else 0) + (if two n && decide (n.fRight = i) then 1 else 0)
def a9H (q : List TNode) (i : Int) : Nat := match q with
 | [] => 0
 | n :: q => b0Q n i + a9H q i
def eV (v : TValue) : Bool := decide (v.fKind = 0) && (decide (v.fInt = 0) && decide (v.fStr = ⟨#[]⟩))
def a9G (n : TNode) (i : Nat) : Bool := inB n.fLeft 0 ((i : Int) - 1) && decide (0 < (i : Int))
def b0O (n : TNode) (i : Nat) : Bool := inB n.fRight 0 ((i : Int) - 1)
def wX (n : TNode) : Bool := decide (n.fLeft = 0) && decide (n.fRight = 0)
def a2S (n : TNode) : Bool := decide (n.fName = ⟨#[]⟩) && eV n.fValue
def a8q (n : TNode) (i : Nat) : Bool :=
 if n.fOp = 1 then wX n && a2S n
 else if n.fOp = 2 then dK n.fName 1 && (wX n && eV n.fValue)
 else if n.fOp = 3 then dK n.fName 1 && (eB n.fValue && (!decide (n.fValue.fKind = 0) && wX n))
 else if n.fOp = 4 then dK n.fName 1 && (eB n.fValue && (decide (n.fValue.fKind = 1) && wX n))
 else if n.fOp = 5 then a9G n i && (decide (n.fRight = 0) && a2S n)
 else if n.fOp = 6 ∨ n.fOp = 7 then a9G n i && (b0O n i && a2S n)
 else if n.fOp = 8 ∨ n.fOp = 9 then dK n.fName 6 && (wX n && eV n.fValue)
 else false
def b0P (q : List TNode) (i : Nat) : Bool := match q[i]? with
 | none => true
 | some n => a8q n i && (decide (q.length ≤ i + 1) || decide (a9H q i = 1))
def okQ (q : List TNode) : Bool := (List.range q.length).all (b0P q) && inB (q.length : Int) 1 9
end Go.Proofs.YtakopfjdmmnjcaaDoor
end
section
namespace Go.Proofs.YtakopfjdmmnjcaaDoor
open Go Go.Sx Go.RowKit Go.Proofs
def getAttr (name : ByteArray) : List TAttr → TValue
 | [] => ⟨0, 0, ⟨#[]⟩⟩
 | a :: r => if a.fName = name then a.fValue else getAttr name r
theorem wY (x : TFile) (name : ByteArray) (h : dC x ≤ 4300000) : FnC Tryd.prog 19 [mI x, os name] (eT (getAttr name x.fAttrs)) := by
 unfold dC iM at h
 generalize hg : getAttr name x.fAttrs = res
 refine ent Tryd.func19 rfl Tryd.call19 rfl (fun C => ?_); simp only [go_sem, st0, Tryd.ntmps19]
 refine aL ?_
 refine bX (α := Nat) (fun k => [(10, oi k)]) (fun _ => []) (fun k => k ≤ x.fAttrs.length ∧ getAttr name (x.fAttrs.drop k) = res) (fun k => x.fAttrs.length - k) 0 (fun _ => ?_) ?_ ?_ (fun k hk => ?_)
 ·simp only [go_sem]
 ·simp only [go_sem]; simp
 ·simp [hg]
 ·obtain ⟨hk, hq⟩ := hk
  simp only [go_sem]
  refine aL ?_
  refine cnd rfl (fun h => ?_) (fun h => ?_)
  ·simp only [decide_eq_true_eq, Int.ofNat_lt] at h
   have hd := List.drop_eq_getElem_cons h
   rw [hd, getAttr] at hq
   by_cases h1 : x.fAttrs[k].fName = name
   ·rw [if_pos h1] at hq
    subst hq
    have q0 := @h; have q1 := @h1; refine iK ?_
    exact aA ⟨⟨_, rfl, by simp only [go_sem]⟩, trivial⟩
   ·rw [if_neg h1] at hq
    have q0 := @h; have q1 := @h1; refine iK ?_
    refine bF (k + 1) ?_ ?_ ?_
    ·simp only [go_sem]; simp
    ·exact ⟨h, hq⟩
    ·omega
  ·simp only [decide_eq_false_iff_not] at h
   have e : k = x.fAttrs.length := by omega
   rw [e, List.drop_length, getAttr] at hq
   subst hq
   refine aL ?_
   exact aA ⟨⟨_, rfl, by simp only [go_sem]⟩, trivial⟩
theorem wZ (x : TFile) (name : ByteArray) (h : dC x ≤ 4300000) : FnC Tryd.prog 27 [mI x, os name] (eT (getAttr name x.fAttrs)) := by
 unfold dC iM at h
 generalize hg : getAttr name x.fAttrs = res
 refine ent Tryd.func27 rfl Tryd.call27 rfl (fun C => ?_); simp only [go_sem, st0, Tryd.ntmps27]
 refine aL ?_
 refine bX (α := Nat) (fun k => [(5, oi k)]) (fun _ => []) (fun k => k ≤ x.fAttrs.length ∧ getAttr name (x.fAttrs.drop k) = res) (fun k => x.fAttrs.length - k) 0 (fun _ => ?_) ?_ ?_ (fun k hk => ?_)
 ·simp only [go_sem]
 ·simp only [go_sem]; simp
 ·simp [hg]
 ·obtain ⟨hk, hq⟩ := hk
  simp only [go_sem]
  refine aL ?_
  refine cnd rfl (fun h => ?_) (fun h => ?_)
  ·simp only [decide_eq_true_eq, Int.ofNat_lt] at h
   have hd := List.drop_eq_getElem_cons h
   rw [hd, getAttr] at hq
   by_cases h1 : x.fAttrs[k].fName = name
   ·rw [if_pos h1] at hq
    subst hq
    have q0 := @h; have q1 := @h1; refine iK ?_
    exact aA ⟨⟨_, rfl, by simp only [go_sem]⟩, trivial⟩
   ·rw [if_neg h1] at hq
    have q0 := @h; have q1 := @h1; refine iK ?_
    refine bF (k + 1) ?_ ?_ ?_
    ·simp only [go_sem]; simp
    ·exact ⟨h, hq⟩
    ·omega
  ·simp only [decide_eq_false_iff_not] at h
   have e : k = x.fAttrs.length := by omega
   rw [e, List.drop_length, getAttr] at hq
   subst hq
   refine aL ?_
   exact aA ⟨⟨_, rfl, by simp only [go_sem]⟩, trivial⟩
end Go.Proofs.YtakopfjdmmnjcaaDoor
end
section
set_option maxRecDepth 100000
set_option maxHeartbeats 4000000
namespace Go.Proofs.YtakopfjdmmnjcaaDoor
def yX (x v : TValue) : Bool := decide (x.fKind = v.fKind) && (decide (x.fInt = v.fInt) && decide (x.fStr = v.fStr))
def a9E (l : List Int) (i : Int) : Bool := l.any fun x => decide (x = i)
def a2R (s : ByteArray) : List TResult → List Int
 | [] => []
 | x :: r => if x.fName = s then x.fIDs else a2R s r
def a9F (v : TValue) (n : Int) : Bool := decide (v.fKind = 1) && decide (v.fInt < n)
def mt (q : List TNode) (f : TFile) (r : List TResult) : Nat → Nat → Bool
 | 0, _ => false
 | k + 1, i => match q[i]? with
  | none => false
  | some n =>
   if n.fOp = 1 then true
   else if n.fOp = 2 then !decide ((getAttr n.fName f.fAttrs).fKind = 0)
   else if n.fOp = 3 then yX (getAttr n.fName f.fAttrs) n.fValue
   else if n.fOp = 4 then a9F (getAttr n.fName f.fAttrs) n.fValue.fInt
   else if n.fOp = 5 then !mt q f r k n.fLeft.toNat
   else if n.fOp = 6 then mt q f r k n.fLeft.toNat && mt q f r k n.fRight.toNat
   else if n.fOp = 7 then mt q f r k n.fLeft.toNat || mt q f r k n.fRight.toNat
   else if n.fOp = 8 then a9E (a2R n.fName r) f.fID
   else !decide (f.fLink = 0) && a9E (a2R n.fName r) f.fLink
end Go.Proofs.YtakopfjdmmnjcaaDoor
end
section
set_option maxRecDepth 100000
set_option maxHeartbeats 4000000
namespace Go.Proofs.YtakopfjdmmnjcaaDoor
open Go Go.Sx Go.RowKit Go.Proofs
def a8n (s : ByteArray) (y : TAttr) : Bool := !bS y.fName s
def a8o (a : List TAttr) (x : TAttr) : Bool := a.any fun y => decide (y.fName = x.fName) && !yX y.fValue x.fValue
def a8p (a : List TAttr) (x : TAttr) : Bool := a.any fun y => decide (y.fName = x.fName)
def a2P (a : List TAttr) : List TAttr → List TAttr → Option (List TAttr)
 | l, [] => some l
 | l, x :: b => if a8o a x then none else if a8p a x then a2P a l b else a2P a (oV (fV (a8n x.fName) l) x l) b
def b0H (a b : TEdit) : TEdit := if a.fOK && b.fOK then (match a2P a.fSet a.fSet b.fSet with | none => ⟨false, []⟩ | some l => ⟨true, l⟩) else ⟨false, []⟩
theorem fT {α β : Type} (f : α → β) (l : List α) (n : Nat) : (l.map f).take n = (l.take n).map f := List.map_take.symm
theorem fU {α β : Type} (f : α → β) (l : List α) (n : Nat) : (l.map f).drop n = (l.drop n).map f := List.map_drop.symm
theorem a5L (p : TAttr → Bool) (l : List TAttr) (k : Nat) (h : k < l.length) (hk : fV p l = k + fV p (l.drop k)) : fV p l = if p l[k] then k else k + 1 + fV p (l.drop (k + 1)) := by
 rw [hk, a2Q p l k h]
 split <;> omega
end Go.Proofs.YtakopfjdmmnjcaaDoor
end
section
set_option maxRecDepth 100000
namespace Go.Sx
open Go Go.RowKit
structure DelK (k : Nat) (xs : List (List Value × Bool)) (i j : Nat) (F : List Value) : Prop where
 un : ∀ x ∈ xs, x.1.length = k
 len : F.length = xs.length * k
 ij : i < j
 jn : j ≤ xs.length
 lo : F.take (i * k) = (((xs.take j).filter fun x => !x.2).map (·.1)).flatten
 hi : F.drop (j * k) = ((xs.drop j).map (·.1)).flatten
 il : i = ((xs.take j).filter fun x => !x.2).length
theorem a4x {k : Nat} {xs : List (List Value × Bool)} (h : ∀ x ∈ xs, x.1.length = k) : ((xs.map (·.1)).flatten).length = xs.length * k := by
 rw [a1J (sz := k) fun r hr => by obtain ⟨x, hx, rfl⟩ := List.mem_map.1 hr; exact h x hx, List.length_map]
theorem DelK.at {k : Nat} {xs : List (List Value × Bool)} {i j : Nat} {F : List Value} (h : DelK k xs i j F) (hj : j < xs.length) {t : Nat} {v : Value} (ht : xs[j].1[t]? = some v) : F[j * k + t]? = some v := by
 have h0 : (F.drop (j * k))[t]? = ((xs.drop j).map (·.1)).flatten[t]? := by rw [h.hi]
 rw [List.getElem?_drop] at h0
 rw [h0, List.drop_eq_getElem_cons hj, List.map_cons, List.flatten_cons, List.getElem?_append_left (List.getElem?_eq_some_iff.1 ht).1]
 exact ht
theorem a5P (xs : List (List Value × Bool)) (k : Nat) (h : ∀ j (hj : j < xs.length), j < k → xs[j].2 = false) : (xs.take k).filter (fun x => !x.2) = xs.take k := by
 refine List.filter_eq_self.2 fun x hx => ?_
 obtain ⟨j, hj, rfl⟩ := List.mem_iff_getElem.1 hx
 simp only [List.length_take] at hj
 rw [List.getElem_take, h j (by omega) (by omega)]; rfl
theorem DelK.start {k n : Nat} {xs : List (List Value × Bool)} (hu : ∀ x ∈ xs, x.1.length = k) (hn : n < xs.length) (h : ∀ j (hj : j < xs.length), j < n → xs[j].2 = false) (hp : xs[n].2 = true) : DelK k xs n (n + 1) (xs.map (·.1)).flatten := by
 have e1 : (xs.take (n + 1)).filter (fun x => !x.2) = xs.take n := by
  rw [List.take_succ_eq_append_getElem hn, List.filter_append, a5P xs n h]
  simp [hp]
 have hu' : ∀ r ∈ xs.map (·.1), r.length = k := fun r hr => by obtain ⟨x, hx, rfl⟩ := List.mem_map.1 hr; exact hu x hx
 refine ⟨hu, a4x hu, by omega, by omega, ?_, ?_, ?_⟩
 ·rw [e1, List.map_take, yV n hu']
 ·rw [List.map_drop, nU (n + 1) hu']
 ·rw [e1]; simp; omega
theorem DelK.keep {k : Nat} {xs : List (List Value × Bool)} {i j : Nat} {F : List Value} (h : DelK k xs i j F) (hj : j < xs.length) (hp : xs[j].2 = false) : DelK k xs (i + 1) (j + 1) (F.take (i * k) ++ xs[j].1 ++ F.drop (i * k + xs[j].1.length)) := by
 have e1 : (xs.take (j + 1)).filter (fun x => !x.2) = (xs.take j).filter (fun x => !x.2) ++ [xs[j]] := by
  rw [List.take_succ_eq_append_getElem hj, List.filter_append]
  simp [hp]
 have hl := h.len
 have hij := h.ij
 have hu := h.un xs[j] (List.getElem_mem hj)
 have hle : (i + 1) * k ≤ j * k := Nat.mul_le_mul_right k hij
 have hle2 : (j + 1) * k ≤ xs.length * k := Nat.mul_le_mul_right k hj
 rw [Nat.add_mul] at hle hle2
 simp only [Nat.one_mul] at hle hle2
 have hFl : i * k + k ≤ F.length := by omega
 refine ⟨h.un, ?_, by omega, by omega, ?_, ?_, ?_⟩
 ·simp only [List.length_append, List.length_take, List.length_drop, hu]; omega
 ·rw [List.take_append_of_le_length (by simp [hu, Nat.add_mul]; omega), List.take_of_length_le (by simp [hu, Nat.add_mul]; omega), e1, List.map_append, List.flatten_append, h.lo]; simp
 ·rw [List.drop_append, List.drop_of_length_le (by simp [hu, Nat.add_mul]; omega), List.nil_append, List.drop_drop]
  have e2 : F.drop ((j + 1) * k) = ((xs.drop (j + 1)).map (·.1)).flatten := by
   have hu' : ∀ r ∈ (xs.drop j).map (·.1), r.length = k := fun r hr => by obtain ⟨x, hx, rfl⟩ := List.mem_map.1 hr; exact h.un x (List.mem_of_mem_drop hx)
   have := nU 1 hu'
   rw [Nat.add_mul, ← List.drop_drop, h.hi, ← this, ← List.map_drop, List.drop_drop]
  rw [← e2]
  congr 1
  simp only [List.length_append, List.length_take, hu, Nat.add_mul]
  omega
 ·rw [e1, List.length_append, ← h.il]; rfl
theorem DelK.skip {k : Nat} {xs : List (List Value × Bool)} {i j : Nat} {F : List Value} (h : DelK k xs i j F) (hj : j < xs.length) (hp : xs[j].2 = true) : DelK k xs i (j + 1) F := by
 have e1 : (xs.take (j + 1)).filter (fun x => !x.2) = (xs.take j).filter (fun x => !x.2) := by
  rw [List.take_succ_eq_append_getElem hj, List.filter_append]
  simp [hp]
 have hij := h.ij
 refine ⟨h.un, h.len, by omega, by omega, by rw [e1]; exact h.lo, ?_, by rw [e1]; exact h.il⟩
 have hu' : ∀ r ∈ (xs.drop j).map (·.1), r.length = k := fun r hr => by obtain ⟨x, hx, rfl⟩ := List.mem_map.1 hr; exact h.un x (List.mem_of_mem_drop hx)
 have := nU 1 hu'
 rw [Nat.add_mul, ← List.drop_drop, h.hi, ← this, ← List.map_drop, List.drop_drop]
theorem DelK.fin {k : Nat} {xs : List (List Value × Bool)} {i : Nat} {F : List Value} (h : DelK k xs i xs.length F) : F.take (i * k) = ((xs.filter fun x => !x.2).map (·.1)).flatten ∧ i = (xs.filter fun x => !x.2).length := by
 have h1 := h.lo
 have h2 := h.il
 rw [List.take_length] at h1 h2
 exact ⟨h1, h2⟩
theorem RowAt.other {w wr W : World} {b ty N : Nat} {F : List Value} (h : RowAt w wr b ty N F) (hb : Below wr.heap.size wr W) : RowAt w W b ty N F := h.behind hb
def a8r {τ : Type} (k : Nat) (p : τ → Bool) : List Value → List τ → List (List Value × Bool)
 | _, [] => []
 | ys, x :: l => (ys.take k, p x) :: a8r k p (ys.drop k) l
def b0R {α τ : Type} (k : Nat) (p : τ → Bool) : List α → List τ → List α
 | _, [] => []
 | ys, x :: l => (if p x then [] else ys.take k) ++ b0R k p (ys.drop k) l
end Go.Sx
end
section
namespace Go.Proofs.YtakopfjdmmnjcaaDoor
open Go Go.Sx Go.RowKit Go.Proofs Go.Lib
end Go.Proofs.YtakopfjdmmnjcaaDoor
end
section
set_option maxRecDepth 100000
set_option maxHeartbeats 4000000
namespace Go.Proofs.YtakopfjdmmnjcaaDoor
open Go Go.Sx Go.RowKit Go.Proofs
def isName (s : ByteArray) (y : TAttr) : Bool := decide (y.fName = s)
def gJ (s : ByteArray) (y : TAttr) : Bool := !(bS y.fName s || decide (y.fName = s))
def kZ (s : ByteArray) (l : List TAttr) : List TAttr := l.filter fun y => !isName s y
def uN (s : ByteArray) (v : TValue) (l : List TAttr) : List TAttr := if v.fKind = 0 then kZ s l else oV (fV (gJ s) (kZ s l)) ⟨s, v⟩ (kZ s l)
def oJ (f : TFile) (s : ByteArray) (v : TValue) : TFile := { f with fAttrs := uN s v f.fAttrs }
theorem a1I (s : ByteArray) (l : List TAttr) : (kZ s l).length ≤ l.length := List.length_filter_le _ _
theorem a4w (s : ByteArray) (l : List TAttr) (k : Nat) (h : k < l.length) : kZ s (l.take (k + 1)) = kZ s (l.take k) ++ (if isName s l[k] then [] else [l[k]]) := by
 simp only [kZ, List.take_succ_eq_append_getElem h, List.filter_append, List.filter_cons, List.filter_nil]
 cases isName s l[k] <;> rfl
theorem aZ (f : TFile) (s : ByteArray) (v : TValue) (h : f.fAttrs.length ≤ 4200000) : FnC Tryd.prog 56 [mI f, os s, eT v] (yP (oJ f s v)) := by
 have hd := a1I s f.fAttrs
 refine ent Tryd.func56 rfl Tryd.call56 rfl (fun C => ?_); simp only [go_sem, st0, Tryd.ntmps56]
 refine aL ?_
 refine bX (α := Nat) (fun k => [(7, .o (.s 3)), (8, oi k), (11, .o .u)]) (fun k => [(3, .row 80 4 ((kZ s (f.fAttrs.take k)).map dE) true)]) (fun k => k ≤ f.fAttrs.length) (fun k => f.fAttrs.length - k) 0 (fun _ => ?_) ?_ ?_ (fun k hk => ?_)
 ·simp only [go_sem]
 ·simp only [go_sem]; simp [kZ]
 ·simp
 ·simp only [go_sem]
  refine aL ?_
  refine cnd rfl (fun h1 => ?_) (fun h1 => ?_)
  ·simp only [decide_eq_true_eq, Int.ofNat_lt] at h1
   have ht := a4w s f.fAttrs k h1
   have hlen : (kZ s (f.fAttrs.take k)).length ≤ 4200000 := by have := a1I s (f.fAttrs.take k); simp at this; omega
   have q0 := @h1; refine nG ?_
   refine cnd (b := !(isName s f.fAttrs[k])) rfl (fun h2 => ?_) (fun h2 => ?_)
   ·have h2' : isName s f.fAttrs[k] = false := by simpa using h2
    rw [h2'] at ht
    have hl1 : (kZ s (f.fAttrs.take k)).length + 1 ≤ 140737488355328 := by omega
    have hl2 : ((kZ s (f.fAttrs.take k)).length + 1) * 48 ≤ 140737488355328 := by omega
    have q0 := @h1; refine nG ?_
    refine bF (k + 1) ?_ ?_ ?_
    ·simp only [go_sem, ht, List.map_append]; simp [dE]
    ·omega
    ·omega
   ·have h2' : isName s f.fAttrs[k] = true := by simpa using h2
    rw [h2'] at ht
    have q0 := @h1; refine nG ?_
    refine bF (k + 1) ?_ ?_ ?_
    ·simp only [go_sem, ht, List.map_append]; simp
    ·omega
    ·omega
  ·simp only [decide_eq_false_iff_not] at h1
   have e : k = f.fAttrs.length := by omega
   subst e
   by_cases hv : v.fKind = 0
   ·have e : uN s v f.fAttrs = kZ s f.fAttrs := if_pos hv
    have q0 := @hv; have q1 := @decide_true; refine iK ?_
    exact aA ⟨⟨_, rfl, by simp only [go_sem, oJ, e, List.take_length]⟩, trivial⟩
   have e : uN s v f.fAttrs = oV (fV (gJ s) (kZ s f.fAttrs)) ⟨s, v⟩ (kZ s f.fAttrs) := if_neg hv
   have htl : f.fAttrs.take f.fAttrs.length = f.fAttrs := List.take_length
   have q0 := @hv; have q1 := @decide_false; have q2 := @htl; refine rM ?_
   generalize hdl : kZ s f.fAttrs = l at *
   refine WP.sees (Sees.frz 3 rfl) ?_
   simp only [go_sem]
   refine bX (α := Nat) (fun n => [(9, oi n)]) (fun _ => []) (fun n => n ≤ l.length ∧ fV (gJ s) l = n + fV (gJ s) (l.drop n)) (fun n => l.length - n) 0 (fun _ => ?_) ?_ ?_ (fun n hn => ?_)
   ·simp only [go_sem]
   ·simp only [go_sem]; simp
   ·simp
   ·obtain ⟨hn, hf⟩ := hn
    simp only [go_sem]
    by_cases h5 : n < l.length
    ·have hfx := a5L (gJ s) l n h5 hf
     have h5' : ((n : Int) < (l.length : Int)) = True := by simp [h5]
     have q0 := @h5; have q1 := @h5'; have q2 := @decide_true; refine rM ?_
     refine cnd (b := !(gJ s l[n])) (by simp only [gJ, Bool.not_not]; try rfl) (fun h6 => ?_) (fun h6 => ?_)
     ·have h6 : gJ s l[n] = false := by simpa using h6
      rw [if_neg (by simp [h6])] at hfx
      refine aL ?_
      refine bF (n + 1) ?_ ?_ ?_
      ·simp only [go_sem]; simp
      ·exact ⟨by omega, hfx⟩
      ·omega
     ·have h6 : gJ s l[n] = true := by simpa using h6
      rw [if_pos h6] at hfx
      have qH := aI @h5 (aI @fT (aI @fU (aI @rH (aI @rJ @a0k)))); repeat' (with_reducible first | refine nY ?_ | (refine mX ?_; try simp only [go_sem, qH]) | refine kD ?_ | (apply rE [0,4,8,9] [] [1,2,3,5,6,7] [1,2,3,5,6,7] ((.c 0 [] [1,2,3,5,6,7] (.c 4 [] [5,6,7] (.c 8 [] [] (.c 9 [10] [10] .n .n) .n) (.c 8 [] [1,2,3] (.c 4 [] [] (.c 9 [10] [10] .n .n) .n) .n)) (.c 8 [] [1,2,3] (.c 0 [] [1,2,3] (.c 4 [] [] (.c 9 [10] [10] .n .n) .n) .n) .n))) (by simp only [go_sem]; rfl) (by simp only [go_sem]; rfl) (by simp only [go_sem]; rfl) (by decide +kernel); (focus simp only [go_sem]; done)) | exact bQ | refine bC (uX ?_) ?_ | refine bD (aX ?_) ?_ | refine bE (aX ?_) ?_ | exact dA | (refine a0y [(4, 5)] (by simp only [go_sem]; rfl) ?_; exact rfl) | exact oH | exact uB | refine rD ?_ | refine aO ?_ | fail)
      exact aA ⟨⟨_, rfl, by simp only [go_sem, oJ, e, hfx, oV, dE, List.map_append, List.map_cons, List.append_assoc, List.cons_append, List.nil_append, List.take_length]⟩, trivial⟩
    ·have e' : n = l.length := by omega
     have hfx : fV (gJ s) l = n := by rw [hf, e', List.drop_length]; rfl
     have h5' : ((n : Int) < (l.length : Int)) = False := by simp [h5]
     have qH := aI @h5 (aI @h5' (aI @decide_false (aI @fT (aI @fU (aI @rH (aI @rJ @a0k)))))); repeat' (with_reducible first | refine nY ?_ | (refine mX ?_; try simp only [go_sem, qH]) | refine kD ?_ | (apply rE [0,4,8,9] [] [1,2,3,5,6,7] [1,2,3,5,6,7] ((.c 0 [] [1,2,3,5,6,7] (.c 4 [] [5,6,7] (.c 8 [] [] (.c 9 [10] [10] .n .n) .n) (.c 8 [] [1,2,3] (.c 4 [] [] (.c 9 [10] [10] .n .n) .n) .n)) (.c 8 [] [1,2,3] (.c 0 [] [1,2,3] (.c 4 [] [] (.c 9 [10] [10] .n .n) .n) .n) .n))) (by simp only [go_sem]; rfl) (by simp only [go_sem]; rfl) (by simp only [go_sem]; rfl) (by decide +kernel); (focus simp only [go_sem]; done)) | exact bQ | refine bC (uX ?_) ?_ | refine bD (aX ?_) ?_ | refine bE (aX ?_) ?_ | exact dA | (refine a0y [(4, 5)] (by simp only [go_sem]; rfl) ?_; exact rfl) | exact oH | exact uB | refine rD ?_ | refine aO ?_ | fail)
     exact aA ⟨⟨_, rfl, by simp only [go_sem, oJ, e, hfx, oV, dE, List.map_append, List.map_cons, List.append_assoc, List.cons_append, List.nil_append, e', List.take_length, List.drop_length]⟩, trivial⟩
def a8m (l : List TAttr) (e : List TAttr) : List TAttr := e.foldl (fun l a => uN a.fName a.fValue l) l
def b0G (f : TFile) (e : TEdit) : TFile := { f with fAttrs := a8m f.fAttrs e.fSet }
end Go.Proofs.YtakopfjdmmnjcaaDoor
end
