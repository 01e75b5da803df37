/- Joined texts. -/
import Derived.Test.YtakopfjdmmnjcaaGreatZ06
import Derived.Test.YtakopfjdmmnjcaaGreatZ07
import Derived.Test.YtakopfjdmmnjcaaGreatZ04
import Derived.Sort.Row
import Derived.Sort.Grow
import Derived.Shelf.RegionOpenPlain
import Derived.WalkKit
import Derived.Deep.LoopGhost
import Derived.Deep.Draws
import Derived.Lib.Walk
import Derived.Lib.SliceRun
import Derived.Shelf.SlicesE.Kit
import Derived.Shelf.SlicesE.DeleteFunc
import Derived.Test.YtakopfjdmmnjcaaGreatZ03
import Derived.Laws.IdiomCopy
import Derived.Deep.AppendSrc
import Derived.Lib.JoinLaws
import Derived.Lib.AppendZeros
import Derived.Lib.AppendZerosOnto
import Derived.Lib.Overlaps
import Derived.Laws.Externs
import Derived.Laws.NewBlocks
import Derived.Shelf.Spec.SlicesInsertGrow
set_option linter.all false
section
section
set_option linter.all false
set_option maxHeartbeats 1000000
namespace Go.Proofs.YtakopfjdmmnjcaaGreat
open Go Go.Sx Go.RowKit Go.Proofs
structure TResult where
 fName : ByteArray
 fIDs : List Int
@[go_sem] def bC (x : TResult) : List D := [sv x.fName, .sl (x.fIDs.map gG)]
@[go_sem] def b7L (x : TResult) : SV := .g [.d (sv x.fName), .d (.sl (x.fIDs.map gG))]
@[go_sem] def b7M (x : TResult) : SV := .g [.d (sv x.fName), .w 3 1 (x.fIDs.map gG)]
def kC (x : TResult) : Nat := x.fName.size + x.fIDs.length
def b2P (x : TResult) : Prop := x.fName.size ≤ 9223372036854775807 ∧ a5J x.fIDs
def bM (l : List TResult) : Nat := l.length + bI kC l
def b1d (l : List TResult) : Prop := l.length ≤ 9223372036854775807 ∧ ∀ x ∈ l, b2P x
end Go.Proofs.YtakopfjdmmnjcaaGreat
end
section
set_option linter.all false
set_option maxHeartbeats 1000000
namespace Go.Proofs.YtakopfjdmmnjcaaGreat
open Go Go.Sx Go.RowKit Go.Proofs
structure TDiff where
 fName : ByteArray
 fAdded : List Int
 fRemoved : List Int
@[go_sem] def b7N (x : TDiff) : List D := [sv x.fName, .sl (x.fAdded.map gG), .sl (x.fRemoved.map gG)]
@[go_sem] def b8R (x : TDiff) : SV := .g [.d (sv x.fName), .d (.sl (x.fAdded.map gG)), .d (.sl (x.fRemoved.map gG))]
@[go_sem] def b8S (x : TDiff) : SV := .g [.d (sv x.fName), .w 3 1 (x.fAdded.map gG), .w 3 1 (x.fRemoved.map gG)]
def b7s (x : TDiff) : Nat := x.fName.size + x.fAdded.length + x.fRemoved.length
def b6a (x : TDiff) : Prop := x.fName.size ≤ 9223372036854775807 ∧ a5J x.fAdded ∧ a5J x.fRemoved
def b8u (l : List TDiff) : Nat := l.length + bI b7s l
def b7O (l : List TDiff) : Prop := l.length ≤ 9223372036854775807 ∧ ∀ x ∈ l, b6a x
end Go.Proofs.YtakopfjdmmnjcaaGreat
end
section
set_option linter.all false
set_option maxHeartbeats 1000000
namespace Go.Proofs.YtakopfjdmmnjcaaGreat
open Go Go.Sx Go.RowKit Go.Proofs
structure TCatalog where
 fStore : TStore
 fDirs : List TDir
 fResults : List TResult
@[go_sem] def b6b (x : TCatalog) : List D := [.sl (x.fStore.fSchema.map dA), .sl (x.fStore.fFiles.map bW), iv x.fStore.fNextID, .sl (x.fDirs.map dG), .sl (x.fResults.map bC)]
@[go_sem] def b7t (x : TCatalog) : SV := .g [.d (.sl (x.fStore.fSchema.map dA)), .d (.sl (x.fStore.fFiles.map bW)), .d (iv x.fStore.fNextID), .d (.sl (x.fDirs.map dG)), .d (.sl (x.fResults.map bC))]
@[go_sem] def b7u (x : TCatalog) : SV := .g [.w 113 2 (x.fStore.fSchema.map dA), .w 69 5 (x.fStore.fFiles.map bW), .d (iv x.fStore.fNextID), .w 38 2 (x.fDirs.map dG), .w 169 2 (x.fResults.map bC)]
def b2Q (x : TCatalog) : Nat := aJ x.fStore + gN x.fDirs + bM x.fResults
def b1e (x : TCatalog) : Prop := a5K x.fStore ∧ b2I x.fDirs ∧ b1d x.fResults
def b6H (l : List TCatalog) : Nat := l.length + bI b2Q l
def b6c (l : List TCatalog) : Prop := l.length ≤ 9223372036854775807 ∧ ∀ x ∈ l, b1e x
end Go.Proofs.YtakopfjdmmnjcaaGreat
end
section
set_option linter.all false
set_option maxHeartbeats 1000000
namespace Go.Proofs.YtakopfjdmmnjcaaGreat
open Go Go.Sx Go.RowKit Go.Proofs
structure TGroup where
 fValue : TValue
 fIDs : List Int
@[go_sem] def fZ (x : TGroup) : List D := [iv x.fValue.fKind, iv x.fValue.fInt, sv x.fValue.fStr, .sl (x.fIDs.map gG)]
@[go_sem] def b2R (x : TGroup) : SV := .g [.d (iv x.fValue.fKind), .d (iv x.fValue.fInt), .d (sv x.fValue.fStr), .d (.sl (x.fIDs.map gG))]
@[go_sem] def b8v (x : TGroup) : SV := .g [.d (iv x.fValue.fKind), .d (iv x.fValue.fInt), .d (sv x.fValue.fStr), .w 3 1 (x.fIDs.map gG)]
def a0L (x : TGroup) : Nat := iG x.fValue + x.fIDs.length
def b4B (x : TGroup) : Prop := a2c x.fValue ∧ a5J x.fIDs
def mK (l : List TGroup) : Nat := l.length + bI a0L l
def b7v (l : List TGroup) : Prop := l.length ≤ 9223372036854775807 ∧ ∀ x ∈ l, b4B x
end Go.Proofs.YtakopfjdmmnjcaaGreat
end
section
set_option linter.all false
set_option maxHeartbeats 1000000
namespace Go.Proofs.YtakopfjdmmnjcaaGreat
open Go Go.Sx Go.RowKit Go.Proofs
structure TEdit where
 fOK : Bool
 fSet : List TAttr
@[go_sem] def b7P (x : TEdit) : List D := [bv x.fOK, .sl (x.fSet.map fJ)]
@[go_sem] def b8T (x : TEdit) : SV := .g [.d (bv x.fOK), .d (.sl (x.fSet.map fJ))]
@[go_sem] def b8U (x : TEdit) : SV := .g [.d (bv x.fOK), .w 110 4 (x.fSet.map fJ)]
def b7w (x : TEdit) : Nat := eT x.fSet
def b6d (x : TEdit) : Prop := True ∧ wQ x.fSet
def b8w (l : List TEdit) : Nat := l.length + bI b7w l
def b7Q (l : List TEdit) : Prop := l.length ≤ 9223372036854775807 ∧ ∀ x ∈ l, b6d x
end Go.Proofs.YtakopfjdmmnjcaaGreat
end
section
set_option linter.all false
set_option maxHeartbeats 1000000
namespace Go.Proofs.YtakopfjdmmnjcaaGreat
open Go Go.Sx Go.RowKit Go.Proofs
structure TChange where
 fKind : Int
 fFile : TFile
 fID : Int
 fDir : TDir
@[go_sem] def b6I (x : TChange) : List D := [iv x.fKind, iv x.fFile.fID, iv x.fFile.fOwner, bv x.fFile.fShared, iv x.fFile.fLink, .sl (x.fFile.fAttrs.map fJ), iv x.fID, sv x.fDir.fName, .sl (x.fDir.fQuery.map bS)]
@[go_sem] def b7R (x : TChange) : SV := .g [.d (iv x.fKind), .d (iv x.fFile.fID), .d (iv x.fFile.fOwner), .d (bv x.fFile.fShared), .d (iv x.fFile.fLink), .d (.sl (x.fFile.fAttrs.map fJ)), .d (iv x.fID), .d (sv x.fDir.fName), .d (.sl (x.fDir.fQuery.map bS))]
@[go_sem] def b7S (x : TChange) : SV := .g [.d (iv x.fKind), .d (iv x.fFile.fID), .d (iv x.fFile.fOwner), .d (bv x.fFile.fShared), .d (iv x.fFile.fLink), .w 110 4 (x.fFile.fAttrs.map fJ), .d (iv x.fID), .d (sv x.fDir.fName), .w 104 7 (x.fDir.fQuery.map bS)]
def b4C (x : TChange) : Nat := bA x.fFile + lW x.fDir
def b2S (x : TChange) : Prop := inR .i64 x.fKind ∧ a8O x.fFile ∧ inR .i64 x.fID ∧ b5a x.fDir
def b7x (l : List TChange) : Nat := l.length + bI b4C l
def b6J (l : List TChange) : Prop := l.length ≤ 9223372036854775807 ∧ ∀ x ∈ l, b2S x
end Go.Proofs.YtakopfjdmmnjcaaGreat
end
section
set_option linter.all false
set_option maxHeartbeats 1000000
namespace Go.Proofs.YtakopfjdmmnjcaaGreat
open Go Go.Sx Go.RowKit Go.Proofs
structure TSnapshot where
 fStore : TStore
 fDirs : List TDir
@[go_sem] def b5b (x : TSnapshot) : List D := [.sl (x.fStore.fSchema.map dA), .sl (x.fStore.fFiles.map bW), iv x.fStore.fNextID, .sl (x.fDirs.map dG)]
@[go_sem] def b6K (x : TSnapshot) : SV := .g [.d (.sl (x.fStore.fSchema.map dA)), .d (.sl (x.fStore.fFiles.map bW)), .d (iv x.fStore.fNextID), .d (.sl (x.fDirs.map dG))]
@[go_sem] def b6L (x : TSnapshot) : SV := .g [.w 113 2 (x.fStore.fSchema.map dA), .w 69 5 (x.fStore.fFiles.map bW), .d (iv x.fStore.fNextID), .w 38 2 (x.fDirs.map dG)]
def b1f (x : TSnapshot) : Nat := aJ x.fStore + gN x.fDirs
def a8P (x : TSnapshot) : Prop := a5K x.fStore ∧ b2I x.fDirs
def b6e (l : List TSnapshot) : Nat := l.length + bI b1f l
def b5c (l : List TSnapshot) : Prop := l.length ≤ 9223372036854775807 ∧ ∀ x ∈ l, a8P x
end Go.Proofs.YtakopfjdmmnjcaaGreat
end
section
set_option linter.all false
set_option maxHeartbeats 1000000
namespace Go.Proofs.YtakopfjdmmnjcaaGreat
open Go Go.Sx Go.RowKit Go.Proofs
structure TDisk where
 fSlotA : ByteArray
 fSlotB : ByteArray
@[go_sem] def b7T (x : TDisk) : List D := [sv x.fSlotA, sv x.fSlotB]
@[go_sem] def b8V (x : TDisk) : SV := .g [.d (sv x.fSlotA), .d (sv x.fSlotB)]
def b7y (x : TDisk) : Nat := x.fSlotA.size + x.fSlotB.size
def b6f (x : TDisk) : Prop := x.fSlotA.size ≤ 9223372036854775807 ∧ x.fSlotB.size ≤ 9223372036854775807
def b8x (l : List TDisk) : Nat := l.length + bI b7y l
def b7U (l : List TDisk) : Prop := l.length ≤ 9223372036854775807 ∧ ∀ x ∈ l, b6f x
end Go.Proofs.YtakopfjdmmnjcaaGreat
end
section
set_option linter.all false
namespace Go.Proofs.YtakopfjdmmnjcaaGreat
open Go Go.Sx Go.RowKit Go.Proofs
def inB (n a b : Int) : Bool := decide (a ≤ n) && decide (n ≤ b)
theorem aL (n a b : Int) : FnC Tryz.prog 150 [oi n, oi a, oi b] (ob (inB n a b)) := by
 refine ent Tryz.func150 rfl Tryz.call150 rfl (fun C => ?_); simp only [go_sem, st0, Tryz.ntmps150]
 by_cases h0 : a ≤ n <;> by_cases h1 : n ≤ b
 all_goals
  have q0 := @h0; have q1 := @h1; have q2 := @decide_false; refine jQ ?_
  refine aA ⟨⟨_, rfl, ?_⟩, ?_⟩
  ·simp only [go_sem]; simp [inB, h0, h1]
  ·trivial
theorem bP (n a b : Int) : FnC Tryz.prog 34 [oi n, oi a, oi b] (ob (inB n a b)) := by
 refine ent Tryz.func34 rfl Tryz.call34 rfl (fun C => ?_); simp only [go_sem, st0, Tryz.ntmps34]
 by_cases h0 : a ≤ n <;> by_cases h1 : n ≤ b
 all_goals
  have q0 := @h0; have q1 := @h1; have q2 := @decide_false; refine jQ ?_
  refine aA ⟨⟨_, rfl, ?_⟩, ?_⟩
  ·simp only [go_sem]; simp [inB, h0, h1]
  ·trivial
end Go.Proofs.YtakopfjdmmnjcaaGreat
end
section
set_option linter.all false
set_option maxHeartbeats 1000000
namespace Go.Proofs.YtakopfjdmmnjcaaGreat
open Go Go.Sx Go.RowKit Go.Proofs
end Go.Proofs.YtakopfjdmmnjcaaGreat
end
end
section
set_option maxRecDepth 100000
set_option maxHeartbeats 4000000
namespace Go.Sx
open Go Go.RowKit
def b2y {α : Type} (G : α → St) (Q : α → Prop) (F : Ex → St → Prop) : Ex → St → Prop
 | .normal, s => ∃ x, Q x ∧ (∃ (m : List (Nat × Nat)) (s' : St), swL s m = some s' ∧ s'.le (G x)) ∧ (G x).okB = true
 | .exit j, s => F (.exit j) s
 | .ret, s => F .ret s
theorem zW {P : Program} {C : Ctx} {ks : List Kn} {F : Ex → St → Prop} {st : St} {c c2 : Code} {α : Type} (M : α → List (Nat × SV)) (H : α → List (Nat × HB)) (Q : α → Prop) (h1 : WP P C c (bZ P C [] (b2y (fun x => b2l c st (M x) (H x)) Q (bZ P C (.code c2 :: ks) F))) st) (h2 : ∀ x, Q x → WP P C c2 (bZ P C ks F) (b2l c st (M x) (H x))) : WP P C c (bZ P C (.code c2 :: ks) F) st := fun g V a w hr =>
 wp_mono (h1 g V a w hr) fun e a w q => by
  cases e with
  | normal =>
   obtain ⟨g, V, s, hs, x, hq, ⟨m, s', hsw, hle⟩, hok⟩ := q
   obtain ⟨g', h1⟩ := hs.swL m hsw
   exact ⟨_, V, _, h1.forget hle hok, h2 x hq⟩
  | exit j => obtain ⟨g, V, s, hs, q⟩ := q; exact ⟨g, V, s, hs, q⟩
  | ret => obtain ⟨g, V, s, hs, q⟩ := q; exact ⟨g, V, s, hs, q⟩
  | goto l => exact q.elim
  | panic ch => exact q.elim
  | outgrown => exact q.elim
theorem kJ {E : Env} {rs : List ResultVar} {b ty : Nat} {α : Type} {Q : α → Prop} {res : α → SV} {ds' : α → List D} {e : Ex} {st st' : St} (h : Sees E.C st st') (k : b2D E rs b ty Q res ds' e st') : b2D E rs b ty Q res ds' e st := by
 cases e with
 | exit j => exact k
 | ret => obtain ⟨s, a, h1, h2⟩ := k; exact ⟨s, a, h.trans h1, h2⟩
 | normal => obtain ⟨s, a, h1, h2⟩ := k; exact ⟨s, a, h.trans h1, h2⟩
theorem nT {α : Type} {G : α → St} {Q : α → Prop} {F : Ex → St → Prop} {s : St} (x : α) (hq : Q x) (h : s.le (G x)) (hb : (G x).okB = true) : b2y G Q F .normal s := ⟨x, hq, ⟨[], s, rfl, h⟩, hb⟩
theorem a2b {α : Type} {G : α → St} {Q : α → Prop} {F : Ex → St → Prop} {s s' : St} (m : List (Nat × Nat)) (x : α) (hq : Q x) (hs : swL s m = some s') (h : s'.le (G x)) (hb : (G x).okB = true) : b2y G Q F .normal s := ⟨x, hq, ⟨m, s', hs, h⟩, hb⟩
end Go.Sx
namespace Go.Proofs.YtakopfjdmmnjcaaGreat
open Go Go.Sx Go.RowKit Go.Proofs
theorem hF {C : Ctx} {f : Nat} {args : List SV} {h : List HB} {k : List HB → SV → Prop} (ids : List Nat) (c : CallH (EV C) f args (aW h ids) k ⟨⟩) : CallH (EV C) f args h k ⟨⟩ := by
 obtain ⟨β, Pb, h', s, h1, h2⟩ := c.out
 exact ⟨β, Pb, h', s, fun T => CallS.sees (E := EV C) (st := ⟨T, h⟩) (st' := ⟨T, aW h ids⟩) (fun g V a w hr => by obtain ⟨g', V', q, _⟩ := gY ids hr; exact ⟨g', V', q⟩) (fun g V a w hr => by obtain ⟨g', V', q, q1, q2, _⟩ := gY ids hr; exact ⟨g', V', q, q1, q2⟩) (h1 T), h2⟩
theorem hB {C : Ctx} {f ty id : Nat} {ds : List D} {args' rest : List SV} {α : Type} {Q : α → Prop} {res : α → SV} {ds' : α → List D} {h : List HB} {k : List HB → SV → Prop} (c : FnB Tryz.prog f ty ds args' Q res ds') (hid : a5H ty ds (bO h id)) (he : rest.map (eB h) = args') (hfree : args'.all bL = true)
    (k2 : ∀ a, Q a → k (setH h id (reD (ds' a) (bO h id)) ++ adH (res a).all) (adS (setH h id (reD (ds' a) (bO h id))).length (res a))) : CallH (EV C) f (.o (.p id 0) :: rest) h k ⟨⟩ :=
 ⟨α, Q, _, _, fun T => CallS.block (E := EV C) (st := ⟨T, h⟩) c hid he hfree fun a ha => ⟨a, ha, rfl, rfl⟩, k2⟩
theorem bE {C : Ctx} {f ty id : Nat} {ds : List D} {args' rest : List SV} {α : Type} {Q : α → Prop} {res : α → SV} {ds' : α → List D} {st : St} {K : St → SV → Prop} (c : FnB Tryz.prog f ty ds args' Q res ds') (hid : a5H ty ds (bO (aW st.h (dE rest)) id)) (he : rest.map (eB (aW st.h (dE rest))) = args') (hfree : args'.all bL = true)
    (k : ∀ a, Q a → K ⟨st.t, setH (aW st.h (dE rest)) id (reD (ds' a) (bO (aW st.h (dE rest)) id)) ++ adH (res a).all⟩ (adS (setH (aW st.h (dE rest)) id (reD (ds' a) (bO (aW st.h (dE rest)) id))).length (res a))) : CallT (EV C) f (.o (.p id 0) :: rest) st K ⟨⟩ := b7j (dE rest) (xL c hid he hfree k)
theorem hZ {C : Ctx} {f ty id : Nat} {ds : List D} {args' rest : List SV} {α : Type} {Q : α → Prop} {res : α → SV} {ds' : α → List D} {h : List HB} {k : List HB → SV → Prop} (c : FnB Tryz.prog f ty ds args' Q res ds') (hid : a5H ty ds (bO (aW h (dE rest)) id)) (he : rest.map (eB (aW h (dE rest))) = args') (hfree : args'.all bL = true)
    (k2 : ∀ a, Q a → k (setH (aW h (dE rest)) id (reD (ds' a) (bO (aW h (dE rest)) id)) ++ adH (res a).all) (adS (setH (aW h (dE rest)) id (reD (ds' a) (bO (aW h (dE rest)) id))).length (res a))) : CallH (EV C) f (.o (.p id 0) :: rest) h k ⟨⟩ := hF (dE rest) (hB c hid he hfree k2)
abbrev Drw (l : List Int) (f : Nat) (args : List SV) {T : Type} (Q : T → Prop) (res : T → SV) : Prop := ∀ (i : Nat) (h : Int), i ≤ l.length → inR .i64 h →
 FnB Tryz.prog f 97 (a2N l i h) args (fun x : T × Nat × Int => Q x.1 ∧ (x.2.1 ≤ l.length ∧ inR .i64 x.2.2)) (fun x => res x.1) (fun x => a2N l x.2.1 x.2.2)
def b8p {T : Type} (_ : T) : Prop := True
def iT (l : List Int) : Prop := l.length ≤ 1048576 ∧ ∀ i ∈ l, inR .u8 i
theorem eY {l : List Int} (hl : iT l) (n : Int) (hn : 1 ≤ n) (hn2 : n ≤ 1000000000) : Drw l 58 [oi n] (fun b : Bool => b8p b) (fun b => ob b) := by
 intro i h hi hh; refine rY Tryz.func58 rfl Tryz.call58 rfl (fun C b => ?_); simp only [go_sem, Tryz.ntmps58]
 refine aD ?_
 refine xL (vV l hl.1 hl.2 i h hi hh n hn hn2) ⟨rfl, rfl⟩ rfl rfl ?_
 rintro ⟨x, i1, h1⟩ ⟨⟨b1, b2⟩, b3, b4⟩
 simp only at b1 b2 b3 b4
 simp only [go_sem]
 refine aD ?_
 exact aN (decide (x = 0), i1, h1) ⟨⟨_, rfl, by simp only [go_sem]⟩, trivial⟩ ⟨trivial, ⟨b3, b4⟩⟩ (by simp only [go_sem])
theorem aH {l : List Int} (hl : iT l) (n : Int) (hn : 1 ≤ n) (hn2 : n ≤ 1000000000) : Drw l 29 [oi n] (fun x : Int => 0 ≤ x ∧ x < n) (fun x => oi x) := fun i h hi hh => vV l hl.1 hl.2 i h hi hh n hn hn2
theorem dX {l : List Int} (hl : iT l) (ns : List ByteArray) (h0 : 1 ≤ ns.length) (h1 : ns.length ≤ 1000000000) : Drw l 138 [.o (.d (.sl (ns.map iQ)))] (fun x : ByteArray => x ∈ ns) (fun x => os x) := by
 intro i h hi hh; refine rY Tryz.func138 rfl Tryz.call138 rfl (fun C b => ?_); simp only [go_sem, Tryz.ntmps138]
 refine aD ?_
 refine xL (vV l hl.1 hl.2 i h hi hh ns.length (by omega) (by omega)) ⟨rfl, rfl⟩ rfl rfl ?_
 rintro ⟨x, i1, h1⟩ ⟨⟨b1, b2⟩, b3, b4⟩
 simp only at b1 b2 b3 b4
 obtain ⟨k, rfl⟩ := Int.eq_ofNat_of_zero_le b1
 have hk : k < ns.length := by omega
 simp only [go_sem]
 have q0 := @hk; refine jW ?_
 exact aN (ns[k], i1, h1) ⟨⟨_, rfl, by simp only [go_sem]⟩, trivial⟩ ⟨List.getElem_mem hk, ⟨b3, b4⟩⟩ (by simp only [go_sem])
theorem fK {l : List Int} (hl : iT l) (ns : List Int) (h0 : 1 ≤ ns.length) (h1 : ns.length ≤ 1000000000) : Drw l 107 [.o (.d (.sl (ns.map gG)))] (fun x : Int => x ∈ ns) (fun x => oi x) := by
 intro i h hi hh; refine rY Tryz.func107 rfl Tryz.call107 rfl (fun C b => ?_); simp only [go_sem, Tryz.ntmps107]
 refine aD ?_
 refine xL (vV l hl.1 hl.2 i h hi hh ns.length (by omega) (by omega)) ⟨rfl, rfl⟩ rfl rfl ?_
 rintro ⟨x, i1, h1⟩ ⟨⟨b1, b2⟩, b3, b4⟩
 simp only at b1 b2 b3 b4
 obtain ⟨k, rfl⟩ := Int.eq_ofNat_of_zero_le b1
 have hk : k < ns.length := by omega
 simp only [go_sem]
 have q0 := @hk; refine jW ?_
 exact aN (ns[k], i1, h1) ⟨⟨_, rfl, by simp only [go_sem]⟩, trivial⟩ ⟨List.getElem_mem hk, ⟨b3, b4⟩⟩ (by simp only [go_sem])
theorem oZ (n : Int) : FnC Tryz.prog 136 [oi n] (kF ⟨1, n, ⟨#[]⟩⟩) := by
 refine ent Tryz.func136 rfl Tryz.call136 rfl (fun C => ?_); simp only [go_sem, st0, Tryz.ntmps136]
 refine aD ?_
 exact aA ⟨⟨_, rfl, by simp only [go_sem]⟩, trivial⟩
theorem rW (s : ByteArray) : FnC Tryz.prog 137 [os s] (kF ⟨2, 0, s⟩) := by
 refine ent Tryz.func137 rfl Tryz.call137 rfl (fun C => ?_); simp only [go_sem, st0, Tryz.ntmps137]
 refine aD ?_
 exact aA ⟨⟨_, rfl, by simp only [go_sem]⟩, trivial⟩
def w1 (s : ByteArray) : Prop := s.size ≤ 6
@[go_sem] def b5T : List ByteArray := [⟨#[97]⟩, ⟨#[98]⟩, ⟨#[110]⟩, ⟨#[116]⟩, ⟨#[97]⟩, ⟨#[98]⟩, ⟨#[116]⟩, ⟨#[122]⟩, ⟨#[65]⟩, ⟨#[]⟩]
theorem b5U : ∀ s ∈ b5T, s.size ≤ 6 := by decide +kernel
theorem tQ {l : List Int} (hl : iT l) : Drw l 139 [] (fun s : ByteArray => w1 s) (fun s => os s) := by
 intro i h hi hh; refine rY Tryz.func139 rfl Tryz.call139 rfl (fun C b => ?_); simp only [go_sem, Tryz.ntmps139]
 refine aD ?_
 first | (refine bE (dX hl b5T (by decide) (by decide) i h hi hh) ⟨rfl, rfl⟩ ?_ rfl ?_; (focus first | rfl | (simp only [go_sem]; done))) | (refine hZ (dX hl b5T (by decide) (by decide) i h hi hh) ⟨rfl, rfl⟩ ?_ rfl ?_; (focus first | rfl | (simp only [go_sem]; done)))
 clear hi hh; rintro ⟨s, i, h⟩ ⟨hs, hi, hh⟩; simp only at hs hi hh; simp only [go_sem]
 refine aD ?_
 exact aN (s, i, h) ⟨⟨_, rfl, by simp only [go_sem]⟩, trivial⟩ ⟨b5U s hs, ⟨hi, hh⟩⟩ (by simp only [go_sem])
@[go_sem] def b9f : List ByteArray := [⟨#[100, 97]⟩, ⟨#[100, 98]⟩, ⟨#[100, 99]⟩, ⟨#[100, 100]⟩, ⟨#[100, 101]⟩, ⟨#[122, 122]⟩, ⟨#[]⟩]
@[go_sem] def nm9 : List ByteArray := [⟨#[100, 97]⟩, ⟨#[100, 98]⟩, ⟨#[100, 99]⟩, ⟨#[100, 100]⟩, ⟨#[100, 97]⟩, ⟨#[100, 98]⟩, ⟨#[100, 99]⟩]
theorem b7h : ∀ s ∈ nm9, s.size ≤ 6 := by decide +kernel
theorem iN {l : List Int} (hl : iT l) : Drw l 177 [] (fun s : ByteArray => w1 s) (fun s => os s) := by
 intro i h hi hh; refine rY Tryz.func177 rfl Tryz.call177 rfl (fun C b => ?_); simp only [go_sem, Tryz.ntmps177]
 refine aD ?_
 first | (refine bE (dX hl nm9 (by decide) (by decide) i h hi hh) ⟨rfl, rfl⟩ ?_ rfl ?_; (focus first | rfl | (simp only [go_sem]; done))) | (refine hZ (dX hl nm9 (by decide) (by decide) i h hi hh) ⟨rfl, rfl⟩ ?_ rfl ?_; (focus first | rfl | (simp only [go_sem]; done)))
 clear hi hh; rintro ⟨s, i, h⟩ ⟨hs, hi, hh⟩; simp only at hs hi hh; simp only [go_sem]
 refine aD ?_
 exact aN (s, i, h) ⟨⟨_, rfl, by simp only [go_sem]⟩, trivial⟩ ⟨b7h s hs, ⟨hi, hh⟩⟩ (by simp only [go_sem])
@[go_sem] def us6 : List Int := [0, 1, 2, 0, 1, 3, -1]
theorem a2M {l : List Int} (hl : iT l) : Drw l 60 [] (fun n : Int => -1 ≤ n ∧ n ≤ 3) (fun n => oi n) := by
 intro i h hi hh; refine rY Tryz.func60 rfl Tryz.call60 rfl (fun C b => ?_); simp only [go_sem, Tryz.ntmps60]
 refine aD ?_
 first | (refine bE (fK hl us6 (by decide) (by decide) i h hi hh) ⟨rfl, rfl⟩ ?_ rfl ?_; (focus first | rfl | (simp only [go_sem]; done))) | (refine hZ (fK hl us6 (by decide) (by decide) i h hi hh) ⟨rfl, rfl⟩ ?_ rfl ?_; (focus first | rfl | (simp only [go_sem]; done)))
 clear hi hh; rintro ⟨n, i, h⟩ ⟨hs, hi, hh⟩; simp only at hs hi hh; simp only [go_sem]
 have hn := (by decide : ∀ n ∈ us6, -1 ≤ n ∧ n ≤ 3) n hs
 refine aD ?_
 exact aN (n, i, h) ⟨⟨_, rfl, by simp only [go_sem]⟩, trivial⟩ ⟨hn, ⟨hi, hh⟩⟩ (by simp only [go_sem])
@[go_sem] def id5 : List Int := [1, 2, 3, 4, 5, 2, 3, 9, 0, -1, 9223372036854775807]
structure valD (v : TValue) : Prop where
 w : v.fStr.size ≤ 7
 k : inR .i64 v.fKind
 n : inR .i64 v.fInt
@[go_sem] def wd3 : List ByteArray := [⟨#[114, 101, 100]⟩, ⟨#[98, 108, 117, 101]⟩, ⟨#[105, 110, 107]⟩]
theorem in0 : inR .i64 0 := by simp [inR]
theorem in1 : inR .i64 1 := by simp [inR]
theorem in2 : inR .i64 2 := by simp [inR]
theorem b2z {x : Int} (h : inR .i64 x) : valD ⟨1, x, ⟨#[]⟩⟩ := ⟨Nat.zero_le 7, in1, h⟩
theorem b2A {s : ByteArray} (h : s.size ≤ 7) : valD ⟨2, 0, s⟩ := ⟨h, in2, in0⟩
theorem b5V : valD ⟨0, 0, ⟨#[]⟩⟩ := ⟨Nat.zero_le 7, in0, in0⟩
theorem a1k {l : List Int} (hl : iT l) : Drw l 161 [] (fun v : TValue => valD v) (fun v => kF v) := by
 intro i h hi hh; refine rY Tryz.func161 rfl Tryz.call161 rfl (fun C b => ?_); simp only [go_sem, Tryz.ntmps161]
 refine aD ?_
 first | (refine bE (aH hl 5 (by decide) (by decide) i h hi hh) ⟨rfl, rfl⟩ ?_ rfl ?_; (focus first | rfl | (simp only [go_sem]; done))) | (refine hZ (aH hl 5 (by decide) (by decide) i h hi hh) ⟨rfl, rfl⟩ ?_ rfl ?_; (focus first | rfl | (simp only [go_sem]; done)))
 clear hi hh; rintro ⟨k, i, h⟩ ⟨hk, hi, hh⟩; simp only at hk hi hh; simp only [go_sem]
 have h5 : k = 0 ∨ k = 1 ∨ k = 2 ∨ k = 3 ∨ k = 4 := by omega
 rcases h5 with rfl | rfl | rfl | rfl | rfl
 ·refine aD ?_
  exact aN (⟨0, 0, ⟨#[]⟩⟩, i, h) ⟨⟨_, rfl, by simp only [go_sem]⟩, trivial⟩ ⟨b5V, ⟨hi, hh⟩⟩ (by simp only [go_sem])
 ·refine aD ?_
  first | (refine bE (aH hl 5 (by decide) (by decide) i h hi hh) ⟨rfl, rfl⟩ ?_ rfl ?_; (focus first | rfl | (simp only [go_sem]; done))) | (refine hZ (aH hl 5 (by decide) (by decide) i h hi hh) ⟨rfl, rfl⟩ ?_ rfl ?_; (focus first | rfl | (simp only [go_sem]; done)))
  clear hi hh; rintro ⟨x, i, h⟩ ⟨hx, hi, hh⟩; simp only at hx hi hh; simp only [go_sem]
  refine iZ (oZ x) ?_
  exact aN (⟨1, x, ⟨#[]⟩⟩, i, h) ⟨⟨_, rfl, by simp only [go_sem]⟩, trivial⟩ ⟨b2z (by simp only [inR]; omega), ⟨hi, hh⟩⟩ (by simp only [go_sem])
 ·refine aD ?_
  first | (refine bE (aH hl 5 (by decide) (by decide) i h hi hh) ⟨rfl, rfl⟩ ?_ rfl ?_; (focus first | rfl | (simp only [go_sem]; done))) | (refine hZ (aH hl 5 (by decide) (by decide) i h hi hh) ⟨rfl, rfl⟩ ?_ rfl ?_; (focus first | rfl | (simp only [go_sem]; done)))
  clear hi hh; rintro ⟨x, i, h⟩ ⟨hx, hi, hh⟩; simp only at hx hi hh; simp only [go_sem]
  refine iZ (oZ x) ?_
  exact aN (⟨1, x, ⟨#[]⟩⟩, i, h) ⟨⟨_, rfl, by simp only [go_sem]⟩, trivial⟩ ⟨b2z (by simp only [inR]; omega), ⟨hi, hh⟩⟩ (by simp only [go_sem])
 ·refine aD ?_
  first | (refine bE (dX hl wd3 (by decide) (by decide) i h hi hh) ⟨rfl, rfl⟩ ?_ rfl ?_; (focus first | rfl | (simp only [go_sem]; done))) | (refine hZ (dX hl wd3 (by decide) (by decide) i h hi hh) ⟨rfl, rfl⟩ ?_ rfl ?_; (focus first | rfl | (simp only [go_sem]; done)))
  clear hi hh; rintro ⟨s, i, h⟩ ⟨hs, hi, hh⟩; simp only at hs hi hh; simp only [go_sem]
  have hw := (by decide +kernel : ∀ s ∈ wd3, s.size ≤ 7) s hs
  refine iZ (rW s) ?_
  exact aN (⟨2, 0, s⟩, i, h) ⟨⟨_, rfl, by simp only [go_sem]⟩, trivial⟩ ⟨b2A hw, ⟨hi, hh⟩⟩ (by simp only [go_sem])
 ·refine aD ?_
  first | (refine bE (dX hl wd3 (by decide) (by decide) i h hi hh) ⟨rfl, rfl⟩ ?_ rfl ?_; (focus first | rfl | (simp only [go_sem]; done))) | (refine hZ (dX hl wd3 (by decide) (by decide) i h hi hh) ⟨rfl, rfl⟩ ?_ rfl ?_; (focus first | rfl | (simp only [go_sem]; done)))
  clear hi hh; rintro ⟨s, i, h⟩ ⟨hs, hi, hh⟩; simp only at hs hi hh; simp only [go_sem]
  have hw := (by decide +kernel : ∀ s ∈ wd3, s.size ≤ 7) s hs
  refine iZ (rW s) ?_
  exact aN (⟨2, 0, s⟩, i, h) ⟨⟨_, rfl, by simp only [go_sem]⟩, trivial⟩ ⟨b2A hw, ⟨hi, hh⟩⟩ (by simp only [go_sem])
end Go.Proofs.YtakopfjdmmnjcaaGreat
end
section
section
set_option linter.all false
set_option maxRecDepth 100000
set_option maxHeartbeats 4000000
namespace Go.Proofs.YtakopfjdmmnjcaaGreat
open Go Go.Sx Go.RowKit Go.Proofs
def b7z (k : Nat) (out : ByteArray) : ByteArray :=
 if h : k = 0 then out else b7z (k / 10) (a4k [(48 : Int) + ((k % 10 : Nat) : Int)] ++ out)
decreasing_by omega
def vY (k : Int) : ByteArray := ⟨#[109]⟩ ++ b7z k.toNat ⟨#[]⟩
def a0f (x : Int) : Nat := 1
def a9Y (x : Int) (k : Int) : Int := k
def b8W (x : ByteArray) : Nat := 1
def b8X (x : ByteArray) (k : Int) : ByteArray := (vY k)
def b8A (x : Bool) : Nat := 1
def b8B (x : Bool) (k : Int) : Bool := (decide (Int.tmod k 3 = 0))
end Go.Proofs.YtakopfjdmmnjcaaGreat
end
section
set_option linter.all false
set_option maxRecDepth 100000
set_option maxHeartbeats 4000000
namespace Go.Proofs.YtakopfjdmmnjcaaGreat
open Go Go.Sx Go.RowKit Go.Proofs
def b7V (x : TField) : Nat := 2
def b7W (x : TField) (k : Int) : TField := ⟨(vY k), (k + 1)⟩
def yG (x : TAttr) : Nat := 4
def b2W (x : TAttr) (k : Int) : TAttr := ⟨(vY k), ⟨(k + 1), ((k + 1) + 1), (vY (((k + 1) + 1) + 1))⟩⟩
def a5M (x : TNode) : Nat := 7
def b2X (x : TNode) (k : Int) : TNode := ⟨k, (k + 1), ((k + 1) + 1), (vY (((k + 1) + 1) + 1)), ⟨((((k + 1) + 1) + 1) + 1), (((((k + 1) + 1) + 1) + 1) + 1), (vY ((((((k + 1) + 1) + 1) + 1) + 1) + 1))⟩⟩
end Go.Proofs.YtakopfjdmmnjcaaGreat
end
section
set_option linter.all false
set_option maxRecDepth 100000
set_option maxHeartbeats 4000000
namespace Go.Proofs.YtakopfjdmmnjcaaGreat
open Go Go.Sx Go.RowKit Go.Proofs
def b8C (x : TFile) : Nat := 4 + xC yG x.fAttrs
def b8D (x : TFile) (k : Int) : TFile := ⟨k, (k + 1), (decide (Int.tmod ((k + 1) + 1) 3 = 0)), (((k + 1) + 1) + 1), (mkL b2W yG x.fAttrs ((((k + 1) + 1) + 1) + 1))⟩
def b8Y (x : TDir) : Nat := 1 + xC a5M x.fQuery
def b8Z (x : TDir) (k : Int) : TDir := ⟨(vY k), (mkL b2X a5M x.fQuery (k + 1))⟩
def b7A (x : TResult) : Nat := 1 + xC a0f x.fIDs
def b7B (x : TResult) (k : Int) : TResult := ⟨(vY k), (mkL a9Y a0f x.fIDs (k + 1))⟩
def b8E (x : TDiff) : Nat := 1 + xC a0f x.fAdded + xC a0f x.fRemoved
def b8F (x : TDiff) (k : Int) : TDiff := ⟨(vY k), (mkL a9Y a0f x.fAdded (k + 1)), (mkL a9Y a0f x.fRemoved ((k + 1) + (xC a0f x.fAdded : Nat)))⟩
def b7X (x : TGroup) : Nat := 3 + xC a0f x.fIDs
def b7Y (x : TGroup) (k : Int) : TGroup := ⟨⟨k, (k + 1), (vY ((k + 1) + 1))⟩, (mkL a9Y a0f x.fIDs (((k + 1) + 1) + 1))⟩
def b7C (x : TChange) : Nat := 7 + xC yG x.fFile.fAttrs + xC a5M x.fDir.fQuery
def b7D (x : TChange) (k : Int) : TChange := ⟨k, ⟨(k + 1), ((k + 1) + 1), (decide (Int.tmod (((k + 1) + 1) + 1) 3 = 0)), ((((k + 1) + 1) + 1) + 1), (mkL b2W yG x.fFile.fAttrs (((((k + 1) + 1) + 1) + 1) + 1))⟩, ((((((k + 1) + 1) + 1) + 1) + 1) + (xC yG x.fFile.fAttrs : Nat)), ⟨(vY (((((((k + 1) + 1) + 1) + 1) + 1) + (xC yG x.fFile.fAttrs : Nat)) + 1)), (mkL b2X a5M x.fDir.fQuery ((((((((k + 1) + 1) + 1) + 1) + 1) + (xC yG x.fFile.fAttrs : Nat)) + 1) + 1))⟩⟩
end Go.Proofs.YtakopfjdmmnjcaaGreat
end
section
set_option linter.all false
set_option maxRecDepth 100000
set_option maxHeartbeats 4000000
namespace Go.Proofs.YtakopfjdmmnjcaaGreat
open Go Go.Sx Go.RowKit Go.Proofs
end Go.Proofs.YtakopfjdmmnjcaaGreat
end
section
set_option linter.all false
namespace Go.Proofs.YtakopfjdmmnjcaaGreat
open Go Go.Sx Go.RowKit Go.Proofs
end Go.Proofs.YtakopfjdmmnjcaaGreat
end
end
section
section
set_option linter.all false
namespace Go.Sx
open Go Go.RowKit
def xE {α : Type} (e : α → Value) (l : List α) : List (List D) := l.map fun x => [.v (e x)]
theorem kM {α : Type} (e : α → Value) (l : List α) : (xE e l).flatten = l.map fun x => D.v (e x) := by
 induction l with
 | nil => rfl
 | cons x l ih => simp only [xE, List.map_cons, List.flatten_cons] at ih ⊢; rw [ih]; rfl
theorem scal_down {α : Type} [Inhabited α] {e : α → Value} {V : View} {w : World} {ty : Nat} {l : List α} {y : Value} {S : List Nat} (h : RowR V w ty 1 (xE e l) y S) :
    ((∃ ao, y = .slice ao 0 0) ∧ l = [] ∧ S = []) ∨ ∃ b cap c, y = .slice (some ⟨b, 0, none⟩) l.length cap ∧ l.length ≤ cap ∧ cap ≤ maxLen ∧ w.heap[b]? = some (.cells c ty (0, 0)) ∧ c.size = cap ∧ Sort.Holds e w b 0 l.toArray ∧ V b = none ∧ S = [b] := by
 obtain ⟨h0, ys, Ss, h1, h3⟩ := h
 rcases h3 with ⟨ha, hb, hc⟩ | ⟨b, cap, c, rfl, e3, e4, e5, e6, e7, e8, rfl⟩
 ·exact .inl ⟨ha, by simpa [xE] using hb, hc⟩
 ·have key : ∀ j (hj : j < l.length), ys[j]? = some (e l[j]) ∧ Ss[j]? = some [] := fun j hj => by
   have hd : (xE e l).flatten[j]? = some (.v (e l[j])) := by rw [kM]; simp [hj]
   have hlt : j < ys.length := by rw [h1.1]; exact (List.getElem?_eq_some_iff.1 hd).1
   have hls : j < Ss.length := by rw [h1.2.1]; exact (List.getElem?_eq_some_iff.1 hd).1
   have hl := h1.2.2 j _ _ _ hd (List.getElem?_eq_getElem hlt) (List.getElem?_eq_getElem hls)
   rw [List.getElem?_eq_getElem hlt, List.getElem?_eq_getElem hls]
   generalize ys[j] = z at hl ⊢
   generalize Ss[j] = s at hl ⊢
   cases hl
   exact ⟨rfl, rfl⟩
  have hlen : Ss.length = l.length := by rw [h1.2.1, kM, List.length_map]
  refine .inr ⟨b, cap, c, by simp [xE], by simpa [xE] using e3, e4, e5, by simpa using e6, fun j hj => ?_, e8, ?_⟩
  ·have hj' : j < l.length := by simpa using hj
   have hy := fU e7 (key j hj').1
   refine ⟨?_, by simp [World.frozen?, e5]⟩
   simp only [World.cell?, e5, Nat.zero_add]
   simp only [Option.isSome_none, Bool.false_eq_true, if_false]
   rw [← Array.getElem?_toList, hy]
   congr 1
   rw [getElem!_pos l.toArray j (by simpa using hj')]
   simp
  ·congr 1
   refine List.flatten_eq_nil_iff.2 fun s hs => ?_
   obtain ⟨j, hj, rfl⟩ := List.mem_iff_getElem.1 hs
   have := (key j (by omega)).2
   rw [List.getElem?_eq_getElem hj] at this
   exact Option.some.inj this
theorem a9Z {α : Type} [Inhabited α] {e : α → Value} (hs : ∀ x, scalar (e x) = true) {V : View} {w w' : World} {b ty cap n : Nat} {c : Array Value} {d : Array α} {l : List α} {os : Array Obj} (hb : w.heap[b]? = some (.cells c ty (0, 0)))
    (hc : c.size = cap) (hcap : cap ≤ maxLen) (hd : d.size ≤ cap) (hw : w' = Sort.grow (Sort.putRow e (Sort.ahead w n) b 0 d) os) (hl : l <+: d.toList) (hV : V b = none) :
    RowR V w' ty 1 (xE e l) (.slice (some ⟨b, 0, none⟩) l.length cap) [b] ∧ w.grownBy w' (some b) := by
 have hlt : b < w.heap.size := (Array.getElem?_eq_some_iff.1 hb).1
 have hle : l.length ≤ d.size := by have := hl.length_le; simpa using this
 have hheap : w'.heap[b]? = some (.cells (Sort.putCells e 0 d c) ty (0, 0)) := by
  subst hw
  rw [Sort.heap_grow_old _ _ (by simp [Sort.putRow, Sort.mapBlock, Sort.ahead]; exact hlt)]
  simp only [Sort.putRow, Sort.mapBlock, Sort.ahead, Array.getElem?_modify, if_true, hb, Option.map_some, Sort.onCells]
 refine ⟨⟨fun r hr => ?_, l.map e, List.replicate l.length [], ⟨by rw [kM]; simp, by rw [kM]; simp, fun k dd y s h1 h2 h3 => ?_⟩, .inr ⟨b, cap, _, by simp [xE], by simp [xE]; omega, hcap, hheap, by simp [Sort.putCells, hc], ?_, hV, ?_⟩⟩, ?_⟩
 ·obtain ⟨x, _, rfl⟩ := List.mem_map.1 hr; rfl
 ·rw [kM, List.getElem?_map] at h1
  rw [List.getElem?_map] at h2
  cases hk : l[k]? with
  | none => rw [hk] at h1; cases h1
  | some x =>
   rw [hk] at h1 h2
   cases h1; cases h2
   rw [List.getElem?_replicate] at h3
   split at h3
   ·cases h3; exact .v _ (hs x)
   ·cases h3
 ·refine List.prefix_iff_eq_take.2 ?_
  apply List.ext_getElem?
  intro j
  rw [List.getElem?_take, List.getElem?_map]
  simp only [List.length_map]
  by_cases hj : j < l.length
  ·have hjc : j < c.size := by omega
   have hdj : d.toList[j]? = some l[j] := fU hl (List.getElem?_eq_getElem hj)
   rw [Array.getElem?_toList, Array.getElem?_eq_getElem (by omega)] at hdj
   have h1 : (Sort.putCells e 0 d c).toList[j]? = some (e l[j]) := by
    rw [Array.getElem?_toList]
    simp only [Sort.putCells, Array.getElem?_mapIdx, Array.getElem?_eq_getElem hjc, Option.map_some]
    rw [if_pos (by omega), Nat.sub_zero, getElem!_pos d j (by omega), Option.some.inj hdj]
   rw [if_pos hj, h1, List.getElem?_eq_getElem hj]; rfl
  ·rw [if_neg hj, List.getElem?_eq_none (by omega)]; rfl
 ·simp
 ·subst hw
  refine ⟨rfl, rfl, rfl, by simp [Sort.putRow, Sort.mapBlock, Sort.ahead], fun k hk hne => ?_⟩
  rw [Sort.heap_grow_old _ _ (by simp [Sort.putRow, Sort.mapBlock, Sort.ahead]; exact hk)]
  simp only [Sort.putRow, Sort.mapBlock, Sort.ahead, Array.getElem?_modify]
  rw [if_neg (fun e => hne (by rw [e]))]
end Go.Sx
end
section
set_option linter.all false
namespace Go.Sx
open Go Go.RowKit
structure RowAt (w wr : World) (b ty N : Nat) (F : List Value) : Prop where
 cells : ∃ c : Array Value, wr.heap[b]? = some (.cells c ty (0, 0)) ∧ c.size = N ∧ F <+: c.toList
 grown : w.grownBy wr (some b)
theorem xM {w w1 w2 : World} {r : Option Nat} (h1 : w.grownBy w1 r) (h2 : w1.grownBy w2 r) : w.grownBy w2 r :=
 ⟨h2.os.trans h1.os, h2.tape.trans h1.tape, h2.output.trans h1.output, Nat.le_trans h1.size h2.size, fun k hk hn => (h2.block k (Nat.lt_of_lt_of_le hk h1.size) hn).trans (h1.block k hk hn)⟩
theorem a3H {w w' : World} (r : Option Nat) (h : Below w.heap.size w w') : w.grownBy w' r := ⟨h.os, h.tape, h.output, h.size, fun k hk _ => h.block k hk⟩
variable {w wr : World} {b ty N : Nat} {F : List Value}
theorem RowAt.lt (h : RowAt w wr b ty N F) : b < wr.heap.size := by
 obtain ⟨c, h1, _⟩ := h.cells
 exact (Array.getElem?_eq_some_iff.1 h1).1
theorem RowAt.le (h : RowAt w wr b ty N F) : F.length ≤ N := by
 obtain ⟨c, _, h2, h3⟩ := h.cells
 have := h3.length_le
 simpa [h2] using this
theorem RowAt.cell (h : RowAt w wr b ty N F) {t : Nat} {v : Value} (ht : F[t]? = some v) : wr.cell? ⟨b, t, none⟩ = some v := by
 obtain ⟨c, h1, h2, h3⟩ := h.cells
 have := fU h3 ht
 simp only [World.cell?, h1, Option.isSome_none, Bool.false_eq_true, if_false]
 rw [← Array.getElem?_toList]; exact this
theorem RowAt.there (h : RowAt w wr b ty N F) {t : Nat} (ht : t < N) : (wr.cell? ⟨b, t, none⟩).isSome = true := by
 obtain ⟨c, h1, h2, h3⟩ := h.cells
 simp only [World.cell?, h1, Option.isSome_none, Bool.false_eq_true, if_false]
 simp [h2, ht]
theorem RowAt.behind (h : RowAt w wr b ty N F) {w' : World} (hb : Below wr.heap.size wr w') : RowAt w w' b ty N F := by
 obtain ⟨c, h1, h2, h3⟩ := h.cells
 exact ⟨⟨c, by rw [hb.block b h.lt]; exact h1, h2, h3⟩, xM h.grown (a3H _ hb)⟩
theorem a3I (F : List Value) (s : Nat) (v : Value) (c : List Value) (hF : F <+: c) (hs : s ≤ F.length) (hc : s < c.length) : F.take s ++ v :: F.drop (s + 1) <+: c.set s v := by
 obtain ⟨r, rfl⟩ := hF
 rcases Nat.lt_or_ge s F.length with h | h
 ·refine ⟨r, ?_⟩
  rw [List.set_append_left _ _ h, List.set_eq_take_append_cons_drop, if_pos h]
 ·have e : s = F.length := by omega
  subst e
  rw [List.take_of_length_le (Nat.le_refl _), List.drop_of_length_le (by omega), List.set_append_right _ _ (Nat.le_refl _), Nat.sub_self]
  cases r with
  | nil => simp at hc
  | cons x r => exact ⟨r, by simp⟩
theorem RowAt.set1 (h : RowAt w wr b ty N F) {s : Nat} (hs : s ≤ F.length) (hN : s < N) (v : Value) : RowAt w (wr.setCell ⟨b, s, none⟩ v) b ty N (F.take s ++ v :: F.drop (s + 1)) := by
 obtain ⟨c, h1, h2, h3⟩ := h.cells
 rw [Sort.setCell_eq]
 refine ⟨⟨c.setIfInBounds s v, ?_, by simp [h2], ?_⟩, xM h.grown ⟨rfl, rfl, rfl, by simp [Sort.mapBlock], fun k hk hne => ?_⟩⟩
 ·simp only [Sort.mapBlock, Array.getElem?_modify, if_true, h1, Option.map_some, Sort.onCells]
 ·rw [Array.toList_setIfInBounds]
  exact a3I F s v c.toList h3 hs (by simpa [h2] using hN)
 ·simp only [Sort.mapBlock, Array.getElem?_modify]
  rw [if_neg (fun e => hne (by rw [e]))]
theorem RowAt.set : ∀ (vs : List Value) {wr : World} {F : List Value} {s : Nat}, RowAt w wr b ty N F → s ≤ F.length → s + vs.length ≤ N → RowAt w (wr.setCells b s vs) b ty N (F.take s ++ vs ++ F.drop (s + vs.length))
 | [], wr, F, s, h, hs, hN => by simpa [World.setCells] using h
 | v :: vs, wr, F, s, h, hs, hN => by
  simp only [List.length_cons] at hN
  have h1 := h.set1 hs (by omega) v
  have h2 := RowAt.set vs (s := s + 1) h1 (by simp; omega) (by omega)
  rw [World.setCells]
  have e1 : (F.take s ++ v :: F.drop (s + 1)).take (s + 1) = F.take s ++ [v] := by
   rw [List.take_append, List.take_of_length_le (by simp; omega), List.length_take, Nat.min_eq_left hs, Nat.add_sub_cancel_left]; rfl
  have e2 : (F.take s ++ v :: F.drop (s + 1)).drop (s + 1 + vs.length) = F.drop (s + (vs.length + 1)) := by
   rw [List.drop_append, List.drop_of_length_le (by simp; omega), List.length_take, Nat.min_eq_left hs, List.nil_append, show s + 1 + vs.length - s = vs.length + 1 by omega, List.drop_succ_cons, List.drop_drop]
   congr 1; omega
  rw [e1, e2] at h2
  simpa [List.append_assoc] using h2
end Go.Sx
end
section
set_option linter.all false
namespace Go.Proofs.YtakopfjdmmnjcaaGreat
open Go Go.Sx Go.RowKit Go.Proofs Go.Lib
structure DelInv {α : Type} (e : α → Value) (p : α → Bool) (xs : List α) (i j : Nat) (F : List Value) : Prop where
 len : F.length = xs.length
 ij : i < j
 jn : j ≤ xs.length
 lo : F.take i = ((xs.take j).filter fun x => !p x).map e
 hi : F.drop j = (xs.drop j).map e
 il : i = ((xs.take j).filter fun x => !p x).length
theorem xF {α : Type} (p : α → Bool) (xs : List α) (k : Nat) (h : ∀ j (hj : j < xs.length), j < k → p xs[j] = false) : (xs.take k).filter (fun x => !p x) = xs.take k := by
 refine List.filter_eq_self.2 fun x hx => ?_
 obtain ⟨j, hj, rfl⟩ := List.mem_iff_getElem.1 hx
 simp only [List.length_take] at hj
 rw [List.getElem_take, h j (by omega) (by omega)]; rfl
theorem DelInv.at {α : Type} {e : α → Value} {p : α → Bool} {xs : List α} {i j : Nat} {F : List Value} (h : DelInv e p xs i j F) (hj : j < xs.length) : F[j]? = some (e xs[j]) := by
 have h0 : (F.drop j)[0]? = ((xs.drop j).map e)[0]? := by rw [h.hi]
 rw [List.getElem?_drop, Nat.add_zero] at h0
 rw [h0, List.getElem?_map, List.getElem?_drop, Nat.add_zero, List.getElem?_eq_getElem hj]; rfl
theorem DelInv.start {α : Type} {e : α → Value} {p : α → Bool} {xs : List α} {k : Nat} (hk : k < xs.length) (h : ∀ j (hj : j < xs.length), j < k → p xs[j] = false) (hp : p xs[k] = true) : DelInv e p xs k (k + 1) (xs.map e) := by
 have e1 : (xs.take (k + 1)).filter (fun x => !p x) = xs.take k := by
  rw [List.take_succ_eq_append_getElem hk, List.filter_append, xF p xs k h]
  simp [hp]
 refine ⟨by simp, by omega, by omega, ?_, by simp, ?_⟩
 ·rw [e1, List.map_take]
 ·rw [e1]; simp; omega
theorem DelInv.keep {α : Type} {e : α → Value} {p : α → Bool} {xs : List α} {i j : Nat} {F : List Value} (h : DelInv e p xs i j F) (hj : j < xs.length) (hp : p xs[j] = false) : DelInv e p xs (i + 1) (j + 1) (F.take i ++ [e xs[j]] ++ F.drop (i + 1)) := by
 have e1 : (xs.take (j + 1)).filter (fun x => !p x) = (xs.take j).filter (fun x => !p x) ++ [xs[j]] := by
  rw [List.take_succ_eq_append_getElem hj, List.filter_append]
  simp [hp]
 have hl := h.len
 have hij := h.ij
 refine ⟨by simp; omega, by omega, by omega, ?_, ?_, ?_⟩
 ·rw [List.take_append_of_le_length (by simp; omega), List.take_of_length_le (by simp; omega), e1, List.map_append, h.lo]; rfl
 ·rw [List.drop_append, List.drop_of_length_le (by simp; omega), List.nil_append, List.drop_drop]
  have : F.drop (j + 1) = (xs.drop (j + 1)).map e := by rw [← List.drop_drop, h.hi, ← List.map_drop, List.drop_drop]
  rw [← this]
  congr 1
  simp; omega
 ·rw [e1, List.length_append, ← h.il]; rfl
theorem DelInv.skip {α : Type} {e : α → Value} {p : α → Bool} {xs : List α} {i j : Nat} {F : List Value} (h : DelInv e p xs i j F) (hj : j < xs.length) (hp : p xs[j] = true) : DelInv e p xs i (j + 1) F := by
 have e1 : (xs.take (j + 1)).filter (fun x => !p x) = (xs.take j).filter (fun x => !p x) := by
  rw [List.take_succ_eq_append_getElem hj, List.filter_append]
  simp [hp]
 have hij := h.ij
 exact ⟨h.len, by omega, by omega, by rw [e1]; exact h.lo, by rw [← List.drop_drop, h.hi, ← List.map_drop, List.drop_drop], by rw [e1]; exact h.il⟩
end Go.Proofs.YtakopfjdmmnjcaaGreat
end
section
set_option linter.all false
set_option maxRecDepth 100000
namespace Go.Sx
open Go Go.RowKit
theorem RowAt.mod {V : View} {w W : World} {b ty N : Nat} {F : List Value} (hm : Mod V w) (hV : V b = none) (h : RowAt w W b ty N F) : Mod V W := fun k cs hk => by
 obtain ⟨c, t, fz, e1, e2⟩ := hm k cs hk
 exact ⟨c, t, fz, by rw [h.grown.block k (Array.getElem?_eq_some_iff.1 e1).1 (fun e => by cases e; rw [hV] at hk; cases hk)]; exact e1, e2⟩
def b9a (V : View) (b : Nat) (cs : List Value) : View := fun k => if k = b then some cs else V k
theorem RowAt.row {α : Type} {e : α → Value} (hs : ∀ x, scalar (e x) = true) {V : View} {w w' : World} {ty b cap : Nat} {l : List α} {G : List Value} (h : RowAt w w' b ty cap (l.map e ++ G)) (hcap : cap ≤ maxLen) (hV : V b = none) : RowR V w' ty 1 (xE e l) (.slice (some ⟨b, 0, none⟩) l.length cap) [b] := by
 have hle := h.le
 rw [List.length_append, List.length_map] at hle
 obtain ⟨c, h1, h2, h3⟩ := h.cells
 refine ⟨fun r hr => ?_, l.map e, List.replicate l.length [], ⟨by rw [kM]; simp, by rw [kM]; simp, fun k dd y s q1 q2 q3 => ?_⟩, .inr ⟨b, cap, c, by simp [xE], by simp [xE]; omega, hcap, h1, by simp [h2], (List.prefix_append _ _).trans h3, hV, by simp⟩⟩
 ·obtain ⟨x, _, rfl⟩ := List.mem_map.1 hr; rfl
 ·rw [kM, List.getElem?_map] at q1
  rw [List.getElem?_map] at q2
  cases hk : l[k]? with
  | none => rw [hk] at q1; cases q1
  | some x =>
   rw [hk] at q1 q2
   cases q1; cases q2
   rw [List.getElem?_replicate] at q3
   split at q3
   ·cases q3; exact .v _ (hs x)
   ·cases q3
end Go.Sx
end
section
set_option linter.all false
set_option maxRecDepth 100000
set_option maxHeartbeats 4000000
namespace Go.Proofs.YtakopfjdmmnjcaaGreat
open Go Go.Sx Go.RowKit Go.Proofs
def idxP {α : Type} (p : α → Bool) : List α → Nat → Int
 | [], _ => -1
 | x :: xs, k => if p x then k else idxP p xs (k + 1)
theorem idxP_spec {α : Type} (p : α → Bool) : ∀ (xs : List α) (k : Nat), (idxP p xs k = -1 ∧ ∀ x ∈ xs, p x = false) ∨ ∃ k0 : Nat, idxP p xs k = ((k + k0 : Nat) : Int) ∧ ∃ h : k0 < xs.length, p xs[k0] = true ∧ ∀ j (hj : j < xs.length), j < k0 → p xs[j] = false
 | [], k => .inl ⟨rfl, fun x hx => by simp at hx⟩
 | x :: xs, k => by
  unfold idxP
  cases hx : p x with
  | true => exact .inr ⟨0, by simp, by simp, by simpa using hx, fun j hj h => by omega⟩
  | false =>
   rcases idxP_spec p xs (k + 1) with ⟨h1, h2⟩ | ⟨k0, h1, h2, h3, h4⟩
   ·exact .inl ⟨by simpa using h1, fun y hy => by
     rcases List.mem_cons.1 hy with rfl | hy
     ·exact hx
     ·exact h2 y hy⟩
   ·refine .inr ⟨k0 + 1, by simp only [Bool.false_eq_true, if_false]; rw [h1]; congr 1; omega, by simp; omega, by simpa using h3, fun j hj hk => ?_⟩
    cases j with
    | zero => simpa using hx
    | succ j => simpa using h4 j (by simpa using hj) (by omega)
end Go.Proofs.YtakopfjdmmnjcaaGreat
end
end
section
set_option maxRecDepth 100000
namespace Go.Sx
open Go Go.RowKit
theorem LayL.take {V : View} {ds : List D} {ys : List Value} {Ss : List (List Nat)} (h : LayL V ds ys Ss) (n : Nat) : LayL V (ds.take n) (ys.take n) (Ss.take n) :=
 ⟨by simp [h.1], by simp [h.2.1], fun k d y S h1 h2 h3 => by
  rw [List.getElem?_take] at h1 h2 h3
  split at h1
  ·rw [if_pos ‹_›] at h2 h3; exact h.2.2 k d y S h1 h2 h3
  ·cases h1⟩
theorem LayL.drop {V : View} {ds : List D} {ys : List Value} {Ss : List (List Nat)} (h : LayL V ds ys Ss) (n : Nat) : LayL V (ds.drop n) (ys.drop n) (Ss.drop n) :=
 ⟨by simp [h.1], by simp [h.2.1], fun k d y S h1 h2 h3 => by
  rw [List.getElem?_drop] at h1 h2 h3
  exact h.2.2 _ d y S h1 h2 h3⟩
theorem a7j {α : Type} {sz : Nat} : ∀ {rows : List (List α)}, (∀ r ∈ rows, r.length = sz) → rows.flatten.length = rows.length * sz
 | [], _ => by simp
 | r :: rows, h => by
  rw [List.flatten_cons, List.length_append, a7j (fun r hr => h r (by simp [hr])), h r (by simp), List.length_cons, Nat.add_mul]; omega
theorem a4A {α : Type} {sz : Nat} : ∀ {rows : List (List α)} (i : Nat), (∀ r ∈ rows, r.length = sz) → (rows.take i).flatten = rows.flatten.take (i * sz)
 | [], i, _ => by simp
 | r :: rows, 0, h => by simp
 | r :: rows, i + 1, h => by
  have e := h r (by simp)
  rw [List.take_succ_cons, List.flatten_cons, List.flatten_cons, a4A i (fun r hr => h r (by simp [hr])), List.take_append, List.take_of_length_le (l := r) (by rw [e, Nat.add_mul]; omega)]
  congr 2
  rw [e, Nat.add_mul]; omega
theorem wR {α : Type} {sz : Nat} : ∀ {rows : List (List α)} (i : Nat), (∀ r ∈ rows, r.length = sz) → (rows.drop i).flatten = rows.flatten.drop (i * sz)
 | [], i, _ => by simp
 | r :: rows, 0, h => by simp
 | r :: rows, i + 1, h => by
  have e := h r (by simp)
  rw [List.drop_succ_cons, List.flatten_cons, wR i (fun r hr => h r (by simp [hr])), List.drop_append, List.drop_of_length_le (l := r) (by rw [e, Nat.add_mul]; omega), List.nil_append]
  congr 1
  rw [e, Nat.add_mul]; omega
theorem RowAt.shape {w wr : World} {b ty N : Nat} {F : List Value} (h : RowAt w wr b ty N F) : wr.shape? b = some (ty, N) := by
 obtain ⟨c, h1, h2, h3⟩ := h.cells
 simp [World.shape?, h1, h2]
theorem RowAt.pre {w wr : World} {b ty N : Nat} {F G : List Value} (h : RowAt w wr b ty N F) (hp : G <+: F) : RowAt w wr b ty N G := by
 obtain ⟨c, h1, h2, h3⟩ := h.cells
 exact ⟨⟨c, h1, h2, hp.trans h3⟩, h.grown⟩
end Go.Sx
end
section
namespace Go.Proofs.YtakopfjdmmnjcaaGreat
open Go Go.Sx Go.RowKit Go.Proofs Go.Lib
end Go.Proofs.YtakopfjdmmnjcaaGreat
end
section
set_option maxRecDepth 100000
namespace Go.Proofs.YtakopfjdmmnjcaaGreat
open Go Go.Sx Go.RowKit Go.Proofs
end Go.Proofs.YtakopfjdmmnjcaaGreat
end
section
namespace Go.Proofs.YtakopfjdmmnjcaaGreat
open Go Go.Sx Go.RowKit Go.Proofs
theorem b2Y {α : Type} (l : List α) : (l.all fun _ => true) = true := by simp
def eO {α : Type} (p : α → Bool) : List α → Nat
 | [] => 0
 | x :: l => if p x then 0 else eO p l + 1
theorem a0g {α : Type} (p : α → Bool) : ∀ l : List α, eO p l ≤ l.length
 | [] => by simp [eO]
 | x :: l => by
  have := a0g p l
  unfold eO
  split <;> simp <;> omega
theorem idxP_fst {α : Type} (p : α → Bool) : ∀ (l : List α) (k : Nat), (idxP p l k < 0 ∧ idxP p l k = -1 ∧ eO p l = l.length) ∨ (idxP p l k = ((k + eO p l : Nat) : Int) ∧ eO p l < l.length)
 | [], k => .inl ⟨by simp [idxP], rfl, rfl⟩
 | x :: l, k => by
  unfold idxP eO
  cases hx : p x with
  | true => exact .inr ⟨by simp, by simp⟩
  | false =>
   rcases idxP_fst p l (k + 1) with ⟨h0, h1, h2⟩ | ⟨h1, h2⟩
   ·exact .inl ⟨by simpa using h0, by simpa using h1, by simp [h2]⟩
   ·exact .inr ⟨by simp only [Bool.false_eq_true, if_false]; rw [h1]; congr 1; omega, by simp; omega⟩
theorem a2T {α : Type} (p : α → Bool) (l : List α) (k : Nat) (h : k < l.length) : eO p (l.drop k) = if p l[k] then 0 else eO p (l.drop (k + 1)) + 1 := by
 rw [List.drop_eq_getElem_cons h, eO]
def iV {α : Type} (i : Nat) (x : α) (l : List α) : List α := l.take i ++ x :: l.drop i
theorem a4B {α : Type} (i : Nat) (x : α) (l : List α) (h : i ≤ l.length) : (iV i x l).length = l.length + 1 := by simp [iV]; omega
end Go.Proofs.YtakopfjdmmnjcaaGreat
end
section
set_option maxRecDepth 100000
set_option maxHeartbeats 4000000
namespace Go.Proofs.YtakopfjdmmnjcaaGreat
open Go Go.Sx Go.RowKit Go.Proofs
theorem a7k (l : List ByteArray) (hl : l.length ≤ 4300000) : FnC Tryz.prog 210 [.o (.d (.sl (l.map iQ)))] (.o (.w 9 1 (l.map iQ))) := by
 refine ent Tryz.func210 rfl Tryz.call210 rfl (fun C => ?_); simp only [go_sem, st0, Tryz.ntmps210]
 refine aD ?_
 intro b hb
 refine aD ?_
 refine cnd rfl (fun h1 => ?_) (fun h1 => ?_)
 ·have e := hb h1
  simp only [List.map_eq_nil_iff] at e
  subst e
  refine aD ?_
  exact aA ⟨⟨_, rfl, by simp only [go_sem]⟩, trivial⟩
 ·refine aD ?_
  exact aA ⟨⟨_, rfl, by simp only [go_sem, b2Y]⟩, trivial⟩
theorem a5N (l : List TAttr) (hl : l.length ≤ 4300000) : FnC Tryz.prog 121 [.o (.d (.sl (l.map fJ)))] (.o (.w 110 4 (l.map fJ))) := by
 refine ent Tryz.func121 rfl Tryz.call121 rfl (fun C => ?_); simp only [go_sem, st0, Tryz.ntmps121]
 refine aD ?_
 intro b hb
 refine aD ?_
 refine cnd rfl (fun h1 => ?_) (fun h1 => ?_)
 ·have e := hb h1
  simp only [List.map_eq_nil_iff] at e
  subst e
  refine aD ?_
  exact aA ⟨⟨_, rfl, by simp only [go_sem]⟩, trivial⟩
 ·refine aD ?_
  exact aA ⟨⟨_, rfl, by simp only [go_sem, b2Y]⟩, trivial⟩
theorem a3J (l : List TField) (hl : l.length ≤ 4300000) : FnC Tryz.prog 79 [.o (.d (.sl (l.map dA)))] (.o (.w 113 2 (l.map dA))) := by
 refine ent Tryz.func79 rfl Tryz.call79 rfl (fun C => ?_); simp only [go_sem, st0, Tryz.ntmps79]
 refine aD ?_
 intro b hb
 refine aD ?_
 refine cnd rfl (fun h1 => ?_) (fun h1 => ?_)
 ·have e := hb h1
  simp only [List.map_eq_nil_iff] at e
  subst e
  refine aD ?_
  exact aA ⟨⟨_, rfl, by simp only [go_sem]⟩, trivial⟩
 ·refine aD ?_
  exact aA ⟨⟨_, rfl, by simp only [go_sem, b2Y]⟩, trivial⟩
theorem a1K (f : Nat) (c : List D) (p : TDir → Bool) (l : List TDir) (hf : ∀ s ∈ l, FnC Tryz.prog f [b7p s, .o (.q c)] (ob (p s))) (hl : l.length ≤ 8388608) : FnC Tryz.prog 202 [.o (.d (.sl (l.map dG))), .o (.f f [c])] (oi (idxP p l 0)) := by
 refine ent Tryz.func202 rfl Tryz.call202 rfl (fun C => ?_); simp only [go_sem, st0, Tryz.ntmps202]
 refine aD ?_
 refine aY (α := Nat) (fun k => [(8, oi k)]) (fun _ => []) (fun k => k ≤ l.length ∧ idxP p l 0 = idxP p (l.drop k) k) (fun k => l.length - k) 0 (fun _ => ?_) ?_ ?_ (fun k hk => ?_)
 ·simp only [go_sem]
 ·simp only [go_sem]; simp
 ·simp
 ·obtain ⟨hk, hq⟩ := hk
  simp only [go_sem]
  refine aD ?_
  refine cnd rfl (fun h => ?_) (fun h => ?_)
  ·simp only [decide_eq_true_eq, Int.ofNat_lt] at h
   have hd := List.drop_eq_getElem_cons h
   rw [hd, idxP] at hq
   have q0 := @h; refine lK (hf l[k] (List.getElem_mem h)) ?_
   refine cnd rfl (fun h2 => ?_) (fun h2 => ?_)
   ·refine aD ?_
    exact aA ⟨⟨_, rfl, by simp only [go_sem, hq, h2]⟩, trivial⟩
   ·refine aD ?_
    refine aF (k + 1) ?_ ?_ ?_
    ·simp only [go_sem]; simp
    ·rw [hq, h2]; exact ⟨h, by simp⟩
    ·omega
  ·simp only [decide_eq_false_iff_not] at h
   have e : k = l.length := by omega
   subst e
   simp only [List.drop_length, idxP] at hq
   refine aD ?_
   exact aA ⟨⟨_, rfl, by simp only [go_sem, hq]⟩, trivial⟩
theorem a0M (f : Nat) (c : List D) (p : TFile → Bool) (l : List TFile) (hf : ∀ s ∈ l, FnC Tryz.prog f [iM s, .o (.q c)] (ob (p s))) (hl : l.length ≤ 8388608) : FnC Tryz.prog 122 [.o (.d (.sl (l.map bW))), .o (.f f [c])] (oi (idxP p l 0)) := by
 refine ent Tryz.func122 rfl Tryz.call122 rfl (fun C => ?_); simp only [go_sem, st0, Tryz.ntmps122]
 refine aD ?_
 refine aY (α := Nat) (fun k => [(8, oi k)]) (fun _ => []) (fun k => k ≤ l.length ∧ idxP p l 0 = idxP p (l.drop k) k) (fun k => l.length - k) 0 (fun _ => ?_) ?_ ?_ (fun k hk => ?_)
 ·simp only [go_sem]
 ·simp only [go_sem]; simp
 ·simp
 ·obtain ⟨hk, hq⟩ := hk
  simp only [go_sem]
  refine aD ?_
  refine cnd rfl (fun h => ?_) (fun h => ?_)
  ·simp only [decide_eq_true_eq, Int.ofNat_lt] at h
   have hd := List.drop_eq_getElem_cons h
   rw [hd, idxP] at hq
   have q0 := @h; refine lK (hf l[k] (List.getElem_mem h)) ?_
   refine cnd rfl (fun h2 => ?_) (fun h2 => ?_)
   ·refine aD ?_
    exact aA ⟨⟨_, rfl, by simp only [go_sem, hq, h2]⟩, trivial⟩
   ·refine aD ?_
    refine aF (k + 1) ?_ ?_ ?_
    ·simp only [go_sem]; simp
    ·rw [hq, h2]; exact ⟨h, by simp⟩
    ·omega
  ·simp only [decide_eq_false_iff_not] at h
   have e : k = l.length := by omega
   subst e
   simp only [List.drop_length, idxP] at hq
   refine aD ?_
   exact aA ⟨⟨_, rfl, by simp only [go_sem, hq]⟩, trivial⟩
def low (s : ByteArray) (k : Nat) : Bool := inB (kV s k) 97 122
def nC (s : ByteArray) : Bool := (List.range s.size).all (low s)
def bV (s : ByteArray) (n : Int) : Bool := nC s && inB s.size 1 n
theorem a2X (s : ByteArray) (n : Int) (hs : s.size ≤ 4300000) : FnC Tryz.prog 115 [os s, oi n] (ob (bV s n)) := by
 refine ent Tryz.func115 rfl Tryz.call115 rfl (fun C => ?_); simp only [go_sem, st0, Tryz.ntmps115]
 refine aD ?_
 refine aY (α := Nat) (fun k => [(5, oi k)]) (fun _ => []) (fun k => k ≤ s.size ∧ nC s = ((List.range s.size).drop k).all (low s)) (fun k => s.size - k) 0 (fun _ => ?_) ?_ ?_ (fun k hk => ?_)
 ·simp only [go_sem]
 ·simp only [go_sem]; simp
 ·simp [nC]
 ·obtain ⟨hk, hq⟩ := hk
  simp only [go_sem]
  refine aD ?_
  refine cnd rfl (fun h => ?_) (fun h => ?_)
  ·simp only [decide_eq_true_eq, Int.ofNat_lt] at h
   have h' : k < (List.range s.size).length := by simpa using h
   have hd := List.drop_eq_getElem_cons h'
   rw [hd, List.all_cons, List.getElem_range] at hq
   have hb := a4e s k
   by_cases h1 : kV s k < 97
   ·have hf : nC s = false := by rw [hq]; simp [low, inB]; omega
    have q0 := @h; have q1 := @h1; refine fM ?_
    exact aA ⟨⟨_, rfl, by simp only [go_sem, bV, hf, Bool.false_and]⟩, trivial⟩
   by_cases h2 : 122 < kV s k
   ·have hf : nC s = false := by rw [hq]; simp [low, inB]; omega
    have q0 := @h; have q1 := @h1; have q2 := @h2; have q3 := @decide_false; refine jX ?_
    exact aA ⟨⟨_, rfl, by simp only [go_sem, bV, hf, Bool.false_and]⟩, trivial⟩
   ·have q0 := @h; have q1 := @h1; have q2 := @h2; have q3 := @decide_false; refine jX ?_
    refine aF (k + 1) ?_ ?_ ?_
    ·simp only [go_sem]; simp
    ·refine ⟨h, ?_⟩
     have hl : low s k = true := by simp [low, inB]; omega
     rw [hq, hl]; simp
    ·omega
  ·simp only [decide_eq_false_iff_not] at h
   have e : k = s.size := by omega
   have hq' : nC s = true := by
    rw [hq, List.drop_of_length_le (by simp [e])]; rfl
   refine iZ (bP s.size 1 n) ?_
   refine aA ⟨⟨_, rfl, ?_⟩, ?_⟩
   ·simp only [go_sem, bV, hq']
   ·trivial
theorem aK (s : ByteArray) (hs : s.size ≤ 4300000) : FnC Tryz.prog 71 [os s] (ob (bV s 1)) := by
 refine ent Tryz.func71 rfl Tryz.call71 rfl (fun C => ?_); simp only [go_sem, st0, Tryz.ntmps71]
 refine iZ (a2X s 1 hs) ?_
 refine aA ⟨⟨_, rfl, ?_⟩, ?_⟩
 ·simp only [go_sem]
 ·trivial
theorem b4D (s : ByteArray) : bV s 1 = (decide ((s.size : Int) = 1) && low s 0) := by
 unfold bV nC inB
 rcases Nat.lt_trichotomy s.size 1 with h | h | h
 ·have : s.size = 0 := by omega
  simp [this]
 ·simp [h, List.range_succ]
 ·have h1 : ¬ ((s.size : Int) ≤ 1) := by omega
  have h2 : ¬ ((s.size : Int) = 1) := by omega
  simp [h1, h2]
theorem aB (s : ByteArray) : FnC Tryz.prog 169 [os s] (ob (bV s 1)) := by
 rw [b4D]
 refine ent Tryz.func169 rfl Tryz.call169 rfl (fun C => ?_); simp only [go_sem, st0, Tryz.ntmps169]
 by_cases h0 : (s.size : Int) = 1
 ·have h0' : 0 < s.size := by omega
  by_cases h1 : 97 ≤ kV s 0 <;> by_cases h2 : kV s 0 ≤ 122
  all_goals
   have q0 := @h0; have q1 := @h0'; have q2 := @h1; have q3 := @h2; have q4 := @decide_false; have q5 := @Int.toNat_zero; have q6 := @Int.le_refl; refine a8E ?_
   refine aA ⟨⟨_, rfl, ?_⟩, ?_⟩
   ·simp only [go_sem]; simp [h0, h1, h2, low, inB]
   ·trivial
 ·have q0 := @h0; have q1 := @decide_false; refine fM ?_
  refine aA ⟨⟨_, rfl, ?_⟩, ?_⟩
  ·simp only [go_sem]; simp [h0]
  ·trivial
theorem bN (s : ByteArray) (hs : s.size ≤ 4300000) : FnC Tryz.prog 145 [os s] (ob (bV s 6)) := by
 refine ent Tryz.func145 rfl Tryz.call145 rfl (fun C => ?_); simp only [go_sem, st0, Tryz.ntmps145]
 refine iZ (a2X s 6 hs) ?_
 exact aA ⟨⟨_, rfl, by simp only [go_sem]⟩, trivial⟩
theorem aT (s : ByteArray) (hs : s.size ≤ 4300000) : FnC Tryz.prog 194 [os s] (ob (bV s 6)) := by
 refine ent Tryz.func194 rfl Tryz.call194 rfl (fun C => ?_); simp only [go_sem, st0, Tryz.ntmps194]
 refine aD ?_
 refine aY (α := Nat) (fun k => [(6, oi k)]) (fun _ => []) (fun k => k ≤ s.size ∧ nC s = ((List.range s.size).drop k).all (low s)) (fun k => s.size - k) 0 (fun _ => ?_) ?_ ?_ (fun k hk => ?_)
 ·simp only [go_sem]
 ·simp only [go_sem]; simp
 ·simp [nC]
 ·obtain ⟨hk, hq⟩ := hk
  simp only [go_sem]
  refine aD ?_
  refine cnd rfl (fun h => ?_) (fun h => ?_)
  ·simp only [decide_eq_true_eq, Int.ofNat_lt] at h
   have h' : k < (List.range s.size).length := by simpa using h
   have hd := List.drop_eq_getElem_cons h'
   rw [hd, List.all_cons, List.getElem_range] at hq
   have hb := a4e s k
   by_cases h1 : kV s k < 97
   ·have hf : nC s = false := by rw [hq]; simp [low, inB]; omega
    have q0 := @h; have q1 := @h1; refine fM ?_
    exact aA ⟨⟨_, rfl, by simp only [go_sem, bV, hf, Bool.false_and]⟩, trivial⟩
   by_cases h2 : 122 < kV s k
   ·have hf : nC s = false := by rw [hq]; simp [low, inB]; omega
    have q0 := @h; have q1 := @h1; have q2 := @h2; have q3 := @decide_false; refine jX ?_
    exact aA ⟨⟨_, rfl, by simp only [go_sem, bV, hf, Bool.false_and]⟩, trivial⟩
   ·have q0 := @h; have q1 := @h1; have q2 := @h2; have q3 := @decide_false; refine jX ?_
    refine aF (k + 1) ?_ ?_ ?_
    ·simp only [go_sem]; simp
    ·refine ⟨h, ?_⟩
     have hl : low s k = true := by simp [low, inB]; omega
     rw [hq, hl]; simp
    ·omega
  ·simp only [decide_eq_false_iff_not] at h
   have e : k = s.size := by omega
   have hq' : nC s = true := by
    rw [hq, List.drop_of_length_le (by simp [e])]; rfl
   refine iZ (aL s.size 1 6) ?_
   refine aA ⟨⟨_, rfl, ?_⟩, ?_⟩
   ·simp only [go_sem, bV, hq']
   ·trivial
def fO (v : TValue) : Bool :=
 if v.fKind = 0 then decide (v.fInt = 0) && decide (v.fStr = ⟨#[]⟩)
 else if v.fKind = 1 then inB v.fInt 0 999 && decide (v.fStr = ⟨#[]⟩)
 else if v.fKind = 2 then bV v.fStr 6 && decide (v.fInt = 0) else false
theorem aC (v : TValue) (hs : v.fStr.size ≤ 4300000) : FnC Tryz.prog 182 [kF v] (ob (fO v)) := by
 refine ent Tryz.func182 rfl Tryz.call182 rfl (fun C => ?_); simp only [go_sem, st0, Tryz.ntmps182]
 by_cases h0 : v.fKind = 0
 ·have q0 := @h0; have q1 := @decide_true; refine fM ?_
  exact aA ⟨⟨_, rfl, by simp only [go_sem, fO, h0, if_true, decide_true, Bool.true_and]⟩, trivial⟩
 by_cases h1 : v.fKind = 1
 ·cases hb : inB v.fInt 0 999
  ·have q0 := @h0; have q1 := @h1; have q2 := @decide_true; have q3 := @decide_false; have q4 := @hb; refine a1I (aL v.fInt 0 999) ?_
   exact aA ⟨⟨_, rfl, by simp only [go_sem, fO, h0, h1, hb, if_true, if_false, Bool.false_and]⟩, trivial⟩
  ·have q0 := @h0; have q1 := @h1; have q2 := @decide_true; have q3 := @decide_false; have q4 := @hb; refine a1I (aL v.fInt 0 999) ?_
   exact aA ⟨⟨_, rfl, by simp only [go_sem, fO, h0, h1, hb, if_true, if_false, Bool.true_and]⟩, trivial⟩
 by_cases h2 : v.fKind = 2
 ·cases hb : bV v.fStr 6
  ·have q0 := @h0; have q1 := @h1; have q2 := @h2; have q3 := @decide_true; have q4 := @decide_false; have q5 := @hb; refine a1J (aT v.fStr hs) ?_
   exact aA ⟨⟨_, rfl, by simp only [go_sem, fO, h0, h1, h2, hb, if_true, if_false, Bool.false_and]⟩, trivial⟩
  ·have q0 := @h0; have q1 := @h1; have q2 := @h2; have q3 := @decide_true; have q4 := @decide_false; have q5 := @hb; refine a1J (aT v.fStr hs) ?_
   exact aA ⟨⟨_, rfl, by simp only [go_sem, fO, h0, h1, h2, hb, if_true, if_false, Bool.true_and]⟩, trivial⟩
 ·have q0 := @h0; have q1 := @h1; have q2 := @h2; have q3 := @decide_false; refine jX ?_
  exact aA ⟨⟨_, rfl, by simp only [go_sem, fO, h0, h1, h2, if_false]⟩, trivial⟩
theorem bK (v : TValue) (hs : v.fStr.size ≤ 4300000) : FnC Tryz.prog 113 [kF v] (ob (fO v)) := by
 refine ent Tryz.func113 rfl Tryz.call113 rfl (fun C => ?_); simp only [go_sem, st0, Tryz.ntmps113]
 by_cases h0 : v.fKind = 0
 ·have q0 := @h0; have q1 := @decide_true; refine fM ?_
  exact aA ⟨⟨_, rfl, by simp only [go_sem, fO, h0, if_true, decide_true, Bool.true_and]⟩, trivial⟩
 by_cases h1 : v.fKind = 1
 ·cases hb : inB v.fInt 0 999
  ·have q0 := @h0; have q1 := @h1; have q2 := @decide_true; have q3 := @decide_false; have q4 := @hb; refine a1I (bP v.fInt 0 999) ?_
   exact aA ⟨⟨_, rfl, by simp only [go_sem, fO, h0, h1, hb, if_true, if_false, Bool.false_and]⟩, trivial⟩
  ·have q0 := @h0; have q1 := @h1; have q2 := @decide_true; have q3 := @decide_false; have q4 := @hb; refine a1I (bP v.fInt 0 999) ?_
   exact aA ⟨⟨_, rfl, by simp only [go_sem, fO, h0, h1, hb, if_true, if_false, Bool.true_and]⟩, trivial⟩
 by_cases h2 : v.fKind = 2
 ·cases hb : bV v.fStr 6
  ·have q0 := @h0; have q1 := @h1; have q2 := @h2; have q3 := @decide_true; have q4 := @decide_false; have q5 := @hb; refine a1J (bN v.fStr hs) ?_
   exact aA ⟨⟨_, rfl, by simp only [go_sem, fO, h0, h1, h2, hb, if_true, if_false, Bool.false_and]⟩, trivial⟩
  ·have q0 := @h0; have q1 := @h1; have q2 := @h2; have q3 := @decide_true; have q4 := @decide_false; have q5 := @hb; refine a1J (bN v.fStr hs) ?_
   exact aA ⟨⟨_, rfl, by simp only [go_sem, fO, h0, h1, h2, hb, if_true, if_false, Bool.true_and]⟩, trivial⟩
 ·have q0 := @h0; have q1 := @h1; have q2 := @h2; have q3 := @decide_false; refine jX ?_
  exact aA ⟨⟨_, rfl, by simp only [go_sem, fO, h0, h1, h2, if_false]⟩, trivial⟩
end Go.Proofs.YtakopfjdmmnjcaaGreat
end
