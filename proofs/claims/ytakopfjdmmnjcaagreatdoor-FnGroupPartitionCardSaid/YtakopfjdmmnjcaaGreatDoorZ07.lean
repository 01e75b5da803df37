/- Joined texts. -/
import Derived.Test.YtakopfjdmmnjcaaGreatDoorZ06
import Derived.Test.YtakopfjdmmnjcaaGreatDoorZ01
import Derived.Lib.LaidTab
import Derived.Test.YtakopfjdmmnjcaaGreatDoorCards
import Derived.Test.YtakopfjdmmnjcaaGreatDoorTie
import Derived.OpenShut
import Derived.WalkKit
import Derived.ProofKit
import Derived.Deep.DeepHandedRow
import Derived.Stop.LaidErr
set_option linter.all false
section
section
set_option linter.all false
namespace Go.Proofs.YtakopfjdmmnjcaaGreatDoor
open Go Go.Sx Go.RowKit Go.Proofs
def b9s (n : Int) (w : Nat) : Int := if n - w < 0 then -1 else n - w
def bG {α : Type} (w : α → Nat) : List α → Nat
 | [] => 0
 | x :: l => w x + bG w l
theorem dF {α : Type} (w : α → Nat) : ∀ (l : List α) {k : Nat} (h : k < l.length), w l[k] ≤ bG w l
 | [], _, h => by simp at h
 | x :: l, 0, _ => by simp [bG]
 | x :: l, k + 1, h => by
  have := dF w l (k := k) (by simpa using h)
  simp only [List.getElem_cons_succ, bG]; omega
@[go_sem] def eZ (n : Int) : List D := [iv n]
@[go_sem] def iV (s : ByteArray) : List D := [sv s]
abbrev slI (l : List Int) : D := .sl (l.map eZ)
abbrev slS (l : List ByteArray) : D := .sl (l.map iV)
def b7O (l : List ByteArray) : Nat := l.length + bG ByteArray.size l
def a5X (l : List Int) : Prop := l.length ≤ 9223372036854775807 ∧ ∀ i ∈ l, inR .i64 i
def b7r (l : List ByteArray) : Prop := l.length ≤ 9223372036854775807 ∧ ∀ s ∈ l, s.size ≤ 9223372036854775807
end Go.Proofs.YtakopfjdmmnjcaaGreatDoor
end
section
set_option linter.all false
set_option maxHeartbeats 1000000
namespace Go.Proofs.YtakopfjdmmnjcaaGreatDoor
open Go Go.Sx Go.RowKit Go.Proofs
structure TValue where
 fKind : Int
 fInt : Int
 fStr : ByteArray
@[go_sem] def b7P (x : TValue) : List D := [iv x.fKind, iv x.fInt, sv x.fStr]
@[go_sem] def fM (x : TValue) : SV := .g [.d (iv x.fKind), .d (iv x.fInt), .d (sv x.fStr)]
def iL (x : TValue) : Nat := x.fStr.size
def a2t (x : TValue) : Prop := inR .i64 x.fKind ∧ inR .i64 x.fInt ∧ x.fStr.size ≤ 9223372036854775807
def b8B (l : List TValue) : Nat := l.length + bG iL l
def b7Q (l : List TValue) : Prop := l.length ≤ 9223372036854775807 ∧ ∀ x ∈ l, a2t x
end Go.Proofs.YtakopfjdmmnjcaaGreatDoor
end
section
set_option linter.all false
set_option maxHeartbeats 1000000
namespace Go.Proofs.YtakopfjdmmnjcaaGreatDoor
open Go Go.Sx Go.RowKit Go.Proofs
structure TField where
 fName : ByteArray
 fKind : Int
@[go_sem] def dJ (x : TField) : List D := [sv x.fName, iv x.fKind]
@[go_sem] def b8R (x : TField) : SV := .g [.d (sv x.fName), .d (iv x.fKind)]
def tV (x : TField) : Nat := x.fName.size
def b4Q (x : TField) : Prop := x.fName.size ≤ 9223372036854775807 ∧ inR .i64 x.fKind
def bJ (l : List TField) : Nat := l.length + bG tV l
def b3a (l : List TField) : Prop := l.length ≤ 9223372036854775807 ∧ ∀ x ∈ l, b4Q x
end Go.Proofs.YtakopfjdmmnjcaaGreatDoor
end
section
set_option linter.all false
set_option maxHeartbeats 1000000
namespace Go.Proofs.YtakopfjdmmnjcaaGreatDoor
open Go Go.Sx Go.RowKit Go.Proofs
structure TAttr where
 fName : ByteArray
 fValue : TValue
@[go_sem] def fK (x : TAttr) : List D := [sv x.fName, iv x.fValue.fKind, iv x.fValue.fInt, sv x.fValue.fStr]
@[go_sem] def b9t (x : TAttr) : SV := .g [.d (sv x.fName), .d (iv x.fValue.fKind), .d (iv x.fValue.fInt), .d (sv x.fValue.fStr)]
def iW (x : TAttr) : Nat := x.fName.size + iL x.fValue
def a9g (x : TAttr) : Prop := x.fName.size ≤ 9223372036854775807 ∧ a2t x.fValue
def fG (l : List TAttr) : Nat := l.length + bG iW l
def wX (l : List TAttr) : Prop := l.length ≤ 9223372036854775807 ∧ ∀ x ∈ l, a9g x
end Go.Proofs.YtakopfjdmmnjcaaGreatDoor
end
section
set_option linter.all false
set_option maxHeartbeats 1000000
namespace Go.Proofs.YtakopfjdmmnjcaaGreatDoor
open Go Go.Sx Go.RowKit Go.Proofs
structure TFile where
 fID : Int
 fOwner : Int
 fShared : Bool
 fLink : Int
 fAttrs : List TAttr
@[go_sem] def dM (x : TFile) : List D := [iv x.fID, iv x.fOwner, bv x.fShared, iv x.fLink, .sl (x.fAttrs.map fK)]
@[go_sem] def jQ (x : TFile) : SV := .g [.d (iv x.fID), .d (iv x.fOwner), .d (bv x.fShared), .d (iv x.fLink), .d (.sl (x.fAttrs.map fK))]
@[go_sem] def a3b (x : TFile) : SV := .g [.d (iv x.fID), .d (iv x.fOwner), .d (bv x.fShared), .d (iv x.fLink), .w 75 4 (x.fAttrs.map fK)]
def bV (x : TFile) : Nat := fG x.fAttrs
def a9h (x : TFile) : Prop := inR .i64 x.fID ∧ inR .i64 x.fOwner ∧ True ∧ inR .i64 x.fLink ∧ wX x.fAttrs
def fT (l : List TFile) : Nat := l.length + bG bV l
def b4R (l : List TFile) : Prop := l.length ≤ 9223372036854775807 ∧ ∀ x ∈ l, a9h x
end Go.Proofs.YtakopfjdmmnjcaaGreatDoor
end
section
set_option linter.all false
set_option maxHeartbeats 1000000
namespace Go.Proofs.YtakopfjdmmnjcaaGreatDoor
open Go Go.Sx Go.RowKit Go.Proofs
structure TStore where
 fSchema : List TField
 fFiles : List TFile
 fNextID : Int
@[go_sem] def b7R (x : TStore) : List D := [.sl (x.fSchema.map dJ), .sl (x.fFiles.map dM), iv x.fNextID]
@[go_sem] def bX (x : TStore) : SV := .g [.d (.sl (x.fSchema.map dJ)), .d (.sl (x.fFiles.map dM)), .d (iv x.fNextID)]
@[go_sem] def a3c (x : TStore) : SV := .g [.w 102 2 (x.fSchema.map dJ), .w 53 5 (x.fFiles.map dM), .d (iv x.fNextID)]
def aW (x : TStore) : Nat := bJ x.fSchema + fT x.fFiles
def a5Y (x : TStore) : Prop := b3a x.fSchema ∧ b4R x.fFiles ∧ inR .i64 x.fNextID
def b8C (l : List TStore) : Nat := l.length + bG aW l
def b7S (l : List TStore) : Prop := l.length ≤ 9223372036854775807 ∧ ∀ x ∈ l, a5Y x
end Go.Proofs.YtakopfjdmmnjcaaGreatDoor
end
section
set_option linter.all false
set_option maxHeartbeats 1000000
namespace Go.Proofs.YtakopfjdmmnjcaaGreatDoor
open Go Go.Sx Go.RowKit Go.Proofs
structure TNode where
 fOp : Int
 fLeft : Int
 fRight : Int
 fName : ByteArray
 fValue : TValue
@[go_sem] def bN (x : TNode) : List D := [iv x.fOp, iv x.fLeft, iv x.fRight, sv x.fName, iv x.fValue.fKind, iv x.fValue.fInt, sv x.fValue.fStr]
@[go_sem] def b0k (x : TNode) : SV := .g [.d (iv x.fOp), .d (iv x.fLeft), .d (iv x.fRight), .d (sv x.fName), .d (iv x.fValue.fKind), .d (iv x.fValue.fInt), .d (sv x.fValue.fStr)]
def zY (x : TNode) : Nat := x.fName.size + iL x.fValue
def b3b (x : TNode) : Prop := inR .i64 x.fOp ∧ inR .i64 x.fLeft ∧ inR .i64 x.fRight ∧ x.fName.size ≤ 9223372036854775807 ∧ a2t x.fValue
def eU (l : List TNode) : Nat := l.length + bG zY l
def b4S (l : List TNode) : Prop := l.length ≤ 9223372036854775807 ∧ ∀ x ∈ l, b3b x
end Go.Proofs.YtakopfjdmmnjcaaGreatDoor
end
section
set_option linter.all false
set_option maxHeartbeats 1000000
namespace Go.Proofs.YtakopfjdmmnjcaaGreatDoor
open Go Go.Sx Go.RowKit Go.Proofs
structure TDir where
 fName : ByteArray
 fQuery : List TNode
@[go_sem] def bY (x : TDir) : List D := [sv x.fName, .sl (x.fQuery.map bN)]
@[go_sem] def b7T (x : TDir) : SV := .g [.d (sv x.fName), .d (.sl (x.fQuery.map bN))]
@[go_sem] def b9D (x : TDir) : SV := .g [.d (sv x.fName), .w 147 7 (x.fQuery.map bN)]
def lN (x : TDir) : Nat := x.fName.size + eU x.fQuery
def b5K (x : TDir) : Prop := x.fName.size ≤ 9223372036854775807 ∧ b4S x.fQuery
def gN (l : List TDir) : Nat := l.length + bG lN l
def b3c (l : List TDir) : Prop := l.length ≤ 9223372036854775807 ∧ ∀ x ∈ l, b5K x
end Go.Proofs.YtakopfjdmmnjcaaGreatDoor
end
end
section
section
set_option linter.all false
set_option maxHeartbeats 1000000
namespace Go.Proofs.YtakopfjdmmnjcaaGreatDoor
open Go Go.Sx Go.RowKit Go.Proofs
structure TResult where
 fName : ByteArray
 fIDs : List Int
@[go_sem] def bD (x : TResult) : List D := [sv x.fName, .sl (x.fIDs.map eZ)]
@[go_sem] def b8r (x : TResult) : SV := .g [.d (sv x.fName), .d (.sl (x.fIDs.map eZ))]
@[go_sem] def b8s (x : TResult) : SV := .g [.d (sv x.fName), .w 3 1 (x.fIDs.map eZ)]
def jY (x : TResult) : Nat := x.fName.size + x.fIDs.length
def b2W (x : TResult) : Prop := x.fName.size ≤ 9223372036854775807 ∧ a5X x.fIDs
def bL (l : List TResult) : Nat := l.length + bG jY l
def b1z (l : List TResult) : Prop := l.length ≤ 9223372036854775807 ∧ ∀ x ∈ l, b2W x
end Go.Proofs.YtakopfjdmmnjcaaGreatDoor
end
section
set_option linter.all false
set_option maxHeartbeats 1000000
namespace Go.Proofs.YtakopfjdmmnjcaaGreatDoor
open Go Go.Sx Go.RowKit Go.Proofs
structure TDiff where
 fName : ByteArray
 fAdded : List Int
 fRemoved : List Int
@[go_sem] def b8t (x : TDiff) : List D := [sv x.fName, .sl (x.fAdded.map eZ), .sl (x.fRemoved.map eZ)]
@[go_sem] def b9n (x : TDiff) : SV := .g [.d (sv x.fName), .d (.sl (x.fAdded.map eZ)), .d (.sl (x.fRemoved.map eZ))]
@[go_sem] def b9o (x : TDiff) : SV := .g [.d (sv x.fName), .w 3 1 (x.fAdded.map eZ), .w 3 1 (x.fRemoved.map eZ)]
def b7H (x : TDiff) : Nat := x.fName.size + x.fAdded.length + x.fRemoved.length
def b6t (x : TDiff) : Prop := x.fName.size ≤ 9223372036854775807 ∧ a5X x.fAdded ∧ a5X x.fRemoved
def b8N (l : List TDiff) : Nat := l.length + bG b7H l
def b8u (l : List TDiff) : Prop := l.length ≤ 9223372036854775807 ∧ ∀ x ∈ l, b6t x
end Go.Proofs.YtakopfjdmmnjcaaGreatDoor
end
section
set_option linter.all false
set_option maxHeartbeats 1000000
namespace Go.Proofs.YtakopfjdmmnjcaaGreatDoor
open Go Go.Sx Go.RowKit Go.Proofs
structure TCatalog where
 fStore : TStore
 fDirs : List TDir
 fResults : List TResult
@[go_sem] def b6u (x : TCatalog) : List D := [.sl (x.fStore.fSchema.map dJ), .sl (x.fStore.fFiles.map dM), iv x.fStore.fNextID, .sl (x.fDirs.map bY), .sl (x.fResults.map bD)]
@[go_sem] def b7I (x : TCatalog) : SV := .g [.d (.sl (x.fStore.fSchema.map dJ)), .d (.sl (x.fStore.fFiles.map dM)), .d (iv x.fStore.fNextID), .d (.sl (x.fDirs.map bY)), .d (.sl (x.fResults.map bD))]
@[go_sem] def b7J (x : TCatalog) : SV := .g [.w 102 2 (x.fStore.fSchema.map dJ), .w 53 5 (x.fStore.fFiles.map dM), .d (iv x.fStore.fNextID), .w 143 2 (x.fDirs.map bY), .w 126 2 (x.fResults.map bD)]
def b2X (x : TCatalog) : Nat := aW x.fStore + gN x.fDirs + bL x.fResults
def b1A (x : TCatalog) : Prop := a5Y x.fStore ∧ b3c x.fDirs ∧ b1z x.fResults
def b7m (l : List TCatalog) : Nat := l.length + bG b2X l
def b6v (l : List TCatalog) : Prop := l.length ≤ 9223372036854775807 ∧ ∀ x ∈ l, b1A x
end Go.Proofs.YtakopfjdmmnjcaaGreatDoor
end
section
set_option linter.all false
set_option maxHeartbeats 1000000
namespace Go.Proofs.YtakopfjdmmnjcaaGreatDoor
open Go Go.Sx Go.RowKit Go.Proofs
structure TGroup where
 fValue : TValue
 fIDs : List Int
@[go_sem] def dO (x : TGroup) : List D := [iv x.fValue.fKind, iv x.fValue.fInt, sv x.fValue.fStr, .sl (x.fIDs.map eZ)]
@[go_sem] def b2Y (x : TGroup) : SV := .g [.d (iv x.fValue.fKind), .d (iv x.fValue.fInt), .d (sv x.fValue.fStr), .d (.sl (x.fIDs.map eZ))]
@[go_sem] def b8O (x : TGroup) : SV := .g [.d (iv x.fValue.fKind), .d (iv x.fValue.fInt), .d (sv x.fValue.fStr), .w 3 1 (x.fIDs.map eZ)]
def tT (x : TGroup) : Nat := iL x.fValue + x.fIDs.length
def b4O (x : TGroup) : Prop := a2t x.fValue ∧ a5X x.fIDs
def fD (l : List TGroup) : Nat := l.length + bG tT l
def b7K (l : List TGroup) : Prop := l.length ≤ 9223372036854775807 ∧ ∀ x ∈ l, b4O x
end Go.Proofs.YtakopfjdmmnjcaaGreatDoor
end
section
set_option linter.all false
set_option maxHeartbeats 1000000
namespace Go.Proofs.YtakopfjdmmnjcaaGreatDoor
open Go Go.Sx Go.RowKit Go.Proofs
structure TEdit where
 fOK : Bool
 fSet : List TAttr
@[go_sem] def b8v (x : TEdit) : List D := [bv x.fOK, .sl (x.fSet.map fK)]
@[go_sem] def b9p (x : TEdit) : SV := .g [.d (bv x.fOK), .d (.sl (x.fSet.map fK))]
@[go_sem] def b9q (x : TEdit) : SV := .g [.d (bv x.fOK), .w 75 4 (x.fSet.map fK)]
def b7L (x : TEdit) : Nat := fG x.fSet
def b6w (x : TEdit) : Prop := True ∧ wX x.fSet
def b8P (l : List TEdit) : Nat := l.length + bG b7L l
def b8w (l : List TEdit) : Prop := l.length ≤ 9223372036854775807 ∧ ∀ x ∈ l, b6w x
end Go.Proofs.YtakopfjdmmnjcaaGreatDoor
end
section
set_option linter.all false
set_option maxHeartbeats 1000000
namespace Go.Proofs.YtakopfjdmmnjcaaGreatDoor
open Go Go.Sx Go.RowKit Go.Proofs
structure TChange where
 fKind : Int
 fFile : TFile
 fID : Int
 fDir : TDir
@[go_sem] def b7n (x : TChange) : List D := [iv x.fKind, iv x.fFile.fID, iv x.fFile.fOwner, bv x.fFile.fShared, iv x.fFile.fLink, .sl (x.fFile.fAttrs.map fK), iv x.fID, sv x.fDir.fName, .sl (x.fDir.fQuery.map bN)]
@[go_sem] def b8x (x : TChange) : SV := .g [.d (iv x.fKind), .d (iv x.fFile.fID), .d (iv x.fFile.fOwner), .d (bv x.fFile.fShared), .d (iv x.fFile.fLink), .d (.sl (x.fFile.fAttrs.map fK)), .d (iv x.fID), .d (sv x.fDir.fName), .d (.sl (x.fDir.fQuery.map bN))]
@[go_sem] def b8y (x : TChange) : SV := .g [.d (iv x.fKind), .d (iv x.fFile.fID), .d (iv x.fFile.fOwner), .d (bv x.fFile.fShared), .d (iv x.fFile.fLink), .w 75 4 (x.fFile.fAttrs.map fK), .d (iv x.fID), .d (sv x.fDir.fName), .w 147 7 (x.fDir.fQuery.map bN)]
def b4P (x : TChange) : Nat := bV x.fFile + lN x.fDir
def b2Z (x : TChange) : Prop := inR .i64 x.fKind ∧ a9h x.fFile ∧ inR .i64 x.fID ∧ b5K x.fDir
def b7M (l : List TChange) : Nat := l.length + bG b4P l
def b7o (l : List TChange) : Prop := l.length ≤ 9223372036854775807 ∧ ∀ x ∈ l, b2Z x
end Go.Proofs.YtakopfjdmmnjcaaGreatDoor
end
section
set_option linter.all false
set_option maxHeartbeats 1000000
namespace Go.Proofs.YtakopfjdmmnjcaaGreatDoor
open Go Go.Sx Go.RowKit Go.Proofs
structure TSnapshot where
 fStore : TStore
 fDirs : List TDir
@[go_sem] def b5I (x : TSnapshot) : List D := [.sl (x.fStore.fSchema.map dJ), .sl (x.fStore.fFiles.map dM), iv x.fStore.fNextID, .sl (x.fDirs.map bY)]
@[go_sem] def b7p (x : TSnapshot) : SV := .g [.d (.sl (x.fStore.fSchema.map dJ)), .d (.sl (x.fStore.fFiles.map dM)), .d (iv x.fStore.fNextID), .d (.sl (x.fDirs.map bY))]
@[go_sem] def b7q (x : TSnapshot) : SV := .g [.w 102 2 (x.fStore.fSchema.map dJ), .w 53 5 (x.fStore.fFiles.map dM), .d (iv x.fStore.fNextID), .w 143 2 (x.fDirs.map bY)]
def b1B (x : TSnapshot) : Nat := aW x.fStore + gN x.fDirs
def a9f (x : TSnapshot) : Prop := a5Y x.fStore ∧ b3c x.fDirs
def b6x (l : List TSnapshot) : Nat := l.length + bG b1B l
def b5J (l : List TSnapshot) : Prop := l.length ≤ 9223372036854775807 ∧ ∀ x ∈ l, a9f x
end Go.Proofs.YtakopfjdmmnjcaaGreatDoor
end
section
set_option linter.all false
set_option maxHeartbeats 1000000
namespace Go.Proofs.YtakopfjdmmnjcaaGreatDoor
open Go Go.Sx Go.RowKit Go.Proofs
structure TDisk where
 fSlotA : ByteArray
 fSlotB : ByteArray
@[go_sem] def b8z (x : TDisk) : List D := [sv x.fSlotA, sv x.fSlotB]
@[go_sem] def b9r (x : TDisk) : SV := .g [.d (sv x.fSlotA), .d (sv x.fSlotB)]
def b7N (x : TDisk) : Nat := x.fSlotA.size + x.fSlotB.size
def b6y (x : TDisk) : Prop := x.fSlotA.size ≤ 9223372036854775807 ∧ x.fSlotB.size ≤ 9223372036854775807
def b8Q (l : List TDisk) : Nat := l.length + bG b7N l
def b8A (l : List TDisk) : Prop := l.length ≤ 9223372036854775807 ∧ ∀ x ∈ l, b6y x
end Go.Proofs.YtakopfjdmmnjcaaGreatDoor
end
section
set_option linter.all false
namespace Go.Proofs.YtakopfjdmmnjcaaGreatDoor
open Go Go.Sx Go.RowKit Go.Proofs
def inB (n a b : Int) : Bool := decide (a ≤ n) && decide (n ≤ b)
theorem aP (n a b : Int) : FnC Tryz.prog 99 [oi n, oi a, oi b] (ob (inB n a b)) := by
 refine ent Tryz.func99 rfl Tryz.call99 rfl (fun C => ?_); simp only [go_sem, st0, Tryz.ntmps99]
 by_cases h0 : a ≤ n <;> by_cases h1 : n ≤ b
 all_goals
  have q0 := @h0; have q1 := @h1; have q2 := @decide_false; refine jJ ?_
  refine aA ⟨⟨_, rfl, ?_⟩, ?_⟩
  ·simp only [go_sem]; simp [inB, h0, h1]
  ·trivial
theorem bO (n a b : Int) : FnC Tryz.prog 97 [oi n, oi a, oi b] (ob (inB n a b)) := by
 refine ent Tryz.func97 rfl Tryz.call97 rfl (fun C => ?_); simp only [go_sem, st0, Tryz.ntmps97]
 by_cases h0 : a ≤ n <;> by_cases h1 : n ≤ b
 all_goals
  have q0 := @h0; have q1 := @h1; have q2 := @decide_false; refine jJ ?_
  refine aA ⟨⟨_, rfl, ?_⟩, ?_⟩
  ·simp only [go_sem]; simp [inB, h0, h1]
  ·trivial
end Go.Proofs.YtakopfjdmmnjcaaGreatDoor
end
section
set_option linter.all false
set_option maxHeartbeats 1000000
namespace Go.Proofs.YtakopfjdmmnjcaaGreatDoor
open Go Go.Sx Go.RowKit Go.Proofs
end Go.Proofs.YtakopfjdmmnjcaaGreatDoor
end
end
section
set_option maxRecDepth 100000
set_option maxHeartbeats 4000000
namespace Go.Proofs.YtakopfjdmmnjcaaGreatDoor
open Go Go.Sx Go.RowKit Go.Proofs
def low (s : ByteArray) (k : Nat) : Bool := inB (kS s k) 97 122
def mV (s : ByteArray) : Bool := (List.range s.size).all (low s)
def bS (s : ByteArray) (n : Int) : Bool := mV s && inB s.size 1 n
theorem a3a (s : ByteArray) (n : Int) (hs : s.size ≤ 4300000) : FnC Tryz.prog 116 [os s, oi n] (ob (bS s n)) := by
 refine ent Tryz.func116 rfl Tryz.call116 rfl (fun C => ?_); simp only [go_sem, st0, Tryz.ntmps116]
 refine aD ?_
 refine aY (α := Nat) (fun k => [(5, oi k)]) (fun _ => []) (fun k => k ≤ s.size ∧ mV s = ((List.range s.size).drop k).all (low s)) (fun k => s.size - k) 0 (fun _ => ?_) ?_ ?_ (fun k hk => ?_)
 ·simp only [go_sem]
 ·simp only [go_sem]; simp
 ·simp [mV]
 ·obtain ⟨hk, hq⟩ := hk
  simp only [go_sem]
  refine aD ?_
  refine cnd rfl (fun h => ?_) (fun h => ?_)
  ·simp only [decide_eq_true_eq, Int.ofNat_lt] at h
   have h' : k < (List.range s.size).length := by simpa using h
   have hd := List.drop_eq_getElem_cons h'
   rw [hd, List.all_cons, List.getElem_range] at hq
   have hb := a4t s k
   by_cases h1 : kS s k < 97
   ·have hf : mV s = false := by rw [hq]; simp [low, inB]; omega
    have q0 := @h; have q1 := @h1; refine gG ?_
    exact aA ⟨⟨_, rfl, by simp only [go_sem, bS, hf, Bool.false_and]⟩, trivial⟩
   by_cases h2 : 122 < kS s k
   ·have hf : mV s = false := by rw [hq]; simp [low, inB]; omega
    have q0 := @h; have q1 := @h1; have q2 := @h2; have q3 := @decide_false; refine jW ?_
    exact aA ⟨⟨_, rfl, by simp only [go_sem, bS, hf, Bool.false_and]⟩, trivial⟩
   ·have q0 := @h; have q1 := @h1; have q2 := @h2; have q3 := @decide_false; refine jW ?_
    refine aF (k + 1) ?_ ?_ ?_
    ·simp only [go_sem]; simp
    ·refine ⟨h, ?_⟩
     have hl : low s k = true := by simp [low, inB]; omega
     rw [hq, hl]; simp
    ·omega
  ·simp only [decide_eq_false_iff_not] at h
   have e : k = s.size := by omega
   have hq' : mV s = true := by
    rw [hq, List.drop_of_length_le (by simp [e])]; rfl
   refine iE (bO s.size 1 n) ?_
   refine aA ⟨⟨_, rfl, ?_⟩, ?_⟩
   ·simp only [go_sem, bS, hq']
   ·trivial
theorem aN (s : ByteArray) (hs : s.size ≤ 4300000) : FnC Tryz.prog 117 [os s] (ob (bS s 1)) := by
 refine ent Tryz.func117 rfl Tryz.call117 rfl (fun C => ?_); simp only [go_sem, st0, Tryz.ntmps117]
 refine iE (a3a s 1 hs) ?_
 refine aA ⟨⟨_, rfl, ?_⟩, ?_⟩
 ·simp only [go_sem]
 ·trivial
theorem b4N (s : ByteArray) : bS s 1 = (decide ((s.size : Int) = 1) && low s 0) := by
 unfold bS mV inB
 rcases Nat.lt_trichotomy s.size 1 with h | h | h
 ·have : s.size = 0 := by omega
  simp [this]
 ·simp [h, List.range_succ]
 ·have h1 : ¬ ((s.size : Int) ≤ 1) := by omega
  have h2 : ¬ ((s.size : Int) = 1) := by omega
  simp [h1, h2]
theorem aB (s : ByteArray) : FnC Tryz.prog 127 [os s] (ob (bS s 1)) := by
 rw [b4N]
 refine ent Tryz.func127 rfl Tryz.call127 rfl (fun C => ?_); simp only [go_sem, st0, Tryz.ntmps127]
 by_cases h0 : (s.size : Int) = 1
 ·have h0' : 0 < s.size := by omega
  by_cases h1 : 97 ≤ kS s 0 <;> by_cases h2 : kS s 0 ≤ 122
  all_goals
   have q0 := @h0; have q1 := @h0'; have q2 := @h1; have q3 := @h2; have q4 := @decide_false; have q5 := @Int.toNat_zero; have q6 := @Int.le_refl; refine a7o ?_
   refine aA ⟨⟨_, rfl, ?_⟩, ?_⟩
   ·simp only [go_sem]; simp [h0, h1, h2, low, inB]
   ·trivial
 ·have q0 := @h0; have q1 := @decide_false; refine gG ?_
  refine aA ⟨⟨_, rfl, ?_⟩, ?_⟩
  ·simp only [go_sem]; simp [h0]
  ·trivial
theorem bK (s : ByteArray) (hs : s.size ≤ 4300000) : FnC Tryz.prog 102 [os s] (ob (bS s 6)) := by
 refine ent Tryz.func102 rfl Tryz.call102 rfl (fun C => ?_); simp only [go_sem, st0, Tryz.ntmps102]
 refine iE (a3a s 6 hs) ?_
 exact aA ⟨⟨_, rfl, by simp only [go_sem]⟩, trivial⟩
theorem aV (s : ByteArray) (hs : s.size ≤ 4300000) : FnC Tryz.prog 100 [os s] (ob (bS s 6)) := by
 refine ent Tryz.func100 rfl Tryz.call100 rfl (fun C => ?_); simp only [go_sem, st0, Tryz.ntmps100]
 refine aD ?_
 refine aY (α := Nat) (fun k => [(6, oi k)]) (fun _ => []) (fun k => k ≤ s.size ∧ mV s = ((List.range s.size).drop k).all (low s)) (fun k => s.size - k) 0 (fun _ => ?_) ?_ ?_ (fun k hk => ?_)
 ·simp only [go_sem]
 ·simp only [go_sem]; simp
 ·simp [mV]
 ·obtain ⟨hk, hq⟩ := hk
  simp only [go_sem]
  refine aD ?_
  refine cnd rfl (fun h => ?_) (fun h => ?_)
  ·simp only [decide_eq_true_eq, Int.ofNat_lt] at h
   have h' : k < (List.range s.size).length := by simpa using h
   have hd := List.drop_eq_getElem_cons h'
   rw [hd, List.all_cons, List.getElem_range] at hq
   have hb := a4t s k
   by_cases h1 : kS s k < 97
   ·have hf : mV s = false := by rw [hq]; simp [low, inB]; omega
    have q0 := @h; have q1 := @h1; refine gG ?_
    exact aA ⟨⟨_, rfl, by simp only [go_sem, bS, hf, Bool.false_and]⟩, trivial⟩
   by_cases h2 : 122 < kS s k
   ·have hf : mV s = false := by rw [hq]; simp [low, inB]; omega
    have q0 := @h; have q1 := @h1; have q2 := @h2; have q3 := @decide_false; refine jW ?_
    exact aA ⟨⟨_, rfl, by simp only [go_sem, bS, hf, Bool.false_and]⟩, trivial⟩
   ·have q0 := @h; have q1 := @h1; have q2 := @h2; have q3 := @decide_false; refine jW ?_
    refine aF (k + 1) ?_ ?_ ?_
    ·simp only [go_sem]; simp
    ·refine ⟨h, ?_⟩
     have hl : low s k = true := by simp [low, inB]; omega
     rw [hq, hl]; simp
    ·omega
  ·simp only [decide_eq_false_iff_not] at h
   have e : k = s.size := by omega
   have hq' : mV s = true := by
    rw [hq, List.drop_of_length_le (by simp [e])]; rfl
   refine iE (aP s.size 1 6) ?_
   refine aA ⟨⟨_, rfl, ?_⟩, ?_⟩
   ·simp only [go_sem, bS, hq']
   ·trivial
def fB (v : TValue) : Bool :=
 if v.fKind = 0 then decide (v.fInt = 0) && decide (v.fStr = ⟨#[]⟩)
 else if v.fKind = 1 then inB v.fInt 0 999 && decide (v.fStr = ⟨#[]⟩)
 else if v.fKind = 2 then bS v.fStr 6 && decide (v.fInt = 0) else false
theorem aC (v : TValue) (hs : v.fStr.size ≤ 4300000) : FnC Tryz.prog 76 [fM v] (ob (fB v)) := by
 refine ent Tryz.func76 rfl Tryz.call76 rfl (fun C => ?_); simp only [go_sem, st0, Tryz.ntmps76]
 by_cases h0 : v.fKind = 0
 ·have q0 := @h0; have q1 := @decide_true; refine gG ?_
  exact aA ⟨⟨_, rfl, by simp only [go_sem, fB, h0, if_true, decide_true, Bool.true_and]⟩, trivial⟩
 by_cases h1 : v.fKind = 1
 ·cases hb : inB v.fInt 0 999
  ·have q0 := @h0; have q1 := @h1; have q2 := @decide_true; have q3 := @decide_false; have q4 := @hb; refine a2d (aP v.fInt 0 999) ?_
   exact aA ⟨⟨_, rfl, by simp only [go_sem, fB, h0, h1, hb, if_true, if_false, Bool.false_and]⟩, trivial⟩
  ·have q0 := @h0; have q1 := @h1; have q2 := @decide_true; have q3 := @decide_false; have q4 := @hb; refine a2d (aP v.fInt 0 999) ?_
   exact aA ⟨⟨_, rfl, by simp only [go_sem, fB, h0, h1, hb, if_true, if_false, Bool.true_and]⟩, trivial⟩
 by_cases h2 : v.fKind = 2
 ·cases hb : bS v.fStr 6
  ·have q0 := @h0; have q1 := @h1; have q2 := @h2; have q3 := @decide_true; have q4 := @decide_false; have q5 := @hb; refine zX (aV v.fStr hs) ?_
   exact aA ⟨⟨_, rfl, by simp only [go_sem, fB, h0, h1, h2, hb, if_true, if_false, Bool.false_and]⟩, trivial⟩
  ·have q0 := @h0; have q1 := @h1; have q2 := @h2; have q3 := @decide_true; have q4 := @decide_false; have q5 := @hb; refine zX (aV v.fStr hs) ?_
   exact aA ⟨⟨_, rfl, by simp only [go_sem, fB, h0, h1, h2, hb, if_true, if_false, Bool.true_and]⟩, trivial⟩
 ·have q0 := @h0; have q1 := @h1; have q2 := @h2; have q3 := @decide_false; refine jW ?_
  exact aA ⟨⟨_, rfl, by simp only [go_sem, fB, h0, h1, h2, if_false]⟩, trivial⟩
theorem aU (v : TValue) (hs : v.fStr.size ≤ 4300000) : FnC Tryz.prog 78 [fM v] (ob (fB v)) := by
 refine ent Tryz.func78 rfl Tryz.call78 rfl (fun C => ?_); simp only [go_sem, st0, Tryz.ntmps78]
 by_cases h0 : v.fKind = 0
 ·have q0 := @h0; have q1 := @decide_true; refine gG ?_
  exact aA ⟨⟨_, rfl, by simp only [go_sem, fB, h0, if_true, decide_true, Bool.true_and]⟩, trivial⟩
 by_cases h1 : v.fKind = 1
 ·cases hb : inB v.fInt 0 999
  ·have q0 := @h0; have q1 := @h1; have q2 := @decide_true; have q3 := @decide_false; have q4 := @hb; refine a2d (bO v.fInt 0 999) ?_
   exact aA ⟨⟨_, rfl, by simp only [go_sem, fB, h0, h1, hb, if_true, if_false, Bool.false_and]⟩, trivial⟩
  ·have q0 := @h0; have q1 := @h1; have q2 := @decide_true; have q3 := @decide_false; have q4 := @hb; refine a2d (bO v.fInt 0 999) ?_
   exact aA ⟨⟨_, rfl, by simp only [go_sem, fB, h0, h1, hb, if_true, if_false, Bool.true_and]⟩, trivial⟩
 by_cases h2 : v.fKind = 2
 ·cases hb : bS v.fStr 6
  ·have q0 := @h0; have q1 := @h1; have q2 := @h2; have q3 := @decide_true; have q4 := @decide_false; have q5 := @hb; refine zX (bK v.fStr hs) ?_
   exact aA ⟨⟨_, rfl, by simp only [go_sem, fB, h0, h1, h2, hb, if_true, if_false, Bool.false_and]⟩, trivial⟩
  ·have q0 := @h0; have q1 := @h1; have q2 := @h2; have q3 := @decide_true; have q4 := @decide_false; have q5 := @hb; refine zX (bK v.fStr hs) ?_
   exact aA ⟨⟨_, rfl, by simp only [go_sem, fB, h0, h1, h2, hb, if_true, if_false, Bool.true_and]⟩, trivial⟩
 ·have q0 := @h0; have q1 := @h1; have q2 := @h2; have q3 := @decide_false; refine jW ?_
  exact aA ⟨⟨_, rfl, by simp only [go_sem, fB, h0, h1, h2, if_false]⟩, trivial⟩
theorem a1q : ((List.range 20).map fun i => Value.int .u64 ((10 ^ i : Nat) : Int)) = Lib.pow10Tab.map fun z => Value.int .u64 z := by
 unfold Lib.pow10Tab; rw [List.map_map]; rfl
theorem vE : Tryz.prog.globalNamed "internal/strconv.uint64pow10" = some 0 := by kernel_rfl
theorem b5R {w : World} {X : List Nat} (h : tabOK w X) : Lib.TabIs Tryz.prog w "internal/strconv.uint64pow10" .u64 Lib.pow10Tab := by
 obtain ⟨_, ty, fz, h1⟩ := h _ (List.mem_cons_self ..)
 unfold Lib.TabIs World.var?
 rw [vE, Option.bind_some, h1]
 simp only [a1q]
theorem b5S {w : World} (h : Lib.TabIs Tryz.prog w "internal/strconv.uint64pow10" .u64 Lib.pow10Tab) : tabOK w [] := by
 intro t ht
 obtain rfl := List.mem_singleton.1 ht
 refine ⟨by simp, ?_⟩
 unfold Lib.TabIs World.var? at h
 rw [vE, Option.bind_some] at h
 simp only [a1q]
 split at h
 ·rename_i cs ty fz e
  cases h
  exact ⟨ty, fz, e⟩
 ·cases h
def zB (n : Int) : ByteArray := ⟨(Lib.itoa n).toArray⟩
theorem b4j (n : Int) (hn : inR .i64 n) : FnC Tryz.prog 101 [oi n] (os (zB n)) := by
 refine ⟨Tryz.call101, fun V w vs htab hm hargs => ?_⟩
 obtain ⟨hl, hv⟩ := hargs
 match vs, hl with
 | [y], _ =>
  obtain ⟨rfl, _⟩ := bE (hv 0 (oi n) y rfl rfl)
  refine (Any.strconv_Itoa Tryz.laysItoa n hn.1 hn.2 w (b5R htab)).mono ?_
  rintro e w' ⟨rfl, k, ob', rfl⟩
  have hb : ∀ k' : Nat, k' < w.heap.size → (w.heap ++ ob')[k']? = w.heap[k']? := fun k' hk' => Array.getElem?_append_left hk'
  refine ⟨_, rfl, ⟨V, [], View.le.refl V, ?_, (fun b cs h1 h2 => by rw [h1] at h2; cases h2), ?_, List.nodup_nil, (fun b hb => by cases hb)⟩, ⟨rfl, rfl, rfl, ?_, hb⟩⟩
  ·intro b cs hbc
   obtain ⟨c, ty, fz, h1, h2⟩ := hm b cs hbc
   exact ⟨c, ty, fz, by rw [← h1]; exact hb b (Array.getElem?_eq_some_iff.1 h1).1, h2⟩
  ·refine ⟨[.string (zB n)], rfl, [[]], rfl, rfl, rfl, fun k a y s h1 h2 h3 => ?_⟩
   match k, h1, h2, h3 with
   | 0, rfl, rfl, rfl => exact ⟨rfl, [], .v _ rfl⟩
  ·show w.heap.size ≤ (w.heap ++ ob').size
   rw [Array.size_append]; omega
theorem a0G (n : Int) (hn : inR .i64 n) : FnC Tryz.prog 77 [oi n] (os (zB n)) := by
 refine ent Tryz.func77 rfl Tryz.call77 rfl (fun C => ?_); simp only [go_sem, st0, Tryz.ntmps77]
 refine iE (b4j n hn) ?_
 exact aA ⟨⟨_, rfl, by simp only [go_sem]⟩, trivial⟩
theorem a4l (d : Int) (h0 : 0 ≤ d) (h9 : d < 10) : FnC Tryz.prog 103 [oi d] (.o (.d (.v (.int .u8 (48 + d))))) := by
 refine ent Tryz.func103 rfl Tryz.call103 rfl (fun C => ?_); simp only [go_sem, st0, Tryz.ntmps103]
 have g : decide (d < 10) = true := by simp [h9]
 have i1 : inR .i64 (48 + d) := by unfold inR; simp only; omega
 have i2 : inR .u8 (48 + d) := by unfold inR; simp only; omega
 have q0 := @g; have q1 := @i1; have q2 := @i2; refine jJ ?_
 exact aA ⟨⟨_, rfl, by simp only [go_sem]⟩, trivial⟩
def vF (u : Nat) : List UInt8 := if u = 0 then [] else Lib.decDigits u
theorem a4m {u : Nat} (h : u ≠ 0) : vF u = vF (u / 10) ++ [UInt8.ofNat (48 + u % 10)] := by
 unfold vF
 rw [if_neg h, Lib.decDigits]
 by_cases h1 : u < 10
 ·have e1 : u / 10 = 0 := by omega
  have e2 : u % 10 = u := by omega
  rw [dif_pos h1, e1, if_pos rfl, e2]; rfl
 ·rw [dif_neg h1, if_neg (by omega)]
theorem a6J : ∀ (k u : Nat), u < 10 ^ k → (vF u).length ≤ k
 | 0, u, h => by have : u = 0 := by simpa using h
                 subst this; simp [vF]
 | k + 1, u, h => by
  by_cases h0 : u = 0
  ·subst h0; simp [vF]
  ·rw [a4m h0, List.length_append]
   have := a6J k (u / 10) (by rw [Nat.pow_succ] at h; omega)
   simp; omega
theorem b1b {n : Int} (h : n ≠ 0) : Lib.itoa n = if n < 0 then 45 :: vF n.natAbs else vF n.natAbs := by
 unfold Lib.itoa vF
 have h1 : n.natAbs ≠ 0 := by omega
 rw [if_neg h1]
 split
 ·rfl
 ·have : n.toNat = n.natAbs := by omega
  rw [this]
theorem a0H (n : Int) (hn : inR .i64 n) : FnC Tryz.prog 79 [oi n] (os (zB n)) := by
 refine ent Tryz.func79 rfl Tryz.call79 rfl (fun C => ?_); simp only [go_sem, st0, Tryz.ntmps79]
 have hn' := hn
 unfold inR at hn'
 simp only at hn'
 by_cases h0 : n = 0
 ·subst h0
  have g : decide ((0 : Int) = 0) = true := rfl
  have e : zB 0 = ⟨#[48]⟩ := by simp [zB, Lib.itoa, Lib.decDigits]
  have q0 := @g; refine fF ?_
  exact aA ⟨⟨_, rfl, by simp only [go_sem, e]⟩, trivial⟩
 have g : decide (n = 0) = false := by simp [h0]
 have q0 := @g; refine fF ?_
 have hL : (vF n.natAbs).length ≤ 19 := a6J 19 _ (by omega)
 have key : ∀ s : ByteArray, s.data.toList = vF n.natAbs → (if n < 0 then (⟨#[45]⟩ : ByteArray) ++ s else s) = zB n := by
  intro s hs
  unfold zB
  rw [b1b h0, ← hs]
  split
  ·apply ByteArray.ext; apply Array.ext'; simp
  ·rfl
 refine aY (α := Int × ByteArray) (fun x => [(0, oi x.1), (4, os x.2)]) (fun _ => []) (fun x => inR .i64 x.1 ∧ vF x.1.natAbs ++ x.2.data.toList = vF n.natAbs) (fun x => x.1.natAbs) (n, ⟨#[]⟩) (fun _ => ?_) ?_ ?_ (fun x hx => ?_)
 ·simp only [go_sem]
 ·simp only [go_sem]; simp
 ·exact ⟨hn, by simp⟩
 ·obtain ⟨m, s⟩ := x
  obtain ⟨hm, hs⟩ := hx
  simp only at hm hs
  have hm' := hm
  unfold inR at hm'
  simp only at hm'
  have hsl : s.size ≤ 19 := by
   have := congrArg List.length hs
   rw [List.length_append] at this
   have e : s.size = s.data.toList.length := rfl
   omega
  simp only [go_sem]
  by_cases h1 : m = 0
  ·subst h1
   have g1 : decide ((0 : Int) = 0) = true := rfl
   have hs' : s.data.toList = vF n.natAbs := by simpa [vF] using hs
   have hk := key s hs'
   by_cases h2 : n < 0
   ·have g2 : decide (n < 0) = true := by simp [h2]
    rw [if_pos h2] at hk
    have i1 : (⟨#[45]⟩ : ByteArray).size + s.size ≤ maxLen := by unfold maxLen; have : (⟨#[45]⟩ : ByteArray).size = 1 := rfl; omega
    have q0 := @g1; have q1 := @g2; have q2 := @i1; have q3 := @Bool.not_true; refine jW ?_
    exact aA ⟨⟨_, rfl, by simp only [go_sem, hk]⟩, trivial⟩
   ·have g2 : decide (n < 0) = false := by simp [h2]
    rw [if_neg h2] at hk
    have q0 := @g1; have q1 := @g2; have q2 := @Bool.not_true; refine jJ ?_
    exact aA ⟨⟨_, rfl, by simp only [go_sem, hk]⟩, trivial⟩
  have g1 : decide (m = 0) = false := by simp [h1]
  have hu : m.natAbs ≠ 0 := by omega
  have q1 : (m.tdiv 10).natAbs = m.natAbs / 10 := by rw [Int.natAbs_tdiv]; rfl
  have q2 : (m.tmod 10).natAbs = m.natAbs % 10 := by rw [Int.natAbs_tmod]; rfl
  have i1 : inR .i64 (m.tdiv 10) := by unfold inR; simp only; omega
  have i3 : inR .i64 (0 - m.tmod 10) := by unfold inR; simp only; omega
  have hstep : ∀ d : Int, d = ((m.natAbs % 10 : Nat) : Int) → vF (m.tdiv 10).natAbs ++ (rQ [48 + d] ++ s).data.toList = vF n.natAbs := by
   intro d hd
   rw [← hs, a4m hu, q1, hd]
   have e : (48 + ((m.natAbs % 10 : Nat) : Int)).toNat = 48 + m.natAbs % 10 := by omega
   have e2 : (rQ [48 + ((m.natAbs % 10 : Nat) : Int)] ++ s).data.toList = UInt8.ofNat (48 + m.natAbs % 10) :: s.data.toList := by
    unfold rQ
    rw [List.map_cons, List.map_nil, e]
    generalize UInt8.ofNat (48 + m.natAbs % 10) = z
    simp
   rw [e2, List.append_assoc]; rfl
  have i4 : ∀ d : Int, (rQ [48 + d]).size + s.size ≤ maxLen := fun d => by
   have : (rQ [48 + d]).size = 1 := rfl
   unfold maxLen; omega
  by_cases h3 : m.tmod 10 < 0
  ·have g3 : decide (m.tmod 10 < 0) = true := by simp [h3]
   have q0 := @g1; have q1 := @g3; have q2 := @i1; have q3 := @i3; have q4 := @i4; have q5 := @Bool.not_false; refine zX (a4l (0 - m.tmod 10) (by omega) (by omega)) ?_
   refine aF (m.tdiv 10, rQ [48 + (0 - m.tmod 10)] ++ s) ?_ ?_ ?_
   ·simp only [go_sem]; try simp
   ·exact ⟨i1, hstep _ (by omega)⟩
   ·simp only; omega
  ·have g3 : decide (m.tmod 10 < 0) = false := by simp [h3]
   have q0 := @g1; have q1 := @g3; have q2 := @i1; have q3 := @i3; have q4 := @i4; have q5 := @Bool.not_false; refine zX (a4l (m.tmod 10) (by omega) (by omega)) ?_
   refine aF (m.tdiv 10, rQ [48 + m.tmod 10] ++ s) ?_ ?_ ?_
   ·simp only [go_sem]; try simp
   ·exact ⟨i1, hstep _ (by omega)⟩
   ·simp only; omega
def fmtV (v : TValue) : ByteArray := if fB v then (if v.fKind = 1 then zB v.fInt else if v.fKind = 2 then v.fStr else ⟨#[45]⟩) else ⟨#[63]⟩
theorem yA (v : TValue) (hs : v.fStr.size ≤ 4300000) (hi : inR .i64 v.fInt) : FnC Tryz.prog 46 [fM v] (os (fmtV v)) := by
 refine ent Tryz.func46 rfl Tryz.call46 rfl (fun C => ?_); simp only [go_sem, st0, Tryz.ntmps46]
 cases h0 : fB v
 ·have q0 := @h0; refine lF (aC v hs) ?_
  exact aA ⟨⟨_, rfl, by simp only [go_sem, fmtV, h0, if_false, Bool.false_eq_true]⟩, trivial⟩
 by_cases h1 : v.fKind = 1
 ·have d1 : decide (v.fKind = 1) = true := by simp [h1]
  have q0 := @h0; have q1 := @d1; refine yM (aC v hs) (a0G v.fInt hi) ?_
  exact aA ⟨⟨_, rfl, by simp only [go_sem, fmtV, h0, h1, if_true]⟩, trivial⟩
 have d1 : decide (v.fKind = 1) = false := by simp [h1]
 by_cases h2 : v.fKind = 2
 ·have d2 : decide (v.fKind = 2) = true := by simp [h2]
  have q0 := @h0; have q1 := @d1; have q2 := @d2; refine rV (aC v hs) ?_
  exact aA ⟨⟨_, rfl, by simp only [go_sem, fmtV, h0, h1, h2, if_true, if_false]⟩, trivial⟩
 ·have d2 : decide (v.fKind = 2) = false := by simp [h2]
  have q0 := @h0; have q1 := @d1; have q2 := @d2; refine rV (aC v hs) ?_
  exact aA ⟨⟨_, rfl, by simp only [go_sem, fmtV, h0, h1, h2, if_true, if_false]⟩, trivial⟩
theorem yB (v : TValue) (hs : v.fStr.size ≤ 4300000) (hi : inR .i64 v.fInt) : FnC Tryz.prog 47 [fM v] (os (fmtV v)) := by
 refine ent Tryz.func47 rfl Tryz.call47 rfl (fun C => ?_); simp only [go_sem, st0, Tryz.ntmps47]
 cases h0 : fB v
 ·have q0 := @h0; refine lF (aU v hs) ?_
  exact aA ⟨⟨_, rfl, by simp only [go_sem, fmtV, h0, if_false, Bool.false_eq_true]⟩, trivial⟩
 by_cases h1 : v.fKind = 1
 ·have d1 : decide (v.fKind = 1) = true := by simp [h1]
  have q0 := @h0; have q1 := @d1; refine yM (aU v hs) (a0H v.fInt hi) ?_
  exact aA ⟨⟨_, rfl, by simp only [go_sem, fmtV, h0, h1, if_true]⟩, trivial⟩
 have d1 : decide (v.fKind = 1) = false := by simp [h1]
 by_cases h2 : v.fKind = 2
 ·have d2 : decide (v.fKind = 2) = true := by simp [h2]
  have q0 := @h0; have q1 := @d1; have q2 := @d2; refine rV (aU v hs) ?_
  exact aA ⟨⟨_, rfl, by simp only [go_sem, fmtV, h0, h1, h2, if_true, if_false]⟩, trivial⟩
 ·have d2 : decide (v.fKind = 2) = false := by simp [h2]
  have q0 := @h0; have q1 := @d1; have q2 := @d2; refine rV (aU v hs) ?_
  exact aA ⟨⟨_, rfl, by simp only [go_sem, fmtV, h0, h1, h2, if_true, if_false]⟩, trivial⟩
theorem a0I (v : TValue) (hs : v.fStr.size ≤ 4300000) (hi : inR .i64 v.fInt) : FnC Tryz.prog 17 [fM v] (os (fmtV v)) := by
 refine ent Tryz.func17 rfl Tryz.call17 rfl (fun C => ?_); simp only [go_sem, st0, Tryz.ntmps17]
 refine iE (yA v hs hi) ?_
 exact aA ⟨⟨_, rfl, by simp only [go_sem]⟩, trivial⟩
theorem a0J (v : TValue) (hs : v.fStr.size ≤ 4300000) (hi : inR .i64 v.fInt) : FnC Tryz.prog 18 [fM v] (os (fmtV v)) := by
 refine ent Tryz.func18 rfl Tryz.call18 rfl (fun C => ?_); simp only [go_sem, st0, Tryz.ntmps18]
 refine iE (yB v hs hi) ?_
 exact aA ⟨⟨_, rfl, by simp only [go_sem]⟩, trivial⟩
end Go.Proofs.YtakopfjdmmnjcaaGreatDoor
end
section
namespace Go.Proofs.YtakopfjdmmnjcaaGreatDoor
open Go Go.Sx Go.RowKit Go.Proofs
theorem a8B : (Tryz.prog.globals[0]?).map (·.type) = some 174 := by kernel_rfl
theorem a3S : Tryz.prog.cellsOf 174 = 20 := by kernel_rfl
theorem a5t : Tryz.prog.cellsOf 163 = 1 := by kernel_rfl
theorem b1a : Tryz.prog.underlying 174 = some (.array 20 163) := by kernel_rfl
theorem a8C : Tryz.prog.underlying 163 = some (.int .u64) := by kernel_rfl
theorem a6I : (Rows.laid_internal_strconv_uint64pow10 : DataW Unit) = Lib.tabData .u64 Lib.pow10Tab := by kernel_rfl
theorem b4i {W : World} (h : laidMetH Tryz.prog [("math/bits.deBruijn32tab", Rows.laid_math_bits_deBruijn32tab), ("math/bits.deBruijn64tab", Rows.laid_math_bits_deBruijn64tab), ("internal/strconv.uint64pow10", Rows.laid_internal_strconv_uint64pow10)] W) : tabOK W [] := by
 have h' : laidMet Tryz.prog [("math/bits.deBruijn32tab", Rows.laid_math_bits_deBruijn32tab), ("math/bits.deBruijn64tab", Rows.laid_math_bits_deBruijn64tab), ("internal/strconv.uint64pow10", Rows.laid_internal_strconv_uint64pow10)] W := h
 have h2 := h'.tail.tail
 rw [a6I] at h2
 exact b5S (Lib.tabIs_of_head (rest := []) vE a8B b1a a8C a5t a3S h2)
def a8D : DataW Unit → Array Value
 | .agg l => (l.map fun | .lit (.int k n) => Value.int k n | _ => .bool false).toArray
 | _ => #[]
def b5Q (cs : Array Value) : Obj → Obj
 | .cells _ t frozen => .cells cs t frozen
 | o => o
noncomputable def a0F (os : Os) : World :=
 { World.holding Tryz.prog os ⟨#[], #[], []⟩ with heap := (((World.holding Tryz.prog os ⟨#[], #[], []⟩).heap.modify 1 (b5Q (a8D Rows.laid_math_bits_deBruijn32tab))).modify 2 (b5Q (a8D Rows.laid_math_bits_deBruijn64tab))).modify 0 (b5Q (a8D Rows.laid_internal_strconv_uint64pow10)) }
end Go.Proofs.YtakopfjdmmnjcaaGreatDoor
end
