/- Joined texts. -/
import Derived.Test.YtgpoopjfkplilaaGreatDoorZ06
import Derived.Test.YtgpoopjfkplilaaGreatDoorZ01
import Derived.Lib.LaidTab
import Derived.Sort.Row
import Derived.Sort.Grow
import Derived.Shelf.RegionOpenPlain
import Derived.WalkKit
import Derived.Deep.LoopGhost
import Derived.Deep.Draws
import Derived.Lib.Walk
import Derived.Lib.SliceRun
import Derived.Shelf.SlicesE.Kit
import Derived.Shelf.SlicesE.DeleteFunc
set_option linter.all false
section
section
set_option linter.all false
namespace Go.Proofs.YtgpoopjfkplilaaGreatDoor
open Go Go.Sx Go.RowKit Go.Proofs
def b8R (n : Int) (w : Nat) : Int := if n - w < 0 then -1 else n - w
def dU {α : Type} (w : α → Nat) : List α → Nat
 | [] => 0
 | x :: l => w x + dU w l
theorem eT {α : Type} (w : α → Nat) : ∀ (l : List α) {k : Nat} (h : k < l.length), w l[k] ≤ dU w l
 | [], _, h => by simp at h
 | x :: l, 0, _ => by simp [dU]
 | x :: l, k + 1, h => by
  have := eT w l (k := k) (by simpa using h)
  simp only [List.getElem_cons_succ, dU]; omega
@[go_sem] def yQ (n : Int) : List D := [iv n]
@[go_sem] def dL (s : ByteArray) : List D := [sv s]
abbrev slI (l : List Int) : D := .sl (l.map yQ)
abbrev slS (l : List ByteArray) : D := .sl (l.map dL)
def b6T (l : List ByteArray) : Nat := l.length + dU ByteArray.size l
def a4T (l : List Int) : Prop := l.length ≤ 9223372036854775807 ∧ ∀ i ∈ l, inR .i64 i
def b6l (l : List ByteArray) : Prop := l.length ≤ 9223372036854775807 ∧ ∀ s ∈ l, s.size ≤ 9223372036854775807
end Go.Proofs.YtgpoopjfkplilaaGreatDoor
end
section
set_option linter.all false
set_option maxHeartbeats 1000000
namespace Go.Proofs.YtgpoopjfkplilaaGreatDoor
open Go Go.Sx Go.RowKit Go.Proofs
structure TValue where
 fKind : Int
 fInt : Int
 fStr : ByteArray
@[go_sem] def b6U (x : TValue) : List D := [iv x.fKind, iv x.fInt, sv x.fStr]
@[go_sem] def lC (x : TValue) : SV := .g [.d (iv x.fKind), .d (iv x.fInt), .d (sv x.fStr)]
def lD (x : TValue) : Nat := x.fStr.size
def vC (x : TValue) : Prop := inR .i64 x.fKind ∧ inR .i64 x.fInt ∧ x.fStr.size ≤ 9223372036854775807
def b7O (l : List TValue) : Nat := l.length + dU lD l
def b6V (l : List TValue) : Prop := l.length ≤ 9223372036854775807 ∧ ∀ x ∈ l, vC x
end Go.Proofs.YtgpoopjfkplilaaGreatDoor
end
section
set_option linter.all false
set_option maxHeartbeats 1000000
namespace Go.Proofs.YtgpoopjfkplilaaGreatDoor
open Go Go.Sx Go.RowKit Go.Proofs
structure TField where
 fName : ByteArray
 fKind : Int
@[go_sem] def bY (x : TField) : List D := [sv x.fName, iv x.fKind]
@[go_sem] def b1W (x : TField) : SV := .g [.d (sv x.fName), .d (iv x.fKind)]
def lW (x : TField) : Nat := x.fName.size
def b3P (x : TField) : Prop := x.fName.size ≤ 9223372036854775807 ∧ inR .i64 x.fKind
def bB (l : List TField) : Nat := l.length + dU lW l
def b1X (l : List TField) : Prop := l.length ≤ 9223372036854775807 ∧ ∀ x ∈ l, b3P x
end Go.Proofs.YtgpoopjfkplilaaGreatDoor
end
section
set_option linter.all false
set_option maxHeartbeats 1000000
namespace Go.Proofs.YtgpoopjfkplilaaGreatDoor
open Go Go.Sx Go.RowKit Go.Proofs
structure TAttr where
 fName : ByteArray
 fValue : TValue
@[go_sem] def fF (x : TAttr) : List D := [sv x.fName, iv x.fValue.fKind, iv x.fValue.fInt, sv x.fValue.fStr]
@[go_sem] def b8S (x : TAttr) : SV := .g [.d (sv x.fName), .d (iv x.fValue.fKind), .d (iv x.fValue.fInt), .d (sv x.fValue.fStr)]
def iX (x : TAttr) : Nat := x.fName.size + lD x.fValue
def a7O (x : TAttr) : Prop := x.fName.size ≤ 9223372036854775807 ∧ vC x.fValue
def eB (l : List TAttr) : Nat := l.length + dU iX l
def vE (l : List TAttr) : Prop := l.length ≤ 9223372036854775807 ∧ ∀ x ∈ l, a7O x
end Go.Proofs.YtgpoopjfkplilaaGreatDoor
end
section
set_option linter.all false
set_option maxHeartbeats 1000000
namespace Go.Proofs.YtgpoopjfkplilaaGreatDoor
open Go Go.Sx Go.RowKit Go.Proofs
structure TFile where
 fID : Int
 fOwner : Int
 fShared : Bool
 fLink : Int
 fAttrs : List TAttr
@[go_sem] def dX (x : TFile) : List D := [iv x.fID, iv x.fOwner, bv x.fShared, iv x.fLink, .sl (x.fAttrs.map fF)]
@[go_sem] def a0I (x : TFile) : SV := .g [.d (iv x.fID), .d (iv x.fOwner), .d (bv x.fShared), .d (iv x.fLink), .d (.sl (x.fAttrs.map fF))]
@[go_sem] def a8P (x : TFile) : SV := .g [.d (iv x.fID), .d (iv x.fOwner), .d (bv x.fShared), .d (iv x.fLink), .w 124 4 (x.fAttrs.map fF)]
def fG (x : TFile) : Nat := eB x.fAttrs
def a0j (x : TFile) : Prop := inR .i64 x.fID ∧ inR .i64 x.fOwner ∧ True ∧ inR .i64 x.fLink ∧ vE x.fAttrs
def iR (l : List TFile) : Nat := l.length + dU fG l
def b3Q (l : List TFile) : Prop := l.length ≤ 9223372036854775807 ∧ ∀ x ∈ l, a0j x
end Go.Proofs.YtgpoopjfkplilaaGreatDoor
end
section
set_option linter.all false
set_option maxHeartbeats 1000000
namespace Go.Proofs.YtgpoopjfkplilaaGreatDoor
open Go Go.Sx Go.RowKit Go.Proofs
structure TStore where
 fSchema : List TField
 fFiles : List TFile
 fNextID : Int
@[go_sem] def b6W (x : TStore) : List D := [.sl (x.fSchema.map bY), .sl (x.fFiles.map dX), iv x.fNextID]
@[go_sem] def qZ (x : TStore) : SV := .g [.d (.sl (x.fSchema.map bY)), .d (.sl (x.fFiles.map dX)), .d (iv x.fNextID)]
@[go_sem] def a7P (x : TStore) : SV := .g [.w 81 2 (x.fSchema.map bY), .w 86 5 (x.fFiles.map dX), .d (iv x.fNextID)]
def eD (x : TStore) : Nat := bB x.fSchema + iR x.fFiles
def a4U (x : TStore) : Prop := b1X x.fSchema ∧ b3Q x.fFiles ∧ inR .i64 x.fNextID
def b7P (l : List TStore) : Nat := l.length + dU eD l
def b6X (l : List TStore) : Prop := l.length ≤ 9223372036854775807 ∧ ∀ x ∈ l, a4U x
end Go.Proofs.YtgpoopjfkplilaaGreatDoor
end
section
set_option linter.all false
set_option maxHeartbeats 1000000
namespace Go.Proofs.YtgpoopjfkplilaaGreatDoor
open Go Go.Sx Go.RowKit Go.Proofs
structure TNode where
 fOp : Int
 fLeft : Int
 fRight : Int
 fName : ByteArray
 fValue : TValue
@[go_sem] def bH (x : TNode) : List D := [iv x.fOp, iv x.fLeft, iv x.fRight, sv x.fName, iv x.fValue.fKind, iv x.fValue.fInt, sv x.fValue.fStr]
@[go_sem] def a8Q (x : TNode) : SV := .g [.d (iv x.fOp), .d (iv x.fLeft), .d (iv x.fRight), .d (sv x.fName), .d (iv x.fValue.fKind), .d (iv x.fValue.fInt), .d (sv x.fValue.fStr)]
def wC (x : TNode) : Nat := x.fName.size + lD x.fValue
def a7Q (x : TNode) : Prop := inR .i64 x.fOp ∧ inR .i64 x.fLeft ∧ inR .i64 x.fRight ∧ x.fName.size ≤ 9223372036854775807 ∧ vC x.fValue
def wNodeS (l : List TNode) : Nat := l.length + dU wC l
def b3R (l : List TNode) : Prop := l.length ≤ 9223372036854775807 ∧ ∀ x ∈ l, a7Q x
end Go.Proofs.YtgpoopjfkplilaaGreatDoor
end
section
set_option linter.all false
set_option maxHeartbeats 1000000
namespace Go.Proofs.YtgpoopjfkplilaaGreatDoor
open Go Go.Sx Go.RowKit Go.Proofs
structure TDir where
 fName : ByteArray
 fQuery : List TNode
@[go_sem] def eP (x : TDir) : List D := [sv x.fName, .sl (x.fQuery.map bH)]
@[go_sem] def b6Y (x : TDir) : SV := .g [.d (sv x.fName), .d (.sl (x.fQuery.map bH))]
@[go_sem] def b9c (x : TDir) : SV := .g [.d (sv x.fName), .w 155 7 (x.fQuery.map bH)]
def nZ (x : TDir) : Nat := x.fName.size + wNodeS x.fQuery
def b4C (x : TDir) : Prop := x.fName.size ≤ 9223372036854775807 ∧ b3R x.fQuery
def jR (l : List TDir) : Nat := l.length + dU nZ l
def b1Y (l : List TDir) : Prop := l.length ≤ 9223372036854775807 ∧ ∀ x ∈ l, b4C x
end Go.Proofs.YtgpoopjfkplilaaGreatDoor
end
end
section
section
set_option linter.all false
set_option maxHeartbeats 1000000
namespace Go.Proofs.YtgpoopjfkplilaaGreatDoor
open Go Go.Sx Go.RowKit Go.Proofs
structure TResult where
 fName : ByteArray
 fIDs : List Int
@[go_sem] def a3q (x : TResult) : List D := [sv x.fName, .sl (x.fIDs.map yQ)]
@[go_sem] def b7D (x : TResult) : SV := .g [.d (sv x.fName), .d (.sl (x.fIDs.map yQ))]
@[go_sem] def b7E (x : TResult) : SV := .g [.d (sv x.fName), .w 3 1 (x.fIDs.map yQ)]
def b3M (x : TResult) : Nat := x.fName.size + x.fIDs.length
def b1S (x : TResult) : Prop := x.fName.size ≤ 9223372036854775807 ∧ a4T x.fIDs
def b1T (l : List TResult) : Nat := l.length + dU b3M l
def b0w (l : List TResult) : Prop := l.length ≤ 9223372036854775807 ∧ ∀ x ∈ l, b1S x
end Go.Proofs.YtgpoopjfkplilaaGreatDoor
end
section
set_option linter.all false
set_option maxHeartbeats 1000000
namespace Go.Proofs.YtgpoopjfkplilaaGreatDoor
open Go Go.Sx Go.RowKit Go.Proofs
structure TDiff where
 fName : ByteArray
 fAdded : List Int
 fRemoved : List Int
@[go_sem] def b7F (x : TDiff) : List D := [sv x.fName, .sl (x.fAdded.map yQ), .sl (x.fRemoved.map yQ)]
@[go_sem] def b8M (x : TDiff) : SV := .g [.d (sv x.fName), .d (.sl (x.fAdded.map yQ)), .d (.sl (x.fRemoved.map yQ))]
@[go_sem] def b8N (x : TDiff) : SV := .g [.d (sv x.fName), .w 3 1 (x.fAdded.map yQ), .w 3 1 (x.fRemoved.map yQ)]
def b6M (x : TDiff) : Nat := x.fName.size + x.fAdded.length + x.fRemoved.length
def b5p (x : TDiff) : Prop := x.fName.size ≤ 9223372036854775807 ∧ a4T x.fAdded ∧ a4T x.fRemoved
def b8n (l : List TDiff) : Nat := l.length + dU b6M l
def b7G (l : List TDiff) : Prop := l.length ≤ 9223372036854775807 ∧ ∀ x ∈ l, b5p x
end Go.Proofs.YtgpoopjfkplilaaGreatDoor
end
section
set_option linter.all false
set_option maxHeartbeats 1000000
namespace Go.Proofs.YtgpoopjfkplilaaGreatDoor
open Go Go.Sx Go.RowKit Go.Proofs
structure TCatalog where
 fStore : TStore
 fDirs : List TDir
 fResults : List TResult
@[go_sem] def b5q (x : TCatalog) : List D := [.sl (x.fStore.fSchema.map bY), .sl (x.fStore.fFiles.map dX), iv x.fStore.fNextID, .sl (x.fDirs.map eP), .sl (x.fResults.map a3q)]
@[go_sem] def b6N (x : TCatalog) : SV := .g [.d (.sl (x.fStore.fSchema.map bY)), .d (.sl (x.fStore.fFiles.map dX)), .d (iv x.fStore.fNextID), .d (.sl (x.fDirs.map eP)), .d (.sl (x.fResults.map a3q))]
def b1U (x : TCatalog) : Nat := eD x.fStore + jR x.fDirs + b1T x.fResults
def b0x (x : TCatalog) : Prop := a4U x.fStore ∧ b1Y x.fDirs ∧ b0w x.fResults
def b6h (l : List TCatalog) : Nat := l.length + dU b1U l
def b5r (l : List TCatalog) : Prop := l.length ≤ 9223372036854775807 ∧ ∀ x ∈ l, b0x x
end Go.Proofs.YtgpoopjfkplilaaGreatDoor
end
section
set_option linter.all false
set_option maxHeartbeats 1000000
namespace Go.Proofs.YtgpoopjfkplilaaGreatDoor
open Go Go.Sx Go.RowKit Go.Proofs
structure TGroup where
 fValue : TValue
 fIDs : List Int
@[go_sem] def b6O (x : TGroup) : List D := [iv x.fValue.fKind, iv x.fValue.fInt, sv x.fValue.fStr, .sl (x.fIDs.map yQ)]
@[go_sem] def b8o (x : TGroup) : SV := .g [.d (iv x.fValue.fKind), .d (iv x.fValue.fInt), .d (sv x.fValue.fStr), .d (.sl (x.fIDs.map yQ))]
@[go_sem] def b8p (x : TGroup) : SV := .g [.d (iv x.fValue.fKind), .d (iv x.fValue.fInt), .d (sv x.fValue.fStr), .w 3 1 (x.fIDs.map yQ)]
def b5s (x : TGroup) : Nat := lD x.fValue + x.fIDs.length
def b3N (x : TGroup) : Prop := vC x.fValue ∧ a4T x.fIDs
def b7H (l : List TGroup) : Nat := l.length + dU b5s l
def b6P (l : List TGroup) : Prop := l.length ≤ 9223372036854775807 ∧ ∀ x ∈ l, b3N x
end Go.Proofs.YtgpoopjfkplilaaGreatDoor
end
section
set_option linter.all false
set_option maxHeartbeats 1000000
namespace Go.Proofs.YtgpoopjfkplilaaGreatDoor
open Go Go.Sx Go.RowKit Go.Proofs
structure TEdit where
 fOK : Bool
 fSet : List TAttr
@[go_sem] def b7I (x : TEdit) : List D := [bv x.fOK, .sl (x.fSet.map fF)]
@[go_sem] def b8O (x : TEdit) : SV := .g [.d (bv x.fOK), .d (.sl (x.fSet.map fF))]
@[go_sem] def b8P (x : TEdit) : SV := .g [.d (bv x.fOK), .w 124 4 (x.fSet.map fF)]
def b6Q (x : TEdit) : Nat := eB x.fSet
def b5t (x : TEdit) : Prop := True ∧ vE x.fSet
def b8q (l : List TEdit) : Nat := l.length + dU b6Q l
def b7J (l : List TEdit) : Prop := l.length ≤ 9223372036854775807 ∧ ∀ x ∈ l, b5t x
end Go.Proofs.YtgpoopjfkplilaaGreatDoor
end
section
set_option linter.all false
set_option maxHeartbeats 1000000
namespace Go.Proofs.YtgpoopjfkplilaaGreatDoor
open Go Go.Sx Go.RowKit Go.Proofs
structure TChange where
 fKind : Int
 fFile : TFile
 fID : Int
 fDir : TDir
@[go_sem] def b6i (x : TChange) : List D := [iv x.fKind, iv x.fFile.fID, iv x.fFile.fOwner, bv x.fFile.fShared, iv x.fFile.fLink, .sl (x.fFile.fAttrs.map fF), iv x.fID, sv x.fDir.fName, .sl (x.fDir.fQuery.map bH)]
@[go_sem] def b7K (x : TChange) : SV := .g [.d (iv x.fKind), .d (iv x.fFile.fID), .d (iv x.fFile.fOwner), .d (bv x.fFile.fShared), .d (iv x.fFile.fLink), .d (.sl (x.fFile.fAttrs.map fF)), .d (iv x.fID), .d (sv x.fDir.fName), .d (.sl (x.fDir.fQuery.map bH))]
@[go_sem] def b7L (x : TChange) : SV := .g [.d (iv x.fKind), .d (iv x.fFile.fID), .d (iv x.fFile.fOwner), .d (bv x.fFile.fShared), .d (iv x.fFile.fLink), .w 124 4 (x.fFile.fAttrs.map fF), .d (iv x.fID), .d (sv x.fDir.fName), .w 155 7 (x.fDir.fQuery.map bH)]
def b3O (x : TChange) : Nat := fG x.fFile + nZ x.fDir
def b1V (x : TChange) : Prop := inR .i64 x.fKind ∧ a0j x.fFile ∧ inR .i64 x.fID ∧ b4C x.fDir
def b6R (l : List TChange) : Nat := l.length + dU b3O l
def b6j (l : List TChange) : Prop := l.length ≤ 9223372036854775807 ∧ ∀ x ∈ l, b1V x
end Go.Proofs.YtgpoopjfkplilaaGreatDoor
end
section
set_option linter.all false
set_option maxHeartbeats 1000000
namespace Go.Proofs.YtgpoopjfkplilaaGreatDoor
open Go Go.Sx Go.RowKit Go.Proofs
structure TSnapshot where
 fStore : TStore
 fDirs : List TDir
@[go_sem] def b4A (x : TSnapshot) : List D := [.sl (x.fStore.fSchema.map bY), .sl (x.fStore.fFiles.map dX), iv x.fStore.fNextID, .sl (x.fDirs.map eP)]
@[go_sem] def jC (x : TSnapshot) : SV := .g [.d (.sl (x.fStore.fSchema.map bY)), .d (.sl (x.fStore.fFiles.map dX)), .d (iv x.fStore.fNextID), .d (.sl (x.fDirs.map eP))]
@[go_sem] def b6k (x : TSnapshot) : SV := .g [.w 81 2 (x.fStore.fSchema.map bY), .w 86 5 (x.fStore.fFiles.map dX), .d (iv x.fStore.fNextID), .w 90 2 (x.fDirs.map eP)]
def bM (x : TSnapshot) : Nat := eD x.fStore + jR x.fDirs
def a2a (x : TSnapshot) : Prop := a4U x.fStore ∧ b1Y x.fDirs
def b5u (l : List TSnapshot) : Nat := l.length + dU bM l
def b4B (l : List TSnapshot) : Prop := l.length ≤ 9223372036854775807 ∧ ∀ x ∈ l, a2a x
end Go.Proofs.YtgpoopjfkplilaaGreatDoor
end
section
set_option linter.all false
set_option maxHeartbeats 1000000
namespace Go.Proofs.YtgpoopjfkplilaaGreatDoor
open Go Go.Sx Go.RowKit Go.Proofs
structure TDisk where
 fSlotA : ByteArray
 fSlotB : ByteArray
@[go_sem] def b7M (x : TDisk) : List D := [sv x.fSlotA, sv x.fSlotB]
@[go_sem] def b8Q (x : TDisk) : SV := .g [.d (sv x.fSlotA), .d (sv x.fSlotB)]
def b6S (x : TDisk) : Nat := x.fSlotA.size + x.fSlotB.size
def b5v (x : TDisk) : Prop := x.fSlotA.size ≤ 9223372036854775807 ∧ x.fSlotB.size ≤ 9223372036854775807
def b8r (l : List TDisk) : Nat := l.length + dU b6S l
def b7N (l : List TDisk) : Prop := l.length ≤ 9223372036854775807 ∧ ∀ x ∈ l, b5v x
end Go.Proofs.YtgpoopjfkplilaaGreatDoor
end
section
set_option linter.all false
namespace Go.Proofs.YtgpoopjfkplilaaGreatDoor
open Go Go.Sx Go.RowKit Go.Proofs
def inB (n a b : Int) : Bool := decide (a ≤ n) && decide (n ≤ b)
theorem aG (n a b : Int) : FnC Tryz.prog 111 [oi n, oi a, oi b] (ob (inB n a b)) := by
 refine ent Tryz.func111 rfl Tryz.call111 rfl (fun C => ?_); simp only [go_sem, st0, Tryz.ntmps111]
 by_cases h0 : a ≤ n <;> by_cases h1 : n ≤ b
 all_goals
  have q0 := @h0; have q1 := @h1; have q2 := @decide_false; refine kI ?_
  refine aA ⟨⟨_, rfl, ?_⟩, ?_⟩
  ·simp only [go_sem]; simp [inB, h0, h1]
  ·trivial
theorem bS (n a b : Int) : FnC Tryz.prog 77 [oi n, oi a, oi b] (ob (inB n a b)) := by
 refine ent Tryz.func77 rfl Tryz.call77 rfl (fun C => ?_); simp only [go_sem, st0, Tryz.ntmps77]
 by_cases h0 : a ≤ n <;> by_cases h1 : n ≤ b
 all_goals
  have q0 := @h0; have q1 := @h1; have q2 := @decide_false; refine kI ?_
  refine aA ⟨⟨_, rfl, ?_⟩, ?_⟩
  ·simp only [go_sem]; simp [inB, h0, h1]
  ·trivial
end Go.Proofs.YtgpoopjfkplilaaGreatDoor
end
section
set_option linter.all false
set_option maxHeartbeats 1000000
namespace Go.Proofs.YtgpoopjfkplilaaGreatDoor
open Go Go.Sx Go.RowKit Go.Proofs
end Go.Proofs.YtgpoopjfkplilaaGreatDoor
end
end
section
set_option maxRecDepth 100000
set_option maxHeartbeats 4000000
namespace Go.Proofs.YtgpoopjfkplilaaGreatDoor
open Go Go.Sx Go.RowKit Go.Proofs
def low (s : ByteArray) (k : Nat) : Bool := inB (gP s k) 97 122
def kZ (s : ByteArray) : Bool := (List.range s.size).all (low s)
def aV (s : ByteArray) (n : Int) : Bool := kZ s && inB s.size 1 n
theorem a1Z (s : ByteArray) (n : Int) (hs : s.size ≤ 4300000) : FnC Tryz.prog 200 [os s, oi n] (ob (aV s n)) := by
 refine ent Tryz.func200 rfl Tryz.call200 rfl (fun C => ?_); simp only [go_sem, st0, Tryz.ntmps200]
 refine aD ?_
 refine dB (α := Nat) (fun k => [(5, oi k)]) (fun _ => []) (fun k => k ≤ s.size ∧ kZ s = ((List.range s.size).drop k).all (low s)) (fun k => s.size - k) 0 (fun _ => ?_) ?_ ?_ (fun k hk => ?_)
 ·simp only [go_sem]
 ·simp only [go_sem]; simp
 ·simp [kZ]
 ·obtain ⟨hk, hq⟩ := hk
  simp only [go_sem]
  refine aD ?_
  refine cnd rfl (fun h => ?_) (fun h => ?_)
  ·simp only [decide_eq_true_eq, Int.ofNat_lt] at h
   have h' : k < (List.range s.size).length := by simpa using h
   have hd := List.drop_eq_getElem_cons h'
   rw [hd, List.all_cons, List.getElem_range] at hq
   have hb := a0b s k
   by_cases h1 : gP s k < 97
   ·have hf : kZ s = false := by rw [hq]; simp [low, inB]; omega
    have q0 := @h; have q1 := @h1; refine jM ?_
    exact aA ⟨⟨_, rfl, by simp only [go_sem, aV, hf, Bool.false_and]⟩, trivial⟩
   by_cases h2 : 122 < gP s k
   ·have hf : kZ s = false := by rw [hq]; simp [low, inB]; omega
    have q0 := @h; have q1 := @h1; have q2 := @h2; have q3 := @decide_false; refine jQ ?_
    exact aA ⟨⟨_, rfl, by simp only [go_sem, aV, hf, Bool.false_and]⟩, trivial⟩
   ·have q0 := @h; have q1 := @h1; have q2 := @h2; have q3 := @decide_false; refine jQ ?_
    refine aQ (k + 1) ?_ ?_ ?_
    ·simp only [go_sem]; simp
    ·refine ⟨h, ?_⟩
     have hl : low s k = true := by simp [low, inB]; omega
     rw [hq, hl]; simp
    ·omega
  ·simp only [decide_eq_false_iff_not] at h
   have e : k = s.size := by omega
   have hq' : kZ s = true := by
    rw [hq, List.drop_of_length_le (by simp [e])]; rfl
   refine kS (bS s.size 1 n) ?_
   refine aA ⟨⟨_, rfl, ?_⟩, ?_⟩
   ·simp only [go_sem, aV, hq']
   ·trivial
theorem aK (s : ByteArray) (hs : s.size ≤ 4300000) : FnC Tryz.prog 152 [os s] (ob (aV s 1)) := by
 refine ent Tryz.func152 rfl Tryz.call152 rfl (fun C => ?_); simp only [go_sem, st0, Tryz.ntmps152]
 refine kS (a1Z s 1 hs) ?_
 refine aA ⟨⟨_, rfl, ?_⟩, ?_⟩
 ·simp only [go_sem]
 ·trivial
theorem b3L (s : ByteArray) : aV s 1 = (decide ((s.size : Int) = 1) && low s 0) := by
 unfold aV kZ inB
 rcases Nat.lt_trichotomy s.size 1 with h | h | h
 ·have : s.size = 0 := by omega
  simp [this]
 ·simp [h, List.range_succ]
 ·have h1 : ¬ ((s.size : Int) ≤ 1) := by omega
  have h2 : ¬ ((s.size : Int) = 1) := by omega
  simp [h1, h2]
theorem aB (s : ByteArray) : FnC Tryz.prog 89 [os s] (ob (aV s 1)) := by
 rw [b3L]
 refine ent Tryz.func89 rfl Tryz.call89 rfl (fun C => ?_); simp only [go_sem, st0, Tryz.ntmps89]
 by_cases h0 : (s.size : Int) = 1
 ·have h0' : 0 < s.size := by omega
  by_cases h1 : 97 ≤ gP s 0 <;> by_cases h2 : gP s 0 ≤ 122
  all_goals
   have q0 := @h0; have q1 := @h0'; have q2 := @h1; have q3 := @h2; have q4 := @decide_false; have q5 := @Int.toNat_zero; have q6 := @Int.le_refl; refine b0u ?_
   refine aA ⟨⟨_, rfl, ?_⟩, ?_⟩
   ·simp only [go_sem]; simp [h0, h1, h2, low, inB]
   ·trivial
 ·have q0 := @h0; have q1 := @decide_false; refine jM ?_
  refine aA ⟨⟨_, rfl, ?_⟩, ?_⟩
  ·simp only [go_sem]; simp [h0]
  ·trivial
theorem bG (s : ByteArray) (hs : s.size ≤ 4300000) : FnC Tryz.prog 201 [os s] (ob (aV s 6)) := by
 refine ent Tryz.func201 rfl Tryz.call201 rfl (fun C => ?_); simp only [go_sem, st0, Tryz.ntmps201]
 refine kS (a1Z s 6 hs) ?_
 exact aA ⟨⟨_, rfl, by simp only [go_sem]⟩, trivial⟩
theorem aT (s : ByteArray) (hs : s.size ≤ 4300000) : FnC Tryz.prog 192 [os s] (ob (aV s 6)) := by
 refine ent Tryz.func192 rfl Tryz.call192 rfl (fun C => ?_); simp only [go_sem, st0, Tryz.ntmps192]
 refine aD ?_
 refine dB (α := Nat) (fun k => [(6, oi k)]) (fun _ => []) (fun k => k ≤ s.size ∧ kZ s = ((List.range s.size).drop k).all (low s)) (fun k => s.size - k) 0 (fun _ => ?_) ?_ ?_ (fun k hk => ?_)
 ·simp only [go_sem]
 ·simp only [go_sem]; simp
 ·simp [kZ]
 ·obtain ⟨hk, hq⟩ := hk
  simp only [go_sem]
  refine aD ?_
  refine cnd rfl (fun h => ?_) (fun h => ?_)
  ·simp only [decide_eq_true_eq, Int.ofNat_lt] at h
   have h' : k < (List.range s.size).length := by simpa using h
   have hd := List.drop_eq_getElem_cons h'
   rw [hd, List.all_cons, List.getElem_range] at hq
   have hb := a0b s k
   by_cases h1 : gP s k < 97
   ·have hf : kZ s = false := by rw [hq]; simp [low, inB]; omega
    have q0 := @h; have q1 := @h1; refine jM ?_
    exact aA ⟨⟨_, rfl, by simp only [go_sem, aV, hf, Bool.false_and]⟩, trivial⟩
   by_cases h2 : 122 < gP s k
   ·have hf : kZ s = false := by rw [hq]; simp [low, inB]; omega
    have q0 := @h; have q1 := @h1; have q2 := @h2; have q3 := @decide_false; refine jQ ?_
    exact aA ⟨⟨_, rfl, by simp only [go_sem, aV, hf, Bool.false_and]⟩, trivial⟩
   ·have q0 := @h; have q1 := @h1; have q2 := @h2; have q3 := @decide_false; refine jQ ?_
    refine aQ (k + 1) ?_ ?_ ?_
    ·simp only [go_sem]; simp
    ·refine ⟨h, ?_⟩
     have hl : low s k = true := by simp [low, inB]; omega
     rw [hq, hl]; simp
    ·omega
  ·simp only [decide_eq_false_iff_not] at h
   have e : k = s.size := by omega
   have hq' : kZ s = true := by
    rw [hq, List.drop_of_length_le (by simp [e])]; rfl
   refine kS (aG s.size 1 6) ?_
   refine aA ⟨⟨_, rfl, ?_⟩, ?_⟩
   ·simp only [go_sem, aV, hq']
   ·trivial
def dA (v : TValue) : Bool :=
 if v.fKind = 0 then decide (v.fInt = 0) && decide (v.fStr = ⟨#[]⟩)
 else if v.fKind = 1 then inB v.fInt 0 999 && decide (v.fStr = ⟨#[]⟩)
 else if v.fKind = 2 then aV v.fStr 6 && decide (v.fInt = 0) else false
theorem aC (v : TValue) (hs : v.fStr.size ≤ 4300000) : FnC Tryz.prog 141 [lC v] (ob (dA v)) := by
 refine ent Tryz.func141 rfl Tryz.call141 rfl (fun C => ?_); simp only [go_sem, st0, Tryz.ntmps141]
 by_cases h0 : v.fKind = 0
 ·have q0 := @h0; have q1 := @decide_true; refine jM ?_
  exact aA ⟨⟨_, rfl, by simp only [go_sem, dA, h0, if_true, decide_true, Bool.true_and]⟩, trivial⟩
 by_cases h1 : v.fKind = 1
 ·cases hb : inB v.fInt 0 999
  ·have q0 := @h0; have q1 := @h1; have q2 := @decide_true; have q3 := @decide_false; have q4 := @hb; refine a0h (aG v.fInt 0 999) ?_
   exact aA ⟨⟨_, rfl, by simp only [go_sem, dA, h0, h1, hb, if_true, if_false, Bool.false_and]⟩, trivial⟩
  ·have q0 := @h0; have q1 := @h1; have q2 := @decide_true; have q3 := @decide_false; have q4 := @hb; refine a0h (aG v.fInt 0 999) ?_
   exact aA ⟨⟨_, rfl, by simp only [go_sem, dA, h0, h1, hb, if_true, if_false, Bool.true_and]⟩, trivial⟩
 by_cases h2 : v.fKind = 2
 ·cases hb : aV v.fStr 6
  ·have q0 := @h0; have q1 := @h1; have q2 := @h2; have q3 := @decide_true; have q4 := @decide_false; have q5 := @hb; refine a0Y (aT v.fStr hs) ?_
   exact aA ⟨⟨_, rfl, by simp only [go_sem, dA, h0, h1, h2, hb, if_true, if_false, Bool.false_and]⟩, trivial⟩
  ·have q0 := @h0; have q1 := @h1; have q2 := @h2; have q3 := @decide_true; have q4 := @decide_false; have q5 := @hb; refine a0Y (aT v.fStr hs) ?_
   exact aA ⟨⟨_, rfl, by simp only [go_sem, dA, h0, h1, h2, hb, if_true, if_false, Bool.true_and]⟩, trivial⟩
 ·have q0 := @h0; have q1 := @h1; have q2 := @h2; have q3 := @decide_false; refine jQ ?_
  exact aA ⟨⟨_, rfl, by simp only [go_sem, dA, h0, h1, h2, if_false]⟩, trivial⟩
theorem bE (v : TValue) (hs : v.fStr.size ≤ 4300000) : FnC Tryz.prog 158 [lC v] (ob (dA v)) := by
 refine ent Tryz.func158 rfl Tryz.call158 rfl (fun C => ?_); simp only [go_sem, st0, Tryz.ntmps158]
 by_cases h0 : v.fKind = 0
 ·have q0 := @h0; have q1 := @decide_true; refine jM ?_
  exact aA ⟨⟨_, rfl, by simp only [go_sem, dA, h0, if_true, decide_true, Bool.true_and]⟩, trivial⟩
 by_cases h1 : v.fKind = 1
 ·cases hb : inB v.fInt 0 999
  ·have q0 := @h0; have q1 := @h1; have q2 := @decide_true; have q3 := @decide_false; have q4 := @hb; refine a0h (bS v.fInt 0 999) ?_
   exact aA ⟨⟨_, rfl, by simp only [go_sem, dA, h0, h1, hb, if_true, if_false, Bool.false_and]⟩, trivial⟩
  ·have q0 := @h0; have q1 := @h1; have q2 := @decide_true; have q3 := @decide_false; have q4 := @hb; refine a0h (bS v.fInt 0 999) ?_
   exact aA ⟨⟨_, rfl, by simp only [go_sem, dA, h0, h1, hb, if_true, if_false, Bool.true_and]⟩, trivial⟩
 by_cases h2 : v.fKind = 2
 ·cases hb : aV v.fStr 6
  ·have q0 := @h0; have q1 := @h1; have q2 := @h2; have q3 := @decide_true; have q4 := @decide_false; have q5 := @hb; refine a0Y (bG v.fStr hs) ?_
   exact aA ⟨⟨_, rfl, by simp only [go_sem, dA, h0, h1, h2, hb, if_true, if_false, Bool.false_and]⟩, trivial⟩
  ·have q0 := @h0; have q1 := @h1; have q2 := @h2; have q3 := @decide_true; have q4 := @decide_false; have q5 := @hb; refine a0Y (bG v.fStr hs) ?_
   exact aA ⟨⟨_, rfl, by simp only [go_sem, dA, h0, h1, h2, hb, if_true, if_false, Bool.true_and]⟩, trivial⟩
 ·have q0 := @h0; have q1 := @h1; have q2 := @h2; have q3 := @decide_false; refine jQ ?_
  exact aA ⟨⟨_, rfl, by simp only [go_sem, dA, h0, h1, h2, if_false]⟩, trivial⟩
theorem a0A : ((List.range 20).map fun i => Value.int .u64 ((10 ^ i : Nat) : Int)) = Lib.pow10Tab.map fun z => Value.int .u64 z := by
 unfold Lib.pow10Tab; rw [List.map_map]; rfl
theorem tL : Tryz.prog.globalNamed "internal/strconv.uint64pow10" = some 4 := by kernel_rfl
theorem b4M {w : World} {X : List Nat} (h : tabOK w X) : Lib.TabIs Tryz.prog w "internal/strconv.uint64pow10" .u64 Lib.pow10Tab := by
 obtain ⟨_, cs, ty, fz, h1, h2⟩ := h _ (List.mem_append_left a5Q (List.mem_cons_self ..))
 have h2 : cs = _ := h2
 subst h2
 unfold Lib.TabIs World.var?
 rw [tL, Option.bind_some, h1]
 simp only [a0A]
theorem b1i {w : World} (h : Lib.TabIs Tryz.prog w "internal/strconv.uint64pow10" .u64 Lib.pow10Tab) : ∀ t ∈ b4y, ∃ cs ty fz, w.heap[t.1]? = some (.cells cs ty fz) ∧ t.2 cs := by
 intro t ht
 obtain rfl := List.mem_singleton.1 ht
 unfold Lib.TabIs World.var? at h
 rw [tL, Option.bind_some] at h
 simp only [a0A]
 split at h
 ·rename_i cs ty fz e
  cases h
  exact ⟨_, ty, fz, e, rfl⟩
 ·cases h
def bU (n : Int) : ByteArray := ⟨(Lib.itoa n).toArray⟩
theorem b3h (n : Int) (hn : inR .i64 n) : FnC Tryz.prog 90 [oi n] (os (bU n)) := by
 refine ⟨Tryz.call90, fun V w vs htab hm hargs => ?_⟩
 obtain ⟨hl, hv⟩ := hargs
 match vs, hl with
 | [y], _ =>
  obtain ⟨rfl, _⟩ := aR (hv 0 (oi n) y rfl rfl)
  refine (Any.strconv_Itoa Tryz.laysItoa n hn.1 hn.2 w (b4M htab)).mono ?_
  rintro e w' ⟨rfl, k, ob', rfl⟩
  have hb : ∀ k' : Nat, k' < w.heap.size → (w.heap ++ ob')[k']? = w.heap[k']? := fun k' hk' => Array.getElem?_append_left hk'
  refine ⟨_, rfl, ⟨V, [], View.le.refl V, ?_, (fun b cs h1 h2 => by rw [h1] at h2; cases h2), ?_, List.nodup_nil, (fun b hb => by cases hb)⟩, ⟨rfl, rfl, rfl, ?_, hb⟩⟩
  ·intro b cs hbc
   obtain ⟨c, ty, fz, h1, h2⟩ := hm b cs hbc
   exact ⟨c, ty, fz, by rw [← h1]; exact hb b (Array.getElem?_eq_some_iff.1 h1).1, h2⟩
  ·refine ⟨[.string (bU n)], rfl, [[]], rfl, rfl, rfl, fun k a y s h1 h2 h3 => ?_⟩
   match k, h1, h2, h3 with
   | 0, rfl, rfl, rfl => exact ⟨rfl, [], .v _ rfl⟩
  ·show w.heap.size ≤ (w.heap ++ ob').size
   rw [Array.size_append]; omega
theorem fO (n : Int) (hn : inR .i64 n) : FnC Tryz.prog 49 [oi n] (os (bU n)) := by
 refine ent Tryz.func49 rfl Tryz.call49 rfl (fun C => ?_); simp only [go_sem, st0, Tryz.ntmps49]
 refine kS (b3h n hn) ?_
 exact aA ⟨⟨_, rfl, by simp only [go_sem]⟩, trivial⟩
def zW (u : Nat) : List UInt8 := if u = 0 then [] else Lib.decDigits u
theorem zX {u : Nat} (h : u ≠ 0) : zW u = zW (u / 10) ++ [UInt8.ofNat (48 + u % 10)] := by
 unfold zW
 rw [if_neg h, Lib.decDigits]
 by_cases h1 : u < 10
 ·have e1 : u / 10 = 0 := by omega
  have e2 : u % 10 = u := by omega
  rw [dif_pos h1, e1, if_pos rfl, e2]; rfl
 ·rw [dif_neg h1, if_neg (by omega)]
theorem a1D : ∀ (k u : Nat), u < 10 ^ k → (zW u).length ≤ k
 | 0, u, h => by have : u = 0 := by simpa using h
                 subst this; simp [zW]
 | k + 1, u, h => by
  by_cases h0 : u = 0
  ·subst h0; simp [zW]
  ·rw [zX h0, List.length_append]
   have := a1D k (u / 10) (by rw [Nat.pow_succ] at h; omega)
   simp; omega
theorem a9R {n : Int} (h : n ≠ 0) : Lib.itoa n = if n < 0 then 45 :: zW n.natAbs else zW n.natAbs := by
 unfold Lib.itoa zW
 have h1 : n.natAbs ≠ 0 := by omega
 rw [if_neg h1]
 split
 ·rfl
 ·have : n.toNat = n.natAbs := by omega
  rw [this]
def jL (v : TValue) : ByteArray := if dA v then (if v.fKind = 1 then bU v.fInt else if v.fKind = 2 then v.fStr else ⟨#[45]⟩) else ⟨#[63]⟩
theorem jU (v : TValue) (hs : v.fStr.size ≤ 4300000) (hi : inR .i64 v.fInt) : FnC Tryz.prog 91 [lC v] (os (jL v)) := by
 refine ent Tryz.func91 rfl Tryz.call91 rfl (fun C => ?_); simp only [go_sem, st0, Tryz.ntmps91]
 cases h0 : dA v
 ·have q0 := @h0; refine qY (aC v hs) ?_
  exact aA ⟨⟨_, rfl, by simp only [go_sem, jL, h0, if_false, Bool.false_eq_true]⟩, trivial⟩
 by_cases h1 : v.fKind = 1
 ·have d1 : decide (v.fKind = 1) = true := by simp [h1]
  have q0 := @h0; have q1 := @d1; refine b0s (aC v hs) (fO v.fInt hi) ?_
  exact aA ⟨⟨_, rfl, by simp only [go_sem, jL, h0, h1, if_true]⟩, trivial⟩
 have d1 : decide (v.fKind = 1) = false := by simp [h1]
 by_cases h2 : v.fKind = 2
 ·have d2 : decide (v.fKind = 2) = true := by simp [h2]
  have q0 := @h0; have q1 := @d1; have q2 := @d2; refine pX (aC v hs) ?_
  exact aA ⟨⟨_, rfl, by simp only [go_sem, jL, h0, h1, h2, if_true, if_false]⟩, trivial⟩
 ·have d2 : decide (v.fKind = 2) = false := by simp [h2]
  have q0 := @h0; have q1 := @d1; have q2 := @d2; refine pX (aC v hs) ?_
  exact aA ⟨⟨_, rfl, by simp only [go_sem, jL, h0, h1, h2, if_true, if_false]⟩, trivial⟩
end Go.Proofs.YtgpoopjfkplilaaGreatDoor
end
section
section
set_option linter.all false
namespace Go.Sx
open Go Go.RowKit
def vX {α : Type} (e : α → Value) (l : List α) : List (List D) := l.map fun x => [.v (e x)]
theorem kC {α : Type} (e : α → Value) (l : List α) : (vX e l).flatten = l.map fun x => D.v (e x) := by
 induction l with
 | nil => rfl
 | cons x l ih => simp only [vX, List.map_cons, List.flatten_cons] at ih ⊢; rw [ih]; rfl
theorem scal_down {α : Type} [Inhabited α] {e : α → Value} {V : View} {w : World} {ty : Nat} {l : List α} {y : Value} {S : List Nat} (h : RowR V w ty 1 (vX e l) y S) :
    ((∃ ao, y = .slice ao 0 0) ∧ l = [] ∧ S = []) ∨ ∃ b cap c, y = .slice (some ⟨b, 0, none⟩) l.length cap ∧ l.length ≤ cap ∧ cap ≤ maxLen ∧ w.heap[b]? = some (.cells c ty (0, 0)) ∧ c.size = cap ∧ Sort.Holds e w b 0 l.toArray ∧ V b = none ∧ S = [b] := by
 obtain ⟨h0, ys, Ss, h1, h3⟩ := h
 rcases h3 with ⟨ha, hb, hc⟩ | ⟨b, cap, c, rfl, e3, e4, e5, e6, e7, e8, rfl⟩
 ·exact .inl ⟨ha, by simpa [vX] using hb, hc⟩
 ·have key : ∀ j (hj : j < l.length), ys[j]? = some (e l[j]) ∧ Ss[j]? = some [] := fun j hj => by
   have hd : (vX e l).flatten[j]? = some (.v (e l[j])) := by rw [kC]; simp [hj]
   have hlt : j < ys.length := by rw [h1.1]; exact (List.getElem?_eq_some_iff.1 hd).1
   have hls : j < Ss.length := by rw [h1.2.1]; exact (List.getElem?_eq_some_iff.1 hd).1
   have hl := h1.2.2 j _ _ _ hd (List.getElem?_eq_getElem hlt) (List.getElem?_eq_getElem hls)
   rw [List.getElem?_eq_getElem hlt, List.getElem?_eq_getElem hls]
   generalize ys[j] = z at hl ⊢
   generalize Ss[j] = s at hl ⊢
   cases hl
   exact ⟨rfl, rfl⟩
  have hlen : Ss.length = l.length := by rw [h1.2.1, kC, List.length_map]
  refine .inr ⟨b, cap, c, by simp [vX], by simpa [vX] using e3, e4, e5, by simpa using e6, fun j hj => ?_, e8, ?_⟩
  ·have hj' : j < l.length := by simpa using hj
   have hy := fQ e7 (key j hj').1
   refine ⟨?_, by simp [World.frozen?, e5]⟩
   simp only [World.cell?, e5, Nat.zero_add]
   simp only [Option.isSome_none, Bool.false_eq_true, if_false]
   rw [← Array.getElem?_toList, hy]
   congr 1
   rw [getElem!_pos l.toArray j (by simpa using hj')]
   simp
  ·congr 1
   refine List.flatten_eq_nil_iff.2 fun s hs => ?_
   obtain ⟨j, hj, rfl⟩ := List.mem_iff_getElem.1 hs
   have := (key j (by omega)).2
   rw [List.getElem?_eq_getElem hj] at this
   exact Option.some.inj this
theorem a8S {α : Type} [Inhabited α] {e : α → Value} (hs : ∀ x, scalar (e x) = true) {V : View} {w w' : World} {b ty cap n : Nat} {c : Array Value} {d : Array α} {l : List α} {os : Array Obj} (hb : w.heap[b]? = some (.cells c ty (0, 0)))
    (hc : c.size = cap) (hcap : cap ≤ maxLen) (hd : d.size ≤ cap) (hw : w' = Sort.grow (Sort.putRow e (Sort.ahead w n) b 0 d) os) (hl : l <+: d.toList) (hV : V b = none) :
    RowR V w' ty 1 (vX e l) (.slice (some ⟨b, 0, none⟩) l.length cap) [b] ∧ w.grownBy w' (some b) := by
 have hlt : b < w.heap.size := (Array.getElem?_eq_some_iff.1 hb).1
 have hle : l.length ≤ d.size := by have := hl.length_le; simpa using this
 have hheap : w'.heap[b]? = some (.cells (Sort.putCells e 0 d c) ty (0, 0)) := by
  subst hw
  rw [Sort.heap_grow_old _ _ (by simp [Sort.putRow, Sort.mapBlock, Sort.ahead]; exact hlt)]
  simp only [Sort.putRow, Sort.mapBlock, Sort.ahead, Array.getElem?_modify, if_true, hb, Option.map_some, Sort.onCells]
 refine ⟨⟨fun r hr => ?_, l.map e, List.replicate l.length [], ⟨by rw [kC]; simp, by rw [kC]; simp, fun k dd y s h1 h2 h3 => ?_⟩, .inr ⟨b, cap, _, by simp [vX], by simp [vX]; omega, hcap, hheap, by simp [Sort.putCells, hc], ?_, hV, ?_⟩⟩, ?_⟩
 ·obtain ⟨x, _, rfl⟩ := List.mem_map.1 hr; rfl
 ·rw [kC, List.getElem?_map] at h1
  rw [List.getElem?_map] at h2
  cases hk : l[k]? with
  | none => rw [hk] at h1; cases h1
  | some x =>
   rw [hk] at h1 h2
   cases h1; cases h2
   rw [List.getElem?_replicate] at h3
   split at h3
   ·cases h3; exact .v _ (hs x)
   ·cases h3
 ·refine List.prefix_iff_eq_take.2 ?_
  apply List.ext_getElem?
  intro j
  rw [List.getElem?_take, List.getElem?_map]
  simp only [List.length_map]
  by_cases hj : j < l.length
  ·have hjc : j < c.size := by omega
   have hdj : d.toList[j]? = some l[j] := fQ hl (List.getElem?_eq_getElem hj)
   rw [Array.getElem?_toList, Array.getElem?_eq_getElem (by omega)] at hdj
   have h1 : (Sort.putCells e 0 d c).toList[j]? = some (e l[j]) := by
    rw [Array.getElem?_toList]
    simp only [Sort.putCells, Array.getElem?_mapIdx, Array.getElem?_eq_getElem hjc, Option.map_some]
    rw [if_pos (by omega), Nat.sub_zero, getElem!_pos d j (by omega), Option.some.inj hdj]
   rw [if_pos hj, h1, List.getElem?_eq_getElem hj]; rfl
  ·rw [if_neg hj, List.getElem?_eq_none (by omega)]; rfl
 ·simp
 ·subst hw
  refine ⟨rfl, rfl, rfl, by simp [Sort.putRow, Sort.mapBlock, Sort.ahead], fun k hk hne => ?_⟩
  rw [Sort.heap_grow_old _ _ (by simp [Sort.putRow, Sort.mapBlock, Sort.ahead]; exact hk)]
  simp only [Sort.putRow, Sort.mapBlock, Sort.ahead, Array.getElem?_modify]
  rw [if_neg (fun e => hne (by rw [e]))]
end Go.Sx
end
section
set_option linter.all false
namespace Go.Sx
open Go Go.RowKit
structure RowAt (w wr : World) (b ty N : Nat) (F : List Value) : Prop where
 cells : ∃ c : Array Value, wr.heap[b]? = some (.cells c ty (0, 0)) ∧ c.size = N ∧ F <+: c.toList
 grown : w.grownBy wr (some b)
theorem wE {w w1 w2 : World} {r : Option Nat} (h1 : w.grownBy w1 r) (h2 : w1.grownBy w2 r) : w.grownBy w2 r :=
 ⟨h2.os.trans h1.os, h2.tape.trans h1.tape, h2.output.trans h1.output, Nat.le_trans h1.size h2.size, fun k hk hn => (h2.block k (Nat.lt_of_lt_of_le hk h1.size) hn).trans (h1.block k hk hn)⟩
theorem a2K {w w' : World} (r : Option Nat) (h : Below w.heap.size w w') : w.grownBy w' r := ⟨h.os, h.tape, h.output, h.size, fun k hk _ => h.block k hk⟩
variable {w wr : World} {b ty N : Nat} {F : List Value}
theorem RowAt.lt (h : RowAt w wr b ty N F) : b < wr.heap.size := by
 obtain ⟨c, h1, _⟩ := h.cells
 exact (Array.getElem?_eq_some_iff.1 h1).1
theorem RowAt.le (h : RowAt w wr b ty N F) : F.length ≤ N := by
 obtain ⟨c, _, h2, h3⟩ := h.cells
 have := h3.length_le
 simpa [h2] using this
theorem RowAt.cell (h : RowAt w wr b ty N F) {t : Nat} {v : Value} (ht : F[t]? = some v) : wr.cell? ⟨b, t, none⟩ = some v := by
 obtain ⟨c, h1, h2, h3⟩ := h.cells
 have := fQ h3 ht
 simp only [World.cell?, h1, Option.isSome_none, Bool.false_eq_true, if_false]
 rw [← Array.getElem?_toList]; exact this
theorem RowAt.there (h : RowAt w wr b ty N F) {t : Nat} (ht : t < N) : (wr.cell? ⟨b, t, none⟩).isSome = true := by
 obtain ⟨c, h1, h2, h3⟩ := h.cells
 simp only [World.cell?, h1, Option.isSome_none, Bool.false_eq_true, if_false]
 simp [h2, ht]
theorem RowAt.frozen (h : RowAt w wr b ty N F) (t : Nat) : wr.frozen? ⟨b, t, none⟩ = false := by
 obtain ⟨c, h1, _⟩ := h.cells
 simp [World.frozen?, h1]
theorem RowAt.behind (h : RowAt w wr b ty N F) {w' : World} (hb : Below wr.heap.size wr w') : RowAt w w' b ty N F := by
 obtain ⟨c, h1, h2, h3⟩ := h.cells
 exact ⟨⟨c, by rw [hb.block b h.lt]; exact h1, h2, h3⟩, wE h.grown (a2K _ hb)⟩
theorem a2L (F : List Value) (s : Nat) (v : Value) (c : List Value) (hF : F <+: c) (hs : s ≤ F.length) (hc : s < c.length) : F.take s ++ v :: F.drop (s + 1) <+: c.set s v := by
 obtain ⟨r, rfl⟩ := hF
 rcases Nat.lt_or_ge s F.length with h | h
 ·refine ⟨r, ?_⟩
  rw [List.set_append_left _ _ h, List.set_eq_take_append_cons_drop, if_pos h]
 ·have e : s = F.length := by omega
  subst e
  rw [List.take_of_length_le (Nat.le_refl _), List.drop_of_length_le (by omega), List.set_append_right _ _ (Nat.le_refl _), Nat.sub_self]
  cases r with
  | nil => simp at hc
  | cons x r => exact ⟨r, by simp⟩
theorem RowAt.set1 (h : RowAt w wr b ty N F) {s : Nat} (hs : s ≤ F.length) (hN : s < N) (v : Value) : RowAt w (wr.setCell ⟨b, s, none⟩ v) b ty N (F.take s ++ v :: F.drop (s + 1)) := by
 obtain ⟨c, h1, h2, h3⟩ := h.cells
 rw [Sort.setCell_eq]
 refine ⟨⟨c.setIfInBounds s v, ?_, by simp [h2], ?_⟩, wE h.grown ⟨rfl, rfl, rfl, by simp [Sort.mapBlock], fun k hk hne => ?_⟩⟩
 ·simp only [Sort.mapBlock, Array.getElem?_modify, if_true, h1, Option.map_some, Sort.onCells]
 ·rw [Array.toList_setIfInBounds]
  exact a2L F s v c.toList h3 hs (by simpa [h2] using hN)
 ·simp only [Sort.mapBlock, Array.getElem?_modify]
  rw [if_neg (fun e => hne (by rw [e]))]
theorem RowAt.set : ∀ (vs : List Value) {wr : World} {F : List Value} {s : Nat}, RowAt w wr b ty N F → s ≤ F.length → s + vs.length ≤ N → RowAt w (wr.setCells b s vs) b ty N (F.take s ++ vs ++ F.drop (s + vs.length))
 | [], wr, F, s, h, hs, hN => by simpa [World.setCells] using h
 | v :: vs, wr, F, s, h, hs, hN => by
  simp only [List.length_cons] at hN
  have h1 := h.set1 hs (by omega) v
  have h2 := RowAt.set vs (s := s + 1) h1 (by simp; omega) (by omega)
  rw [World.setCells]
  have e1 : (F.take s ++ v :: F.drop (s + 1)).take (s + 1) = F.take s ++ [v] := by
   rw [List.take_append, List.take_of_length_le (by simp; omega), List.length_take, Nat.min_eq_left hs, Nat.add_sub_cancel_left]; rfl
  have e2 : (F.take s ++ v :: F.drop (s + 1)).drop (s + 1 + vs.length) = F.drop (s + (vs.length + 1)) := by
   rw [List.drop_append, List.drop_of_length_le (by simp; omega), List.length_take, Nat.min_eq_left hs, List.nil_append, show s + 1 + vs.length - s = vs.length + 1 by omega, List.drop_succ_cons, List.drop_drop]
   congr 1; omega
  rw [e1, e2] at h2
  simpa [List.append_assoc] using h2
end Go.Sx
end
section
set_option linter.all false
namespace Go.Proofs.YtgpoopjfkplilaaGreatDoor
open Go Go.Sx Go.RowKit Go.Proofs Go.Lib
structure DelInv {α : Type} (e : α → Value) (p : α → Bool) (xs : List α) (i j : Nat) (F : List Value) : Prop where
 len : F.length = xs.length
 ij : i < j
 jn : j ≤ xs.length
 lo : F.take i = ((xs.take j).filter fun x => !p x).map e
 hi : F.drop j = (xs.drop j).map e
 il : i = ((xs.take j).filter fun x => !p x).length
theorem vY {α : Type} (p : α → Bool) (xs : List α) (k : Nat) (h : ∀ j (hj : j < xs.length), j < k → p xs[j] = false) : (xs.take k).filter (fun x => !p x) = xs.take k := by
 refine List.filter_eq_self.2 fun x hx => ?_
 obtain ⟨j, hj, rfl⟩ := List.mem_iff_getElem.1 hx
 simp only [List.length_take] at hj
 rw [List.getElem_take, h j (by omega) (by omega)]; rfl
theorem DelInv.at {α : Type} {e : α → Value} {p : α → Bool} {xs : List α} {i j : Nat} {F : List Value} (h : DelInv e p xs i j F) (hj : j < xs.length) : F[j]? = some (e xs[j]) := by
 have h0 : (F.drop j)[0]? = ((xs.drop j).map e)[0]? := by rw [h.hi]
 rw [List.getElem?_drop, Nat.add_zero] at h0
 rw [h0, List.getElem?_map, List.getElem?_drop, Nat.add_zero, List.getElem?_eq_getElem hj]; rfl
theorem DelInv.start {α : Type} {e : α → Value} {p : α → Bool} {xs : List α} {k : Nat} (hk : k < xs.length) (h : ∀ j (hj : j < xs.length), j < k → p xs[j] = false) (hp : p xs[k] = true) : DelInv e p xs k (k + 1) (xs.map e) := by
 have e1 : (xs.take (k + 1)).filter (fun x => !p x) = xs.take k := by
  rw [List.take_succ_eq_append_getElem hk, List.filter_append, vY p xs k h]
  simp [hp]
 refine ⟨by simp, by omega, by omega, ?_, by simp, ?_⟩
 ·rw [e1, List.map_take]
 ·rw [e1]; simp; omega
theorem DelInv.keep {α : Type} {e : α → Value} {p : α → Bool} {xs : List α} {i j : Nat} {F : List Value} (h : DelInv e p xs i j F) (hj : j < xs.length) (hp : p xs[j] = false) : DelInv e p xs (i + 1) (j + 1) (F.take i ++ [e xs[j]] ++ F.drop (i + 1)) := by
 have e1 : (xs.take (j + 1)).filter (fun x => !p x) = (xs.take j).filter (fun x => !p x) ++ [xs[j]] := by
  rw [List.take_succ_eq_append_getElem hj, List.filter_append]
  simp [hp]
 have hl := h.len
 have hij := h.ij
 refine ⟨by simp; omega, by omega, by omega, ?_, ?_, ?_⟩
 ·rw [List.take_append_of_le_length (by simp; omega), List.take_of_length_le (by simp; omega), e1, List.map_append, h.lo]; rfl
 ·rw [List.drop_append, List.drop_of_length_le (by simp; omega), List.nil_append, List.drop_drop]
  have : F.drop (j + 1) = (xs.drop (j + 1)).map e := by rw [← List.drop_drop, h.hi, ← List.map_drop, List.drop_drop]
  rw [← this]
  congr 1
  simp; omega
 ·rw [e1, List.length_append, ← h.il]; rfl
theorem DelInv.skip {α : Type} {e : α → Value} {p : α → Bool} {xs : List α} {i j : Nat} {F : List Value} (h : DelInv e p xs i j F) (hj : j < xs.length) (hp : p xs[j] = true) : DelInv e p xs i (j + 1) F := by
 have e1 : (xs.take (j + 1)).filter (fun x => !p x) = (xs.take j).filter (fun x => !p x) := by
  rw [List.take_succ_eq_append_getElem hj, List.filter_append]
  simp [hp]
 have hij := h.ij
 exact ⟨h.len, by omega, by omega, by rw [e1]; exact h.lo, by rw [← List.drop_drop, h.hi, ← List.map_drop, List.drop_drop], by rw [e1]; exact h.il⟩
end Go.Proofs.YtgpoopjfkplilaaGreatDoor
end
section
set_option linter.all false
set_option maxRecDepth 100000
namespace Go.Sx
open Go Go.RowKit
theorem RowAt.mod {V : View} {w W : World} {b ty N : Nat} {F : List Value} (hm : Mod V w) (hV : V b = none) (h : RowAt w W b ty N F) : Mod V W := fun k cs hk => by
 obtain ⟨c, t, fz, e1, e2⟩ := hm k cs hk
 exact ⟨c, t, fz, by rw [h.grown.block k (Array.getElem?_eq_some_iff.1 e1).1 (fun e => by cases e; rw [hV] at hk; cases hk)]; exact e1, e2⟩
def b8T (V : View) (b : Nat) (cs : List Value) : View := fun k => if k = b then some cs else V k
theorem RowAt.row {α : Type} {e : α → Value} (hs : ∀ x, scalar (e x) = true) {V : View} {w w' : World} {ty b cap : Nat} {l : List α} {G : List Value} (h : RowAt w w' b ty cap (l.map e ++ G)) (hcap : cap ≤ maxLen) (hV : V b = none) : RowR V w' ty 1 (vX e l) (.slice (some ⟨b, 0, none⟩) l.length cap) [b] := by
 have hle := h.le
 rw [List.length_append, List.length_map] at hle
 obtain ⟨c, h1, h2, h3⟩ := h.cells
 refine ⟨fun r hr => ?_, l.map e, List.replicate l.length [], ⟨by rw [kC]; simp, by rw [kC]; simp, fun k dd y s q1 q2 q3 => ?_⟩, .inr ⟨b, cap, c, by simp [vX], by simp [vX]; omega, hcap, h1, by simp [h2], (List.prefix_append _ _).trans h3, hV, by simp⟩⟩
 ·obtain ⟨x, _, rfl⟩ := List.mem_map.1 hr; rfl
 ·rw [kC, List.getElem?_map] at q1
  rw [List.getElem?_map] at q2
  cases hk : l[k]? with
  | none => rw [hk] at q1; cases q1
  | some x =>
   rw [hk] at q1 q2
   cases q1; cases q2
   rw [List.getElem?_replicate] at q3
   split at q3
   ·cases q3; exact .v _ (hs x)
   ·cases q3
end Go.Sx
end
section
set_option linter.all false
set_option maxRecDepth 100000
set_option maxHeartbeats 4000000
namespace Go.Proofs.YtgpoopjfkplilaaGreatDoor
open Go Go.Sx Go.RowKit Go.Proofs
def oC {α : Type} (p : α → Bool) : List α → Nat → Int
 | [], _ => -1
 | x :: xs, k => if p x then k else oC p xs (k + 1)
theorem idxP_spec {α : Type} (p : α → Bool) : ∀ (xs : List α) (k : Nat), (oC p xs k = -1 ∧ ∀ x ∈ xs, p x = false) ∨ ∃ k0 : Nat, oC p xs k = ((k + k0 : Nat) : Int) ∧ ∃ h : k0 < xs.length, p xs[k0] = true ∧ ∀ j (hj : j < xs.length), j < k0 → p xs[j] = false
 | [], k => .inl ⟨rfl, fun x hx => by simp at hx⟩
 | x :: xs, k => by
  unfold oC
  cases hx : p x with
  | true => exact .inr ⟨0, by simp, by simp, by simpa using hx, fun j hj h => by omega⟩
  | false =>
   rcases idxP_spec p xs (k + 1) with ⟨h1, h2⟩ | ⟨k0, h1, h2, h3, h4⟩
   ·exact .inl ⟨by simpa using h1, fun y hy => by
     rcases List.mem_cons.1 hy with rfl | hy
     ·exact hx
     ·exact h2 y hy⟩
   ·refine .inr ⟨k0 + 1, by simp only [Bool.false_eq_true, if_false]; rw [h1]; congr 1; omega, by simp; omega, by simpa using h3, fun j hj hk => ?_⟩
    cases j with
    | zero => simpa using hx
    | succ j => simpa using h4 j (by simpa using hj) (by omega)
end Go.Proofs.YtgpoopjfkplilaaGreatDoor
end
end
section
namespace Go.Proofs.YtgpoopjfkplilaaGreatDoor
open Go Go.Sx Go.RowKit Go.Proofs
theorem b6Z {α : Type} (l : List α) : (l.all fun _ => true) = true := by simp
def eU {α : Type} (p : α → Bool) : List α → Nat
 | [] => 0
 | x :: l => if p x then 0 else eU p l + 1
theorem yR {α : Type} (p : α → Bool) : ∀ l : List α, eU p l ≤ l.length
 | [] => by simp [eU]
 | x :: l => by
  have := yR p l
  unfold eU
  split <;> simp <;> omega
theorem idxP_fst {α : Type} (p : α → Bool) : ∀ (l : List α) (k : Nat), (oC p l k < 0 ∧ oC p l k = -1 ∧ eU p l = l.length) ∨ (oC p l k = ((k + eU p l : Nat) : Int) ∧ eU p l < l.length)
 | [], k => .inl ⟨by simp [oC], rfl, rfl⟩
 | x :: l, k => by
  unfold oC eU
  cases hx : p x with
  | true => exact .inr ⟨by simp, by simp⟩
  | false =>
   rcases idxP_fst p l (k + 1) with ⟨h0, h1, h2⟩ | ⟨h1, h2⟩
   ·exact .inl ⟨by simpa using h0, by simpa using h1, by simp [h2]⟩
   ·exact .inr ⟨by simp only [Bool.false_eq_true, if_false]; rw [h1]; congr 1; omega, by simp; omega⟩
theorem a2b {α : Type} (p : α → Bool) (l : List α) (k : Nat) (h : k < l.length) : eU p (l.drop k) = if p l[k] then 0 else eU p (l.drop (k + 1)) + 1 := by
 rw [List.drop_eq_getElem_cons h, eU]
def jZ {α : Type} (i : Nat) (x : α) (l : List α) : List α := l.take i ++ x :: l.drop i
theorem a3v {α : Type} (i : Nat) (x : α) (l : List α) (h : i ≤ l.length) : (jZ i x l).length = l.length + 1 := by simp [jZ]; omega
end Go.Proofs.YtgpoopjfkplilaaGreatDoor
end
section
set_option maxRecDepth 100000
set_option maxHeartbeats 4000000
namespace Go.Proofs.YtgpoopjfkplilaaGreatDoor
open Go Go.Sx Go.RowKit Go.Proofs
theorem a6h (l : List ByteArray) (hl : l.length ≤ 4300000) : FnC Tryz.prog 263 [.o (.d (.sl (l.map dL)))] (.o (.w 9 1 (l.map dL))) := by
 refine ent Tryz.func263 rfl Tryz.call263 rfl (fun C => ?_); simp only [go_sem, st0, Tryz.ntmps263]
 refine aD ?_
 intro b hb
 refine aD ?_
 refine cnd rfl (fun h1 => ?_) (fun h1 => ?_)
 ·have e := hb h1
  simp only [List.map_eq_nil_iff] at e
  subst e
  refine aD ?_
  exact aA ⟨⟨_, rfl, by simp only [go_sem]⟩, trivial⟩
 ·refine aD ?_
  exact aA ⟨⟨_, rfl, by simp only [go_sem, b6Z]⟩, trivial⟩
theorem Done.same {V : View} {w w' : World} {x : Value} (hs : scalar x = true) (hm : Mod V w) (hb : Below w.heap.size w w') : Done V w (.o (.d (.v x))) x w' := by
 refine ⟨⟨V, [], View.le.refl V, ?_, (fun b cs h1 h2 => by rw [h1] at h2; cases h2), ?_, List.nodup_nil, (fun b hb => by cases hb)⟩, hb⟩
 ·intro b cs hbc
  obtain ⟨c, ty, fz, h1, h2⟩ := hm b cs hbc
  exact ⟨c, ty, fz, by rw [← h1]; exact hb.block b (Array.getElem?_eq_some_iff.1 h1).1, h2⟩
 ·refine ⟨[x], rfl, [[]], rfl, rfl, rfl, fun k a y s h1 h2 h3 => ?_⟩
  match k, h1, h2, h3 with
  | 0, rfl, rfl, rfl => exact ⟨rfl, [], .v _ hs⟩
theorem a3a (l : List ByteArray) : (l.map dL).flatten = l.map fun s => (sv s : D) := by
 induction l with
 | nil => rfl
 | cons x l ih => rw [List.map_cons, List.flatten_cons, ih]; rfl
theorem b3g {V : View} {w : World} {l : List ByteArray} {y : Value} {S : List Nat} (hm : Mod V w) (h : Lay V (.sl (l.map dL)) y S) (hl : l ≠ []) :
    ∃ b o cap, y = .slice (some ⟨b, o, none⟩) l.length cap ∧ l.length ≤ cap ∧ b < w.heap.size ∧ ∀ (j : Nat) x, l[j]? = some x → w.cell? ⟨b, o + j, none⟩ = some (.string x) := by
 rcases lay_sl_inv h with ⟨_, h2⟩ | ⟨ad, cap, sz, ys, Ss, rfl, hsz, hcap, hmax, hL, hc, _⟩
 ·exact absurd (List.map_eq_nil_iff.1 h2) hl
 ·rw [a3a] at hL
  have hy : ∀ (j : Nat) x, l[j]? = some x → ys[j]? = some (.string x) := fun j x hx => by
   have hj : j < l.length := (List.getElem?_eq_some_iff.1 hx).1
   have hj1 : j < ys.length := by rw [hL.1]; simpa using hj
   have hj2 : j < Ss.length := by rw [hL.2.1]; simpa using hj
   have h1 := hL.2.2 j (sv x) ys[j] Ss[j] (by rw [List.getElem?_map, hx]; rfl) (List.getElem?_eq_getElem hj1) (List.getElem?_eq_getElem hj2)
   rw [List.getElem?_eq_getElem hj1]
   generalize ys[j] = z at *
   generalize Ss[j] = T at *
   cases h1
   rfl
  have hcell : ∀ (j : Nat) x, l[j]? = some x → V.cell (ad.add j) = some (.string x) := fun j x hx => hc j _ (hy j x hx)
  obtain ⟨x0, hx0⟩ : ∃ x0, l[0]? = some x0 := by
   cases l with
   | nil => exact absurd rfl hl
   | cons x l => exact ⟨x, rfl⟩
  have h0 := hcell 0 x0 hx0
  obtain ⟨b, o, sp⟩ := ad
  have hsp : sp = none := by
   cases sp with
   | none => rfl
   | some s => simp [View.cell, Addr.add] at h0
  subst hsp
  refine ⟨b, o, cap, by simp, by simpa using hcap, ?_, fun j x hx => ?_⟩
  ·unfold View.cell at h0
   split at h0
   ·cases h0
   ·cases hb : V b with
    | none =>
     have : V (Addr.add ⟨b, o, none⟩ 0).block = none := hb
     rw [this] at h0; cases h0
    | some cs => exact hm.lt hb
  ·have h1 := hm.cell (hcell j x hx)
   have e : Addr.add ⟨b, o, none⟩ j = ⟨b, o + j, none⟩ := by
    unfold Addr.add
    split
    ·rename_i h; subst h; rfl
    ·rfl
   rw [e] at h1
   exact h1
theorem b6r : Builder.Extra Tryz.prog Tryz.laysJoin_ren where
 sizeBuilder := by kernel_rfl
 liesBuilder := by kernel_rfl
 t5 := Tryz.underlying5
 a5 := Tryz.isAgg5
 z5 := Tryz.sizeOf5
 v5 := Tryz.zeroValue5
 infoByte := by kernel_rfl
 cellsByte := by kernel_rfl
 sizeByte := by kernel_rfl
 neB5 := by decide
def iT (l : List ByteArray) (sep : ByteArray) : ByteArray := ⟨(Lib.join (l.map (·.data.toList)) sep.data.toList).toArray⟩
theorem xN (l : List ByteArray) (sep : ByteArray) (h0 : l ≠ []) (hl : l.length ≤ 140737488355328) (hj : (iT l sep).size ≤ 140737488355328) : FnC Tryz.prog 92 [.o (.d (.sl (l.map dL))), os sep] (os (iT l sep)) := by
 refine ⟨Tryz.call92, fun V w vs htab hm hargs => ?_⟩
 obtain ⟨hn, hv⟩ := hargs
 match vs, hn with
 | [y, z], _ =>
  obtain ⟨rfl, _⟩ := aR (hv 1 (os sep) z rfl rfl)
  obtain ⟨S, hy⟩ := hv 0 (.o (.d (.sl (l.map dL)))) y rfl rfl
  obtain ⟨b, o, cap, rfl, hcap, hb, hcell⟩ := b3g hm hy h0
  have hsz : (Lib.join (l.map (·.data.toList)) sep.data.toList).length ≤ 281474976710656 := by
   have : (iT l sep).size = (Lib.join (l.map (·.data.toList)) sep.data.toList).length := rfl
   omega
  refine (Any.strings_Join_48 Tryz.laysJoin b6r b o cap l sep w hcell hb hl hcap hsz).mono ?_
  rintro e w' ⟨rfl, hbel⟩
  exact ⟨_, rfl, Done.same rfl hm hbel⟩
end Go.Proofs.YtgpoopjfkplilaaGreatDoor
end
