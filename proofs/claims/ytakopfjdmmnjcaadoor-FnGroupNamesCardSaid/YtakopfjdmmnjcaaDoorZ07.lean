/- Joined texts. -/
import Derived.Test.YtakopfjdmmnjcaaDoorZ06
import Derived.Test.YtakopfjdmmnjcaaDoorZ01
import Derived.Lib.LaidTab
import Derived.Test.YtakopfjdmmnjcaaDoorCards
import Derived.Test.YtakopfjdmmnjcaaDoorTie
import Derived.OpenShut
import Derived.WalkKit
import Derived.ProofKit
import Derived.Deep.DeepHandedRow
import Derived.Stop.LaidErr
import Derived.Test.YtakopfjdmmnjcaaDoorZ05
set_option linter.all false
section
section
set_option linter.all false
set_option maxHeartbeats 1000000
namespace Go.Proofs.YtakopfjdmmnjcaaDoor
open Go Go.Sx Go.RowKit Go.Proofs
structure TResult where
 fName : ByteArray
 fIDs : List Int
@[go_sem] def yO (x : TResult) : List D := [sv x.fName, .sl (x.fIDs.map gL)]
@[go_sem] def a9O (x : TResult) : SV := .g [.d (sv x.fName), .d (.sl (x.fIDs.map gL))]
@[go_sem] def a9P (x : TResult) : SV := .g [.d (sv x.fName), .w 3 1 (x.fIDs.map gL)]
def a6E (x : TResult) : Nat := x.fName.size + x.fIDs.length
def a5p (x : TResult) : Prop := x.fName.size ≤ 9223372036854775807 ∧ a0n x.fIDs
def a5q (l : List TResult) : Nat := l.length + bL a6E l
def a4l (l : List TResult) : Prop := l.length ≤ 9223372036854775807 ∧ ∀ x ∈ l, a5p x
end Go.Proofs.YtakopfjdmmnjcaaDoor
end
section
set_option linter.all false
set_option maxHeartbeats 1000000
namespace Go.Proofs.YtakopfjdmmnjcaaDoor
open Go Go.Sx Go.RowKit Go.Proofs
structure TDiff where
 fName : ByteArray
 fAdded : List Int
 fRemoved : List Int
@[go_sem] def a9Q (x : TDiff) : List D := [sv x.fName, .sl (x.fAdded.map gL), .sl (x.fRemoved.map gL)]
@[go_sem] def b0Y (x : TDiff) : SV := .g [.d (sv x.fName), .d (.sl (x.fAdded.map gL)), .d (.sl (x.fRemoved.map gL))]
@[go_sem] def b0Z (x : TDiff) : SV := .g [.d (sv x.fName), .w 3 1 (x.fAdded.map gL), .w 3 1 (x.fRemoved.map gL)]
def a8X (x : TDiff) : Nat := x.fName.size + x.fAdded.length + x.fRemoved.length
def a7R (x : TDiff) : Prop := x.fName.size ≤ 9223372036854775807 ∧ a0n x.fAdded ∧ a0n x.fRemoved
def b0v (l : List TDiff) : Nat := l.length + bL a8X l
def a9R (l : List TDiff) : Prop := l.length ≤ 9223372036854775807 ∧ ∀ x ∈ l, a7R x
end Go.Proofs.YtakopfjdmmnjcaaDoor
end
section
set_option linter.all false
set_option maxHeartbeats 1000000
namespace Go.Proofs.YtakopfjdmmnjcaaDoor
open Go Go.Sx Go.RowKit Go.Proofs
structure TCatalog where
 fStore : TStore
 fDirs : List TDir
 fResults : List TResult
@[go_sem] def a7S (x : TCatalog) : List D := [.sl (x.fStore.fSchema.map bZ), .sl (x.fStore.fFiles.map cZ), iv x.fStore.fNextID, .sl (x.fDirs.map a0r), .sl (x.fResults.map yO)]
@[go_sem] def a8Y (x : TCatalog) : SV := .g [.d (.sl (x.fStore.fSchema.map bZ)), .d (.sl (x.fStore.fFiles.map cZ)), .d (iv x.fStore.fNextID), .d (.sl (x.fDirs.map a0r)), .d (.sl (x.fResults.map yO))]
def a5r (x : TCatalog) : Nat := bM x.fStore + a7m x.fDirs + a5q x.fResults
def a4m (x : TCatalog) : Prop := a0q x.fStore ∧ a5w x.fDirs ∧ a4l x.fResults
def a8B (l : List TCatalog) : Nat := l.length + bL a5r l
def a7T (l : List TCatalog) : Prop := l.length ≤ 9223372036854775807 ∧ ∀ x ∈ l, a4m x
end Go.Proofs.YtakopfjdmmnjcaaDoor
end
section
set_option linter.all false
set_option maxHeartbeats 1000000
namespace Go.Proofs.YtakopfjdmmnjcaaDoor
open Go Go.Sx Go.RowKit Go.Proofs
structure TGroup where
 fValue : TValue
 fIDs : List Int
@[go_sem] def dJ (x : TGroup) : List D := [iv x.fValue.fKind, iv x.fValue.fInt, sv x.fValue.fStr, .sl (x.fIDs.map gL)]
@[go_sem] def a5s (x : TGroup) : SV := .g [.d (iv x.fValue.fKind), .d (iv x.fValue.fInt), .d (sv x.fValue.fStr), .d (.sl (x.fIDs.map gL))]
@[go_sem] def b0w (x : TGroup) : SV := .g [.d (iv x.fValue.fKind), .d (iv x.fValue.fInt), .d (sv x.fValue.fStr), .w 3 1 (x.fIDs.map gL)]
def iL (x : TGroup) : Nat := fO x.fValue + x.fIDs.length
def a6F (x : TGroup) : Prop := vC x.fValue ∧ a0n x.fIDs
def iB (l : List TGroup) : Nat := l.length + bL iL l
def a8Z (l : List TGroup) : Prop := l.length ≤ 9223372036854775807 ∧ ∀ x ∈ l, a6F x
end Go.Proofs.YtakopfjdmmnjcaaDoor
end
section
set_option linter.all false
set_option maxHeartbeats 1000000
namespace Go.Proofs.YtakopfjdmmnjcaaDoor
open Go Go.Sx Go.RowKit Go.Proofs
structure TEdit where
 fOK : Bool
 fSet : List TAttr
@[go_sem] def a9S (x : TEdit) : List D := [bv x.fOK, .sl (x.fSet.map dE)]
@[go_sem] def b1a (x : TEdit) : SV := .g [.d (bv x.fOK), .d (.sl (x.fSet.map dE))]
@[go_sem] def b1b (x : TEdit) : SV := .g [.d (bv x.fOK), .w 80 4 (x.fSet.map dE)]
def a9a (x : TEdit) : Nat := iM x.fSet
def a7U (x : TEdit) : Prop := True ∧ a0p x.fSet
def b0x (l : List TEdit) : Nat := l.length + bL a9a l
def a9T (l : List TEdit) : Prop := l.length ≤ 9223372036854775807 ∧ ∀ x ∈ l, a7U x
end Go.Proofs.YtakopfjdmmnjcaaDoor
end
section
set_option linter.all false
set_option maxHeartbeats 1000000
namespace Go.Proofs.YtakopfjdmmnjcaaDoor
open Go Go.Sx Go.RowKit Go.Proofs
structure TChange where
 fKind : Int
 fFile : TFile
 fID : Int
 fDir : TDir
@[go_sem] def a8C (x : TChange) : List D := [iv x.fKind, iv x.fFile.fID, iv x.fFile.fOwner, bv x.fFile.fShared, iv x.fFile.fLink, .sl (x.fFile.fAttrs.map dE), iv x.fID, sv x.fDir.fName, .sl (x.fDir.fQuery.map vE)]
@[go_sem] def a9U (x : TChange) : SV := .g [.d (iv x.fKind), .d (iv x.fFile.fID), .d (iv x.fFile.fOwner), .d (bv x.fFile.fShared), .d (iv x.fFile.fLink), .d (.sl (x.fFile.fAttrs.map dE)), .d (iv x.fID), .d (sv x.fDir.fName), .d (.sl (x.fDir.fQuery.map vE))]
def a6G (x : TChange) : Nat := dC x.fFile + a9k x.fDir
def a5t (x : TChange) : Prop := inR .i64 x.fKind ∧ a2G x.fFile ∧ inR .i64 x.fID ∧ a7l x.fDir
def a9b (l : List TChange) : Nat := l.length + bL a6G l
def a8D (l : List TChange) : Prop := l.length ≤ 9223372036854775807 ∧ ∀ x ∈ l, a5t x
end Go.Proofs.YtakopfjdmmnjcaaDoor
end
section
set_option linter.all false
set_option maxHeartbeats 1000000
namespace Go.Proofs.YtakopfjdmmnjcaaDoor
open Go Go.Sx Go.RowKit Go.Proofs
structure TSnapshot where
 fStore : TStore
 fDirs : List TDir
@[go_sem] def a7j (x : TSnapshot) : List D := [.sl (x.fStore.fSchema.map bZ), .sl (x.fStore.fFiles.map cZ), iv x.fStore.fNextID, .sl (x.fDirs.map a0r)]
@[go_sem] def a8E (x : TSnapshot) : SV := .g [.d (.sl (x.fStore.fSchema.map bZ)), .d (.sl (x.fStore.fFiles.map cZ)), .d (iv x.fStore.fNextID), .d (.sl (x.fDirs.map a0r))]
def a4n (x : TSnapshot) : Nat := bM x.fStore + a7m x.fDirs
def a2F (x : TSnapshot) : Prop := a0q x.fStore ∧ a5w x.fDirs
def a7V (l : List TSnapshot) : Nat := l.length + bL a4n l
def a7k (l : List TSnapshot) : Prop := l.length ≤ 9223372036854775807 ∧ ∀ x ∈ l, a2F x
end Go.Proofs.YtakopfjdmmnjcaaDoor
end
section
set_option linter.all false
set_option maxHeartbeats 1000000
namespace Go.Proofs.YtakopfjdmmnjcaaDoor
open Go Go.Sx Go.RowKit Go.Proofs
structure TDisk where
 fSlotA : ByteArray
 fSlotB : ByteArray
@[go_sem] def a9V (x : TDisk) : List D := [sv x.fSlotA, sv x.fSlotB]
@[go_sem] def b1c (x : TDisk) : SV := .g [.d (sv x.fSlotA), .d (sv x.fSlotB)]
def a9c (x : TDisk) : Nat := x.fSlotA.size + x.fSlotB.size
def a7W (x : TDisk) : Prop := x.fSlotA.size ≤ 9223372036854775807 ∧ x.fSlotB.size ≤ 9223372036854775807
def b0y (l : List TDisk) : Nat := l.length + bL a9c l
def a9W (l : List TDisk) : Prop := l.length ≤ 9223372036854775807 ∧ ∀ x ∈ l, a7W x
end Go.Proofs.YtakopfjdmmnjcaaDoor
end
section
set_option linter.all false
namespace Go.Proofs.YtakopfjdmmnjcaaDoor
open Go Go.Sx Go.RowKit Go.Proofs
def inB (n a b : Int) : Bool := decide (a ≤ n) && decide (n ≤ b)
theorem sQ (n a b : Int) : FnC Tryd.prog 68 [oi n, oi a, oi b] (ob (inB n a b)) := by
 refine ent Tryd.func68 rfl Tryd.call68 rfl (fun C => ?_); simp only [go_sem, st0, Tryd.ntmps68]
 by_cases h0 : a ≤ n <;> by_cases h1 : n ≤ b
 all_goals
  have q0 := @h0; have q1 := @h1; have q2 := @decide_false; refine rM ?_
  refine aA ⟨⟨_, rfl, ?_⟩, ?_⟩
  ·simp only [go_sem]; simp [inB, h0, h1]
  ·trivial
theorem bB (n a b : Int) : FnC Tryd.prog 31 [oi n, oi a, oi b] (ob (inB n a b)) := by
 refine ent Tryd.func31 rfl Tryd.call31 rfl (fun C => ?_); simp only [go_sem, st0, Tryd.ntmps31]
 by_cases h0 : a ≤ n <;> by_cases h1 : n ≤ b
 all_goals
  have q0 := @h0; have q1 := @h1; have q2 := @decide_false; refine rM ?_
  refine aA ⟨⟨_, rfl, ?_⟩, ?_⟩
  ·simp only [go_sem]; simp [inB, h0, h1]
  ·trivial
end Go.Proofs.YtakopfjdmmnjcaaDoor
end
section
set_option linter.all false
set_option maxHeartbeats 1000000
namespace Go.Proofs.YtakopfjdmmnjcaaDoor
open Go Go.Sx Go.RowKit Go.Proofs
end Go.Proofs.YtakopfjdmmnjcaaDoor
end
end
section
set_option maxRecDepth 100000
set_option maxHeartbeats 4000000
namespace Go.Proofs.YtakopfjdmmnjcaaDoor
open Go Go.Sx Go.RowKit Go.Proofs
def low (s : ByteArray) (k : Nat) : Bool := inB (iJ s k) 97 122
def jL (s : ByteArray) : Bool := (List.range s.size).all (low s)
def dK (s : ByteArray) (n : Int) : Bool := jL s && inB s.size 1 n
theorem wN (s : ByteArray) (n : Int) (hs : s.size ≤ 4300000) : FnC Tryd.prog 67 [os s, oi n] (ob (dK s n)) := by
 refine ent Tryd.func67 rfl Tryd.call67 rfl (fun C => ?_); simp only [go_sem, st0, Tryd.ntmps67]
 refine aL ?_
 refine bX (α := Nat) (fun k => [(5, oi k)]) (fun _ => []) (fun k => k ≤ s.size ∧ jL s = ((List.range s.size).drop k).all (low s)) (fun k => s.size - k) 0 (fun _ => ?_) ?_ ?_ (fun k hk => ?_)
 ·simp only [go_sem]
 ·simp only [go_sem]; simp
 ·simp [jL]
 ·obtain ⟨hk, hq⟩ := hk
  simp only [go_sem]
  refine aL ?_
  refine cnd rfl (fun h => ?_) (fun h => ?_)
  ·simp only [decide_eq_true_eq, Int.ofNat_lt] at h
   have h' : k < (List.range s.size).length := by simpa using h
   have hd := List.drop_eq_getElem_cons h'
   rw [hd, List.all_cons, List.getElem_range] at hq
   have hb := yA s k
   by_cases h1 : iJ s k < 97
   ·have hf : jL s = false := by rw [hq]; simp [low, inB]; omega
    have q0 := @h; have q1 := @h1; refine iK ?_
    exact aA ⟨⟨_, rfl, by simp only [go_sem, dK, hf, Bool.false_and]⟩, trivial⟩
   by_cases h2 : 122 < iJ s k
   ·have hf : jL s = false := by rw [hq]; simp [low, inB]; omega
    have q0 := @h; have q1 := @h1; have q2 := @h2; have q3 := @decide_false; refine pY ?_
    exact aA ⟨⟨_, rfl, by simp only [go_sem, dK, hf, Bool.false_and]⟩, trivial⟩
   ·have q0 := @h; have q1 := @h1; have q2 := @h2; have q3 := @decide_false; refine pY ?_
    refine bF (k + 1) ?_ ?_ ?_
    ·simp only [go_sem]; simp
    ·refine ⟨h, ?_⟩
     have hl : low s k = true := by simp [low, inB]; omega
     rw [hq, hl]; simp
    ·omega
  ·simp only [decide_eq_false_iff_not] at h
   have e : k = s.size := by omega
   have hq' : jL s = true := by
    rw [hq, List.drop_of_length_le (by simp [e])]; rfl
   refine wM (bB s.size 1 n) ?_
   refine aA ⟨⟨_, rfl, ?_⟩, ?_⟩
   ·simp only [go_sem, dK, hq']
   ·trivial
theorem bI (s : ByteArray) (hs : s.size ≤ 4300000) : FnC Tryd.prog 51 [os s] (ob (dK s 1)) := by
 refine ent Tryd.func51 rfl Tryd.call51 rfl (fun C => ?_); simp only [go_sem, st0, Tryd.ntmps51]
 refine wM (wN s 1 hs) ?_
 refine aA ⟨⟨_, rfl, ?_⟩, ?_⟩
 ·simp only [go_sem]
 ·trivial
theorem iE (s : ByteArray) (hs : s.size ≤ 4300000) : FnC Tryd.prog 72 [os s] (ob (dK s 6)) := by
 refine ent Tryd.func72 rfl Tryd.call72 rfl (fun C => ?_); simp only [go_sem, st0, Tryd.ntmps72]
 refine wM (wN s 6 hs) ?_
 exact aA ⟨⟨_, rfl, by simp only [go_sem]⟩, trivial⟩
theorem iF (s : ByteArray) (hs : s.size ≤ 4300000) : FnC Tryd.prog 69 [os s] (ob (dK s 6)) := by
 refine ent Tryd.func69 rfl Tryd.call69 rfl (fun C => ?_); simp only [go_sem, st0, Tryd.ntmps69]
 refine aL ?_
 refine bX (α := Nat) (fun k => [(6, oi k)]) (fun _ => []) (fun k => k ≤ s.size ∧ jL s = ((List.range s.size).drop k).all (low s)) (fun k => s.size - k) 0 (fun _ => ?_) ?_ ?_ (fun k hk => ?_)
 ·simp only [go_sem]
 ·simp only [go_sem]; simp
 ·simp [jL]
 ·obtain ⟨hk, hq⟩ := hk
  simp only [go_sem]
  refine aL ?_
  refine cnd rfl (fun h => ?_) (fun h => ?_)
  ·simp only [decide_eq_true_eq, Int.ofNat_lt] at h
   have h' : k < (List.range s.size).length := by simpa using h
   have hd := List.drop_eq_getElem_cons h'
   rw [hd, List.all_cons, List.getElem_range] at hq
   have hb := yA s k
   by_cases h1 : iJ s k < 97
   ·have hf : jL s = false := by rw [hq]; simp [low, inB]; omega
    have q0 := @h; have q1 := @h1; refine iK ?_
    exact aA ⟨⟨_, rfl, by simp only [go_sem, dK, hf, Bool.false_and]⟩, trivial⟩
   by_cases h2 : 122 < iJ s k
   ·have hf : jL s = false := by rw [hq]; simp [low, inB]; omega
    have q0 := @h; have q1 := @h1; have q2 := @h2; have q3 := @decide_false; refine pY ?_
    exact aA ⟨⟨_, rfl, by simp only [go_sem, dK, hf, Bool.false_and]⟩, trivial⟩
   ·have q0 := @h; have q1 := @h1; have q2 := @h2; have q3 := @decide_false; refine pY ?_
    refine bF (k + 1) ?_ ?_ ?_
    ·simp only [go_sem]; simp
    ·refine ⟨h, ?_⟩
     have hl : low s k = true := by simp [low, inB]; omega
     rw [hq, hl]; simp
    ·omega
  ·simp only [decide_eq_false_iff_not] at h
   have e : k = s.size := by omega
   have hq' : jL s = true := by
    rw [hq, List.drop_of_length_le (by simp [e])]; rfl
   refine wM (sQ s.size 1 6) ?_
   refine aA ⟨⟨_, rfl, ?_⟩, ?_⟩
   ·simp only [go_sem, dK, hq']
   ·trivial
def eB (v : TValue) : Bool :=
 if v.fKind = 0 then decide (v.fInt = 0) && decide (v.fStr = ⟨#[]⟩)
 else if v.fKind = 1 then inB v.fInt 0 999 && decide (v.fStr = ⟨#[]⟩)
 else if v.fKind = 2 then dK v.fStr 6 && decide (v.fInt = 0) else false
theorem dO (v : TValue) (hs : v.fStr.size ≤ 4300000) : FnC Tryd.prog 52 [eT v] (ob (eB v)) := by
 refine ent Tryd.func52 rfl Tryd.call52 rfl (fun C => ?_); simp only [go_sem, st0, Tryd.ntmps52]
 by_cases h0 : v.fKind = 0
 ·have q0 := @h0; have q1 := @decide_true; refine iK ?_
  exact aA ⟨⟨_, rfl, by simp only [go_sem, eB, h0, if_true, decide_true, Bool.true_and]⟩, trivial⟩
 by_cases h1 : v.fKind = 1
 ·cases hb : inB v.fInt 0 999
  ·have q0 := @h0; have q1 := @h1; have q2 := @decide_true; have q3 := @decide_false; have q4 := @hb; refine a4k (sQ v.fInt 0 999) ?_
   exact aA ⟨⟨_, rfl, by simp only [go_sem, eB, h0, h1, hb, if_true, if_false, Bool.false_and]⟩, trivial⟩
  ·have q0 := @h0; have q1 := @h1; have q2 := @decide_true; have q3 := @decide_false; have q4 := @hb; refine a4k (sQ v.fInt 0 999) ?_
   exact aA ⟨⟨_, rfl, by simp only [go_sem, eB, h0, h1, hb, if_true, if_false, Bool.true_and]⟩, trivial⟩
 by_cases h2 : v.fKind = 2
 ·cases hb : dK v.fStr 6
  ·have q0 := @h0; have q1 := @h1; have q2 := @h2; have q3 := @decide_true; have q4 := @decide_false; have q5 := @hb; refine a5o (iF v.fStr hs) ?_
   exact aA ⟨⟨_, rfl, by simp only [go_sem, eB, h0, h1, h2, hb, if_true, if_false, Bool.false_and]⟩, trivial⟩
  ·have q0 := @h0; have q1 := @h1; have q2 := @h2; have q3 := @decide_true; have q4 := @decide_false; have q5 := @hb; refine a5o (iF v.fStr hs) ?_
   exact aA ⟨⟨_, rfl, by simp only [go_sem, eB, h0, h1, h2, hb, if_true, if_false, Bool.true_and]⟩, trivial⟩
 ·have q0 := @h0; have q1 := @h1; have q2 := @h2; have q3 := @decide_false; refine pY ?_
  exact aA ⟨⟨_, rfl, by simp only [go_sem, eB, h0, h1, h2, if_false]⟩, trivial⟩
theorem fG (v : TValue) (hs : v.fStr.size ≤ 4300000) : FnC Tryd.prog 65 [eT v] (ob (eB v)) := by
 refine ent Tryd.func65 rfl Tryd.call65 rfl (fun C => ?_); simp only [go_sem, st0, Tryd.ntmps65]
 by_cases h0 : v.fKind = 0
 ·have q0 := @h0; have q1 := @decide_true; refine iK ?_
  exact aA ⟨⟨_, rfl, by simp only [go_sem, eB, h0, if_true, decide_true, Bool.true_and]⟩, trivial⟩
 by_cases h1 : v.fKind = 1
 ·cases hb : inB v.fInt 0 999
  ·have q0 := @h0; have q1 := @h1; have q2 := @decide_true; have q3 := @decide_false; have q4 := @hb; refine a4k (bB v.fInt 0 999) ?_
   exact aA ⟨⟨_, rfl, by simp only [go_sem, eB, h0, h1, hb, if_true, if_false, Bool.false_and]⟩, trivial⟩
  ·have q0 := @h0; have q1 := @h1; have q2 := @decide_true; have q3 := @decide_false; have q4 := @hb; refine a4k (bB v.fInt 0 999) ?_
   exact aA ⟨⟨_, rfl, by simp only [go_sem, eB, h0, h1, hb, if_true, if_false, Bool.true_and]⟩, trivial⟩
 by_cases h2 : v.fKind = 2
 ·cases hb : dK v.fStr 6
  ·have q0 := @h0; have q1 := @h1; have q2 := @h2; have q3 := @decide_true; have q4 := @decide_false; have q5 := @hb; refine a5o (iE v.fStr hs) ?_
   exact aA ⟨⟨_, rfl, by simp only [go_sem, eB, h0, h1, h2, hb, if_true, if_false, Bool.false_and]⟩, trivial⟩
  ·have q0 := @h0; have q1 := @h1; have q2 := @h2; have q3 := @decide_true; have q4 := @decide_false; have q5 := @hb; refine a5o (iE v.fStr hs) ?_
   exact aA ⟨⟨_, rfl, by simp only [go_sem, eB, h0, h1, h2, hb, if_true, if_false, Bool.true_and]⟩, trivial⟩
 ·have q0 := @h0; have q1 := @h1; have q2 := @h2; have q3 := @decide_false; refine pY ?_
  exact aA ⟨⟨_, rfl, by simp only [go_sem, eB, h0, h1, h2, if_false]⟩, trivial⟩
theorem tJ : ((List.range 20).map fun i => Value.int .u64 ((10 ^ i : Nat) : Int)) = Lib.pow10Tab.map fun z => Value.int .u64 z := by
 unfold Lib.pow10Tab; rw [List.map_map]; rfl
theorem mP : Tryd.prog.globalNamed "internal/strconv.uint64pow10" = some 0 := by kernel_rfl
theorem a7p {w : World} {X : List Nat} (h : tabOK w X) : Lib.TabIs Tryd.prog w "internal/strconv.uint64pow10" .u64 Lib.pow10Tab := by
 obtain ⟨_, ty, fz, h1⟩ := h _ (List.mem_cons_self ..)
 unfold Lib.TabIs World.var?
 rw [mP, Option.bind_some, h1]
 simp only [tJ]
theorem a7q {w : World} (h : Lib.TabIs Tryd.prog w "internal/strconv.uint64pow10" .u64 Lib.pow10Tab) : tabOK w [] := by
 intro t ht
 obtain rfl := List.mem_singleton.1 ht
 refine ⟨by simp, ?_⟩
 unfold Lib.TabIs World.var? at h
 rw [mP, Option.bind_some] at h
 simp only [tJ]
 split at h
 ·rename_i cs ty fz e
  cases h
  exact ⟨ty, fz, e⟩
 ·cases h
def tK (n : Int) : ByteArray := ⟨(Lib.itoa n).toArray⟩
theorem a5Y (n : Int) (hn : inR .i64 n) : FnC Tryd.prog 70 [oi n] (os (tK n)) := by
 refine ⟨Tryd.call70, fun V w vs htab hm hargs => ?_⟩
 obtain ⟨hl, hv⟩ := hargs
 match vs, hl with
 | [y], _ =>
  obtain ⟨rfl, _⟩ := aH (hv 0 (oi n) y rfl rfl)
  refine (Any.strconv_Itoa Tryd.laysItoa n hn.1 hn.2 w (a7p htab)).mono ?_
  rintro e w' ⟨rfl, k, ob', rfl⟩
  have hb : ∀ k' : Nat, k' < w.heap.size → (w.heap ++ ob')[k']? = w.heap[k']? := fun k' hk' => Array.getElem?_append_left hk'
  refine ⟨_, rfl, ⟨V, [], View.le.refl V, ?_, (fun b cs h1 h2 => by rw [h1] at h2; cases h2), ?_, List.nodup_nil, (fun b hb => by cases hb)⟩, ⟨rfl, rfl, rfl, ?_, hb⟩⟩
  ·intro b cs hbc
   obtain ⟨c, ty, fz, h1, h2⟩ := hm b cs hbc
   exact ⟨c, ty, fz, by rw [← h1]; exact hb b (Array.getElem?_eq_some_iff.1 h1).1, h2⟩
  ·refine ⟨[.string (tK n)], rfl, [[]], rfl, rfl, rfl, fun k a y s h1 h2 h3 => ?_⟩
   match k, h1, h2, h3 with
   | 0, rfl, rfl, rfl => exact ⟨rfl, [], .v _ rfl⟩
  ·show w.heap.size ≤ (w.heap ++ ob').size
   rw [Array.size_append]; omega
theorem sH (n : Int) (hn : inR .i64 n) : FnC Tryd.prog 53 [oi n] (os (tK n)) := by
 refine ent Tryd.func53 rfl Tryd.call53 rfl (fun C => ?_); simp only [go_sem, st0, Tryd.ntmps53]
 refine wM (a5Y n hn) ?_
 exact aA ⟨⟨_, rfl, by simp only [go_sem]⟩, trivial⟩
def b1o (u : Nat) : List UInt8 := if u = 0 then [] else Lib.decDigits u
def pI (v : TValue) : ByteArray := if eB v then (if v.fKind = 1 then tK v.fInt else if v.fKind = 2 then v.fStr else ⟨#[45]⟩) else ⟨#[63]⟩
theorem pJ (v : TValue) (hs : v.fStr.size ≤ 4300000) (hi : inR .i64 v.fInt) : FnC Tryd.prog 32 [eT v] (os (pI v)) := by
 refine ent Tryd.func32 rfl Tryd.call32 rfl (fun C => ?_); simp only [go_sem, st0, Tryd.ntmps32]
 cases h0 : eB v
 ·have q0 := @h0; refine a0m (dO v hs) ?_
  exact aA ⟨⟨_, rfl, by simp only [go_sem, pI, h0, if_false, Bool.false_eq_true]⟩, trivial⟩
 by_cases h1 : v.fKind = 1
 ·have d1 : decide (v.fKind = 1) = true := by simp [h1]
  have q0 := @h0; have q1 := @d1; refine a6B (dO v hs) (sH v.fInt hi) ?_
  exact aA ⟨⟨_, rfl, by simp only [go_sem, pI, h0, h1, if_true]⟩, trivial⟩
 have d1 : decide (v.fKind = 1) = false := by simp [h1]
 by_cases h2 : v.fKind = 2
 ·have d2 : decide (v.fKind = 2) = true := by simp [h2]
  have q0 := @h0; have q1 := @d1; have q2 := @d2; refine a6C (dO v hs) ?_
  exact aA ⟨⟨_, rfl, by simp only [go_sem, pI, h0, h1, h2, if_true, if_false]⟩, trivial⟩
 ·have d2 : decide (v.fKind = 2) = false := by simp [h2]
  have q0 := @h0; have q1 := @d1; have q2 := @d2; refine a6C (dO v hs) ?_
  exact aA ⟨⟨_, rfl, by simp only [go_sem, pI, h0, h1, h2, if_true, if_false]⟩, trivial⟩
theorem sI (v : TValue) (hs : v.fStr.size ≤ 4300000) (hi : inR .i64 v.fInt) : FnC Tryd.prog 10 [eT v] (os (pI v)) := by
 refine ent Tryd.func10 rfl Tryd.call10 rfl (fun C => ?_); simp only [go_sem, st0, Tryd.ntmps10]
 refine wM (pJ v hs hi) ?_
 exact aA ⟨⟨_, rfl, by simp only [go_sem]⟩, trivial⟩
end Go.Proofs.YtakopfjdmmnjcaaDoor
end
section
namespace Go.Proofs.YtakopfjdmmnjcaaDoor
open Go Go.Sx Go.RowKit Go.Proofs
theorem a2a : (Tryd.prog.globals[0]?).map (·.type) = some 113 := by kernel_rfl
theorem xI : Tryd.prog.cellsOf 113 = 20 := by kernel_rfl
theorem zI : Tryd.prog.cellsOf 106 = 1 := by kernel_rfl
theorem a3N : Tryd.prog.underlying 113 = some (.array 20 106) := by kernel_rfl
theorem a2b : Tryd.prog.underlying 106 = some (.int .u64) := by kernel_rfl
theorem a0J : (Rows.laid_internal_strconv_uint64pow10 : DataW Unit) = Lib.tabData .u64 Lib.pow10Tab := by kernel_rfl
theorem a5X {W : World} (h : laidMetH Tryd.prog [("math/bits.deBruijn32tab", Rows.laid_math_bits_deBruijn32tab), ("math/bits.deBruijn64tab", Rows.laid_math_bits_deBruijn64tab), ("internal/strconv.uint64pow10", Rows.laid_internal_strconv_uint64pow10)] W) : tabOK W [] := by
 have h' : laidMet Tryd.prog [("math/bits.deBruijn32tab", Rows.laid_math_bits_deBruijn32tab), ("math/bits.deBruijn64tab", Rows.laid_math_bits_deBruijn64tab), ("internal/strconv.uint64pow10", Rows.laid_internal_strconv_uint64pow10)] W := h
 have h2 := h'.tail.tail
 rw [a0J] at h2
 exact a7q (Lib.tabIs_of_head (rest := []) mP a2a a3N a2b zI xI h2)
def a2c : DataW Unit → Array Value
 | .agg l => (l.map fun | .lit (.int k n) => Value.int k n | _ => .bool false).toArray
 | _ => #[]
def a7o (cs : Array Value) : Obj → Obj
 | .cells _ t frozen => .cells cs t frozen
 | o => o
noncomputable def sG (os : Os) : World :=
 { World.holding Tryd.prog os ⟨#[], #[], []⟩ with heap := (((World.holding Tryd.prog os ⟨#[], #[], []⟩).heap.modify 1 (a7o (a2c Rows.laid_math_bits_deBruijn32tab))).modify 2 (a7o (a2c Rows.laid_math_bits_deBruijn64tab))).modify 0 (a7o (a2c Rows.laid_internal_strconv_uint64pow10)) }
end Go.Proofs.YtakopfjdmmnjcaaDoor
end
section
namespace Go.Sx
open Go Go.RowKit
structure DoneB (V : View) (w : World) (b ty : Nat) (res : SV) (ds' : List D) (y : Value) (w' : World) : Prop where
 grown : w.grownBy w' (some b)
 out : ∃ V' S l', V.le V' ∧ Mod V' w' ∧ (∀ n cs, V' n = some cs → V n = none → w.heap.size ≤ n ∧ Unf w' n) ∧ rSV V' w' res y S ∧ S.Nodup ∧ (∀ n ∈ S, w.heap.size ≤ n ∧ n < w'.heap.size) ∧ w'.heap[b]? = some (.cells (List.toArray l') ty (0, 0)) ∧ cL [] V' (ds'.map At.d) l'
structure FnB (P : Program) (f ty : Nat) (ds : List D) (args : List SV) {α : Type} (Q : α → Prop) (res : α → SV) (ds' : α → List D) : Prop where
 enters : ∀ aS w, (callFunc f aS).run P w = .ok (.enter f aS) w
 calls : ∀ V w b l vs, tabOK w [b] → Mod V w → V b = none → b < w.heap.size → w.heap[b]? = some (.cells (List.toArray l) ty (0, 0)) → cL [] V (ds.map At.d) l → jV V args vs →
  Calls P f (Value.pointer (some ⟨b, 0, none⟩) :: vs).toArray w fun e w' => ∃ y a, e = .returned y ∧ Q a ∧ DoneB V w b ty (res a) (ds' a) y w'
section
variable {E : Env} {C : Ctx} {g : List Gh} {V : View} {st : St} {a : Act} {w : World}
theorem a3v (hr : Rel C g V st a w) : ∀ {aS bs : List At}, dM st.h aS bs → ∀ b ∈ (iY g aS bs).flatten, ∃ (id : Nat) (x : Gh) (ty sz : Nat) (rows : List (List D)) (lin : Bool), st.h[id]? = some (.row ty sz rows lin) ∧ g[id]? = some x ∧ b ∈ aD x (.row ty sz rows lin)
 | [], [], _, b, hb => by simp [iY] at hb
 | [], _ :: _, h, _, _ => by simp [dM] at h
 | _ :: _, [], h, _, _ => by simp [dM] at h
 | x :: aS, r :: bs, h, b, hb => by
  have hx : mM st.h x r := (gP h).2 0 x r rfl rfl
  have ht : dM st.h aS bs := by
   cases aS with
   | nil => cases bs with
    | nil => trivial
    | cons => simp [dM] at h
   | cons a2 aS => cases bs with
    | nil => simp [dM] at h
    | cons b2 bs => exact h.2
  simp only [iY, List.flatten_cons, List.mem_append] at hb
  rcases hb with hb | hb
  ·cases x with
   | s id => cases r with
    | w ty sz rows =>
     simp only [goS] at hb
     cases hg : g[id]? with
     | none => simp [hg] at hb
     | some gx =>
      simp only [hg] at hb
      simp only [mM] at hx
      split at hx
      ·rename_i ty' sz' rows' lin e
       obtain ⟨rfl, rfl, rfl, rfl⟩ := hx
       exact ⟨id, gx, _, _, _, _, aB e (by simp), hg, by simpa [aD] using hb⟩
      ·exact hx.elim
    | m ty sz rows =>
     simp only [goS] at hb
     cases hg : g[id]? with
     | none => simp [hg] at hb
     | some gx =>
      simp only [hg] at hb
      simp only [mM] at hx
      split at hx
      ·rename_i ty' sz' rows' lin e
       obtain ⟨rfl, rfl, rfl⟩ := hx
       exact ⟨id, gx, _, _, _, _, aB e (by simp), hg, by simp only [aD]; exact List.mem_append.2 (.inl hb)⟩
      ·exact hx.elim
    | _ => simp [goS] at hb
   | _ => simp [goS] at hb
  ·exact a3v hr ht b hb
theorem yU (hT : TyOK E.P E.T) {pb ty : Nat} {ds' : List D} (hX : C.X = [pb]) (hr : Rel C g V st a w) {fn : Func} {rs : List ResultVar} (hf : fn.results = rs.toArray) {res : SV} (h : RetOK E st rs res) (h0 : aU st.h 0 = .pin pb ty ds') :
    ∃ y, (results fn a.tmps).run E.P w = .ok y w ∧ DoneB C.V0 C.w0 pb ty res ds' y w := by
 have hi0 := aB h0 (by simp)
 obtain ⟨x0, hx0⟩ : ∃ x0, g[0]? = some x0 := ⟨_, List.getElem?_eq_getElem (by rw [hr.hp.glen]; exact (List.getElem?_eq_some_iff.1 hi0).1)⟩
 obtain ⟨p1, l', p2, p3⟩ := hr.hp.hb 0 _ x0 hi0 hx0
 have pr : V pb = none := hr.hp.rt 0 _ x0 hi0 hx0 pb (by simp [aG, p1])
 obtain ⟨⟨l, h1, h2, h3, h4⟩, hone⟩ := h
 obtain ⟨vs, ls, f1, f2, f3, f4, f5⟩ := mQ hT hr h1
 have f1' : (rs.mapM (rvM a)).run E.P w = .ok vs w := by
  rw [← f1]
  congr 2
 refine ⟨_, iZ hf f1', ⟨hr.fr.os, hr.fr.tape, hr.fr.output, hr.fr.size, fun k hk hne => hr.fr.block k hk (by rw [hX]; simpa using fun e => hne (by rw [e]))⟩, V, (iY g (l.flatMap (·.2)) ((mO res).flatMap (·.2))).flatten, l', hr.vw.le, hr.mod, fun b cs q1 q2 => ?_, ⟨ls.flatten, ?_, ?_⟩, iP hr h3 h4, fun b hb => ?_, p2, p3⟩
 ·have := hr.vw.fresh b cs q1 q2
  rw [hX] at this
  refine ⟨?_, hr.vw.unf b cs q1 q2⟩
  rcases this with h | h
  ·exact h
  ·simp only [List.mem_singleton] at h
   subst h
   rw [pr] at q1; cases q1
 ·
  have hlen : l.length = (mO res).length := by simpa using congrArg List.length h2
  have hget : ∀ (k : Nat) (b : Bool) (c : List At), (mO res)[k]? = some (b, c) → ∃ c', l[k]? = some (b, c') ∧ c'.length = c.length := fun k b c hk => by
   have := congrArg (fun z => z[k]?) h2
   simp only [List.getElem?_map, hk, Option.map_some] at this
   cases hl : l[k]? with
   | none => rw [hl] at this; cases this
   | some x =>
    rw [hl] at this
    simp only [Option.map_some, Option.some.injEq, Prod.mk.injEq] at this
    exact ⟨x.2, by rw [← this.1], this.2⟩
  have one : ∀ (b : Bool) (c : List At), mO res = [(b, c)] → ∃ v m, vs = [v] ∧ ls = [m] ∧ (if b then v = .agg m.toArray else m = [v]) := fun b c e => by
   obtain ⟨c', hc', _⟩ := hget 0 b c (by rw [e]; rfl)
   rw [e] at hlen
   match vs, f2.trans hlen, ls, f3.trans hlen with
   | [v], _, [m], _ => exact ⟨v, m, rfl, rfl, (f4 0 b c' m v hc' rfl rfl).1⟩
  cases res with
  | o x =>
   obtain ⟨v, m, rfl, rfl, e⟩ := one false [x] rfl
   simpa [shapeOf] using e
  | g cs =>
   obtain ⟨v, m, rfl, rfl, e⟩ := one true cs rfl
   simpa [shapeOf] using e
  | t cs =>
   refine ⟨ls, f3.trans hlen, rfl, fun k b c m hk hm => ?_, vs, ?_, f2.trans hlen, fun k b c m v hk hm hv => ?_⟩
   ·obtain ⟨c', hc', e⟩ := hget k b c hk
    have hv : k < vs.length := by rw [f2, ← f3]; exact (List.getElem?_eq_some_iff.1 hm).1
    have := (f4 k b c' m _ hc' hm (List.getElem?_eq_getElem hv)).2.1
    omega
   ·have hne : vs.length ≠ 1 := by rw [f2, hlen]; exact hone
    match vs, hne with
    | [], _ => rfl
    | v :: v' :: r, _ => rfl
   ·obtain ⟨c', hc', e⟩ := hget k b c hk
    exact (f4 k b c' m v hc' hm hv).1
 ·have hl := gP h3
  refine ⟨iY g (l.flatMap (·.2)) ((mO res).flatMap (·.2)), ?_, ?_, rfl, fun k x y s e1 e2 e3 => ?_⟩
  ·rw [f5.1, hl.1, kR]
  ·rw [qK g hl.1, hl.1, kR]
  ·rw [kR] at e1
   have hk : k < (l.flatMap (·.2)).length := by rw [hl.1]; exact (List.getElem?_eq_some_iff.1 e1).1
   have e0 : (l.flatMap (·.2))[k]? = some ((l.flatMap (·.2))[k]) := List.getElem?_eq_getElem hk
   rw [qL g e0 e1] at e3
   cases e3
   exact zK hr (hl.2 k _ x e0 e1) (f5.2 k _ y e0 e2)
 ·obtain ⟨id, x, rty, rsz, rr, rl, e1, e2, e3⟩ := a3v hr h3 b hb
  have := hr.hp.lo id _ x e1 e2 b e3
  refine ⟨?_, this.2⟩
  rw [hX] at this
  rcases this.1 with h | h
  ·exact h
  ·simp only [List.mem_singleton] at h
   subst h
   have hne : id ≠ 0 := fun e => by rw [e, hi0] at e1; cases e1
   exact (hr.hp.dj id 0 _ _ x x0 hne e1 e2 hi0 hx0 b e3 (by simp [aD, p1])).elim
end
def a8h (E : Env) (rs : List ResultVar) (b ty : Nat) {α : Type} (Q : α → Prop) (res : α → SV) (ds' : α → List D) : Ex → St → Prop
 | .exit _, _ => False
 | _, st => ∃ st' a, Sees E.C st st' ∧ RetOK E st' rs (res a) ∧ Q a ∧ aU st'.h 0 = .pin b ty (ds' a)
theorem eF {E : Env} {rs : List ResultVar} {b ty : Nat} {α : Type} {Q : α → Prop} {res : α → SV} {ds' : α → List D} {st : St} (a : α) (h : RetOK E st rs (res a)) (hq : Q a) (hp : aU st.h 0 = .pin b ty (ds' a)) : a8h E rs b ty Q res ds' .ret st := ⟨st, a, Sees.refl _ _, h, hq, hp⟩
def stB (b ty : Nat) (ds : List D) (args : List SV) (n : Nat) : St := ⟨.o (.p 0 0) :: (args ++ List.replicate (n - 1 - args.length) (.t [])), [.pin b ty ds]⟩
theorem FnB.of_wp {P : Program} {T : Nat → Ty} {eqk : Nat → List Nat} (hT : TyOK P T) {f : Nat} {fn : Func} {c : Code} {rs : List ResultVar} {ty : Nat} {ds : List D} {args : List SV} {α : Type} {Q : α → Prop} {res : α → SV} {ds' : α → List D}
    (hf : P.funcs[f]? = some fn) (hb : fn.body = some c) (hcall : ∀ aS w, (callFunc f aS).run P w = .ok (.enter f aS) w) (hres : fn.results = rs.toArray)
    (h : ∀ (C : Ctx) (b : Nat), C.X = [b] → WP P C c (aT P C [] (a8h ⟨P, T, C, eqk⟩ rs b ty Q res ds')) (stB b ty ds args fn.ntmps)) : FnB P f ty ds args Q res ds' := by
 refine ⟨hcall, fun V w b l vs htab hm hVb hlt hheap hcl ha => ?_⟩
 let C : Ctx := ⟨w, [b], V, htab⟩
 refine calls_of_wp hf hb ?_
 let x : Gh := ⟨some b, undef, [], []⟩
 have hr : Rel C [x] V (stB b ty ds args fn.ntmps) { tmps := (Value.pointer (some ⟨b, 0, none⟩) :: vs).toArray ++ Array.replicate (fn.ntmps - (Value.pointer (some ⟨b, 0, none⟩) :: vs).toArray.size) undef, defers := [] } w := by
  refine ⟨⟨by simp [stB, ha.1]; omega, fun i s y h1 h2 => ?_, rfl⟩, ⟨rfl, ?_, ?_, ?_, ?_, ?_⟩, hm,
   ⟨rfl, rfl, rfl, Nat.le_refl _, fun _ _ _ => rfl⟩, ⟨View.le.refl V, (fun b cs h1 h2 => by have h2' : V b = none := h2; rw [h1] at h2'; cases h2'), (fun b cs h1 h2 => by have h2' : V b = none := h2; rw [h1] at h2'; cases h2')⟩⟩
  ·match i with
   | 0 =>
    simp [stB] at h1
    rw [Array.getElem?_append_left (by simp)] at h2
    simp at h2
    subst h1; subst h2
    exact ⟨x, b, rfl, rfl, rfl⟩
   | i + 1 =>
    simp only [stB, List.getElem?_cons_succ] at h1
    have h2' : (vs.toArray ++ Array.replicate (fn.ntmps - (vs.length + 1)) undef)[i]? = some y := by
     simp only [List.size_toArray, List.length_cons] at h2
     rw [← h2]
     rw [Array.getElem?_append, Array.getElem?_append]
     simp
    rw [List.getElem?_append] at h1
    rw [Array.getElem?_append] at h2'
    simp only [List.size_toArray, ha.1] at h2'
    split at h1
    ·rw [if_pos ‹_›] at h2'
     exact (ha.2 i s y h1 (by simpa using h2')).mono (fun j z hz => by simp at hz) (View.le.refl V)
    ·rw [if_neg ‹_›] at h2'
     rw [List.getElem?_replicate] at h1
     rw [Array.getElem?_replicate] at h2'
     split at h1
     ·split at h2'
      ·cases h1; cases h2'; exact dZ _ _
      ·cases h2'
     ·cases h1
  all_goals
   have key : ∀ (i : Nat) (c : HB) (z : Gh), (stB b ty ds args fn.ntmps).h[i]? = some c → [x][i]? = some z → i = 0 ∧ c = .pin b ty ds ∧ z = x := fun i c z h1 h2 => by
    match i with
    | 0 => simp [stB] at h1 h2; exact ⟨rfl, h1.symm, h2.symm⟩
    | i + 1 => simp at h2
  ·intro i c z h1 h2
   obtain ⟨rfl, rfl, rfl⟩ := key i c z h1 h2
   exact ⟨rfl, l, hheap, hcl⟩
  ·intro i c z h1 h2
   obtain ⟨rfl, rfl, rfl⟩ := key i c z h1 h2
   simp [aD, x]
  ·intro i j c c' z z' hij h1 h2 h3 h4
   obtain ⟨rfl, _, _⟩ := key i c z h1 h2
   obtain ⟨rfl, _, _⟩ := key j c' z' h3 h4
   exact absurd rfl hij
  ·intro i c z h1 h2 n hn
   obtain ⟨rfl, rfl, rfl⟩ := key i c z h1 h2
   simp [aD, x] at hn
   subst hn
   exact ⟨.inr (by simp [C]), hlt⟩
  ·intro i c z h1 h2 n hn
   obtain ⟨rfl, rfl, rfl⟩ := key i c z h1 h2
   simp [aG, x] at hn
   subst hn
   exact hVb
 refine wp_mono (h C b rfl [x] V _ w hr) fun e a' w' q => ?_
 cases e with
 | normal =>
  obtain ⟨g, V', st', hr', s, a0, hs, hret, hq, hp⟩ := q
  obtain ⟨g2, V2, hr2⟩ := hs g V' a' w' hr'
  obtain ⟨y, hy, hd⟩ := yU (E := ⟨P, T, C, eqk⟩) hT rfl hr2 hres hret hp
  exact ⟨hr'.sl.defers, y, hy, y, a0, rfl, hq, hd⟩
 | ret =>
  obtain ⟨g, V', st', hr', s, a0, hs, hret, hq, hp⟩ := q
  obtain ⟨g2, V2, hr2⟩ := hs g V' a' w' hr'
  obtain ⟨y, hy, hd⟩ := yU (E := ⟨P, T, C, eqk⟩) hT rfl hr2 hres hret hp
  exact ⟨hr'.sl.defers, y, hy, y, a0, rfl, hq, hd⟩
 | exit id => obtain ⟨g, V', st', hr', q⟩ := q; exact q.elim
 | goto l => exact q.elim
 | panic ch => exact q.elim
 | outgrown => exact q.elim
def a2N (ty : Nat) (ds : List D) : HB → Prop
 | .box ty' cs => ty' = ty ∧ cs = ds.map At.d
 | .pin _ ty' ds0 => ty' = ty ∧ ds0 = ds
 | _ => False
def reD (ds' : List D) : HB → HB
 | .box ty _ => .box ty (ds'.map At.d)
 | .pin b ty _ => .pin b ty ds'
 | b => b
theorem a6Z {g : List Gh} {V : View} {w : World} {x : Gh} {B : HB} {ty : Nat} {ds : List D} (h : HBok g V w x B) (hB : a2N ty ds B) : ∃ b l, x.blk = some b ∧ aD x B = [b] ∧ aG x B = [b] ∧ w.heap[b]? = some (.cells (List.toArray l) ty (0, 0)) ∧ cL [] V (ds.map At.d) l ∧
    ∀ (V' : View) (w' : World) (ds' : List D) (l' : List Value), w'.heap[b]? = some (.cells (List.toArray l') ty (0, 0)) → cL [] V' (ds'.map At.d) l' → (∀ g', HBok g' V' w' x (reD ds' B)) ∧ aD x (reD ds' B) = [b] ∧ aG x (reD ds' B) = [b] := by
 cases B with
 | box ty' cs =>
  obtain ⟨rfl, rfl⟩ := hB
  obtain ⟨b, l, h1, h2, h3⟩ := h
  exact ⟨b, l, h1, by simp [aD, h1], by simp [aG, h1], h2, cLd h3, fun V' w' ds' l' e1 e2 => ⟨fun g' => ⟨b, l', h1, e1, cLd e2⟩, by simp [reD, aD, h1], by simp [reD, aG, h1]⟩⟩
 | pin pb ty' ds0 =>
  obtain ⟨rfl, rfl⟩ := hB
  obtain ⟨h1, l, h2, h3⟩ := h
  exact ⟨pb, l, h1, by simp [aD, h1], by simp [aG, h1], h2, h3, fun V' w' ds' l' e1 e2 => ⟨fun g' => ⟨h1, l', e1, e2⟩, by simp [reD, aD, h1], by simp [reD, aG, h1]⟩⟩
 | _ => exact hB.elim
theorem CallS.block {E : Env} {f ty id : Nat} {ds : List D} {args' rest : List SV} {α : Type} {Q : α → Prop} {res : α → SV} {ds' : α → List D} {st : St} {K : St → SV → Prop} (h : FnB E.P f ty ds args' Q res ds')
    (hid : a2N ty ds (aU st.h id)) (he : rest.map (bN st.h) = args') (hfree : args'.all aM = true)
    (k : ∀ a, Q a → K ⟨st.t, setH st.h id (reD (ds' a) (aU st.h id)) ++ adH (res a).all⟩ (adS (setH st.h id (reD (ds' a) (aU st.h id))).length (res a))) :
    CallS E f (.o (.p id 0) :: rest) st K := by
 refine ⟨h.enters, fun g V a w vs hr hlen hargs => ?_⟩
 have hi : st.h[id]? = some (aU st.h id) := aB rfl (fun e => by rw [e] at hid; exact hid)
 match vs, hlen, hargs with
 | y :: vs, hlen, hargs =>
  obtain ⟨x, b0, hx, hxb, rfl⟩ := hargs 0 _ y rfl rfl
  have hok := hr.hp.hb id _ x hi hx
  obtain ⟨b, l, q1, q2, q3, q4, q5, q6⟩ := a6Z hok hid
  have e0 : b0 = b := by rw [hxb] at q1; exact Option.some.inj q1
  subst e0
  have hVb : V b0 = none := hr.hp.rt id _ x hi hx b0 (by rw [q3]; simp)
  have hlo := hr.hp.lo id _ x hi hx b0 (by rw [q2]; simp)
  have hc : jV V args' vs := by
   subst he
   refine ⟨by simpa using hlen, fun i s y h1 h2 => ?_⟩
   have hs := List.all_eq_true.1 hfree s (List.mem_of_getElem? h1)
   rw [List.getElem?_map] at h1
   cases hk : rest[i]? with
   | none => rw [hk] at h1; cases h1
   | some s0 =>
    rw [hk] at h1
    cases h1
    exact iC (jA hr (hargs (i + 1) s0 y (by simpa using hk) (by simpa using h2))) hs
  refine (h.calls V w b0 l vs (hr.fr.tab fun k hk => by rw [List.mem_singleton.1 hk]; exact hlo.1) hr.mod hVb hlo.2 q4 q5 hc).mono ?_
  rintro e w' ⟨y, a0, rfl, hQ, hgrown, V', S, l', hv, hm, hnew, ⟨lr, hshape, Ss, r1, r2, r3, r4⟩, hnd, hblk, hheap, hcl'⟩
  have hV'b : V' b0 = none := by
   cases hc : V' b0 with
   | none => rfl
   | some cs => have := (hnew b0 cs hc hVb).1; omega
  have hsz1 : (w'.setRow b0 l.toArray).heap.size = w'.heap.size := by simp [World.setRow]
  have hbel : Below w.heap.size w (w'.setRow b0 l.toArray) := ⟨hgrown.os, hgrown.tape, hgrown.output, by rw [hsz1]; exact hgrown.size, fun n hn => by
   by_cases e : n = b0
   ·subst e
    rw [setRow_heap w' n l'.toArray l.toArray ty (0, 0) hheap, q4]
   ·rw [setRow_other w' b0 n _ e]
    exact hgrown.block n hn fun h => e (Option.some.inj h)⟩
  have hm1 : Mod V' (w'.setRow b0 l.toArray) := fun n cs hn => by
   obtain ⟨c, ty', fz, e1, e2⟩ := hm n cs hn
   have hne : n ≠ b0 := fun e => by rw [e, hV'b] at hn; cases hn
   exact ⟨c, ty', fz, by rw [setRow_other w' b0 n _ hne]; exact e1, e2⟩
  have hr1 : Rel E.C g V' st a (w'.setRow b0 l.toArray) := hr.later hv hm1 hbel (fun n cs h1 h2 => by
   have := hnew n cs h1 h2
   have hne : n ≠ b0 := fun e => by rw [e, hV'b] at h1; cases h1
   obtain ⟨c, ty', e⟩ := this.2
   exact ⟨this.1, c, ty', by rw [setRow_other w' b0 n _ hne]; exact e⟩)
  obtain ⟨u1, u2, u3⟩ := q6 V' w' (ds' a0) l' hheap hcl'
  have hr2 := hr1.turnRow id (b' := reD (ds' a0) (aU st.h id)) (x' := x) hi hx (w' := w') rfl rfl rfl u1 (by rw [u2]; simp) (fun n hn => .inl (by rw [u2] at hn; rw [q2]; exact hn))
   (fun n hn => by rw [u3] at hn; simp only [List.mem_singleton] at hn; subst hn; exact hV'b)
   ⟨rfl, rfl, rfl, by rw [hsz1]; exact Nat.le_refl _, fun n hn hne => (setRow_other w' b0 n _ (fun e => hne (by rw [hxb, e]))).symm⟩ (fun n hn => by rw [q3]; rw [hxb] at hn; cases hn; simp)
  rw [← aQ] at hr2
  have hgx : g.set id x = g := by
   apply List.ext_getElem?
   intro i
   rw [List.getElem?_set]
   split
   ·rename_i e
    subst e
    split
    ·exact hx.symm
    ·rename_i hn
     rw [List.getElem?_eq_none (by omega)]
   ·rfl
  rw [hgx] at hr2
  subst r3
  obtain ⟨g', h1, h2, h3⟩ := qO (cs := (res a0).all) hr2 r1 r2 r4 hnd (fun n hn => ⟨.inl (Nat.le_trans hr.fr.size (hblk n hn).1), (hblk n hn).2, fun i hb' z e1 e2 hm' => by
   have hlt : n < w.heap.size := by
    simp only [aQ, List.getElem?_set] at e1
    split at e1
    ·rename_i e
     subst e
     split at e1
     ·cases e1
      rw [hx] at e2
      cases e2
      rw [u2] at hm'
      simp only [List.mem_singleton] at hm'
      subst hm'
      exact hlo.2
     ·cases e1
    ·exact (hr.hp.lo i hb' z e1 e2 n hm').2
   have := (hblk n hn).1
   omega⟩)
  refine ⟨y, g', V', _, _, rfl, h1, ?_, k a0 hQ⟩
  generalize setH st.h id (reD (ds' a0) (aU st.h id)) = hh at *
  generalize res a0 = res at *
  cases res with
  | o x =>
   have hl : lr = [y] := hshape
   subst hl
   simp only [SV.all] at h3
   simp only [adS]
   have hlen1 : (adA hh.length [x]).length = 1 := jU _ _
   match he' : adA hh.length [x], hlen1 with
   | [z], _ =>
    rw [he'] at h3
    exact h3.2 0 z y rfl rfl
  | g cs => exact ⟨lr, hshape, h3⟩
  | t cs =>
   obtain ⟨ls, e1, e2, e3, ys, e4, e5, e6⟩ := hshape
   subst e2
   refine ⟨ys, e4, by rw [e5, gD], fun i b c v hi hv' => ?_⟩
   have hlt : i < ls.length := by rw [e1, ← gD hh.length cs]; exact (List.getElem?_eq_some_iff.1 hi).1
   have hm' : ls[i]? = some ls[i] := List.getElem?_eq_getElem hlt
   obtain ⟨⟨c0, hc0⟩, hcc⟩ := nP hh.length cs ls e1 e3 h3 i b c _ hi hm'
   have := e6 i b c0 _ v hc0 hm' hv'
   cases b with
   | true => simp only [if_true] at this ⊢; exact ⟨_, this, hcc⟩
   | false => simp only [Bool.false_eq_true, if_false] at this ⊢; rw [← this]; exact hcc
structure FnN (P : Program) (f ty : Nat) (args : List SV) {α : Type} (Q : α → Prop) (ds' : α → List D) : Prop where
 enters : ∀ aS w, (callFunc f aS).run P w = .ok (.enter f aS) w
 calls : ∀ V w vs, tabOK w [] → Mod V w → jV V args vs → Calls P f vs.toArray w fun e w' => ∃ a b l V', e = .returned (.pointer (some ⟨b, 0, none⟩)) ∧ Q a ∧ V.le V' ∧ Mod V' w' ∧ (∀ n cs, V' n = some cs → V n = none → w.heap.size ≤ n ∧ Unf w' n) ∧ w.heap.size ≤ b ∧ b < w'.heap.size ∧ V' b = none ∧ w'.heap[b]? = some (.cells (List.toArray l) ty (0, 0)) ∧ cL [] V' ((ds' a).map At.d) l ∧ Below w.heap.size w w'
def a8i (E : Env) (rs : List ResultVar) (ty : Nat) {α : Type} (Q : α → Prop) (ds' : α → List D) : Ex → St → Prop
 | .exit _, _ => False
 | _, st => ∃ a id, Q a ∧ retVs E st rs = some [(false, [.p id 0])] ∧ aU st.h id = .box ty ((ds' a).map At.d)
theorem FnN.of_wp {P : Program} {T : Nat → Ty} {eqk : Nat → List Nat} (hT : TyOK P T) {f : Nat} {fn : Func} {c : Code} {rs : List ResultVar} {ty : Nat} {args : List SV} {α : Type} {Q : α → Prop} {ds' : α → List D}
    (hf : P.funcs[f]? = some fn) (hb : fn.body = some c) (hcall : ∀ aS w, (callFunc f aS).run P w = .ok (.enter f aS) w) (hres : fn.results = rs.toArray)
    (h : ∀ C : Ctx, C.X = [] → WP P C c (aT P C [] (a8i ⟨P, T, C, eqk⟩ rs ty Q ds')) (st0 args fn.ntmps)) : FnN P f ty args Q ds' := by
 refine ⟨hcall, fun V w vs htab hm ha => ?_⟩
 let C : Ctx := ⟨w, [], V, htab⟩
 refine calls_of_wp hf hb ?_
 have hr : Rel C [] V (st0 args fn.ntmps) { tmps := vs.toArray ++ Array.replicate (fn.ntmps - vs.toArray.size) undef, defers := [] } w := by
  refine ⟨⟨by simp [st0, ha.1], fun i s y h1 h2 => ?_, rfl⟩, ⟨rfl, fun i b x h => by simp [st0] at h, fun i b x h => by simp [st0] at h, fun i j b b' x x' _ h => by simp [st0] at h, fun i b x h => by simp [st0] at h, fun i b x h => by simp [st0] at h⟩, hm,
   ⟨rfl, rfl, rfl, Nat.le_refl _, fun _ _ _ => rfl⟩, ⟨View.le.refl V, (fun b cs h1 h2 => by have h2' : V b = none := h2; rw [h1] at h2'; cases h2'), (fun b cs h1 h2 => by have h2' : V b = none := h2; rw [h1] at h2'; cases h2')⟩⟩
  simp only [st0] at h1
  rw [List.getElem?_append] at h1
  rw [Array.getElem?_append] at h2
  simp only [List.size_toArray, ha.1] at h2
  split at h1
  ·rw [if_pos ‹_›] at h2
   exact ha.2 i s y h1 (by simpa using h2)
  ·rw [if_neg ‹_›] at h2
   rw [List.getElem?_replicate] at h1
   rw [Array.getElem?_replicate] at h2
   split at h1
   ·rw [if_pos ‹_›] at h2
    cases h1; cases h2; exact dZ _ _
   ·cases h1
 refine wp_mono (h C rfl [] V _ w hr) fun e a' w' q => ?_
 have fin : ∀ (g : List Gh) (V' : View) (st : St), Rel C g V' st a' w' → (∃ a id, Q a ∧ retVs ⟨P, T, C, eqk⟩ st rs = some [(false, [.p id 0])] ∧ aU st.h id = .box ty ((ds' a).map At.d)) →
     ∃ y, (results fn a'.tmps).run P w' = .ok y w' ∧ ∃ a b l V', Ending.returned y = .returned (.pointer (some ⟨b, 0, none⟩)) ∧ Q a ∧ V.le V' ∧ Mod V' w' ∧ (∀ n cs, V' n = some cs → V n = none → w.heap.size ≤ n ∧ Unf w' n) ∧ w.heap.size ≤ b ∧ b < w'.heap.size ∧ V' b = none ∧ w'.heap[b]? = some (.cells (List.toArray l) ty (0, 0)) ∧ cL [] V' ((ds' a).map At.d) l ∧ Below w.heap.size w w' := by
  rintro g V' st hr' ⟨a, id, hq, h1, h2⟩
  obtain ⟨vs', ls, f1, f2, f3, f4, f5⟩ := mQ (E := ⟨P, T, C, eqk⟩) hT hr' h1
  have f1' : (rs.mapM (rvM a')).run P w' = .ok vs' w' := by
   rw [← f1]
   congr 2
  match vs', ls, f2, f3 with
  | [v], [m], _, _ =>
   have hv := f4 0 false [.p id 0] m v rfl rfl rfl
   simp only [Bool.false_eq_true, if_false] at hv
   obtain ⟨hv1, hv2⟩ := hv
   have hv2 := hv2
   subst hv1
   have hp := f5.2 0 (.p id 0) v rfl rfl
   obtain ⟨x, b, hx, hxb, rfl⟩ := hp
   have hi := aB h2 (by simp)
   obtain ⟨b', l, e1, e2, e3⟩ := hr'.hp.hb id _ x hi hx
   have e0 : b = b' := by rw [hxb] at e1; exact Option.some.inj e1
   subst e0
   have hlo := hr'.hp.lo id _ x hi hx b (by simp [aD, hxb])
   have hrt := hr'.hp.rt id _ x hi hx b (by simp [aG, hxb])
   refine ⟨_, iZ hres f1', a, b, l, V', rfl, hq, hr'.vw.le, hr'.mod, fun n cs q1 q2 => ⟨by have := hr'.vw.fresh n cs q1 q2; simpa [C] using this, hr'.vw.unf n cs q1 q2⟩, by have := hlo.1; simpa [C] using this, hlo.2, hrt, e2, cLd e3, ⟨hr'.fr.os, hr'.fr.tape, hr'.fr.output, hr'.fr.size, fun k hk => hr'.fr.block k hk (by simp [C])⟩⟩
 cases e with
 | normal =>
  obtain ⟨g, V', st', hr', hret⟩ := q
  obtain ⟨y, hy, hd⟩ := fin g V' st' hr' hret
  exact ⟨hr'.sl.defers, y, hy, hd⟩
 | ret =>
  obtain ⟨g, V', st', hr', hret⟩ := q
  obtain ⟨y, hy, hd⟩ := fin g V' st' hr' hret
  exact ⟨hr'.sl.defers, y, hy, hd⟩
 | exit id => obtain ⟨g, V', st', hr', q⟩ := q; exact q.elim
 | goto l => exact q.elim
 | panic ch => exact q.elim
 | outgrown => exact q.elim
theorem CallS.newBlk {E : Env} {f ty : Nat} {args args' : List SV} {α : Type} {Q : α → Prop} {ds' : α → List D} {st : St} {K : St → SV → Prop} (h : FnN E.P f ty args' Q ds') (he : args.map (bN st.h) = args') (hfree : args'.all aM = true)
    (k : ∀ a, Q a → K ⟨st.t, st.h ++ [.box ty ((ds' a).map At.d)]⟩ (.o (.p st.h.length 0))) : CallS E f args st K := by
 refine ⟨h.enters, fun g V a w vs hr hlen hargs => ?_⟩
 subst he
 have hc : jV V (args.map (bN st.h)) vs := by
  refine ⟨by simp [hlen], fun i s y h1 h2 => ?_⟩
  have hs := List.all_eq_true.1 hfree s (List.mem_of_getElem? h1)
  rw [List.getElem?_map] at h1
  cases hk : args[i]? with
  | none => rw [hk] at h1; cases h1
  | some s0 =>
   rw [hk] at h1
   cases h1
   exact iC (jA hr (hargs i s0 y hk h2)) hs
 refine (h.calls V w vs hr.tab hr.mod hc).mono ?_
 rintro e w' ⟨a0, b, l, V', rfl, hQ, hv, hm, hnew, hge, hlt, hVb, hheap, hcl, hbel⟩
 have hr1 := hr.later hv hm hbel hnew
 let x : Gh := ⟨some b, undef, [], []⟩
 refine ⟨_, g ++ [x], V', ⟨st.t, st.h ++ [.box ty ((ds' a0).map At.d)]⟩, .o (.p st.h.length 0), rfl, ⟨hr1.sl.mono (GLe.push _ _) (View.le.refl V'), hr1.hp.push (b := .box ty ((ds' a0).map At.d)) (x := x) ⟨b, l, rfl, hheap, cLd hcl⟩ ?_ ?_ ?_ ?_, hr1.mod, hr1.fr, hr1.vw⟩, ⟨x, b, ?_, rfl, rfl⟩, k a0 hQ⟩
 ·simp [aD, x]
 ·intro n hn
  simp [aD, x] at hn
  subst hn
  exact ⟨.inl (Nat.le_trans hr.fr.size hge), hlt⟩
 ·intro i b' x' h1 h2 n hn hm'
  simp [aD, x] at hm'
  subst hm'
  have := (hr.hp.lo i b' x' h1 h2 n hn).2
  omega
 ·intro n hn
  simp [aG, x] at hn
  subst hn
  exact hVb
 ·rw [List.getElem?_append_right (by rw [hr.hp.glen]; exact Nat.le_refl _), hr.hp.glen]; simp
theorem a1E {E : Env} {rs : List ResultVar} {ty : Nat} {α : Type} {Q : α → Prop} {ds' : α → List D} {st : St} (a : α) (id : Nat) (hq : Q a) (h1 : retVs E st rs = some [(false, [.p id 0])]) (h2 : aU st.h id = .box ty ((ds' a).map At.d)) : a8i E rs ty Q ds' .ret st := ⟨a, id, hq, h1, h2⟩
structure FnX (P : Program) (f : Nat) (args : List SV) {α : Type} (Q : α → Prop) (res : α → SV) : Prop where
 enters : ∀ aS w, (callFunc f aS).run P w = .ok (.enter f aS) w
 calls : ∀ V w vs, tabOK w [] → Mod V w → jV V args vs → Calls P f vs.toArray w fun e w' => ∃ y a, e = .returned y ∧ Q a ∧ Done V w (res a) y w'
def a8j (E : Env) (rs : List ResultVar) {α : Type} (Q : α → Prop) (res : α → SV) : Ex → St → Prop
 | .exit _, _ => False
 | _, st => ∃ st' a, Sees E.C st st' ∧ RetOK E st' rs (res a) ∧ Q a
theorem a5D {E : Env} {rs : List ResultVar} {α : Type} {Q : α → Prop} {res : α → SV} {st : St} (a : α) (h : RetOK E st rs (res a)) (hq : Q a) : a8j E rs Q res .ret st := ⟨st, a, Sees.refl _ _, h, hq⟩
theorem FnX.of_wp {P : Program} {T : Nat → Ty} {eqk : Nat → List Nat} (hT : TyOK P T) {f : Nat} {fn : Func} {c : Code} {rs : List ResultVar} {args : List SV} {α : Type} {Q : α → Prop} {res : α → SV}
    (hf : P.funcs[f]? = some fn) (hb : fn.body = some c) (hcall : ∀ aS w, (callFunc f aS).run P w = .ok (.enter f aS) w) (hres : fn.results = rs.toArray)
    (h : ∀ C : Ctx, C.X = [] → WP P C c (aT P C [] (a8j ⟨P, T, C, eqk⟩ rs Q res)) (st0 args fn.ntmps)) : FnX P f args Q res := by
 refine ⟨hcall, fun V w vs htab hm ha => ?_⟩
 let C : Ctx := ⟨w, [], V, htab⟩
 refine calls_of_wp hf hb ?_
 have hr : Rel C [] V (st0 args fn.ntmps) { tmps := vs.toArray ++ Array.replicate (fn.ntmps - vs.toArray.size) undef, defers := [] } w := by
  refine ⟨⟨by simp [st0, ha.1], fun i s y h1 h2 => ?_, rfl⟩, ⟨rfl, fun i b x h => by simp [st0] at h, fun i b x h => by simp [st0] at h, fun i j b b' x x' _ h => by simp [st0] at h, fun i b x h => by simp [st0] at h, fun i b x h => by simp [st0] at h⟩, hm,
   ⟨rfl, rfl, rfl, Nat.le_refl _, fun _ _ _ => rfl⟩, ⟨View.le.refl V, (fun b cs h1 h2 => by have h2' : V b = none := h2; rw [h1] at h2'; cases h2'), (fun b cs h1 h2 => by have h2' : V b = none := h2; rw [h1] at h2'; cases h2')⟩⟩
  simp only [st0] at h1
  rw [List.getElem?_append] at h1
  rw [Array.getElem?_append] at h2
  simp only [List.size_toArray, ha.1] at h2
  split at h1
  ·rw [if_pos ‹_›] at h2
   exact ha.2 i s y h1 (by simpa using h2)
  ·rw [if_neg ‹_›] at h2
   rw [List.getElem?_replicate] at h1
   rw [Array.getElem?_replicate] at h2
   split at h1
   ·rw [if_pos ‹_›] at h2
    cases h1; cases h2; exact dZ _ _
   ·cases h1
 refine wp_mono (h C rfl [] V _ w hr) fun e a' w' q => ?_
 cases e with
 | normal =>
  obtain ⟨g, V', st', hr', s, a0, hs, hret, hq⟩ := q
  obtain ⟨g2, V2, hr2⟩ := hs g V' a' w' hr'
  obtain ⟨y, hy, hd⟩ := qN (E := ⟨P, T, C, eqk⟩) hT rfl hr2 hres hret
  exact ⟨hr'.sl.defers, y, hy, y, a0, rfl, hq, hd⟩
 | ret =>
  obtain ⟨g, V', st', hr', s, a0, hs, hret, hq⟩ := q
  obtain ⟨g2, V2, hr2⟩ := hs g V' a' w' hr'
  obtain ⟨y, hy, hd⟩ := qN (E := ⟨P, T, C, eqk⟩) hT rfl hr2 hres hret
  exact ⟨hr'.sl.defers, y, hy, y, a0, rfl, hq, hd⟩
 | exit id => obtain ⟨g, V', st', hr', q⟩ := q; exact q.elim
 | goto l => exact q.elim
 | panic ch => exact q.elim
 | outgrown => exact q.elim
theorem CallS.someX {E : Env} {f : Nat} {args args' : List SV} {α : Type} {Q : α → Prop} {res : α → SV} {st : St} {K : St → SV → Prop} (h : FnX E.P f args' Q res) (he : args.map (bN st.h) = args') (hfree : args'.all aM = true)
    (k : ∀ a, Q a → K ⟨st.t, st.h ++ adH (res a).all⟩ (adS st.h.length (res a))) : CallS E f args st K := by
 refine ⟨h.enters, fun g V a w vs hr hlen hargs => ?_⟩
 subst he
 have hc : jV V (args.map (bN st.h)) vs := by
  refine ⟨by simp [hlen], fun i s y h1 h2 => ?_⟩
  have hs := List.all_eq_true.1 hfree s (List.mem_of_getElem? h1)
  rw [List.getElem?_map] at h1
  cases hk : args[i]? with
  | none => rw [hk] at h1; cases h1
  | some s0 =>
   rw [hk] at h1
   cases h1
   exact iC (jA hr (hargs i s0 y hk h2)) hs
 refine (h.calls V w vs hr.tab hr.mod hc).mono ?_
 rintro e w' ⟨y, a0, rfl, hQ, ⟨V', S, hv, hm, hnew, ⟨l, hshape, Ss, r1, r2, r3, r4⟩, hnd, hblk⟩, hbelow⟩
 have hr1 := hr.later hv hm hbelow hnew
 subst r3
 obtain ⟨g', h1, h2, h3⟩ := qO (cs := (res a0).all) hr1 r1 r2 r4 hnd (fun b hb => ⟨.inl (Nat.le_trans hr.fr.size (hblk b hb).1), (hblk b hb).2, fun i hb' x e1 e2 hm' => by
  have := (hr.hp.lo i hb' x e1 e2 b hm').2
  have := (hblk b hb).1
  omega⟩)
 refine ⟨y, g', V', _, _, rfl, h1, ?_, k a0 hQ⟩
 generalize res a0 = res at *
 cases res with
 | o x =>
  have hl : l = [y] := hshape
  subst hl
  simp only [SV.all] at h3
  simp only [adS]
  have hlen1 : (adA st.h.length [x]).length = 1 := jU _ _
  match he' : adA st.h.length [x], hlen1 with
  | [z], _ =>
   rw [he'] at h3
   exact h3.2 0 z y rfl rfl
 | g cs => exact ⟨l, hshape, h3⟩
 | t cs =>
  obtain ⟨ls, e1, e2, e3, ys, e4, e5, e6⟩ := hshape
  subst e2
  refine ⟨ys, e4, by rw [e5, gD], fun i b c v hi hv' => ?_⟩
  have hlt : i < ls.length := by rw [e1, ← gD st.h.length cs]; exact (List.getElem?_eq_some_iff.1 hi).1
  have hm' : ls[i]? = some ls[i] := List.getElem?_eq_getElem hlt
  obtain ⟨⟨c0, hc0⟩, hcc⟩ := nP st.h.length cs ls e1 e3 h3 i b c _ hi hm'
  have := e6 i b c0 _ v hc0 hm' hv'
  cases b with
  | true => simp only [if_true] at this ⊢; exact ⟨_, this, hcc⟩
  | false => simp only [Bool.false_eq_true, if_false] at this ⊢; rw [← this]; exact hcc
end Go.Sx
end
section
namespace Go.Sx
open Go Go.RowKit
def a1F (op : BinOp) (k : IntKind) (a b : Int) : Int :=
 match op with
 | .add => k.wrap (a + b)
 | .sub => k.wrap (a - b)
 | .mul => k.wrap (a * b)
 | _ => 0
def a0w : BinOp → Bool
 | .add | .sub | .mul => true
 | _ => false
def a3w (E : Env) (op : Op) (st : St) (k : St → SV → Prop) : Prop :=
 match op with
 | .binOp bop t x y ty => match ev st x, ev st y with
  | .o (.d (.v (.int kx a))), .o (.d (.v (.int ky b))) => match a0w bop with
   | true => kx = ky ∧ k st (.o (.d (.v (.int kx (a1F bop kx a b)))))
   | false => aW E op st k
  | _, _ => aW E op st k
 | _ => aW E op st k
def sW (E : Env) : List Oper → St → (St → Prop) → Prop
 | [], st, K => K st
 | o :: r, st, K => match o.guard with
  | none => a3w E o.op st fun st' s => sW E r (st'.put o.dst s) K
  | some _ => False
theorem a4t {op : BinOp} {t : Nat} {k : IntKind} {a b : Int} (h : a0w op = true) (P : Program) (w : World) : (binOp op t (.int k a) (.int k b)).run P w = .ok (.int k (a1F op k a b)) w := by
 cases op <;> simp only [a0w, Bool.false_eq_true] at h
 all_goals simp [binOp, Op.intArith, a1F]
section
variable {E : Env} {g : List Gh} {V : View} {st : St} {a : Act} {w : World} {o : Oper} {k : St → SV → Prop} {K : Act → World → Prop} {Q : Exit → Act → World → Prop}
theorem a5E (hT : TyOK E.P E.T) (hE : ∀ t, E.eqk t ≠ [] → EqT E.P t (E.eqk t)) (h : a3w E o.op st k) (hr : Rel E.C g V st a w) (hK : dH E o a k K) : o.wp E.P a w K Q := by
 unfold a3w at h
 split at h
 ·rename_i bop t x y ty ho
  split at h
  ·rename_i kx m ky n e1 e2
   split at h
   ·rename_i hw
    obtain ⟨rfl, hk⟩ := h
    have hx := aY hr.sl x
    have hy := aY hr.sl y
    rw [e1] at hx
    rw [e2] at hy
    obtain ⟨hx, _⟩ := aH hx
    obtain ⟨hy, _⟩ := aH hy
    exact aC (fI ho _ (by rw [hx, hy]; exact sP ..) (by rw [hx, hy]; exact a4t hw E.P w)) (hK g V st w _ _ hr (aR g V _ rfl) hk)
   ·exact gZ hT hE h hr hK
  ·exact gZ hT hE h hr hK
 ·exact gZ hT hE h hr hK
theorem a4u (hT : TyOK E.P E.T) (hE : ∀ t, E.eqk t ≠ [] → EqT E.P t (E.eqk t)) {all : List Oper} {Q : Exit → Act → World → Prop} {K : St → Prop} (hQ : ∀ g V st a w, Rel E.C g V st a w → K st → Q .normal a w) :
    ∀ {l : List Oper} {st : St} {g : List Gh} {V : View} {a : Act} {w : World}, sW E l st K → Rel E.C g V st a w → wpList E.P all.toArray Q l a w := by
 intro l
 induction l with
 | nil => intro st g V a w h hr; exact hQ g V st a w hr h
 | cons o r ih =>
  intro st g V a w h hr
  simp only [sW] at h
  cases hgd : o.guard with
  | none =>
   rw [hgd] at h
   refine wpList_plain hgd fun K' hK' => ?_
   exact a5E hT hE h hr fun g' V' st' w' s y hr' hs hk => hK' _ _ (ih hk (hr'.put o.dst hs))
  | some jb => rw [hgd] at h; exact h.elim
theorem a2O (hT : TyOK E.P E.T) (hE : ∀ t, E.eqk t ≠ [] → EqT E.P t (E.eqk t)) {id : Nat} {ops : List Oper} {F : Ex → St → Prop} {st : St} (h : sW E ops st (F .normal)) : WP E.P E.C (.region id ops.toArray false) F st :=
 fun _ _ _ _ hr => wp_region_lit (a4u hT hE (fun g V st _ _ hr h => ⟨g, V, st, hr, h⟩) h hr)
end
theorem a4v (n : Int) : inR .i64 (IntKind.i64.wrap n) := by
 have e : IntKind.i64.wrap n = if n % 18446744073709551616 ≥ 9223372036854775808 then n % 18446744073709551616 - 18446744073709551616 else n % 18446744073709551616 := by
  unfold IntKind.wrap
  simp [IntKind.bits, IntKind.signed]
 rw [e]
 simp only [inR]
 split <;> omega
theorem wU (a : Int) (M : Nat) (hM : M < 9223372036854775808) : 0 ≤ jR .and .i64 a (M : Int) ∧ jR .and .i64 a (M : Int) ≤ (M : Int) := by
 have hb : (BitVec.ofInt 64 (M : Int)).toNat = M := by
  rw [BitVec.ofInt_natCast, BitVec.toNat_ofNat]
  exact Nat.mod_eq_of_lt (by omega)
 have hle : (BitVec.ofInt 64 a &&& BitVec.ofInt 64 (M : Int)).toNat ≤ M := by
  rw [BitVec.toNat_and, hb]
  exact Nat.and_le_right
 have hid : IntKind.i64.wrap ((BitVec.ofInt 64 a &&& BitVec.ofInt 64 (M : Int)).toNat : Int) = ((BitVec.ofInt 64 a &&& BitVec.ofInt 64 (M : Int)).toNat : Int) := jH (by simp only [inR]; omega)
 show 0 ≤ IntKind.i64.wrap ((BitVec.ofInt 64 a &&& BitVec.ofInt 64 (M : Int)).toNat : Int) ∧ IntKind.i64.wrap ((BitVec.ofInt 64 a &&& BitVec.ofInt 64 (M : Int)).toNat : Int) ≤ (M : Int)
 rw [hid]
 omega
end Go.Sx
end
section
namespace Go.Proofs.YtakopfjdmmnjcaaDoor
open Go Go.Sx Go.RowKit Go.Proofs
attribute [go_sem] a2N reD stB a3w sW a0w
theorem a1D {f ty : Nat} {fn : Func} {c : Code} {rs : List ResultVar} {ds : List D} {args : List SV} {α : Type} {Q : α → Prop} {res : α → SV} {ds' : α → List D} (hf : Tryd.prog.funcs[f]? = some fn) (hb : fn.body = some c) (hcall : ∀ x w, (callFunc f x).run Tryd.prog w = .ok (.enter f x) w) (hres : fn.results = rs.toArray)
    (h : ∀ (C : Ctx) (b : Nat), WP Tryd.prog C c (aT Tryd.prog C [] (a8h (EV C) rs b ty Q res ds')) (stB b ty ds args fn.ntmps)) : FnB Tryd.prog f ty ds args Q res ds' := FnB.of_wp (eqk := eqk) ttOK hf hb hcall hres fun C b _ => h C b
theorem b0D {f ty : Nat} {fn : Func} {c : Code} {rs : List ResultVar} {args : List SV} {α : Type} {Q : α → Prop} {ds' : α → List D} (hf : Tryd.prog.funcs[f]? = some fn) (hb : fn.body = some c) (hcall : ∀ x w, (callFunc f x).run Tryd.prog w = .ok (.enter f x) w) (hres : fn.results = rs.toArray)
    (h : ∀ C : Ctx, WP Tryd.prog C c (aT Tryd.prog C [] (a8i (EV C) rs ty Q ds')) (st0 args fn.ntmps)) : FnN Tryd.prog f ty args Q ds' := FnN.of_wp (eqk := eqk) ttOK hf hb hcall hres fun C _ => h C
theorem tZ {C : Ctx} {f ty id : Nat} {ds : List D} {args' rest : List SV} {α : Type} {Q : α → Prop} {res : α → SV} {ds' : α → List D} {st : St} {K : St → SV → Prop} (h : FnB Tryd.prog f ty ds args' Q res ds') (hid : a2N ty ds (aU st.h id)) (he : rest.map (bN st.h) = args') (hfree : args'.all aM = true)
    (k : ∀ a, Q a → K ⟨st.t, setH st.h id (reD (ds' a) (aU st.h id)) ++ adH (res a).all⟩ (adS (setH st.h id (reD (ds' a) (aU st.h id))).length (res a))) : CallT (EV C) f (.o (.p id 0) :: rest) st K ⟨⟩ := ⟨CallS.block (E := EV C) h hid he hfree k⟩
theorem a9t {C : Ctx} {f ty : Nat} {args args' : List SV} {α : Type} {Q : α → Prop} {ds' : α → List D} {st : St} {K : St → SV → Prop} (h : FnN Tryd.prog f ty args' Q ds') (he : args.map (bN st.h) = args') (hfree : args'.all aM = true)
    (k : ∀ a, Q a → K ⟨st.t, st.h ++ [.box ty ((ds' a).map At.d)]⟩ (.o (.p st.h.length 0))) : CallT (EV C) f args st K ⟨⟩ := ⟨CallS.newBlk (E := EV C) h he hfree k⟩
theorem b0E {f : Nat} {fn : Func} {c : Code} {rs : List ResultVar} {args : List SV} {α : Type} {Q : α → Prop} {res : α → SV} (hf : Tryd.prog.funcs[f]? = some fn) (hb : fn.body = some c) (hcall : ∀ x w, (callFunc f x).run Tryd.prog w = .ok (.enter f x) w) (hres : fn.results = rs.toArray)
    (h : ∀ C : Ctx, WP Tryd.prog C c (aT Tryd.prog C [] (a8j (EV C) rs Q res)) (st0 args fn.ntmps)) : FnX Tryd.prog f args Q res := FnX.of_wp (eqk := eqk) ttOK hf hb hcall hres fun C _ => h C
theorem a9u {C : Ctx} {f : Nat} {args args' : List SV} {α : Type} {Q : α → Prop} {res : α → SV} {st : St} {K : St → SV → Prop} (h : FnX Tryd.prog f args' Q res) (he : args.map (bN st.h) = args') (hfree : args'.all aM = true)
    (k : ∀ a, Q a → K ⟨st.t, st.h ++ adH (res a).all⟩ (adS st.h.length (res a))) : CallT (EV C) f args st K ⟨⟩ := ⟨CallS.someX (E := EV C) h he hfree k⟩
theorem a9v {C : Ctx} {f : Nat} {args : List SV} {st : St} {K : St → SV → Prop} (ids : List Nat) (k : CallT (EV C) f args ⟨st.t, aK st.h ids⟩ K ⟨⟩) : CallT (EV C) f args st K ⟨⟩ :=
 ⟨CallS.sees (E := EV C) (fun g V a w hr => by obtain ⟨g', V', h, _⟩ := dS ids hr; exact ⟨g', V', h⟩) (fun g V a w hr => by obtain ⟨g', V', h, h1, h2, _⟩ := dS ids hr; exact ⟨g', V', h, h1, h2⟩) k.out⟩
theorem b0F {C : Ctx} {id : Nat} {ops : List Oper} {F : Ex → St → Prop} {st : St} (h : sW (EV C) ops st (F .normal)) : WP Tryd.prog C (.region id ops.toArray false) F st := a2O (E := EV C) ttOK vQ h
end Go.Proofs.YtakopfjdmmnjcaaDoor
end
