/- Joined texts. -/
import Derived.Test.YtgfngchfmohhbaaDoorZ05
import Derived.Test.YtgfngchfmohhbaaDoorZ01
import Derived.Lib.LaidTab
import Derived.Test.YtgfngchfmohhbaaDoorCards
import Derived.Test.YtgfngchfmohhbaaDoorTie
import Derived.OpenShut
import Derived.WalkKit
import Derived.ProofKit
import Derived.Deep.DeepHandedRow
import Derived.Stop.LaidErr
set_option linter.all false
section
section
set_option linter.all false
set_option maxHeartbeats 1000000
namespace Go.Proofs.YtgfngchfmohhbaaDoor
open Go Go.Sx Go.RowKit Go.Proofs
structure TResult where
 fName : ByteArray
 fIDs : List Int
@[go_sem] def mG (x : TResult) : List D := [sv x.fName, .sl (x.fIDs.map iL)]
@[go_sem] def a0C (x : TResult) : SV := .g [.d (sv x.fName), .d (.sl (x.fIDs.map iL))]
@[go_sem] def a0D (x : TResult) : SV := .g [.d (sv x.fName), .w 3 1 (x.fIDs.map iL)]
def wZ (x : TResult) : Nat := x.fName.size + x.fIDs.length
def uX (x : TResult) : Prop := x.fName.size ≤ 9223372036854775807 ∧ nT x.fIDs
def uY (l : List TResult) : Nat := l.length + fU wZ l
def sV (l : List TResult) : Prop := l.length ≤ 9223372036854775807 ∧ ∀ x ∈ l, uX x
end Go.Proofs.YtgfngchfmohhbaaDoor
end
section
set_option linter.all false
set_option maxHeartbeats 1000000
namespace Go.Proofs.YtgfngchfmohhbaaDoor
open Go Go.Sx Go.RowKit Go.Proofs
structure TDiff where
 fName : ByteArray
 fAdded : List Int
 fRemoved : List Int
@[go_sem] def a0E (x : TDiff) : List D := [sv x.fName, .sl (x.fAdded.map iL), .sl (x.fRemoved.map iL)]
@[go_sem] def a1l (x : TDiff) : SV := .g [.d (sv x.fName), .d (.sl (x.fAdded.map iL)), .d (.sl (x.fRemoved.map iL))]
@[go_sem] def a1m (x : TDiff) : SV := .g [.d (sv x.fName), .w 3 1 (x.fAdded.map iL), .w 3 1 (x.fRemoved.map iL)]
def a0m (x : TDiff) : Nat := x.fName.size + x.fAdded.length + x.fRemoved.length
def yY (x : TDiff) : Prop := x.fName.size ≤ 9223372036854775807 ∧ nT x.fAdded ∧ nT x.fRemoved
def a0Z (l : List TDiff) : Nat := l.length + fU a0m l
def a0F (l : List TDiff) : Prop := l.length ≤ 9223372036854775807 ∧ ∀ x ∈ l, yY x
end Go.Proofs.YtgfngchfmohhbaaDoor
end
section
set_option linter.all false
set_option maxHeartbeats 1000000
namespace Go.Proofs.YtgfngchfmohhbaaDoor
open Go Go.Sx Go.RowKit Go.Proofs
structure TCatalog where
 fStore : TStore
 fDirs : List TDir
 fResults : List TResult
@[go_sem] def yZ (x : TCatalog) : List D := [.sl (x.fStore.fSchema.map dH), .sl (x.fStore.fFiles.map fA), iv x.fStore.fNextID, .sl (x.fDirs.map nV), .sl (x.fResults.map mG)]
@[go_sem] def a0n (x : TCatalog) : SV := .g [.d (.sl (x.fStore.fSchema.map dH)), .d (.sl (x.fStore.fFiles.map fA)), .d (iv x.fStore.fNextID), .d (.sl (x.fDirs.map nV)), .d (.sl (x.fResults.map mG))]
def uZ (x : TCatalog) : Nat := qU x.fStore + xQ x.fDirs + uY x.fResults
def sW (x : TCatalog) : Prop := nU x.fStore ∧ vI x.fDirs ∧ sV x.fResults
def zM (l : List TCatalog) : Nat := l.length + fU uZ l
def zA (l : List TCatalog) : Prop := l.length ≤ 9223372036854775807 ∧ ∀ x ∈ l, sW x
end Go.Proofs.YtgfngchfmohhbaaDoor
end
section
set_option linter.all false
set_option maxHeartbeats 1000000
namespace Go.Proofs.YtgfngchfmohhbaaDoor
open Go Go.Sx Go.RowKit Go.Proofs
structure TGroup where
 fValue : TValue
 fIDs : List Int
@[go_sem] def a0o (x : TGroup) : List D := [iv x.fValue.fKind, iv x.fValue.fInt, sv x.fValue.fStr, .sl (x.fIDs.map iL)]
@[go_sem] def a1a (x : TGroup) : SV := .g [.d (iv x.fValue.fKind), .d (iv x.fValue.fInt), .d (sv x.fValue.fStr), .d (.sl (x.fIDs.map iL))]
@[go_sem] def a1b (x : TGroup) : SV := .g [.d (iv x.fValue.fKind), .d (iv x.fValue.fInt), .d (sv x.fValue.fStr), .w 3 1 (x.fIDs.map iL)]
def zB (x : TGroup) : Nat := bM x.fValue + x.fIDs.length
def xA (x : TGroup) : Prop := dM x.fValue ∧ nT x.fIDs
def a0G (l : List TGroup) : Nat := l.length + fU zB l
def a0p (l : List TGroup) : Prop := l.length ≤ 9223372036854775807 ∧ ∀ x ∈ l, xA x
end Go.Proofs.YtgfngchfmohhbaaDoor
end
section
set_option linter.all false
set_option maxHeartbeats 1000000
namespace Go.Proofs.YtgfngchfmohhbaaDoor
open Go Go.Sx Go.RowKit Go.Proofs
structure TEdit where
 fOK : Bool
 fSet : List TAttr
@[go_sem] def a0H (x : TEdit) : List D := [bv x.fOK, .sl (x.fSet.map dN)]
@[go_sem] def a1n (x : TEdit) : SV := .g [.d (bv x.fOK), .d (.sl (x.fSet.map dN))]
@[go_sem] def a1o (x : TEdit) : SV := .g [.d (bv x.fOK), .w 70 4 (x.fSet.map dN)]
def a0q (x : TEdit) : Nat := vG x.fSet
def zC (x : TEdit) : Prop := True ∧ rQ x.fSet
def a1c (l : List TEdit) : Nat := l.length + fU a0q l
def a0I (l : List TEdit) : Prop := l.length ≤ 9223372036854775807 ∧ ∀ x ∈ l, zC x
end Go.Proofs.YtgfngchfmohhbaaDoor
end
section
set_option linter.all false
set_option maxHeartbeats 1000000
namespace Go.Proofs.YtgfngchfmohhbaaDoor
open Go Go.Sx Go.RowKit Go.Proofs
structure TChange where
 fKind : Int
 fFile : TFile
 fID : Int
 fDir : TDir
@[go_sem] def zN (x : TChange) : List D := [iv x.fKind, iv x.fFile.fID, iv x.fFile.fOwner, bv x.fFile.fShared, iv x.fFile.fLink, .sl (x.fFile.fAttrs.map dN), iv x.fID, sv x.fDir.fName, .sl (x.fDir.fQuery.map jZ)]
@[go_sem] def a0J (x : TChange) : SV := .g [.d (iv x.fKind), .d (iv x.fFile.fID), .d (iv x.fFile.fOwner), .d (bv x.fFile.fShared), .d (iv x.fFile.fLink), .d (.sl (x.fFile.fAttrs.map dN)), .d (iv x.fID), .d (sv x.fDir.fName), .d (.sl (x.fDir.fQuery.map jZ))]
def xB (x : TChange) : Nat := xO x.fFile + a0B x.fDir
def vB (x : TChange) : Prop := inR .i64 x.fKind ∧ vH x.fFile ∧ inR .i64 x.fID ∧ xP x.fDir
def a0r (l : List TChange) : Nat := l.length + fU xB l
def zO (l : List TChange) : Prop := l.length ≤ 9223372036854775807 ∧ ∀ x ∈ l, vB x
end Go.Proofs.YtgfngchfmohhbaaDoor
end
section
set_option linter.all false
set_option maxHeartbeats 1000000
namespace Go.Proofs.YtgfngchfmohhbaaDoor
open Go Go.Sx Go.RowKit Go.Proofs
structure TSnapshot where
 fStore : TStore
 fDirs : List TDir
@[go_sem] def xM (x : TSnapshot) : List D := [.sl (x.fStore.fSchema.map dH), .sl (x.fStore.fFiles.map fA), iv x.fStore.fNextID, .sl (x.fDirs.map nV)]
@[go_sem] def zP (x : TSnapshot) : SV := .g [.d (.sl (x.fStore.fSchema.map dH)), .d (.sl (x.fStore.fFiles.map fA)), .d (iv x.fStore.fNextID), .d (.sl (x.fDirs.map nV))]
def sZ (x : TSnapshot) : Nat := qU x.fStore + xQ x.fDirs
def qP (x : TSnapshot) : Prop := nU x.fStore ∧ vI x.fDirs
def zD (l : List TSnapshot) : Nat := l.length + fU sZ l
def xN (l : List TSnapshot) : Prop := l.length ≤ 9223372036854775807 ∧ ∀ x ∈ l, qP x
end Go.Proofs.YtgfngchfmohhbaaDoor
end
section
set_option linter.all false
set_option maxHeartbeats 1000000
namespace Go.Proofs.YtgfngchfmohhbaaDoor
open Go Go.Sx Go.RowKit Go.Proofs
structure TDisk where
 fSlotA : ByteArray
 fSlotB : ByteArray
@[go_sem] def a0K (x : TDisk) : List D := [sv x.fSlotA, sv x.fSlotB]
@[go_sem] def a1p (x : TDisk) : SV := .g [.d (sv x.fSlotA), .d (sv x.fSlotB)]
def a0s (x : TDisk) : Nat := x.fSlotA.size + x.fSlotB.size
def zF (x : TDisk) : Prop := x.fSlotA.size ≤ 9223372036854775807 ∧ x.fSlotB.size ≤ 9223372036854775807
def a1d (l : List TDisk) : Nat := l.length + fU a0s l
def a0L (l : List TDisk) : Prop := l.length ≤ 9223372036854775807 ∧ ∀ x ∈ l, zF x
end Go.Proofs.YtgfngchfmohhbaaDoor
end
section
set_option linter.all false
namespace Go.Proofs.YtgfngchfmohhbaaDoor
open Go Go.Sx Go.RowKit Go.Proofs
def inB (n a b : Int) : Bool := decide (a ≤ n) && decide (n ≤ b)
theorem iZ (n a b : Int) : FnC Tryd.prog 83 [oi n, oi a, oi b] (ob (inB n a b)) := by
 refine ent Tryd.func83 rfl Tryd.call83 rfl (fun C => ?_); simp only [go_sem, st0, Tryd.ntmps83]
 by_cases h0 : a ≤ n <;> by_cases h1 : n ≤ b
 all_goals
  have q0 := @h0; have q1 := @h1; have q2 := @decide_false; refine wW ?_
  refine aD ⟨⟨_, rfl, ?_⟩, ?_⟩
  ·simp only [go_sem]; simp [inB, h0, h1]
  ·trivial
theorem lD (n a b : Int) : FnC Tryd.prog 81 [oi n, oi a, oi b] (ob (inB n a b)) := by
 refine ent Tryd.func81 rfl Tryd.call81 rfl (fun C => ?_); simp only [go_sem, st0, Tryd.ntmps81]
 by_cases h0 : a ≤ n <;> by_cases h1 : n ≤ b
 all_goals
  have q0 := @h0; have q1 := @h1; have q2 := @decide_false; refine wW ?_
  refine aD ⟨⟨_, rfl, ?_⟩, ?_⟩
  ·simp only [go_sem]; simp [inB, h0, h1]
  ·trivial
end Go.Proofs.YtgfngchfmohhbaaDoor
end
section
set_option linter.all false
set_option maxHeartbeats 1000000
namespace Go.Proofs.YtgfngchfmohhbaaDoor
open Go Go.Sx Go.RowKit Go.Proofs
end Go.Proofs.YtgfngchfmohhbaaDoor
end
end
section
set_option maxRecDepth 100000
set_option maxHeartbeats 4000000
namespace Go.Proofs.YtgfngchfmohhbaaDoor
open Go Go.Sx Go.RowKit Go.Proofs
def low (s : ByteArray) (k : Nat) : Bool := inB (bX s k) 97 122
def dG (s : ByteArray) : Bool := (List.range s.size).all (low s)
def bZ (s : ByteArray) (n : Int) : Bool := dG s && inB s.size 1 n
theorem qO (s : ByteArray) (n : Int) (hs : s.size ≤ 4300000) : FnC Tryd.prog 96 [os s, oi n] (ob (bZ s n)) := by
 refine ent Tryd.func96 rfl Tryd.call96 rfl (fun C => ?_); simp only [go_sem, st0, Tryd.ntmps96]
 refine uW ?_
 refine tN (α := Nat) (fun k => [(5, oi k)]) (fun _ => []) (fun k => k ≤ s.size ∧ dG s = ((List.range s.size).drop k).all (low s)) (fun k => s.size - k) 0 (fun _ => ?_) ?_ ?_ (fun k hk => ?_)
 ·simp only [go_sem]
 ·simp only [go_sem]; simp
 ·simp [dG]
 ·obtain ⟨hk, hq⟩ := hk
  simp only [go_sem]
  refine uW ?_
  refine cnd rfl (fun h => ?_) (fun h => ?_)
  ·simp only [decide_eq_true_eq, Int.ofNat_lt] at h
   have h' : k < (List.range s.size).length := by simpa using h
   have hd := List.drop_eq_getElem_cons h'
   rw [hd, List.all_cons, List.getElem_range] at hq
   have hb := lV s k
   by_cases h1 : bX s k < 97
   ·have hf : dG s = false := by rw [hq]; simp [low, inB]; omega
    have q0 := @h; have q1 := @h1; refine wV ?_
    exact aD ⟨⟨_, rfl, by simp only [go_sem, bZ, hf, Bool.false_and]⟩, trivial⟩
   by_cases h2 : 122 < bX s k
   ·have hf : dG s = false := by rw [hq]; simp [low, inB]; omega
    have q0 := @h; have q1 := @h1; have q2 := @h2; have q3 := @decide_false; refine qN ?_
    exact aD ⟨⟨_, rfl, by simp only [go_sem, bZ, hf, Bool.false_and]⟩, trivial⟩
   ·have q0 := @h; have q1 := @h1; have q2 := @h2; have q3 := @decide_false; refine qN ?_
    refine mR (k + 1) ?_ ?_ ?_
    ·simp only [go_sem]; simp
    ·refine ⟨h, ?_⟩
     have hl : low s k = true := by simp [low, inB]; omega
     rw [hq, hl]; simp
    ·omega
  ·simp only [decide_eq_false_iff_not] at h
   have e : k = s.size := by omega
   have hq' : dG s = true := by
    rw [hq, List.drop_of_length_le (by simp [e])]; rfl
   refine sS (lD s.size 1 n) ?_
   refine aD ⟨⟨_, rfl, ?_⟩, ?_⟩
   ·simp only [go_sem, bZ, hq']
   ·trivial
theorem bU (s : ByteArray) (hs : s.size ≤ 4300000) : FnC Tryd.prog 82 [os s] (ob (bZ s 6)) := by
 refine ent Tryd.func82 rfl Tryd.call82 rfl (fun C => ?_); simp only [go_sem, st0, Tryd.ntmps82]
 refine sS (qO s 6 hs) ?_
 exact aD ⟨⟨_, rfl, by simp only [go_sem]⟩, trivial⟩
theorem bV (s : ByteArray) (hs : s.size ≤ 4300000) : FnC Tryd.prog 84 [os s] (ob (bZ s 6)) := by
 refine ent Tryd.func84 rfl Tryd.call84 rfl (fun C => ?_); simp only [go_sem, st0, Tryd.ntmps84]
 refine uW ?_
 refine tN (α := Nat) (fun k => [(6, oi k)]) (fun _ => []) (fun k => k ≤ s.size ∧ dG s = ((List.range s.size).drop k).all (low s)) (fun k => s.size - k) 0 (fun _ => ?_) ?_ ?_ (fun k hk => ?_)
 ·simp only [go_sem]
 ·simp only [go_sem]; simp
 ·simp [dG]
 ·obtain ⟨hk, hq⟩ := hk
  simp only [go_sem]
  refine uW ?_
  refine cnd rfl (fun h => ?_) (fun h => ?_)
  ·simp only [decide_eq_true_eq, Int.ofNat_lt] at h
   have h' : k < (List.range s.size).length := by simpa using h
   have hd := List.drop_eq_getElem_cons h'
   rw [hd, List.all_cons, List.getElem_range] at hq
   have hb := lV s k
   by_cases h1 : bX s k < 97
   ·have hf : dG s = false := by rw [hq]; simp [low, inB]; omega
    have q0 := @h; have q1 := @h1; refine wV ?_
    exact aD ⟨⟨_, rfl, by simp only [go_sem, bZ, hf, Bool.false_and]⟩, trivial⟩
   by_cases h2 : 122 < bX s k
   ·have hf : dG s = false := by rw [hq]; simp [low, inB]; omega
    have q0 := @h; have q1 := @h1; have q2 := @h2; have q3 := @decide_false; refine qN ?_
    exact aD ⟨⟨_, rfl, by simp only [go_sem, bZ, hf, Bool.false_and]⟩, trivial⟩
   ·have q0 := @h; have q1 := @h1; have q2 := @h2; have q3 := @decide_false; refine qN ?_
    refine mR (k + 1) ?_ ?_ ?_
    ·simp only [go_sem]; simp
    ·refine ⟨h, ?_⟩
     have hl : low s k = true := by simp [low, inB]; omega
     rw [hq, hl]; simp
    ·omega
  ·simp only [decide_eq_false_iff_not] at h
   have e : k = s.size := by omega
   have hq' : dG s = true := by
    rw [hq, List.drop_of_length_le (by simp [e])]; rfl
   refine sS (iZ s.size 1 6) ?_
   refine aD ⟨⟨_, rfl, ?_⟩, ?_⟩
   ·simp only [go_sem, bZ, hq']
   ·trivial
def bW (v : TValue) : Bool :=
 if v.fKind = 0 then decide (v.fInt = 0) && decide (v.fStr = ⟨#[]⟩)
 else if v.fKind = 1 then inB v.fInt 0 999 && decide (v.fStr = ⟨#[]⟩)
 else if v.fKind = 2 then bZ v.fStr 6 && decide (v.fInt = 0) else false
theorem aX (v : TValue) (hs : v.fStr.size ≤ 4300000) : FnC Tryd.prog 62 [dS v] (ob (bW v)) := by
 refine ent Tryd.func62 rfl Tryd.call62 rfl (fun C => ?_); simp only [go_sem, st0, Tryd.ntmps62]
 by_cases h0 : v.fKind = 0
 ·have q0 := @h0; have q1 := @decide_true; refine wV ?_
  exact aD ⟨⟨_, rfl, by simp only [go_sem, bW, h0, if_true, decide_true, Bool.true_and]⟩, trivial⟩
 by_cases h1 : v.fKind = 1
 ·cases hb : inB v.fInt 0 999
  ·have q0 := @h0; have q1 := @h1; have q2 := @decide_true; have q3 := @decide_false; have q4 := @hb; refine wY (iZ v.fInt 0 999) ?_
   exact aD ⟨⟨_, rfl, by simp only [go_sem, bW, h0, h1, hb, if_true, if_false, Bool.false_and]⟩, trivial⟩
  ·have q0 := @h0; have q1 := @h1; have q2 := @decide_true; have q3 := @decide_false; have q4 := @hb; refine wY (iZ v.fInt 0 999) ?_
   exact aD ⟨⟨_, rfl, by simp only [go_sem, bW, h0, h1, hb, if_true, if_false, Bool.true_and]⟩, trivial⟩
 by_cases h2 : v.fKind = 2
 ·cases hb : bZ v.fStr 6
  ·have q0 := @h0; have q1 := @h1; have q2 := @h2; have q3 := @decide_true; have q4 := @decide_false; have q5 := @hb; refine sU (bV v.fStr hs) ?_
   exact aD ⟨⟨_, rfl, by simp only [go_sem, bW, h0, h1, h2, hb, if_true, if_false, Bool.false_and]⟩, trivial⟩
  ·have q0 := @h0; have q1 := @h1; have q2 := @h2; have q3 := @decide_true; have q4 := @decide_false; have q5 := @hb; refine sU (bV v.fStr hs) ?_
   exact aD ⟨⟨_, rfl, by simp only [go_sem, bW, h0, h1, h2, hb, if_true, if_false, Bool.true_and]⟩, trivial⟩
 ·have q0 := @h0; have q1 := @h1; have q2 := @h2; have q3 := @decide_false; refine qN ?_
  exact aD ⟨⟨_, rfl, by simp only [go_sem, bW, h0, h1, h2, if_false]⟩, trivial⟩
theorem aY (v : TValue) (hs : v.fStr.size ≤ 4300000) : FnC Tryd.prog 61 [dS v] (ob (bW v)) := by
 refine ent Tryd.func61 rfl Tryd.call61 rfl (fun C => ?_); simp only [go_sem, st0, Tryd.ntmps61]
 by_cases h0 : v.fKind = 0
 ·have q0 := @h0; have q1 := @decide_true; refine wV ?_
  exact aD ⟨⟨_, rfl, by simp only [go_sem, bW, h0, if_true, decide_true, Bool.true_and]⟩, trivial⟩
 by_cases h1 : v.fKind = 1
 ·cases hb : inB v.fInt 0 999
  ·have q0 := @h0; have q1 := @h1; have q2 := @decide_true; have q3 := @decide_false; have q4 := @hb; refine wY (lD v.fInt 0 999) ?_
   exact aD ⟨⟨_, rfl, by simp only [go_sem, bW, h0, h1, hb, if_true, if_false, Bool.false_and]⟩, trivial⟩
  ·have q0 := @h0; have q1 := @h1; have q2 := @decide_true; have q3 := @decide_false; have q4 := @hb; refine wY (lD v.fInt 0 999) ?_
   exact aD ⟨⟨_, rfl, by simp only [go_sem, bW, h0, h1, hb, if_true, if_false, Bool.true_and]⟩, trivial⟩
 by_cases h2 : v.fKind = 2
 ·cases hb : bZ v.fStr 6
  ·have q0 := @h0; have q1 := @h1; have q2 := @h2; have q3 := @decide_true; have q4 := @decide_false; have q5 := @hb; refine sU (bU v.fStr hs) ?_
   exact aD ⟨⟨_, rfl, by simp only [go_sem, bW, h0, h1, h2, hb, if_true, if_false, Bool.false_and]⟩, trivial⟩
  ·have q0 := @h0; have q1 := @h1; have q2 := @h2; have q3 := @decide_true; have q4 := @decide_false; have q5 := @hb; refine sU (bU v.fStr hs) ?_
   exact aD ⟨⟨_, rfl, by simp only [go_sem, bW, h0, h1, h2, hb, if_true, if_false, Bool.true_and]⟩, trivial⟩
 ·have q0 := @h0; have q1 := @h1; have q2 := @h2; have q3 := @decide_false; refine qN ?_
  exact aD ⟨⟨_, rfl, by simp only [go_sem, bW, h0, h1, h2, if_false]⟩, trivial⟩
theorem jB : ((List.range 20).map fun i => Value.int .u64 ((10 ^ i : Nat) : Int)) = Lib.pow10Tab.map fun z => Value.int .u64 z := by
 unfold Lib.pow10Tab; rw [List.map_map]; rfl
theorem fH : Tryd.prog.globalNamed "internal/strconv.uint64pow10" = some 1 := by kernel_rfl
theorem xS {w : World} {X : List Nat} (h : tabOK w X) : Lib.TabIs Tryd.prog w "internal/strconv.uint64pow10" .u64 Lib.pow10Tab := by
 obtain ⟨_, ty, fz, h1⟩ := h _ (List.mem_cons_self ..)
 unfold Lib.TabIs World.var?
 rw [fH, Option.bind_some, h1]
 simp only [jB]
theorem xU {w : World} (h : Lib.TabIs Tryd.prog w "internal/strconv.uint64pow10" .u64 Lib.pow10Tab) : tabOK w [] := by
 intro t ht
 obtain rfl := List.mem_singleton.1 ht
 refine ⟨by simp, ?_⟩
 unfold Lib.TabIs World.var? at h
 rw [fH, Option.bind_some] at h
 simp only [jB]
 split at h
 ·rename_i cs ty fz e
  cases h
  exact ⟨ty, fz, e⟩
 ·cases h
def gX (n : Int) : ByteArray := ⟨(Lib.itoa n).toArray⟩
theorem vL (n : Int) (hn : inR .i64 n) : FnC Tryd.prog 66 [oi n] (os (gX n)) := by
 refine ⟨Tryd.call66, fun V w vs htab hm hargs => ?_⟩
 obtain ⟨hl, hv⟩ := hargs
 match vs, hl with
 | [y], _ =>
  obtain ⟨rfl, _⟩ := aG (hv 0 (oi n) y rfl rfl)
  refine (Any.strconv_Itoa Tryd.laysItoa n hn.1 hn.2 w (xS htab)).mono ?_
  rintro e w' ⟨rfl, k, ob', rfl⟩
  have hb : ∀ k' : Nat, k' < w.heap.size → (w.heap ++ ob')[k']? = w.heap[k']? := fun k' hk' => Array.getElem?_append_left hk'
  refine ⟨_, rfl, ⟨V, [], View.le.refl V, ?_, (fun b cs h1 h2 => by rw [h1] at h2; cases h2), ?_, List.nodup_nil, (fun b hb => by cases hb)⟩, ⟨rfl, rfl, rfl, ?_, hb⟩⟩
  ·intro b cs hbc
   obtain ⟨c, ty, fz, h1, h2⟩ := hm b cs hbc
   exact ⟨c, ty, fz, by rw [← h1]; exact hb b (Array.getElem?_eq_some_iff.1 h1).1, h2⟩
  ·refine ⟨[.string (gX n)], rfl, [[]], rfl, rfl, rfl, fun k a y s h1 h2 h3 => ?_⟩
   match k, h1, h2, h3 with
   | 0, rfl, rfl, rfl => exact ⟨rfl, [], .v _ rfl⟩
  ·show w.heap.size ≤ (w.heap ++ ob').size
   rw [Array.size_append]; omega
theorem iN (n : Int) (hn : inR .i64 n) : FnC Tryd.prog 42 [oi n] (os (gX n)) := by
 refine ent Tryd.func42 rfl Tryd.call42 rfl (fun C => ?_); simp only [go_sem, st0, Tryd.ntmps42]
 refine sS (vL n hn) ?_
 exact aD ⟨⟨_, rfl, by simp only [go_sem]⟩, trivial⟩
theorem lI (d : Int) (h0 : 0 ≤ d) (h9 : d < 10) : FnC Tryd.prog 64 [oi d] (.o (.d (.v (.int .u8 (48 + d))))) := by
 refine ent Tryd.func64 rfl Tryd.call64 rfl (fun C => ?_); simp only [go_sem, st0, Tryd.ntmps64]
 have g : decide (d < 10) = true := by simp [h9]
 have i1 : inR .i64 (48 + d) := by unfold inR; simp only; omega
 have i2 : inR .u8 (48 + d) := by unfold inR; simp only; omega
 have q0 := @g; have q1 := @i1; have q2 := @i2; refine wW ?_
 exact aD ⟨⟨_, rfl, by simp only [go_sem]⟩, trivial⟩
def fI (u : Nat) : List UInt8 := if u = 0 then [] else Lib.decDigits u
theorem lJ {u : Nat} (h : u ≠ 0) : fI u = fI (u / 10) ++ [UInt8.ofNat (48 + u % 10)] := by
 unfold fI
 rw [if_neg h, Lib.decDigits]
 by_cases h1 : u < 10
 ·have e1 : u / 10 = 0 := by omega
  have e2 : u % 10 = u := by omega
  rw [dif_pos h1, e1, if_pos rfl, e2]; rfl
 ·rw [dif_neg h1, if_neg (by omega)]
theorem nZ : ∀ (k u : Nat), u < 10 ^ k → (fI u).length ≤ k
 | 0, u, h => by have : u = 0 := by simpa using h
                 subst this; simp [fI]
 | k + 1, u, h => by
  by_cases h0 : u = 0
  ·subst h0; simp [fI]
  ·rw [lJ h0, List.length_append]
   have := nZ k (u / 10) (by rw [Nat.pow_succ] at h; omega)
   simp; omega
theorem rU {n : Int} (h : n ≠ 0) : Lib.itoa n = if n < 0 then 45 :: fI n.natAbs else fI n.natAbs := by
 unfold Lib.itoa fI
 have h1 : n.natAbs ≠ 0 := by omega
 rw [if_neg h1]
 split
 ·rfl
 ·have : n.toNat = n.natAbs := by omega
  rw [this]
theorem iO (n : Int) (hn : inR .i64 n) : FnC Tryd.prog 40 [oi n] (os (gX n)) := by
 refine ent Tryd.func40 rfl Tryd.call40 rfl (fun C => ?_); simp only [go_sem, st0, Tryd.ntmps40]
 have hn' := hn
 unfold inR at hn'
 simp only at hn'
 by_cases h0 : n = 0
 ·subst h0
  have g : decide ((0 : Int) = 0) = true := rfl
  have e : gX 0 = ⟨#[48]⟩ := by simp [gX, Lib.itoa, Lib.decDigits]
  have q0 := @g; refine wU ?_
  exact aD ⟨⟨_, rfl, by simp only [go_sem, e]⟩, trivial⟩
 have g : decide (n = 0) = false := by simp [h0]
 have q0 := @g; refine wU ?_
 have hL : (fI n.natAbs).length ≤ 19 := nZ 19 _ (by omega)
 have key : ∀ s : ByteArray, s.data.toList = fI n.natAbs → (if n < 0 then (⟨#[45]⟩ : ByteArray) ++ s else s) = gX n := by
  intro s hs
  unfold gX
  rw [rU h0, ← hs]
  split
  ·apply ByteArray.ext; apply Array.ext'; simp
  ·rfl
 refine tN (α := Int × ByteArray) (fun x => [(0, oi x.1), (4, os x.2)]) (fun _ => []) (fun x => inR .i64 x.1 ∧ fI x.1.natAbs ++ x.2.data.toList = fI n.natAbs) (fun x => x.1.natAbs) (n, ⟨#[]⟩) (fun _ => ?_) ?_ ?_ (fun x hx => ?_)
 ·simp only [go_sem]
 ·simp only [go_sem]; simp
 ·exact ⟨hn, by simp⟩
 ·obtain ⟨m, s⟩ := x
  obtain ⟨hm, hs⟩ := hx
  simp only at hm hs
  have hm' := hm
  unfold inR at hm'
  simp only at hm'
  have hsl : s.size ≤ 19 := by
   have := congrArg List.length hs
   rw [List.length_append] at this
   have e : s.size = s.data.toList.length := rfl
   omega
  simp only [go_sem]
  by_cases h1 : m = 0
  ·subst h1
   have g1 : decide ((0 : Int) = 0) = true := rfl
   have hs' : s.data.toList = fI n.natAbs := by simpa [fI] using hs
   have hk := key s hs'
   by_cases h2 : n < 0
   ·have g2 : decide (n < 0) = true := by simp [h2]
    rw [if_pos h2] at hk
    have i1 : (⟨#[45]⟩ : ByteArray).size + s.size ≤ maxLen := by unfold maxLen; have : (⟨#[45]⟩ : ByteArray).size = 1 := rfl; omega
    have q0 := @g1; have q1 := @g2; have q2 := @i1; have q3 := @Bool.not_true; refine qN ?_
    exact aD ⟨⟨_, rfl, by simp only [go_sem, hk]⟩, trivial⟩
   ·have g2 : decide (n < 0) = false := by simp [h2]
    rw [if_neg h2] at hk
    have q0 := @g1; have q1 := @g2; have q2 := @Bool.not_true; refine wW ?_
    exact aD ⟨⟨_, rfl, by simp only [go_sem, hk]⟩, trivial⟩
  have g1 : decide (m = 0) = false := by simp [h1]
  have hu : m.natAbs ≠ 0 := by omega
  have q1 : (m.tdiv 10).natAbs = m.natAbs / 10 := by rw [Int.natAbs_tdiv]; rfl
  have q2 : (m.tmod 10).natAbs = m.natAbs % 10 := by rw [Int.natAbs_tmod]; rfl
  have i1 : inR .i64 (m.tdiv 10) := by unfold inR; simp only; omega
  have i3 : inR .i64 (0 - m.tmod 10) := by unfold inR; simp only; omega
  have hstep : ∀ d : Int, d = ((m.natAbs % 10 : Nat) : Int) → fI (m.tdiv 10).natAbs ++ (fC [48 + d] ++ s).data.toList = fI n.natAbs := by
   intro d hd
   rw [← hs, lJ hu, q1, hd]
   have e : (48 + ((m.natAbs % 10 : Nat) : Int)).toNat = 48 + m.natAbs % 10 := by omega
   have e2 : (fC [48 + ((m.natAbs % 10 : Nat) : Int)] ++ s).data.toList = UInt8.ofNat (48 + m.natAbs % 10) :: s.data.toList := by
    unfold fC
    rw [List.map_cons, List.map_nil, e]
    generalize UInt8.ofNat (48 + m.natAbs % 10) = z
    simp
   rw [e2, List.append_assoc]; rfl
  have i4 : ∀ d : Int, (fC [48 + d]).size + s.size ≤ maxLen := fun d => by
   have : (fC [48 + d]).size = 1 := rfl
   unfold maxLen; omega
  by_cases h3 : m.tmod 10 < 0
  ·have g3 : decide (m.tmod 10 < 0) = true := by simp [h3]
   have q0 := @g1; have q1 := @g3; have q2 := @i1; have q3 := @i3; have q4 := @i4; have q5 := @Bool.not_false; refine sU (lI (0 - m.tmod 10) (by omega) (by omega)) ?_
   refine mR (m.tdiv 10, fC [48 + (0 - m.tmod 10)] ++ s) ?_ ?_ ?_
   ·simp only [go_sem]; try simp
   ·exact ⟨i1, hstep _ (by omega)⟩
   ·simp only; omega
  ·have g3 : decide (m.tmod 10 < 0) = false := by simp [h3]
   have q0 := @g1; have q1 := @g3; have q2 := @i1; have q3 := @i3; have q4 := @i4; have q5 := @Bool.not_false; refine sU (lI (m.tmod 10) (by omega) (by omega)) ?_
   refine mR (m.tdiv 10, fC [48 + m.tmod 10] ++ s) ?_ ?_ ?_
   ·simp only [go_sem]; try simp
   ·exact ⟨i1, hstep _ (by omega)⟩
   ·simp only; omega
def jL (v : TValue) : ByteArray := if bW v then (if v.fKind = 1 then gX v.fInt else if v.fKind = 2 then v.fStr else ⟨#[45]⟩) else ⟨#[63]⟩
theorem gG (v : TValue) (hs : v.fStr.size ≤ 4300000) (hi : inR .i64 v.fInt) : FnC Tryd.prog 38 [dS v] (os (jL v)) := by
 refine ent Tryd.func38 rfl Tryd.call38 rfl (fun C => ?_); simp only [go_sem, st0, Tryd.ntmps38]
 cases h0 : bW v
 ·have q0 := @h0; refine yX (aX v hs) ?_
  exact aD ⟨⟨_, rfl, by simp only [go_sem, jL, h0, if_false, Bool.false_eq_true]⟩, trivial⟩
 by_cases h1 : v.fKind = 1
 ·have d1 : decide (v.fKind = 1) = true := by simp [h1]
  have q0 := @h0; have q1 := @d1; refine a0l (aX v hs) (iN v.fInt hi) ?_
  exact aD ⟨⟨_, rfl, by simp only [go_sem, jL, h0, h1, if_true]⟩, trivial⟩
 have d1 : decide (v.fKind = 1) = false := by simp [h1]
 by_cases h2 : v.fKind = 2
 ·have d2 : decide (v.fKind = 2) = true := by simp [h2]
  have q0 := @h0; have q1 := @d1; have q2 := @d2; refine wX (aX v hs) ?_
  exact aD ⟨⟨_, rfl, by simp only [go_sem, jL, h0, h1, h2, if_true, if_false]⟩, trivial⟩
 ·have d2 : decide (v.fKind = 2) = false := by simp [h2]
  have q0 := @h0; have q1 := @d1; have q2 := @d2; refine wX (aX v hs) ?_
  exact aD ⟨⟨_, rfl, by simp only [go_sem, jL, h0, h1, h2, if_true, if_false]⟩, trivial⟩
theorem gH (v : TValue) (hs : v.fStr.size ≤ 4300000) (hi : inR .i64 v.fInt) : FnC Tryd.prog 37 [dS v] (os (jL v)) := by
 refine ent Tryd.func37 rfl Tryd.call37 rfl (fun C => ?_); simp only [go_sem, st0, Tryd.ntmps37]
 cases h0 : bW v
 ·have q0 := @h0; refine yX (aY v hs) ?_
  exact aD ⟨⟨_, rfl, by simp only [go_sem, jL, h0, if_false, Bool.false_eq_true]⟩, trivial⟩
 by_cases h1 : v.fKind = 1
 ·have d1 : decide (v.fKind = 1) = true := by simp [h1]
  have q0 := @h0; have q1 := @d1; refine a0l (aY v hs) (iO v.fInt hi) ?_
  exact aD ⟨⟨_, rfl, by simp only [go_sem, jL, h0, h1, if_true]⟩, trivial⟩
 have d1 : decide (v.fKind = 1) = false := by simp [h1]
 by_cases h2 : v.fKind = 2
 ·have d2 : decide (v.fKind = 2) = true := by simp [h2]
  have q0 := @h0; have q1 := @d1; have q2 := @d2; refine wX (aY v hs) ?_
  exact aD ⟨⟨_, rfl, by simp only [go_sem, jL, h0, h1, h2, if_true, if_false]⟩, trivial⟩
 ·have d2 : decide (v.fKind = 2) = false := by simp [h2]
  have q0 := @h0; have q1 := @d1; have q2 := @d2; refine wX (aY v hs) ?_
  exact aD ⟨⟨_, rfl, by simp only [go_sem, jL, h0, h1, h2, if_true, if_false]⟩, trivial⟩
theorem iP (v : TValue) (hs : v.fStr.size ≤ 4300000) (hi : inR .i64 v.fInt) : FnC Tryd.prog 12 [dS v] (os (jL v)) := by
 refine ent Tryd.func12 rfl Tryd.call12 rfl (fun C => ?_); simp only [go_sem, st0, Tryd.ntmps12]
 refine sS (gG v hs hi) ?_
 exact aD ⟨⟨_, rfl, by simp only [go_sem]⟩, trivial⟩
theorem iQ (v : TValue) (hs : v.fStr.size ≤ 4300000) (hi : inR .i64 v.fInt) : FnC Tryd.prog 10 [dS v] (os (jL v)) := by
 refine ent Tryd.func10 rfl Tryd.call10 rfl (fun C => ?_); simp only [go_sem, st0, Tryd.ntmps10]
 refine sS (gH v hs hi) ?_
 exact aD ⟨⟨_, rfl, by simp only [go_sem]⟩, trivial⟩
theorem jM (x : TValue) (hf : dM x) : FnC Tryd.prog 3 [dS x] (ob true) := by
 refine ent Tryd.func3 rfl Tryd.call3 rfl (fun C => ?_); simp only [go_sem, st0, Tryd.ntmps3]
 have hz := qQ x 1048576 (by omega) hf
 by_cases h : jJ 1048576 (bM x) < 0
 ·have q0 := @h; refine yX hz ?_
  exact aD ⟨⟨_, rfl, by simp only [go_sem]⟩, trivial⟩
 ·have hs : bM x ≤ 1048576 := by have := vC h; omega
  have hs' : x.fStr.size ≤ 4300000 := by unfold bM at hs; omega
  have q0 := @h; refine a0Y hz (qR x hs) (iQ x hs' hf.2.1) (iP x hs' hf.2.1) ?_
  exact aD ⟨⟨_, rfl, by simp only [go_sem]⟩, trivial⟩
end Go.Proofs.YtgfngchfmohhbaaDoor
end
section
namespace Go.Proofs.YtgfngchfmohhbaaDoor
open Go Go.Sx Go.RowKit Go.Proofs
theorem pF : (Tryd.prog.globals[1]?).map (·.type) = some 140 := by kernel_rfl
theorem lF : Tryd.prog.cellsOf 140 = 20 := by kernel_rfl
theorem mM : Tryd.prog.cellsOf 131 = 1 := by kernel_rfl
theorem rT : Tryd.prog.underlying 140 = some (.array 20 131) := by kernel_rfl
theorem pG : Tryd.prog.underlying 131 = some (.int .u64) := by kernel_rfl
theorem nX : (Rows.laid_internal_strconv_uint64pow10 : DataW Unit) = Lib.tabData .u64 Lib.pow10Tab := by kernel_rfl
theorem vK {W : World} (h : laidMetH Tryd.prog [("math/bits.deBruijn32tab", Rows.laid_math_bits_deBruijn32tab), ("math/bits.deBruijn64tab", Rows.laid_math_bits_deBruijn64tab), ("internal/strconv.uint64pow10", Rows.laid_internal_strconv_uint64pow10)] W) : tabOK W [] := by
 have h' : laidMet Tryd.prog [("math/bits.deBruijn32tab", Rows.laid_math_bits_deBruijn32tab), ("math/bits.deBruijn64tab", Rows.laid_math_bits_deBruijn64tab), ("internal/strconv.uint64pow10", Rows.laid_internal_strconv_uint64pow10)] W := h
 have h2 := h'.tail.tail
 rw [nX] at h2
 exact xU (Lib.tabIs_of_head (rest := []) fH pF rT pG mM lF h2)
def pI : DataW Unit → Array Value
 | .agg l => (l.map fun | .lit (.int k n) => Value.int k n | _ => .bool false).toArray
 | _ => #[]
def xR (cs : Array Value) : Obj → Obj
 | .cells _ t frozen => .cells cs t frozen
 | o => o
noncomputable def iM (os : Os) : World :=
 { World.holding Tryd.prog os ⟨#[], #[], []⟩ with heap := (((World.holding Tryd.prog os ⟨#[], #[], []⟩).heap.modify 2 (xR (pI Rows.laid_math_bits_deBruijn32tab))).modify 3 (xR (pI Rows.laid_math_bits_deBruijn64tab))).modify 1 (xR (pI Rows.laid_internal_strconv_uint64pow10)) }
end Go.Proofs.YtgfngchfmohhbaaDoor
end
