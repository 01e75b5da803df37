/- Joined texts. -/
import Derived.Test.YtakopfjdmmnjcaaGreatZ08
import Derived.Test.YtakopfjdmmnjcaaGreatZ16
import Derived.Test.YtakopfjdmmnjcaaGreatZ07
import Derived.Test.YtakopfjdmmnjcaaGreatZ12
import Derived.Test.YtakopfjdmmnjcaaGreatZ14
import Derived.Sort.Walk0
set_option linter.all false
section
set_option maxRecDepth 100000
namespace Go.Proofs.YtakopfjdmmnjcaaGreat
open Go Go.Sx Go.RowKit Go.Proofs
def eqL {α : Type} (p : α → α → Bool) : List α → List α → Bool
 | [], [] => true
 | x :: xs, y :: ys => p x y && eqL p xs ys
 | _, _ => false
theorem wW {α : Type} (p : α → α → Bool) : ∀ {a b : List α}, a.length ≠ b.length → eqL p a b = false
 | [], [], h => by simp at h
 | x :: xs, y :: ys, h => by
  have := wW p (a := xs) (b := ys) (by simpa using h)
  simp [eqL, this]
 | [], _ :: _, _ => rfl
 | _ :: _, [], _ => rfl
@[go_sem] def jF (a b : Int) : Bool := decide (a = b)
@[go_sem] def pM (a b : TField) : Bool := decide (a.fName = b.fName) && decide (a.fKind = b.fKind)
@[go_sem] def qN (a b : TAttr) : Bool := decide (a.fName = b.fName) && (decide (a.fValue.fKind = b.fValue.fKind) && (decide (a.fValue.fInt = b.fValue.fInt) && decide (a.fValue.fStr = b.fValue.fStr)))
@[go_sem] def b4P (a b : TNode) : Bool := decide (a.fOp = b.fOp) && (decide (a.fLeft = b.fLeft) && (decide (a.fRight = b.fRight) && (decide (a.fName = b.fName) && (decide (a.fValue.fKind = b.fValue.fKind) && (decide (a.fValue.fInt = b.fValue.fInt) && decide (a.fValue.fStr = b.fValue.fStr))))))
def iK (a b : TFile) : Bool := decide (a.fID = b.fID) && (decide (a.fOwner = b.fOwner) && ((a.fShared == b.fShared) && (decide (a.fLink = b.fLink) && eqL qN a.fAttrs b.fAttrs)))
def b3x (a b : TDir) : Bool := decide (a.fName = b.fName) && eqL b4P a.fQuery b.fQuery
def a4X (a b : TResult) : Bool := decide (a.fName = b.fName) && eqL jF a.fIDs b.fIDs
def lI (a b : TStore) : Bool := eqL pM a.fSchema b.fSchema && (eqL iK a.fFiles b.fFiles && decide (a.fNextID = b.fNextID))
def b5i (a b : TSnapshot) : Bool := lI a.fStore b.fStore && eqL b3x a.fDirs b.fDirs
def b6y (a b : TCatalog) : Bool := lI a.fStore b.fStore && (eqL b3x a.fDirs b.fDirs && eqL a4X a.fResults b.fResults)
theorem rA (a b : List TField) (ha : a.length ≤ 4300000) : FnC Tryz.prog 68 [.o (.d (.sl (a.map dA))), .o (.d (.sl (b.map dA)))] (ob (eqL pM a b)) := by
 have hal : a.length ≤ 4300000 := by omega
 refine ent Tryz.func68 rfl Tryz.call68 rfl (fun C => ?_); simp only [go_sem, st0, Tryz.ntmps68]
 refine aD ?_
 refine cnd rfl (fun h0 => ?_) (fun h0 => ?_)
 ·have e : eqL pM a b = false := wW _ (by simp only [Bool.not_eq_true', decide_eq_false_iff_not] at h0; omega)
  refine aD ?_
  exact aA ⟨⟨_, rfl, by simp only [go_sem, e]⟩, trivial⟩
 have h0 : a.length = b.length := by simpa [Int.ofNat_inj] using h0
 refine aD ?_
 refine aY (α := Nat) (fun k => [(5, oi k)]) (fun _ => []) (fun k => k ≤ a.length ∧ eqL pM a b = eqL pM (a.drop k) (b.drop k)) (fun k => a.length - k) 0 (fun _ => ?_) ?_ ?_ (fun k hk => ?_)
 ·simp only [go_sem]
 ·simp only [go_sem]; simp
 ·simp
 ·obtain ⟨hk, hq⟩ := hk
  simp only [go_sem]
  refine aD ?_
  refine cnd rfl (fun h => ?_) (fun h => ?_)
  ·simp only [decide_eq_true_eq, Int.ofNat_lt] at h
   have hb : k < b.length := by omega
   rw [List.drop_eq_getElem_cons h, List.drop_eq_getElem_cons hb, eqL] at hq
   have q0 := @h; have q1 := @hb; refine fM ?_
   refine cnd (b := !(pM a[k] b[k])) (by rfl) (fun h2 => ?_) (fun h2 => ?_)
   ·simp only [Bool.not_eq_true'] at h2
    rw [h2, Bool.false_and] at hq
    refine aD ?_
    exact aA ⟨⟨_, rfl, by simp only [go_sem, hq]⟩, trivial⟩
   ·simp only [Bool.not_eq_false'] at h2
    rw [h2, Bool.true_and] at hq
    refine aD ?_
    refine aF (k + 1) ?_ ?_ ?_
    ·simp only [go_sem]; simp
    ·exact ⟨h, hq⟩
    ·omega
  ·simp only [decide_eq_false_iff_not] at h
   have e : k = a.length := by omega
   subst e
   rw [List.drop_length, List.drop_of_length_le (by omega), eqL] at hq
   refine aD ?_
   exact aA ⟨⟨_, rfl, by simp only [go_sem, hq]⟩, trivial⟩
theorem a1z (a b : List Int) (ha : a.length ≤ 4300000) : FnC Tryz.prog 144 [.o (.d (.sl (a.map gG))), .o (.d (.sl (b.map gG)))] (ob (eqL jF a b)) := by
 have hal : a.length ≤ 4300000 := by omega
 refine ent Tryz.func144 rfl Tryz.call144 rfl (fun C => ?_); simp only [go_sem, st0, Tryz.ntmps144]
 refine aD ?_
 refine cnd rfl (fun h0 => ?_) (fun h0 => ?_)
 ·have e : eqL jF a b = false := wW _ (by simp only [Bool.not_eq_true', decide_eq_false_iff_not] at h0; omega)
  refine aD ?_
  exact aA ⟨⟨_, rfl, by simp only [go_sem, e]⟩, trivial⟩
 have h0 : a.length = b.length := by simpa [Int.ofNat_inj] using h0
 refine aD ?_
 refine aY (α := Nat) (fun k => [(5, oi k)]) (fun _ => []) (fun k => k ≤ a.length ∧ eqL jF a b = eqL jF (a.drop k) (b.drop k)) (fun k => a.length - k) 0 (fun _ => ?_) ?_ ?_ (fun k hk => ?_)
 ·simp only [go_sem]
 ·simp only [go_sem]; simp
 ·simp
 ·obtain ⟨hk, hq⟩ := hk
  simp only [go_sem]
  refine aD ?_
  refine cnd rfl (fun h => ?_) (fun h => ?_)
  ·simp only [decide_eq_true_eq, Int.ofNat_lt] at h
   have hb : k < b.length := by omega
   rw [List.drop_eq_getElem_cons h, List.drop_eq_getElem_cons hb, eqL] at hq
   have q0 := @h; have q1 := @hb; refine fM ?_
   refine cnd (b := !(jF a[k] b[k])) (by rfl) (fun h2 => ?_) (fun h2 => ?_)
   ·simp only [Bool.not_eq_true'] at h2
    rw [h2, Bool.false_and] at hq
    refine aD ?_
    exact aA ⟨⟨_, rfl, by simp only [go_sem, hq]⟩, trivial⟩
   ·simp only [Bool.not_eq_false'] at h2
    rw [h2, Bool.true_and] at hq
    refine aD ?_
    refine aF (k + 1) ?_ ?_ ?_
    ·simp only [go_sem]; simp
    ·exact ⟨h, hq⟩
    ·omega
  ·simp only [decide_eq_false_iff_not] at h
   have e : k = a.length := by omega
   subst e
   rw [List.drop_length, List.drop_of_length_le (by omega), eqL] at hq
   refine aD ?_
   exact aA ⟨⟨_, rfl, by simp only [go_sem, hq]⟩, trivial⟩
theorem xU (a b : List Int) (ha : a.length ≤ 4300000) : FnC Tryz.prog 174 [.o (.d (.sl (a.map gG))), .o (.d (.sl (b.map gG)))] (ob (eqL jF a b)) := by
 have hal : a.length ≤ 4300000 := by omega
 refine ent Tryz.func174 rfl Tryz.call174 rfl (fun C => ?_); simp only [go_sem, st0, Tryz.ntmps174]
 refine aD ?_
 refine cnd rfl (fun h0 => ?_) (fun h0 => ?_)
 ·have e : eqL jF a b = false := wW _ (by simp only [Bool.not_eq_true', decide_eq_false_iff_not] at h0; omega)
  refine aD ?_
  exact aA ⟨⟨_, rfl, by simp only [go_sem, e]⟩, trivial⟩
 have h0 : a.length = b.length := by simpa [Int.ofNat_inj] using h0
 refine aD ?_
 refine aY (α := Nat) (fun k => [(13, oi k)]) (fun _ => []) (fun k => k ≤ a.length ∧ eqL jF a b = eqL jF (a.drop k) (b.drop k)) (fun k => a.length - k) 0 (fun _ => ?_) ?_ ?_ (fun k hk => ?_)
 ·simp only [go_sem]
 ·simp only [go_sem]; simp
 ·simp
 ·obtain ⟨hk, hq⟩ := hk
  simp only [go_sem]
  refine aD ?_
  refine cnd rfl (fun h => ?_) (fun h => ?_)
  ·simp only [decide_eq_true_eq, Int.ofNat_lt] at h
   have hb : k < b.length := by omega
   rw [List.drop_eq_getElem_cons h, List.drop_eq_getElem_cons hb, eqL] at hq
   have q0 := @h; have q1 := @hb; refine fM ?_
   refine cnd (b := !(jF a[k] b[k])) (by rfl) (fun h2 => ?_) (fun h2 => ?_)
   ·simp only [Bool.not_eq_true'] at h2
    rw [h2, Bool.false_and] at hq
    refine aD ?_
    exact aA ⟨⟨_, rfl, by simp only [go_sem, hq]⟩, trivial⟩
   ·simp only [Bool.not_eq_false'] at h2
    rw [h2, Bool.true_and] at hq
    refine aD ?_
    refine aF (k + 1) ?_ ?_ ?_
    ·simp only [go_sem]; simp
    ·exact ⟨h, hq⟩
    ·omega
  ·simp only [decide_eq_false_iff_not] at h
   have e : k = a.length := by omega
   subst e
   rw [List.drop_length, List.drop_of_length_le (by omega), eqL] at hq
   refine aD ?_
   exact aA ⟨⟨_, rfl, by simp only [go_sem, hq]⟩, trivial⟩
theorem a0u (x y : TFile) (h : bA x ≤ 4300000) : FnC Tryz.prog 69 [iM x, iM y] (ob (iK x y)) := by
 unfold bA eT at h
 refine ent Tryz.func69 rfl Tryz.call69 rfl (fun C => ?_); simp only [go_sem, st0, Tryz.ntmps69]
 by_cases h1 : x.fID = y.fID
 case neg =>
  have q0 := @h1; have q1 := @decide_false; refine fM ?_
  exact aA ⟨⟨_, rfl, by simp only [go_sem, iK, h1, decide_false, Bool.false_and]⟩, trivial⟩
 by_cases h2 : x.fOwner = y.fOwner
 case neg =>
  have q0 := @h1; have q1 := @h2; have q2 := @decide_false; refine jQ ?_
  exact aA ⟨⟨_, rfl, by simp only [go_sem, iK, h1, h2, decide_false, decide_true, Bool.true_and, Bool.false_and]⟩, trivial⟩
 cases h3 : (x.fShared == y.fShared)
 case false =>
  have q0 := @h1; have q1 := @h2; have q2 := @h3; have q3 := @decide_false; refine jX ?_
  exact aA ⟨⟨_, rfl, by simp only [go_sem, iK, h1, h2, h3, decide_false, decide_true, Bool.true_and, Bool.false_and]⟩, trivial⟩
 by_cases h4 : x.fLink = y.fLink
 case neg =>
  have q0 := @h1; have q1 := @h2; have q2 := @h3; have q3 := @h4; have q4 := @decide_false; refine tO ?_
  exact aA ⟨⟨_, rfl, by simp only [go_sem, iK, h1, h2, h3, h4, decide_false, decide_true, Bool.true_and, Bool.false_and]⟩, trivial⟩
 have hb : iK x y = eqL qN x.fAttrs y.fAttrs := by simp [iK, h1, h2, h3, h4]
 rw [hb]
 have q0 := @h1; have q1 := @h2; have q2 := @h3; have q3 := @h4; have q4 := @decide_false; refine tO ?_
 refine cnd rfl (fun h0 => ?_) (fun h0 => ?_)
 ·have e : eqL qN x.fAttrs y.fAttrs = false := wW _ (by simp only [Bool.not_eq_true', decide_eq_false_iff_not] at h0; omega)
  refine aD ?_
  exact aA ⟨⟨_, rfl, by simp only [go_sem, e]⟩, trivial⟩
 have h0 : x.fAttrs.length = y.fAttrs.length := by simpa [Int.ofNat_inj] using h0
 refine aD ?_
 generalize x.fAttrs = a at *
 generalize y.fAttrs = b at *
 refine aY (α := Nat) (fun k => [(5, oi k)]) (fun _ => []) (fun k => k ≤ a.length ∧ eqL qN a b = eqL qN (a.drop k) (b.drop k)) (fun k => a.length - k) 0 (fun _ => ?_) ?_ ?_ (fun k hk => ?_)
 ·simp only [go_sem]
 ·simp only [go_sem]; simp
 ·simp
 ·obtain ⟨hk, hq⟩ := hk
  simp only [go_sem]
  refine aD ?_
  refine cnd rfl (fun h => ?_) (fun h => ?_)
  ·simp only [decide_eq_true_eq, Int.ofNat_lt] at h
   have hb : k < b.length := by omega
   rw [List.drop_eq_getElem_cons h, List.drop_eq_getElem_cons hb, eqL] at hq
   have q0 := @h; have q1 := @hb; refine fM ?_
   refine cnd (b := !(qN a[k] b[k])) rfl (fun h2 => ?_) (fun h2 => ?_)
   ·simp only [Bool.not_eq_true'] at h2
    rw [h2, Bool.false_and] at hq
    refine aD ?_
    exact aA ⟨⟨_, rfl, by simp only [go_sem, hq]⟩, trivial⟩
   ·simp only [Bool.not_eq_false'] at h2
    rw [h2, Bool.true_and] at hq
    refine aD ?_
    refine aF (k + 1) ?_ ?_ ?_
    ·simp only [go_sem]; simp
    ·exact ⟨h, hq⟩
    ·omega
  ·simp only [decide_eq_false_iff_not] at h
   have e : k = a.length := by omega
   subst e
   rw [List.drop_length, List.drop_of_length_le (by omega), eqL] at hq
   refine aD ?_
   exact aA ⟨⟨_, rfl, by simp only [go_sem, hq]⟩, trivial⟩
theorem yP (x y : TStore) (h : aJ x ≤ 4300000) : FnC Tryz.prog 31 [bG x, bG y] (ob (lI x y)) := by
 unfold aJ at h
 have hs : x.fSchema.length ≤ 4300000 := by unfold bH at h; omega
 refine ent Tryz.func31 rfl Tryz.call31 rfl (fun C => ?_); simp only [go_sem, st0, Tryz.ntmps31]
 cases h1 : eqL pM x.fSchema y.fSchema
 case false =>
  have q0 := @h1; refine lK (rA x.fSchema y.fSchema hs) ?_
  exact aA ⟨⟨_, rfl, by simp only [go_sem, lI, h1, Bool.false_and]⟩, trivial⟩
 by_cases h2 : x.fNextID = y.fNextID
 case neg =>
  have q0 := @h1; have q1 := @h2; have q2 := @decide_false; refine uS (rA x.fSchema y.fSchema hs) ?_
  exact aA ⟨⟨_, rfl, by simp only [go_sem, lI, h1, h2, decide_false, Bool.and_false]⟩, trivial⟩
 have hb : lI x y = eqL iK x.fFiles y.fFiles := by simp [lI, h1, h2]
 rw [hb]
 have q0 := @h1; have q1 := @h2; have q2 := @decide_false; refine uS (rA x.fSchema y.fSchema hs) ?_
 refine cnd rfl (fun h0 => ?_) (fun h0 => ?_)
 ·have e : eqL iK x.fFiles y.fFiles = false := wW _ (by simp only [Bool.not_eq_true', decide_eq_false_iff_not] at h0; omega)
  refine aD ?_
  exact aA ⟨⟨_, rfl, by simp only [go_sem, e]⟩, trivial⟩
 have h0 : x.fFiles.length = y.fFiles.length := by simpa [Int.ofNat_inj] using h0
 refine aD ?_
 have ha : eF x.fFiles ≤ 4300000 := by omega
 generalize x.fFiles = a at *
 generalize y.fFiles = b at *
 refine aY (α := Nat) (fun k => [(5, oi k)]) (fun _ => []) (fun k => k ≤ a.length ∧ eqL iK a b = eqL iK (a.drop k) (b.drop k)) (fun k => a.length - k) 0 (fun _ => ?_) ?_ ?_ (fun k hk => ?_)
 ·simp only [go_sem]
 ·simp only [go_sem]; simp
 ·simp
 ·obtain ⟨hk, hq⟩ := hk
  simp only [go_sem]
  refine aD ?_
  refine cnd rfl (fun h => ?_) (fun h => ?_)
  ·simp only [decide_eq_true_eq, Int.ofNat_lt] at h
   have hb : k < b.length := by omega
   rw [List.drop_eq_getElem_cons h, List.drop_eq_getElem_cons hb, eqL] at hq
   have hw := dD bA a h
   unfold eF at ha
   have q0 := @h; have q1 := @hb; refine zS (a0u a[k] b[k] (by omega)) ?_
   refine cnd (b := !(iK a[k] b[k])) rfl (fun h2 => ?_) (fun h2 => ?_)
   ·simp only [Bool.not_eq_true'] at h2
    rw [h2, Bool.false_and] at hq
    refine aD ?_
    exact aA ⟨⟨_, rfl, by simp only [go_sem, hq]⟩, trivial⟩
   ·simp only [Bool.not_eq_false'] at h2
    rw [h2, Bool.true_and] at hq
    refine aD ?_
    refine aF (k + 1) ?_ ?_ ?_
    ·simp only [go_sem]; simp
    ·exact ⟨h, hq⟩
    ·omega
  ·simp only [decide_eq_false_iff_not] at h
   have e : k = a.length := by omega
   subst e
   rw [List.drop_length, List.drop_of_length_le (by omega), eqL] at hq
   refine aD ?_
   exact aA ⟨⟨_, rfl, by simp only [go_sem, hq]⟩, trivial⟩
end Go.Proofs.YtakopfjdmmnjcaaGreat
end
section
set_option maxRecDepth 100000
set_option maxHeartbeats 4000000
namespace Go.Proofs.YtakopfjdmmnjcaaGreat
open Go Go.Sx Go.RowKit Go.Proofs
def wG (d : List TDir) (L : List Nat) : Nat := (a0p L + 1).toNat
noncomputable def evX (s : TStore) (d : List TDir) (r : List TResult) (ns : List ByteArray) : List TResult × Nat := if mU d && bD s then allE s.fFiles d (resL d) ns (s.fFiles.length + bM r) r (wG d (resL d)) else ([], 0)
noncomputable def evB (s : TStore) (d : List TDir) : Bool := mU d && bD s
theorem a0n {d : List TDir} (h : mU d = true) : dU d = true ∧ Least d.length (EE d) (resL d) := by
 unfold mU at h
 split at h
 ·rename_i hv
  refine ⟨hv, ?_⟩
  unfold a1q at h
  split at h
  ·rename_i hx
   have hex : ∃ L, Least d.length (EE d) L := by
    have hends := a4P (wD d) (gH d) (fun x => Iff.rfl) (d.length * d.length + 2) (by omega)
    simp only at hends
    split at hends
    ·exact ⟨_, hends⟩
    ·exact (hends hx).elim
   obtain ⟨L, hL⟩ := hex
   have e : resL d = L := by unfold resL; rw [if_pos hv]; exact a5U hL
   rw [e]; exact hL
  ·cases h
 ·cases h
theorem a1v {d : List TDir} (h : dU d = true) (i : Nat) (hi : i < d.length) : d[i].fName.size ≤ 6 := by
 unfold dU at h
 simp only [Bool.and_eq_true, List.all_eq_true, List.mem_range] at h
 have := h.1 i hi
 unfold jK at this
 rw [List.getElem?_eq_getElem hi] at this
 simp only [Bool.and_eq_true] at this
 have := b1h this.1
 omega
theorem qM {s : TStore} (h : bD s = true) : s.fFiles.length ≤ 12 := by
 unfold bD at h
 simp only [Bool.and_eq_true, decide_eq_true_eq] at h
 omega
theorem yM {α : Type} (w : α → Nat) (c : Nat) : ∀ l : List α, (∀ i, (h : i < l.length) → w l[i] ≤ c) → bI w l ≤ l.length * c
 | [], _ => by simp [bI]
 | x :: l, h => by
  have h0 := h 0 (by simp)
  have h1 := yM w c l fun i hi => h (i + 1) (by simpa using hi)
  simp only [List.getElem_cons_zero] at h0
  simp only [bI, List.length_cons, Nat.succ_mul]
  omega
theorem Ev.get {fs : List TFile} {d : List TDir} {L : List Nat} {ns : List ByteArray} {c k : Nat} {R : List TResult} (h : Ev fs d L ns c k R) (i : Nat) (hi : i < d.length) : (R[i]'(by rw [h.len]; exact hi)).fName = d[i].fName ∧ (R[i]'(by rw [h.len]; exact hi)).fIDs = eZ R i := by
 have hlen := h.len
 have hR : i < R.length := by omega
 refine ⟨?_, ?_⟩
 ·have := congrArg (fun l : List ByteArray => l[i]?) h.nm
  simp only [List.getElem?_map] at this
  rw [List.getElem?_eq_getElem hR, List.getElem?_eq_getElem hi] at this
  simpa using this
 ·simp [eZ, List.getD_eq_getElem?_getD, hR]
theorem Ev.w {fs : List TFile} {d : List TDir} {L : List Nat} {ns : List ByteArray} {c k : Nat} {R : List TResult} (h : Ev fs d L ns c k R) (hv : dU d = true) (hc : c ≤ 4300012) : bM R ≤ 67108864 := by
 have hlen := h.len
 have h5 := kG hv
 have hb := yM kC 4300018 R fun i hi => by
  obtain ⟨e1, e2⟩ := h.get i (by omega)
  have h1 := a1v hv i (by omega)
  have h2 := h.bd i
  unfold kC
  rw [e1, e2]
  omega
 unfold bM
 have : R.length * 4300018 ≤ 5 * 4300018 := Nat.mul_le_mul_right _ (by omega)
 omega
theorem b5h (R : List TResult) (i : Nat) (nm : ByteArray) (l : List Int) : (R.map bC).set i [sv nm, .sl (l.map gG)] = (R.set i ⟨nm, l⟩).map bC := by rw [List.map_set]; rfl
theorem a2h (a b : List Int) : eqL jF a b = decide (a = b) := by
 induction a generalizing b with
 | nil => cases b <;> simp [eqL]
 | cons x a ih =>
  cases b with
  | nil => simp [eqL]
  | cons y b =>
   simp only [eqL, ih, jF]
   by_cases h1 : x = y <;> by_cases h2 : a = b <;> simp [h1, h2]
theorem a1w (ns : List ByteArray) (r : List TResult) (d : List TDir) (k : Nat) (h : k < d.length) : iD ns r (d.take (k + 1)) = iD ns r (d.take k) ++ [⟨d[k].fName, if pK ns d[k].fName then [] else bQ d[k].fName r⟩] := by
 unfold iD; rw [List.take_succ_eq_append_getElem h, List.map_append]; rfl
theorem a3p (ns : List ByteArray) (r : List TResult) (d : List TDir) (k : Nat) : (iD ns r (d.take k)).length ≤ k := by unfold iD; simp; omega
theorem b4J (d : List TDir) (k : Nat) (h : k < d.length) : pK (dirNs d) d[k].fName = true := by
 rw [a3h]
 exact List.mem_map.2 ⟨d[k], List.getElem_mem h, rfl⟩
def chB (fs : List TFile) (d : List TDir) (L : List Nat) (ns : List ByteArray) (k i : Nat) (R : List TResult) : Bool := decide (jO R < jO (passT fs d L ns k i R))
theorem b4K (l : List Nat) (m : Int) : m ≤ wH l m := by
 induction l generalizing m with
 | nil => simp [wH]
 | cons x l ih =>
  simp only [wH]
  split
  ·have := ih (x : Int); omega
  ·exact ih m
theorem b4L (l : List Nat) (m c : Int) (hm : m ≤ c) (h : ∀ x ∈ l, (x : Int) ≤ c) : wH l m ≤ c := by
 induction l generalizing m with
 | nil => exact hm
 | cons x l ih =>
  simp only [wH]
  refine ih _ ?_ fun y hy => h y (List.mem_cons_of_mem _ hy)
  split
  ·exact h x (by simp)
  ·exact hm
theorem b3q {d : List TDir} {L : List Nat} (h : Least d.length (EE d) L) : a0p L ≤ (d.length : Int) := by
 obtain ⟨G, hG, hs⟩ := a0U (wD d) h.clo
 refine b4L L (-1) _ (by omega) fun x hx => ?_
 obtain ⟨i, hi, rfl⟩ := List.mem_iff_getElem.1 hx
 have h1 := h.le G hG i
 have h2 := hs i (by rw [← h.clo.len]; exact hi)
 rw [uH L i hi]
 omega
theorem a4U (fs : List TFile) (d : List TDir) (L : List Nat) (ns : List ByteArray) (k : Nat) : ∀ (F : Nat) (x : List TResult × Nat), (xS fs d L ns k F x).2 ≤ x.2 + F
 | 0, x => by simp [xS]
 | F + 1, x => by
  unfold xS
  split
  ·have := a4U fs d L ns k F (passT fs d L ns k d.length x.1, x.2 + 1)
   simp only at this
   omega
  ·simp only; omega
theorem a3q (fs : List TFile) (d : List TDir) (L : List Nat) (ns : List ByteArray) (c : Nat) (r : List TResult) : ∀ k, (allE fs d L ns c r k).2 ≤ k * (d.length * c + 1)
 | 0 => by simp [allE]
 | k + 1 => by
  have h1 := a3q fs d L ns c r k
  have h2 := a4U fs d L ns k (d.length * c + 1) (allE fs d L ns c r k)
  simp only [allE, Nat.succ_mul]
  omega
theorem a0o (d : List TDir) (L : List Nat) (k : Nat) : (k : Int) ≤ a0p L ↔ k < wG d L := by
 have : -1 ≤ a0p L := b4K L (-1)
 unfold wG
 omega
theorem a7H {fs : List TFile} {d : List TDir} {L : List Nat} {ns : List ByteArray} {k i : Nat} {R : List TResult} (h : passT fs d L ns k (i + 1) R = passT fs d L ns k i R) : chB fs d L ns k (i + 1) R = chB fs d L ns k i R := by unfold chB; rw [h]
theorem b1v (s : TStore) (d : List TDir) (r : List TResult) (ns : List ByteArray) (hs : aJ s ≤ 4300000) (hd : gN d ≤ 4300000) (hr : bM r ≤ 4300000) (hns : ns.length ≤ 4300000) : FnC Tryz.prog 153 [bG s, .o (.d (.sl (d.map dG))), .o (.d (.sl (r.map bC))), .o (.d (.sl (ns.map iQ)))] (.t [(false, [.w 169 2 ((evX s d r ns).1.map bC)]), (false, [.d (iv ((evX s d r ns).2 : Nat))]), (false, [.d (bv (evB s d))])]) := by
 have hd0 : d.length + bI lW d ≤ 4300000 := hd
 have hs0 : bH s.fSchema + (s.fFiles.length + bI bA s.fFiles) ≤ 4300000 := hs
 refine ent Tryz.func153 rfl Tryz.call153 rfl (fun C => ?_); simp only [go_sem, st0, Tryz.ntmps153]
 cases hb : mU d
 ·have e1 : evX s d r ns = ([], 0) := by simp [evX, hb]
  have e2 : evB s d = false := by simp [evB, hb]
  have q0 := @hb; refine lK (iO d hd) ?_
  exact aA ⟨⟨_, rfl, by simp only [go_sem, e1, e2, List.map_nil]; simp⟩, by simp [cK]⟩
 cases hst : bD s
 ·have e1 : evX s d r ns = ([], 0) := by simp [evX, hst]
  have e2 : evB s d = false := by simp [evB, hst]
  have q0 := @hb; have q1 := @hst; refine zT (iO d hd) (kY s hs) ?_
  exact aA ⟨⟨_, rfl, by simp only [go_sem, e1, e2, List.map_nil]; simp⟩, by simp [cK]⟩
 obtain ⟨hv, hleast⟩ := a0n hb
 have hclo := hleast.clo
 have hvq := fun i (hi : i < d.length) => mD hv i hi
 have h5 := kG hv
 have h12 := qM hst
 have hLl := hclo.len
 obtain ⟨CC, hCC⟩ : ∃ c, s.fFiles.length + bM r = c := ⟨_, rfl⟩
 have hC2 : CC ≤ 4300012 := by omega
 have e1 : evX s d r ns = allE s.fFiles d (resL d) ns CC r (wG d (resL d)) := by simp [evX, hb, hst, hCC]
 have e2 : evB s d = true := by simp [evB, hb, hst]
 have q0 := @hb; have q1 := @hst; refine zT (iO d hd) (kY s hs) ?_
 refine aY (α := Nat) (fun k => [(13, .o (.s 2)), (35, .o .u), (38, oi k)]) (fun k => [(2, .row 169 2 ((iD ns r (d.take k)).map bC) true)]) (fun k => k ≤ d.length) (fun k => d.length - k) 0 (fun _ => ?_) ?_ ?_ (fun k hk => ?_)
 ·simp only [go_sem]
 ·simp only [go_sem]; simp [iD]
 ·simp
 ·simp only [go_sem]
  refine aD ?_
  refine cnd rfl (fun h => ?_) (fun h => ?_)
  ·simp only [decide_eq_true_eq, Int.ofNat_lt] at h
   have hsl := a3p ns r d k
   have hl1 : (iD ns r (d.take k)).length + 1 ≤ 140737488355328 := by omega
   have hl2 : ((iD ns r (d.take k)).length + 1) * 40 ≤ 140737488355328 := by omega
   have hsu := a1w ns r d k h
   cases hn : pK ns d[k].fName
   ·rw [hn] at hsu
    have q0 := @h; have q1 := @hn; have q2 := @hl1; have q3 := @hl2; refine a2G (fT ns d[k].fName hns) (xR r d[k].fName (by omega)) ?_
    refine aF (k + 1) ?_ ?_ ?_
    ·simp only [go_sem, hsu, List.map_append]; simp [bC]
    ·omega
    ·omega
   ·rw [hn] at hsu
    have q0 := @h; have q1 := @hn; have q2 := @hl1; have q3 := @hl2; refine a2F (fT ns d[k].fName hns) ?_
    refine aF (k + 1) ?_ ?_ ?_
    ·simp only [go_sem, hsu, List.map_append]; simp [bC]
    ·omega
    ·omega
  ·simp only [decide_eq_false_iff_not] at h
   have e : k = d.length := by omega
   subst e
   rw [List.take_length]
   generalize hL : resL d = L at *
   refine aD ?_
   refine aY (α := Nat) (fun k => [(17, oi ((allE s.fFiles d L ns CC r k).2 : Nat)), (18, oi k)]) (fun k => [(2, .row 169 2 ((allE s.fFiles d L ns CC r k).1.map bC) true)]) (fun k => k ≤ wG d L) (fun k => wG d L - k) 0 (fun _ => ?_) ?_ ?_ (fun k hk => ?_)
   ·simp only [go_sem]
   ·simp only [go_sem]; simp [allE]
   ·simp
   ·simp only [go_sem]
    have q0 := @hL; refine lK (a9k d hd (by rw [hL]; omega)) ?_
    refine cnd rfl (fun hlev => ?_) (fun hlev => ?_)
    ·simp only [decide_eq_true_eq] at hlev
     have hkK := (a0o d L k).1 hlev
     have hev := a0s (fs := s.fFiles) (ns := ns) (r := r) hvq hclo k
     rw [hCC] at hev
     have htop := b3q hleast
     have hcnt := a3q s.fFiles d L ns CC r k
     have hnm : d.length * CC ≤ 5 * 4300012 := Nat.mul_le_mul h5 hC2
     have hcnt2 : k * (d.length * CC + 1) ≤ 5 * 21500061 := Nat.mul_le_mul (by omega) (by omega)
     have hround : Round s.fFiles d L ns CC k (allE s.fFiles d L ns CC r (k + 1)) ((allE s.fFiles d L ns CC r k).1, (allE s.fFiles d L ns CC r k).2, true) := Round.start hev
     generalize hT : allE s.fFiles d L ns CC r (k + 1) = T at *
     generalize allE s.fFiles d L ns CC r k = X at *
     refine aD ?_
     refine aY (α := List TResult × Nat × Bool) (fun x => [(17, oi (x.2.1 : Nat)), (19, ob x.2.2)]) (fun x => [(2, .row 169 2 (x.1.map bC) true)]) (fun x => Round s.fFiles d L ns CC k T (x.1, x.2.1, x.2.2) ∧ x.2.1 ≤ X.2 + jO x.1 + (if x.2.2 then 0 else 1)) (fun x => if x.2.2 then d.length * CC + 1 - jO x.1 else 0) (X.1, X.2, true) (fun _ => ?_) ?_ ?_ (fun x hx => ?_)
     ·simp only [go_sem]
     ·simp only [go_sem]; simp
     ·exact ⟨hround, by simp⟩
     ·obtain ⟨R, c, b⟩ := x
      obtain ⟨hx, hcb⟩ := hx
      simp only at hcb
      simp only [go_sem]
      refine aD ?_
      refine cnd rfl (fun hbt => ?_) (fun hbt => ?_)
      ·subst hbt
       have hRe : Ev s.fFiles d L ns CC k R := hx.ev
       have hRt := hRe.tot
       simp only [if_true, Nat.add_zero] at hcb
       have hcI : c ≤ 1000000000 := by omega
       have hpass := hx.pass hvq hclo
       refine aD ?_
       refine aY (α := Nat) (fun i => [(19, ob (chB s.fFiles d L ns k i R)), (71, oi i)]) (fun i => [(2, .row 169 2 ((passT s.fFiles d L ns k i R).map bC) true)]) (fun i => i ≤ d.length) (fun i => d.length - i) 0 (fun _ => ?_) ?_ ?_ (fun i hi => ?_)
       ·simp only [go_sem]
       ·simp only [go_sem]; simp [chB, passT]
       ·simp
       ·simp only [go_sem]
        refine aD ?_
        refine cnd rfl (fun h => ?_) (fun h => ?_)
        ·simp only [decide_eq_true_eq, Int.ofNat_lt] at h
         have hEv := mW hvq hclo i R (by omega) hRe
         have hcs := mY hvq hclo i R (by omega) hRe
         have hsu := uK s.fFiles d L ns k i R h
         have hchk : passT s.fFiles d L ns k (i + 1) R = passT s.fFiles d L ns k i R → chB s.fFiles d L ns k (i + 1) R = chB s.fFiles d L ns k i R := a7H
         have hchn : jO R < jO (passT s.fFiles d L ns k (i + 1) R) → chB s.fFiles d L ns k (i + 1) R = true := fun hx => by unfold chB; exact decide_eq_true hx
         have hw := hEv.w hv hC2
         obtain ⟨g1, g2⟩ := hEv.get i h
         have hPl := hEv.len
         have hbd := hEv.bd i
         have hwd := dD lW d h
         have hwq : eU d[i].fQuery ≤ lW d[i] := by unfold lW; omega
         have hgrow := fun hin hik hne => hEv.grow h hin hik hne
         have hsame := fun he => a0W hEv h he
         generalize passT s.fFiles d L ns k i R = P at *
         generalize hP2 : passT s.fFiles d L ns k (i + 1) R = P2 at *
         have hiP : i < P.length := by omega
         have hiL : i < L.length := by omega
         have hg := uH L i hiL
         have hsl := a3r s.fFiles d[i].fQuery P
         by_cases hik : lv L i = k
         ·have hkI : ((lv L i : Nat) : Int) = ((k : Nat) : Int) := by omega
          cases hn : pK ns d[i].fName
          ·rw [if_neg (fun h => by rw [hn] at h; cases h.2)] at hsu
           have q0 := @h; have q1 := @hiP; have q2 := @hiL; have q3 := @hg; have q4 := @hkI; have q5 := @hn; have q6 := @decide_true; have q7 := @decide_false; refine a2H (fT ns d[i].fName hns) ?_
           refine aF (i + 1) ?_ ?_ ?_
           ·simp only [go_sem, hP2, hchk hsu, hsu]; simp
           ·omega
           ·omega
          ·rw [if_pos ⟨hik, hn⟩] at hsu
           by_cases he : mE s.fFiles d[i].fQuery P = eZ P i
           ·have hE : eqL jF (mE s.fFiles d[i].fQuery P) (eZ P i) = true := by rw [a2h]; exact decide_eq_true he
            have hPP : P2 = P := by rw [hsu, hsame he]
            have qH := aI @h (aI @hiP (aI @hiL (aI @hg (aI @hkI (aI @g1 (aI @g2 (aI @hE (aI @hn (aI @decide_true @decide_false))))))))); repeat' (with_reducible first | refine nY ?_ | (refine mX ?_; try simp only [go_sem, qH]) | refine kD ?_ | refine rD ?_ | refine cP (fT ns d[i].fName hns) ?_ | refine vR (a0q s d[i].fQuery P hs (by omega) hw) ?_ | refine vD (a0q s d[i].fQuery P hs (by omega) hw) ?_ | refine vL (xU (mE s.fFiles d[i].fQuery P) (eZ P i) (by omega)) ?_ | refine aO ?_ | fail)
            refine aF (i + 1) ?_ ?_ ?_
            ·simp only [go_sem, hP2, hchk hPP, hPP]; simp
            ·omega
            ·omega
           ·have hE : eqL jF (mE s.fFiles d[i].fQuery P) (eZ P i) = false := by rw [a2h]; exact decide_eq_false he
            have hlt := hgrow hn hik he
            have hch2 : chB s.fFiles d L ns k (i + 1) R = true := hchn (by
             rw [hsu]
             rcases hcs with e | e
             ·rw [← e]; exact hlt
             ·omega)
            have qH := aI @h (aI @hiP (aI @hiL (aI @hg (aI @hkI (aI @g1 (aI @g2 (aI @hE (aI @hn (aI @decide_true @decide_false))))))))); repeat' (with_reducible first | refine nY ?_ | (refine mX ?_; try simp only [go_sem, qH]) | refine kD ?_ | refine rD ?_ | refine cP (fT ns d[i].fName hns) ?_ | refine vR (a0q s d[i].fQuery P hs (by omega) hw) ?_ | refine vD (a0q s d[i].fQuery P hs (by omega) hw) ?_ | refine vL (xU (mE s.fFiles d[i].fQuery P) (eZ P i) (by omega)) ?_ | refine aO ?_ | fail)
            refine aF (i + 1) ?_ ?_ ?_
            ·simp only [go_sem, hP2, hch2, hsu, xG, ← b5h]; simp
            ·omega
            ·omega
         ·rw [if_neg (fun h => hik h.1)] at hsu
          have hkI : ¬ ((lv L i : Nat) : Int) = ((k : Nat) : Int) := by omega
          have q0 := @h; have q1 := @hiP; have q2 := @hiL; have q3 := @hg; have q4 := @hkI; have q5 := @decide_true; have q6 := @decide_false; refine a8E ?_
          refine aF (i + 1) ?_ ?_ ?_
          ·simp only [go_sem, hP2, hchk hsu, hsu]; simp
          ·omega
          ·omega
        ·simp only [decide_eq_false_iff_not] at h
         have e : i = d.length := by omega
         subst e
         have hPe := mW hvq hclo d.length R (Nat.le_refl _) hRe
         have hPt := hPe.tot
         refine aD ?_
         refine aF (passT s.fFiles d L ns k d.length R, c + 1, chB s.fFiles d L ns k d.length R) ?_ ?_ ?_
         ·simp only [go_sem]; simp
         ·refine ⟨hpass, ?_⟩
          simp only
          have hpc := mY hvq hclo d.length R (Nat.le_refl _) hRe
          cases hcb2 : chB s.fFiles d L ns k d.length R with
          | false =>
           have h9 : jO R ≤ jO (passT s.fFiles d L ns k d.length R) := by
            rcases hpc with e | e
            ·rw [e]; exact Nat.le_refl _
            ·omega
           simp only [Bool.false_eq_true, if_false]; omega
          | true =>
           have := of_decide_eq_true hcb2
           simp only [if_true]; omega
         ·simp only [if_true]
          cases hcb3 : chB s.fFiles d L ns k d.length R with
          | false => simp only [Bool.false_eq_true, if_false]; omega
          | true =>
           have := of_decide_eq_true hcb3
           simp only [if_true]; omega
      ·subst hbt
       have hTe := hx.fin rfl
       simp only at hTe
       refine aD ?_
       refine aF (k + 1) ?_ ?_ ?_
       ·simp only [go_sem, hT, hTe]; simp
       ·omega
       ·omega
    ·simp only [decide_eq_false_iff_not] at hlev
     have hkK : ¬ k < wG d L := fun h => hlev ((a0o d L k).2 h)
     have e : k = wG d L := by omega
     subst e
     refine aD ?_
     exact aA ⟨⟨_, rfl, by simp only [go_sem, e1, e2]; try simp⟩, by simp [cK]⟩
theorem b1x (s : TStore) (d : List TDir) (hs : aJ s ≤ 4300000) (hd : gN d ≤ 4300000) : FnC Tryz.prog 155 [bG s, .o (.d (.sl (d.map dG)))] (.t [(false, [.w 169 2 ((evX s d [] (dirNs d)).1.map bC)]), (false, [.d (iv ((evX s d [] (dirNs d)).2 : Nat))]), (false, [.d (bv (evB s d))])]) := by
 have hd0 : d.length + bI lW d ≤ 4300000 := hd
 have hs0 : bH s.fSchema + (s.fFiles.length + bI bA s.fFiles) ≤ 4300000 := hs
 refine ent Tryz.func155 rfl Tryz.call155 rfl (fun C => ?_); simp only [go_sem, st0, Tryz.ntmps155]
 have hr : bM [] ≤ 4300000 := by simp [bM, bI]
 generalize hrr : ([] : List TResult) = r at *
 have hns : (dirNs d).length ≤ 4300000 := by rw [a0T]; omega
 have hhas : ∀ i, (hi : i < d.length) → pK (dirNs d) d[i].fName = true := b4J d
 generalize dirNs d = ns at *
 cases hb : mU d
 ·have e1 : evX s d r ns = ([], 0) := by simp [evX, hb]
  have e2 : evB s d = false := by simp [evB, hb]
  have q0 := @hb; refine lK (jZ d hd) ?_
  exact aA ⟨⟨_, rfl, by simp only [go_sem, e1, e2, List.map_nil]; simp⟩, by simp [cK]⟩
 cases hst : bD s
 ·have e1 : evX s d r ns = ([], 0) := by simp [evX, hst]
  have e2 : evB s d = false := by simp [evB, hst]
  have q0 := @hb; have q1 := @hst; refine zT (jZ d hd) (aV s hs) ?_
  exact aA ⟨⟨_, rfl, by simp only [go_sem, e1, e2, List.map_nil]; simp⟩, by simp [cK]⟩
 obtain ⟨hv, hleast⟩ := a0n hb
 have hclo := hleast.clo
 have hvq := fun i (hi : i < d.length) => mD hv i hi
 have h5 := kG hv
 have h12 := qM hst
 have hLl := hclo.len
 obtain ⟨CC, hCC⟩ : ∃ c, s.fFiles.length + bM r = c := ⟨_, rfl⟩
 have hC2 : CC ≤ 4300012 := by omega
 have e1 : evX s d r ns = allE s.fFiles d (resL d) ns CC r (wG d (resL d)) := by simp [evX, hb, hst, hCC]
 have e2 : evB s d = true := by simp [evB, hb, hst]
 have q0 := @hb; have q1 := @hst; refine zT (jZ d hd) (aV s hs) ?_
 refine aY (α := Nat) (fun k => [(9, .o (.s 1)), (29, .o .u), (10, oi k)]) (fun k => [(1, .row 169 2 ((iD ns r (d.take k)).map bC) true)]) (fun k => k ≤ d.length) (fun k => d.length - k) 0 (fun _ => ?_) ?_ ?_ (fun k hk => ?_)
 ·simp only [go_sem]
 ·simp only [go_sem]; simp [iD]
 ·simp
 ·simp only [go_sem]
  refine aD ?_
  refine cnd rfl (fun h => ?_) (fun h => ?_)
  ·simp only [decide_eq_true_eq, Int.ofNat_lt] at h
   have hsl := a3p ns r d k
   have hl1 : (iD ns r (d.take k)).length + 1 ≤ 140737488355328 := by omega
   have hl2 : ((iD ns r (d.take k)).length + 1) * 40 ≤ 140737488355328 := by omega
   have hsu := a1w ns r d k h
   rw [hhas k h] at hsu
   have q0 := @h; have q1 := @hl1; have q2 := @hl2; refine jQ ?_
   refine aF (k + 1) ?_ ?_ ?_
   ·simp only [go_sem, hsu, List.map_append]; simp [bC]
   ·omega
   ·omega
  ·simp only [decide_eq_false_iff_not] at h
   have e : k = d.length := by omega
   subst e
   rw [List.take_length]
   generalize hL : resL d = L at *
   refine aD ?_
   refine aY (α := Nat) (fun k => [(11, oi ((allE s.fFiles d L ns CC r k).2 : Nat)), (12, oi k)]) (fun k => [(1, .row 169 2 ((allE s.fFiles d L ns CC r k).1.map bC) true)]) (fun k => k ≤ wG d L) (fun k => wG d L - k) 0 (fun _ => ?_) ?_ ?_ (fun k hk => ?_)
   ·simp only [go_sem]
   ·simp only [go_sem]; simp [allE]
   ·simp
   ·simp only [go_sem]
    have q0 := @hL; refine lK (a9l d hd (by rw [hL]; omega)) ?_
    refine cnd rfl (fun hlev => ?_) (fun hlev => ?_)
    ·simp only [decide_eq_true_eq] at hlev
     have hkK := (a0o d L k).1 hlev
     have hev := a0s (fs := s.fFiles) (ns := ns) (r := r) hvq hclo k
     rw [hCC] at hev
     have htop := b3q hleast
     have hcnt := a3q s.fFiles d L ns CC r k
     have hnm : d.length * CC ≤ 5 * 4300012 := Nat.mul_le_mul h5 hC2
     have hcnt2 : k * (d.length * CC + 1) ≤ 5 * 21500061 := Nat.mul_le_mul (by omega) (by omega)
     have hround : Round s.fFiles d L ns CC k (allE s.fFiles d L ns CC r (k + 1)) ((allE s.fFiles d L ns CC r k).1, (allE s.fFiles d L ns CC r k).2, true) := Round.start hev
     generalize hT : allE s.fFiles d L ns CC r (k + 1) = T at *
     generalize allE s.fFiles d L ns CC r k = X at *
     refine aD ?_
     refine aY (α := List TResult × Nat × Bool) (fun x => [(11, oi (x.2.1 : Nat)), (13, ob x.2.2)]) (fun x => [(1, .row 169 2 (x.1.map bC) true)]) (fun x => Round s.fFiles d L ns CC k T (x.1, x.2.1, x.2.2) ∧ x.2.1 ≤ X.2 + jO x.1 + (if x.2.2 then 0 else 1)) (fun x => if x.2.2 then d.length * CC + 1 - jO x.1 else 0) (X.1, X.2, true) (fun _ => ?_) ?_ ?_ (fun x hx => ?_)
     ·simp only [go_sem]
     ·simp only [go_sem]; simp
     ·exact ⟨hround, by simp⟩
     ·obtain ⟨R, c, b⟩ := x
      obtain ⟨hx, hcb⟩ := hx
      simp only at hcb
      simp only [go_sem]
      refine aD ?_
      refine cnd rfl (fun hbt => ?_) (fun hbt => ?_)
      ·subst hbt
       have hRe : Ev s.fFiles d L ns CC k R := hx.ev
       have hRt := hRe.tot
       simp only [if_true, Nat.add_zero] at hcb
       have hcI : c ≤ 1000000000 := by omega
       have hpass := hx.pass hvq hclo
       refine aD ?_
       refine aY (α := Nat) (fun i => [(13, ob (chB s.fFiles d L ns k i R)), (14, oi i)]) (fun i => [(1, .row 169 2 ((passT s.fFiles d L ns k i R).map bC) true)]) (fun i => i ≤ d.length) (fun i => d.length - i) 0 (fun _ => ?_) ?_ ?_ (fun i hi => ?_)
       ·simp only [go_sem]
       ·simp only [go_sem]; simp [chB, passT]
       ·simp
       ·simp only [go_sem]
        refine aD ?_
        refine cnd rfl (fun h => ?_) (fun h => ?_)
        ·simp only [decide_eq_true_eq, Int.ofNat_lt] at h
         have hEv := mW hvq hclo i R (by omega) hRe
         have hcs := mY hvq hclo i R (by omega) hRe
         have hsu := uK s.fFiles d L ns k i R h
         have hchk : passT s.fFiles d L ns k (i + 1) R = passT s.fFiles d L ns k i R → chB s.fFiles d L ns k (i + 1) R = chB s.fFiles d L ns k i R := a7H
         have hchn : jO R < jO (passT s.fFiles d L ns k (i + 1) R) → chB s.fFiles d L ns k (i + 1) R = true := fun hx => by unfold chB; exact decide_eq_true hx
         have hw := hEv.w hv hC2
         obtain ⟨g1, g2⟩ := hEv.get i h
         have hPl := hEv.len
         have hbd := hEv.bd i
         have hwd := dD lW d h
         have hwq : eU d[i].fQuery ≤ lW d[i] := by unfold lW; omega
         have hgrow := fun hin hik hne => hEv.grow h hin hik hne
         have hsame := fun he => a0W hEv h he
         generalize passT s.fFiles d L ns k i R = P at *
         generalize hP2 : passT s.fFiles d L ns k (i + 1) R = P2 at *
         have hiP : i < P.length := by omega
         have hiL : i < L.length := by omega
         have hg := uH L i hiL
         have hsl := a3r s.fFiles d[i].fQuery P
         by_cases hik : lv L i = k
         ·have hkI : ((lv L i : Nat) : Int) = ((k : Nat) : Int) := by omega
          have hn := hhas i h
          ·rw [if_pos ⟨hik, hn⟩] at hsu
           by_cases he : mE s.fFiles d[i].fQuery P = eZ P i
           ·have hE : eqL jF (mE s.fFiles d[i].fQuery P) (eZ P i) = true := by rw [a2h]; exact decide_eq_true he
            have hPP : P2 = P := by rw [hsu, hsame he]
            have qH := aI @h (aI @hiP (aI @hiL (aI @hg (aI @hkI (aI @g1 (aI @g2 (aI @hE (aI @hn (aI @decide_true @decide_false))))))))); repeat' (with_reducible first | refine nY ?_ | (refine mX ?_; try simp only [go_sem, qH]) | refine kD ?_ | refine rT [7] [74] ?_ | refine bX (aX ?_) (uX ?_) | refine dM (aX ?_) ?_ | (refine uA ?_; simp only [go_sem, qH]; (repeat' first | omega | refine And.intro ?_ ?_ | refine cP (fT ns d[i].fName hns) ?_ | (refine mX ?_; simp only [go_sem, qH] <;> fail)); done) | refine rD ?_ | refine cP (fT ns d[i].fName hns) ?_ | refine vR (a0r s d[i].fQuery P hs (by omega) hw) ?_ | refine vG (a0r s d[i].fQuery P hs (by omega) hw) ?_ | refine vL (a1z (mE s.fFiles d[i].fQuery P) (eZ P i) (by omega)) ?_ | refine aO ?_ | fail)
            refine aF (i + 1) ?_ ?_ ?_
            ·simp only [go_sem, hP2, hchk hPP, hPP]; simp
            ·omega
            ·omega
           ·have hE : eqL jF (mE s.fFiles d[i].fQuery P) (eZ P i) = false := by rw [a2h]; exact decide_eq_false he
            have hlt := hgrow hn hik he
            have hch2 : chB s.fFiles d L ns k (i + 1) R = true := hchn (by
             rw [hsu]
             rcases hcs with e | e
             ·rw [← e]; exact hlt
             ·omega)
            have qH := aI @h (aI @hiP (aI @hiL (aI @hg (aI @hkI (aI @g1 (aI @g2 (aI @hE (aI @hn (aI @decide_true @decide_false))))))))); repeat' (with_reducible first | refine nY ?_ | (refine mX ?_; try simp only [go_sem, qH]) | refine kD ?_ | refine rT [7] [74] ?_ | refine bX (aX ?_) (uX ?_) | refine dM (aX ?_) ?_ | (refine uA ?_; simp only [go_sem, qH]; (repeat' first | omega | refine And.intro ?_ ?_ | refine cP (fT ns d[i].fName hns) ?_ | (refine mX ?_; simp only [go_sem, qH] <;> fail)); done) | refine rD ?_ | refine cP (fT ns d[i].fName hns) ?_ | refine vR (a0r s d[i].fQuery P hs (by omega) hw) ?_ | refine vG (a0r s d[i].fQuery P hs (by omega) hw) ?_ | refine vL (a1z (mE s.fFiles d[i].fQuery P) (eZ P i) (by omega)) ?_ | refine aO ?_ | fail)
            refine aF (i + 1) ?_ ?_ ?_
            ·simp only [go_sem, hP2, hch2, hsu, xG, ← b5h]; simp
            ·omega
            ·omega
         ·rw [if_neg (fun h => hik h.1)] at hsu
          have hkI : ¬ ((lv L i : Nat) : Int) = ((k : Nat) : Int) := by omega
          have q0 := @h; have q1 := @hiP; have q2 := @hiL; have q3 := @hg; have q4 := @hkI; have q5 := @decide_true; have q6 := @decide_false; refine a8E ?_
          refine aF (i + 1) ?_ ?_ ?_
          ·simp only [go_sem, hP2, hchk hsu, hsu]; simp
          ·omega
          ·omega
        ·simp only [decide_eq_false_iff_not] at h
         have e : i = d.length := by omega
         subst e
         have hPe := mW hvq hclo d.length R (Nat.le_refl _) hRe
         have hPt := hPe.tot
         refine aD ?_
         refine aF (passT s.fFiles d L ns k d.length R, c + 1, chB s.fFiles d L ns k d.length R) ?_ ?_ ?_
         ·simp only [go_sem]; simp
         ·refine ⟨hpass, ?_⟩
          simp only
          have hpc := mY hvq hclo d.length R (Nat.le_refl _) hRe
          cases hcb2 : chB s.fFiles d L ns k d.length R with
          | false =>
           have h9 : jO R ≤ jO (passT s.fFiles d L ns k d.length R) := by
            rcases hpc with e | e
            ·rw [e]; exact Nat.le_refl _
            ·omega
           simp only [Bool.false_eq_true, if_false]; omega
          | true =>
           have := of_decide_eq_true hcb2
           simp only [if_true]; omega
         ·simp only [if_true]
          cases hcb3 : chB s.fFiles d L ns k d.length R with
          | false => simp only [Bool.false_eq_true, if_false]; omega
          | true =>
           have := of_decide_eq_true hcb3
           simp only [if_true]; omega
      ·subst hbt
       have hTe := hx.fin rfl
       simp only at hTe
       refine aD ?_
       refine aF (k + 1) ?_ ?_ ?_
       ·simp only [go_sem, hT, hTe]; simp
       ·omega
       ·omega
    ·simp only [decide_eq_false_iff_not] at hlev
     have hkK : ¬ k < wG d L := fun h => hlev ((a0o d L k).2 h)
     have e : k = wG d L := by omega
     subst e
     refine aD ?_
     exact aA ⟨⟨_, rfl, by simp only [go_sem, e1, e2]; try simp⟩, by simp [cK]⟩
theorem a3t (s : TStore) (d : List TDir) (hs : aJ s ≤ 4300000) (hd : gN d ≤ 4300000) : FnC Tryz.prog 153 [bG s, .o (.d (.sl (d.map dG))), .o (.d (.sl [])), .o (.d (.sl ((dirNs d).map iQ)))] (.t [(false, [.w 169 2 ((evX s d [] (dirNs d)).1.map bC)]), (false, [.d (iv ((evX s d [] (dirNs d)).2 : Nat))]), (false, [.d (bv (evB s d))])]) :=
 b1v s d [] (dirNs d) hs hd (by simp [bM, bI]) (by rw [a0T]; unfold gN at hd; omega)
theorem a7K (s : TStore) (d : List TDir) (hs : aJ s ≤ 4300000) (hd : gN d ≤ 4300000) : FnC Tryz.prog 125 [bG s, .o (.d (.sl (d.map dG)))] (.t [(false, [.w 169 2 ((evX s d [] (dirNs d)).1.map bC)]), (false, [.d (bv (evB s d))])]) := by
 have hl : d.length ≤ 4300000 := by unfold gN at hd; omega
 refine ent Tryz.func125 rfl Tryz.call125 rfl (fun C => ?_); simp only [go_sem, st0, Tryz.ntmps125]
 have qH := trivial; repeat' (with_reducible first | refine nY ?_ | (refine mX ?_; try simp only [go_sem]) | refine kD ?_ | refine rT [3, 4] [13, 14] ?_ | refine bX (aX ?_) (uX ?_) | refine dM (aX ?_) ?_ | (refine uA ?_; simp only [go_sem]; (repeat' first | omega | refine And.intro ?_ ?_ | refine cP (a3t s d hs hd) ?_ | refine cP (a1p d hl) ?_ | (refine mX ?_; simp only [go_sem] <;> fail)); done) | refine rD ?_ | refine cP (a3t s d hs hd) ?_ | refine cP (a1p d hl) ?_ | refine aO ?_ | fail)
 exact aA ⟨⟨_, rfl, by simp only [go_sem]⟩, by simp [cK]⟩
theorem a7L (s : TStore) (d : List TDir) (hs : aJ s ≤ 4300000) (hd : gN d ≤ 4300000) : FnC Tryz.prog 127 [bG s, .o (.d (.sl (d.map dG)))] (.t [(false, [.w 169 2 ((evX s d [] (dirNs d)).1.map bC)]), (false, [.d (bv (evB s d))])]) := by
 refine ent Tryz.func127 rfl Tryz.call127 rfl (fun C => ?_); simp only [go_sem, st0, Tryz.ntmps127]
 refine iZ (b1x s d hs hd) ?_
 exact aA ⟨⟨_, rfl, by simp only [go_sem]⟩, by simp [cK]⟩
theorem b6z (s : TStore) (d : List TDir) : bM (evX s d [] (dirNs d)).1 ≤ 95 := by
 unfold evX
 split
 ·rename_i hb
  rw [Bool.and_eq_true] at hb
  obtain ⟨hv, hleast⟩ := a0n hb.1
  have h5 := kG hv
  have h12 := qM hb.2
  have hev := a0s (fs := s.fFiles) (ns := dirNs d) (r := []) (fun i (hi : i < d.length) => mD hv i hi) hleast.clo (wG d (resL d))
  have h0 : bM [] = 0 := by simp [bM, bI]
  revert hev
  generalize (allE s.fFiles d (resL d) (dirNs d) (s.fFiles.length + bM []) [] (wG d (resL d))).1 = X
  rw [h0]
  intro hev
  have hlen := hev.len
  have hb2 := yM kC 18 X fun i hi => by
   obtain ⟨e1, e2⟩ := hev.get i (by omega)
   have h1 := a1v hv i (by omega)
   have h2 := hev.bd i
   unfold kC
   rw [e1, e2]
   omega
  unfold bM
  have := Nat.mul_le_mul_right 18 h5
  rw [hlen] at hb2 ⊢
  omega
 ·simp [bM, bI]
noncomputable def b8I (c : TCatalog) : Bool := evB c.fStore c.fDirs && eqL a4X (evX c.fStore c.fDirs [] (dirNs c.fDirs)).1 c.fResults
noncomputable def chC (c : TCatalog) (s : TStore) (d : List TDir) (ns : List ByteArray) : TCatalog := if evB s d then ⟨s, d, (evX s d c.fResults ns).1⟩ else c
noncomputable def chD (c : TCatalog) (s : TStore) (d : List TDir) (ns : List ByteArray) : List TDiff := if evB s d then b5g c.fResults (evX s d c.fResults ns).1 else []
noncomputable def goC (b : Bool) (c : TCatalog) (s : TStore) (d : List TDir) (ns : List ByteArray) : TCatalog := if b then ⟨s, d, (evX s d c.fResults ns).1⟩ else c
noncomputable def goD (b : Bool) (c : TCatalog) (s : TStore) (d : List TDir) (ns : List ByteArray) : List TDiff := if b then b5g c.fResults (evX s d c.fResults ns).1 else []
end Go.Proofs.YtakopfjdmmnjcaaGreat
end
section
namespace Go.Sx.Clos
section
variable {β : Type} [DecidableEq β]
def Closed (E : List (β × List β)) (S : List β) : Prop := ∀ e ∈ E, (∃ x ∈ e.2, x ∈ S) → e.1 ∈ S
def wsm (w : β → Nat) : List β → Nat
 | [] => 0
 | x :: l => w x + wsm w l
def lJ (w : β → Nat) : List (β × List β) → List β → Nat
 | [], _ => 0
 | e :: E, S => (if e.1 ∈ S then 0 else w e.1) + lJ w E S
theorem a1A (w : β → Nat) (E : List (β × List β)) {S T : List β} (h : ∀ x ∈ S, x ∈ T) : lJ w E T ≤ lJ w E S := by
 induction E with
 | nil => simp [lJ]
 | cons e E ih =>
  simp only [lJ]
  by_cases h1 : e.1 ∈ S
  ·have h2 := h _ h1; simp [h1, h2]; exact ih
  ·by_cases h2 : e.1 ∈ T
   ·simp [h1, h2]; omega
   ·simp [h1, h2]; exact ih
theorem a0Z (w : β → Nat) (E : List (β × List β)) {S T : List β} (h : ∀ x ∈ S, x ∈ T) {y : β} (hy : ∃ e ∈ E, e.1 = y) (h1 : y ∈ T) (h2 : ¬ y ∈ S) : lJ w E T + w y ≤ lJ w E S := by
 induction E with
 | nil => obtain ⟨e, he, _⟩ := hy; simp at he
 | cons e E ih =>
  obtain ⟨e', he', rfl⟩ := hy
  rcases List.mem_cons.1 he' with rfl | hm
  ·have := a1A w E h
   simp only [lJ]
   simp [h1, h2]; omega
  ·have := ih ⟨e', hm, rfl⟩
   simp only [lJ]
   by_cases h3 : e.1 ∈ S
   ·have h4 := h _ h3; simp [h3, h4]; exact this
   ·by_cases h4 : e.1 ∈ T
    ·simp [h3, h4]; omega
    ·simp [h3, h4]; omega
theorem b1z (E : List (β × List β)) (S : List β) : lJ (fun _ => 1) E S ≤ E.length := by
 induction E with
 | nil => simp [lJ]
 | cons e E ih => simp only [lJ, List.length_cons]; split <;> omega
variable (put : List β → β → List β)
def b1A (name : β) (out asks : List β) : List β := asks.foldl (fun o a => if a ∈ o then put o name else o) out
def round (E : List (β × List β)) (S : List β) : List β := E.foldl (fun o e => b1A put e.1 o e.2) S
def jG (E : List (β × List β)) : Nat → List β → List β
 | 0, S => S
 | n + 1, S => round put E (jG E n S)
variable {put} (hput : ∀ l s x, x ∈ put l s ↔ x = s ∨ x ∈ l)
include hput
theorem a0v (name : β) (asks : List β) : ∀ (out : List β) (x : β), x ∈ b1A put name out asks ↔ x ∈ out ∨ (x = name ∧ ∃ a ∈ asks, a ∈ out) := by
 induction asks with
 | nil => intro out x; simp [b1A]
 | cons a asks ih =>
  intro out x
  have ih' := ih (if a ∈ out then put out name else out) x
  unfold b1A at *
  rw [List.foldl_cons, ih']
  by_cases h : a ∈ out
  ·simp only [h, if_true, hput]
   constructor
   ·rintro ((rfl | h1) | ⟨rfl, _⟩)
    ·exact .inr ⟨rfl, a, List.mem_cons_self, h⟩
    ·exact .inl h1
    ·exact .inr ⟨rfl, a, List.mem_cons_self, h⟩
   ·rintro (h1 | ⟨rfl, _⟩)
    ·exact .inl (.inr h1)
    ·exact .inl (.inl rfl)
  ·simp only [h, if_false]
   constructor
   ·rintro (h1 | ⟨rfl, b, hb, h2⟩)
    ·exact .inl h1
    ·exact .inr ⟨rfl, b, List.mem_cons_of_mem _ hb, h2⟩
   ·rintro (h1 | ⟨rfl, b, hb, h2⟩)
    ·exact .inl h1
    ·rcases List.mem_cons.1 hb with rfl | hb
     ·exact absurd h2 h
     ·exact .inr ⟨rfl, b, hb, h2⟩
theorem wX (E : List (β × List β)) : ∀ (S : List β), ∀ x ∈ S, x ∈ round put E S := by
 induction E with
 | nil => intro S x h; exact h
 | cons e E ih =>
  intro S x h
  exact ih _ x ((a0v hput e.1 e.2 S x).2 (.inl h))
theorem a1B (E : List (β × List β)) {T : List β} (hT : Closed E T) : ∀ (S : List β), (∀ x ∈ S, x ∈ T) → ∀ x ∈ round put E S, x ∈ T := by
 induction E with
 | nil => intro S h; exact h
 | cons e E ih =>
  intro S h
  refine ih (fun e' he' => hT e' (List.mem_cons_of_mem _ he')) _ (fun x hx => ?_)
  rcases (a0v hput e.1 e.2 S x).1 hx with h1 | ⟨rfl, a, ha, h2⟩
  ·exact h x h1
  ·exact hT e List.mem_cons_self ⟨a, ha, h a h2⟩
theorem a9n (E : List (β × List β)) : ∀ (S : List β) (e : β × List β), e ∈ E → (∃ x ∈ e.2, x ∈ S) → e.1 ∈ round put E S := by
 induction E with
 | nil => intro S e he; simp at he
 | cons e0 E ih =>
  intro S e he h
  rcases List.mem_cons.1 he with rfl | he
  ·exact wX hput E _ _ ((a0v hput e.1 e.2 S e.1).2 (.inr ⟨rfl, h⟩))
  ·obtain ⟨x, hx, hs⟩ := h
   exact ih _ e he ⟨x, hx, (a0v hput e0.1 e0.2 S x).2 (.inl hs)⟩
theorem round_new (E : List (β × List β)) : ∀ (S : List β) (x : β), x ∈ round put E S → x ∈ S ∨ ∃ e ∈ E, e.1 = x := by
 induction E with
 | nil => intro S x h; exact .inl h
 | cons e E ih =>
  intro S x h
  rcases ih _ x h with h | ⟨e', he', rfl⟩
  ·rcases (a0v hput e.1 e.2 S x).1 h with h | ⟨rfl, _⟩
   ·exact .inl h
   ·exact .inr ⟨e, List.mem_cons_self, rfl⟩
  ·exact .inr ⟨e', List.mem_cons_of_mem _ he', rfl⟩
theorem a3u (E : List (β × List β)) (S : List β) : ∀ (n : Nat), ∀ x ∈ S, x ∈ jG put E n S
 | 0, x, h => h
 | n + 1, x, h => wX hput E _ x (a3u E S n x h)
theorem a0w (E : List (β × List β)) {S T : List β} (hT : Closed E T) (h : ∀ x ∈ S, x ∈ T) : ∀ (n : Nat), ∀ x ∈ jG put E n S, x ∈ T
 | 0, x, hx => h x hx
 | n + 1, x, hx => a1B hput E hT _ (a0w E hT h n) x hx
theorem rounds_count (E : List (β × List β)) (S : List β) : ∀ (n : Nat), Closed E (jG put E n S) ∨ lJ (fun _ => 1) E (jG put E n S) + n ≤ E.length
 | 0 => .inr (by simpa [jG] using b1z E S)
 | n + 1 => by
  rcases rounds_count E S n with h | h
  ·refine .inl (fun e he hx => ?_)
   obtain ⟨x, hx, hs⟩ := hx
   have hs' := a1B hput E h _ (fun y hy => hy) x hs
   exact wX hput E _ _ (h e he ⟨x, hx, hs'⟩)
  ·by_cases hc : Closed E (jG put E (n + 1) S)
   ·exact .inl hc
   ·refine .inr ?_
    have hn : ∃ y, y ∈ round put E (jG put E n S) ∧ ¬ y ∈ jG put E n S := Classical.byContradiction fun hno => hc (fun e he hx => by
     obtain ⟨x, hx, hs⟩ := hx
     have hs' : x ∈ jG put E n S := Classical.byContradiction fun h' => hno ⟨x, hs, h'⟩
     exact a9n hput E _ e he ⟨x, hx, hs'⟩)
    obtain ⟨y, h1, h2⟩ := hn
    have hy : ∃ e ∈ E, e.1 = y := by
     rcases round_new hput E _ y h1 with h | h
     ·exact absurd h h2
     ·exact h
    have := a0Z (fun _ => 1) E (wX hput E (jG put E n S)) hy h1 h2
    simp only [jG]
    omega
omit hput in
theorem b4S {P : List β → Prop} {Nm : β → Prop} (hP : ∀ o n, P o → Nm n → P (put o n)) (name : β) (hn : Nm name) (asks : List β) : ∀ out, P out → P (b1A put name out asks) := by
 induction asks with
 | nil => intro out h; exact h
 | cons a asks ih =>
  intro out h
  unfold b1A at *
  rw [List.foldl_cons]
  refine ih _ ?_
  split
  ·exact hP _ _ h hn
  ·exact h
omit hput in
theorem b1B {P : List β → Prop} {Nm : β → Prop} (hP : ∀ o n, P o → Nm n → P (put o n)) (E : List (β × List β)) : (∀ e ∈ E, Nm e.1) → ∀ S, P S → P (round put E S) := by
 induction E with
 | nil => intro _ S h; exact h
 | cons e E ih => intro hn S h; exact ih (fun e he => hn e (List.mem_cons_of_mem _ he)) _ (b4S hP e.1 (hn e List.mem_cons_self) e.2 S h)
omit hput in
theorem a3v {P : List β → Prop} {Nm : β → Prop} (hP : ∀ o n, P o → Nm n → P (put o n)) (E : List (β × List β)) (hn : ∀ e ∈ E, Nm e.1) {S : List β} (h : P S) : ∀ n, P (jG put E n S)
 | 0 => h
 | n + 1 => b1B hP E hn _ (a3v hP E hn h n)
theorem a3P (E : List (β × List β)) (S : List β) : Closed E (jG put E (E.length + 1) S) := by
 rcases rounds_count hput E S (E.length + 1) with h | h
 ·exact h
 ·omega
theorem a7O (E : List (β × List β)) {S O : List β} (h1 : ∀ x ∈ S, x ∈ O) (h2 : Closed E O) (h3 : ∀ T : List β, Closed E T → (∀ x ∈ S, x ∈ T) → ∀ x ∈ O, x ∈ T) (x : β) : x ∈ O ↔ x ∈ jG put E (E.length + 1) S :=
 ⟨fun h => h3 _ (a3P hput E S) (a3u hput E S _) x h, fun h => a0w hput E h2 h1 _ x h⟩
omit hput
theorem qO {lt : β → β → Prop} (hi : ∀ x, ¬ lt x x) (ht : ∀ x y z, lt x y → lt y z → lt x z) : ∀ {l m : List β}, l.Pairwise lt → m.Pairwise lt → (∀ x, x ∈ l ↔ x ∈ m) → l = m
 | [], [], _, _, _ => rfl
 | [], b :: m, _, _, h => by have := (h b).2 List.mem_cons_self; simp at this
 | a :: l, [], _, _, h => by have := (h a).1 List.mem_cons_self; simp at this
 | a :: l, b :: m, h1, h2, h => by
  rw [List.pairwise_cons] at h1 h2
  have hab : a = b := by
   rcases List.mem_cons.1 ((h a).1 List.mem_cons_self) with e | e
   ·exact e
   ·rcases List.mem_cons.1 ((h b).2 List.mem_cons_self) with e' | e'
    ·exact e'.symm
    ·exact absurd (ht _ _ _ (h1.1 b e') (h2.1 a e)) (hi a)
  subst hab
  congr 1
  refine qO hi ht h1.2 h2.2 (fun x => ⟨fun hx => ?_, fun hx => ?_⟩)
  ·rcases List.mem_cons.1 ((h x).1 (List.mem_cons_of_mem _ hx)) with e | e
   ·subst e; exact absurd (h1.1 x hx) (hi x)
   ·exact e
  ·rcases List.mem_cons.1 ((h x).2 (List.mem_cons_of_mem _ hx)) with e | e
   ·subst e; exact absurd (h2.1 x hx) (hi x)
   ·exact e
end
end Go.Sx.Clos
namespace Go.Proofs.YtakopfjdmmnjcaaGreat
open Go Go.Sx Go.RowKit Go.Proofs
theorem b6C {x y : ByteArray} (h : bl x = bl y) : x = y := by rw [← a7A x, ← a7A y, h]
def ltS (x y : ByteArray) : Prop := bl x < bl y
theorem oC (x y : ByteArray) : dW x y = true ↔ ltS x y := by
 unfold dW ltS bl
 rw [Go.Proofs.bytesLess_eq, decide_eq_true_eq, ByteArray.toList_eq, ByteArray.toList_eq]
theorem yQ (x : ByteArray) : ¬ ltS x x := List.lt_irrefl (bl x)
theorem wY (x y z : ByteArray) (h : ltS x y) (k : ltS y z) : ltS x z := List.lt_trans h k
theorem b3A {x y : List UInt8} (h : x ≤ y) (k : x ≠ y) : x < y := Classical.byContradiction fun hn => k (List.le_antisymm h (List.not_lt.1 hn))
theorem a6e {x y : ByteArray} (h : ¬ ltS x y) (k : x ≠ y) : ltS y x := b3A (List.not_lt.1 h) fun e => k (b6C e).symm
theorem b1C (y s : ByteArray) (l : List ByteArray) : kH (y :: l) s = if dW y s then y :: kH l s else if y = s then y :: l else s :: y :: l := by
 unfold kH
 cases h : dW y s with
 | true =>
  have hg : geS s y = false := by simp [geS, h]
  simp only [eO, hg, Bool.false_eq_true, if_false, List.drop_succ_cons, if_true]
  split
  ·rfl
  ·simp [iV]
 | false =>
  have hg : geS s y = true := by simp [geS, h]
  simp only [eO, hg, if_true, List.drop_zero, List.head?_cons, Bool.false_eq_true, if_false, Option.some.injEq]
  split
  ·rfl
  ·simp [iV]
theorem qP (s : ByteArray) : ∀ {l : List ByteArray}, l.Pairwise ltS → (kH l s).Pairwise ltS
 | [], _ => by simp [kH, eO, iV]
 | y :: l, h => by
  rw [b1C]
  rw [List.pairwise_cons] at h
  split
  ·rename_i hlt
   rw [List.pairwise_cons]
   refine ⟨fun x hx => ?_, qP s h.2⟩
   rcases (sJ l s x).1 hx with rfl | hx
   ·exact (oC _ _).1 hlt
   ·exact h.1 x hx
  ·rename_i hlt
   split
   ·exact List.pairwise_cons.2 h
   ·rename_i hne
    have hs : ltS s y := a6e (fun hh => hlt ((oC _ _).2 hh)) hne
    refine List.pairwise_cons.2 ⟨fun x hx => ?_, List.pairwise_cons.2 h⟩
    rcases List.mem_cons.1 hx with rfl | hx
    ·exact hs
    ·exact wY _ _ _ hs (h.1 x hx)
theorem a6f (l : List ByteArray) : ∀ {a : List ByteArray}, a.Pairwise ltS → (l.foldl kH a).Pairwise ltS := by
 induction l with
 | nil => intro a h; exact h
 | cons y l ih => intro a h; exact ih (qP y h)
theorem a7P (l : List ByteArray) : (putL l).Pairwise ltS := a6f l List.Pairwise.nil
theorem xV (d : Array (List UInt8)) (hs : ∀ i j, i < j → j < d.size → d[i]! ≤ d[j]!) : ∀ m, m ≤ d.size → (Lib.compactUpTo d m).Pairwise (fun x y => x < y) ∧ ∀ x ∈ Lib.compactUpTo d m, 0 < m ∧ x ≤ d[m - 1]!
 | 0, _ => by simp [Lib.compactUpTo]
 | m + 1, hm => by
  obtain ⟨h1, h2⟩ := xV d hs m (by omega)
  rw [Lib.compactUpTo_succ]
  have hup : ∀ x ∈ Lib.compactUpTo d m, x ≤ d[m]! := fun x hx => by
   obtain ⟨h0, h3⟩ := h2 x hx
   exact List.le_trans h3 (hs (m - 1) m (by omega) (by omega))
  refine ⟨?_, fun x hx => ⟨by omega, ?_⟩⟩
  ·cases hk : Lib.keeps d m with
   | false => simpa using h1
   | true =>
    rw [List.pairwise_append]
    refine ⟨h1, by simp, fun x hx y hy => ?_⟩
    simp only [if_true, List.mem_singleton] at hy
    subst hy
    obtain ⟨h0, h3⟩ := h2 x hx
    have hne : d[m]! ≠ d[m - 1]! := fun e => by rw [Lib.keeps_neg h0 e] at hk; cases hk
    have hle := hs (m - 1) m (by omega) (by omega)
    refine b3A (hup x hx) fun e => hne ?_
    rw [e] at h3
    exact List.le_antisymm h3 hle
  ·rcases List.mem_append.1 hx with h | h
   ·exact hup x h
   ·split at h
    ·simp only [List.mem_singleton] at h; subst h; exact List.le_refl _
    ·simp at h
theorem a6g (l : List ByteArray) : (gD l).Pairwise ltS := by
 have e : (sK l).map bl = nJ (l.map bl) := by
  unfold sK
  rw [List.map_map]
  have : (bl ∘ lb) = id := by funext x; exact b3l x
  rw [this, List.map_id]
 unfold gD a4N
 rw [e, List.pairwise_map]
 have hs : (nJ (l.map bl)).Pairwise (fun a b => decide (a ≤ b) = true) := by
  refine List.pairwise_mergeSort (le := fun x y : List UInt8 => decide (x ≤ y)) (fun a b c h k => decide_eq_true (List.le_trans (of_decide_eq_true h) (of_decide_eq_true k))) (fun a b => ?_) (l.map bl)
  by_cases h : a ≤ b
  ·simp [h]
  ·have : b ≤ a := List.le_of_lt (List.not_le.1 h)
   simp [this]
 have h := (xV (nJ (l.map bl)).toArray (fun i j hij hj => by
  have hj' : j < (nJ (l.map bl)).length := by simpa using hj
  have hi' : i < (nJ (l.map bl)).length := by omega
  have := List.pairwise_iff_getElem.1 hs i j hi' hj' hij
  simpa [getElem!_pos, hi', hj'] using of_decide_eq_true this) (nJ (l.map bl)).length (by simp)).1
 exact h.imp (fun {x y} h => by show bl (lb x) < bl (lb y); exact h)
end Go.Proofs.YtakopfjdmmnjcaaGreat
end
section
set_option maxRecDepth 100000
set_option maxHeartbeats 4000000
namespace Go.Proofs.YtakopfjdmmnjcaaGreat
open Go Go.Sx Go.RowKit Go.Proofs
def isA (n : TNode) : Bool := decide (2 ≤ n.fOp) && decide (n.fOp ≤ 4)
def qA (q : List TNode) : List ByteArray := (q.filter isA).map TNode.fName
def b7I (q : List TNode) : Bool := q.any fun n => decide (n.fOp = 9)
def b8K (ch qa : List ByteArray) : Bool := qa.any (pK ch)
def b8L (a b : TFile) (d : TDir) : Bool := b8K (chg a b) (qA d.fQuery) || (b7I d.fQuery && !decide (a.fLink = b.fLink))
def b8M (a b : TFile) (l : List TDir) : List ByteArray := (l.filter (b8L a b)).map TDir.fName
def b8N (a b : TFile) (l : List TDir) : List ByteArray := if a.fID = b.fID then b8M a b l else dirNs l
end Go.Proofs.YtakopfjdmmnjcaaGreat
end
section
set_option maxRecDepth 100000
set_option maxHeartbeats 4000000
namespace Go.Proofs.YtakopfjdmmnjcaaGreat
open Go Go.Sx Go.RowKit Go.Proofs Go.Sx.Clos
def isDn (n : TNode) : Bool := decide (8 ≤ n.fOp) && decide (n.fOp ≤ 9)
def qD (q : List TNode) : List ByteArray := (q.filter isDn).map TNode.fName
def eD (l : List TDir) : List (ByteArray × List ByteArray) := l.map fun d => (d.fName, putL (qD d.fQuery))
theorem b6A (l : List TDir) : (eD l).length = l.length := by simp [eD]
def wS (s : ByteArray) : Nat := 1 + s.size
def pot (l : List TDir) (o : List ByteArray) : Nat := wsm wS o + lJ wS (eD l) o
def nmD (l : List TDir) (y : ByteArray) : Prop := ∃ e ∈ eD l, e.1 = y
theorem b6B (l : List TDir) (d : TDir) (h : d ∈ l) : nmD l d.fName := ⟨_, List.mem_map.2 ⟨d, h, rfl⟩, rfl⟩
theorem a6d (a b : List ByteArray) : wsm wS (a ++ b) = wsm wS a + wsm wS b := by
 induction a with
 | nil => simp [wsm]
 | cons x a ih => simp only [List.cons_append, wsm, ih]; omega
theorem a7M (o : List ByteArray) (s : ByteArray) : wsm wS (kH o s) ≤ wsm wS o + wS s := by
 unfold kH
 split
 ·omega
 ·unfold iV
  have h := congrArg (wsm wS) (List.take_append_drop (eO (geS s) o) o)
  rw [a6d] at h
  rw [a6d]
  simp only [wsm]
  omega
theorem b3y (o : List ByteArray) (s : ByteArray) (h : o.Pairwise ltS) (hs : s ∈ o) : kH o s = o :=
 qO yQ wY (qP s h) h fun x => by
  rw [sJ]
  constructor
  ·rintro (rfl | h)
   ·exact hs
   ·exact h
  ·exact .inr
def okS (l : List TDir) (B : Nat) (o : List ByteArray) : Prop := o.Pairwise ltS ∧ pot l o ≤ B
theorem b4Q {l : List TDir} {B : Nat} (o : List ByteArray) (s : ByteArray) (h : okS l B o) (hs : nmD l s) : okS l B (kH o s) := by
 refine ⟨qP s h.1, Nat.le_trans ?_ h.2⟩
 by_cases hm : s ∈ o
 ·rw [b3y o s h.1 hm]; exact Nat.le_refl _
 ·have h1 := a7M o s
  have h2 := a0Z wS (eD l) (S := o) (T := kH o s) (fun x hx => (sJ o s x).2 (.inr hx)) hs ((sJ o s s).2 (.inl rfl)) hm
  unfold pot; omega
theorem b1y (l : List ByteArray) : ∀ a : List ByteArray, wsm wS (l.foldl kH a) ≤ wsm wS a + wsm wS l := by
 induction l with
 | nil => intro a; simp [wsm]
 | cons y l ih =>
  intro a
  have h1 := ih (kH a y)
  have h2 := a7M a y
  simp only [List.foldl_cons, wsm]; omega
theorem b3z (l : List TDir) (names : List ByteArray) : okS l (pot l names) (putL names) := by
 refine ⟨a7P names, ?_⟩
 have h1 := b1y names []
 have h2 := a1A wS (eD l) (S := names) (T := putL names) (fun x hx => (pJ names x).2 hx)
 simp only [wsm] at h1
 unfold pot putL at *
 omega
def b0u (l : List TDir) (names : List ByteArray) (n : Nat) : List ByteArray := jG kH (eD l) n (putL names)
def tdS (l : List TDir) (names : List ByteArray) : List ByteArray := b0u l names (l.length + 1)
theorem a9m (l : List TDir) (names : List ByteArray) (n : Nat) : okS l (pot l names) (b0u l names n) :=
 a3v (Nm := nmD l) (fun o s h hs => b4Q o s h hs) (eD l) (fun e he => ⟨e, he, rfl⟩) (b3z l names) n
def b4R (l : List TDir) (s : ByteArray) : List ByteArray := (l.filter fun d => pK (qD d.fQuery) s).map TDir.fName
theorem a7N (l : List TDir) (s y : ByteArray) : y ∈ b4R l s ↔ ∃ d ∈ l, s ∈ qD d.fQuery ∧ d.fName = y := by
 unfold b4R
 rw [List.mem_map]
 constructor
 ·rintro ⟨d, hd, rfl⟩
  rw [List.mem_filter] at hd
  exact ⟨d, hd.1, (a3h _ _).1 hd.2, rfl⟩
 ·rintro ⟨d, hd, hs, rfl⟩
  exact ⟨d, List.mem_filter.2 ⟨hd, (a3h _ _).2 hs⟩, rfl⟩
structure Good (l : List TDir) (names o : List ByteArray) : Prop where
 ext : ∀ x ∈ names, x ∈ o
 least : ∀ T, Closed (eD l) T → (∀ x ∈ names, x ∈ T) → ∀ x ∈ o, x ∈ T
 le : pot l o ≤ pot l names
theorem Good.start (l : List TDir) (names : List ByteArray) : Good l names names := ⟨fun _ h => h, fun _ _ h => h, Nat.le_refl _⟩
theorem Good.add {l : List TDir} {names o : List ByteArray} (g : Good l names o) {x y : ByteArray} (hx : x ∈ o) (hy : y ∈ b4R l x) (hn : ¬ y ∈ o) : Good l names (o ++ [y]) := by
 obtain ⟨d, hd, hq, rfl⟩ := (a7N l x y).1 hy
 refine ⟨fun z hz => List.mem_append_left _ (g.ext z hz), fun T hT h z hz => ?_, ?_⟩
 ·rcases List.mem_append.1 hz with h1 | h1
  ·exact g.least T hT h z h1
  ·simp only [List.mem_singleton] at h1
   subst h1
   exact hT _ (List.mem_map.2 ⟨d, hd, rfl⟩) ⟨x, (pJ _ _).2 hq, g.least T hT h x hx⟩
 ·have h1 := a0Z wS (eD l) (S := o) (T := o ++ [d.fName]) (fun z hz => List.mem_append_left _ hz) (b6B l d hd) (by simp) hn
  have h2 := g.le
  have h3 := a6d o [d.fName]
  simp only [wsm] at h3
  unfold pot at *
  omega
theorem Good.done {l : List TDir} {names o : List ByteArray} (g : Good l names o) (hc : ∀ x ∈ o, ∀ y ∈ b4R l x, y ∈ o) : gD o = tdS l names := by
 refine qO yQ wY (a6g o) (a9m l names (l.length + 1)).1 fun x => ?_
 rw [sI]
 have h := a7O (put := kH) sJ (eD l) (S := putL names) (O := o) (fun x hx => g.ext x ((pJ _ _).1 hx)) (fun e he hx => by
  obtain ⟨d, hd, rfl⟩ := List.mem_map.1 he
  obtain ⟨x, hx, ho⟩ := hx
  exact hc x ho _ ((a7N l x _).2 ⟨d, hd, (pJ _ _).1 hx, rfl⟩)) (fun T hT hs => g.least T hT fun x hx => hs x ((pJ _ _).2 hx)) x
 rw [b6A] at h
 exact h
def b8J (a b : TFile) (l : List TDir) : List ByteArray := tdS l (b8N a b l)
end Go.Proofs.YtakopfjdmmnjcaaGreat
end
section
set_option maxRecDepth 100000
set_option maxHeartbeats 4000000
namespace Go.Proofs.YtakopfjdmmnjcaaGreat
open Go Go.Sx Go.RowKit Go.Proofs
theorem a1M (s : TStore) (f : TFile) (hs : aJ s ≤ 4300000) (hf : bA f ≤ 4300000) : FnC Tryz.prog 110 [bG s, iM f] (.t [(true, (bG (repS s f)).cells), (false, [.d (bv (uO s f))])]) := (a3a s f hs hf).pu (by simp only [go_sem, and_self])
noncomputable def b7F (c : TCatalog) (f : TFile) : Bool := b8I c && uO c.fStore f
def b7G (c : TCatalog) (f : TFile) : List ByteArray := b8J (jP f.fID c.fStore.fFiles) f c.fDirs
noncomputable def b9k (c : TCatalog) (f : TFile) : TCatalog := goC (b7F c f) c (repS c.fStore f) c.fDirs (b7G c f)
noncomputable def b9l (c : TCatalog) (f : TFile) : List TDiff := goD (b7F c f) c (repS c.fStore f) c.fDirs (b7G c f)
end Go.Proofs.YtakopfjdmmnjcaaGreat
end
